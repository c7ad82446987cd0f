/- pdqsort over elements of type 120: it sorts. -/
import Derived.Test.YthddgnfaaccgjaaPh
import Derived.Test.YthddgnfaaccgjaaPc
import Derived.Test.YthddgnfaaccgjaaPg
section
set_option linter.unusedVariables false
set_option linter.unusedSimpArgs false
namespace Go.D.StB
open Go.D.Srt
abbrev I (x : Int) : DV := .p (.int .i64 x)
abbrev Bo (b : Bool) : DV := .p (.bool b)
def Goal (cmp : E → E → Int) (r a b : Nat) (A : List E) (σ : Store) (res : Option (DV × Store)) : Prop :=
  ∃ B σ', res = some (.tuple [], W σ' r B) ∧ RP a b A B ∧ Sd (ltc cmp) a b B ∧ ∃ e, σ' = σ ++ e
def Low (cmp : E → E → Int) (a b : Nat) (A : List E) : Prop := 0 < a → ∀ p, a ≤ p → p < b → ltc cmp (ge A p) (ge A (a - 1)) = false
theorem Goal.mono {cmp : E → E → Int} {r a b : Nat} {A A0 : List E} {σ σ0 : Store} {res : Option (DV × Store)} (h : Goal cmp r a b A0 σ0 res) (h1 : RP a b A A0) (h2 : ∃ e, σ0 = σ ++ e) : Goal cmp r a b A σ res := by
  obtain ⟨B, σ', e1, e2, e3, x, e4⟩ := h
  obtain ⟨y, rfl⟩ := h2
  exact ⟨B, σ', e1, h1.trans e2, e3, y ++ x, by rw [e4, List.append_assoc]⟩
theorem Low.perm {cmp : E → E → Int} {a b : Nat} {A B : List E} (h : Low cmp a b A) (h1 : RP a b A B) : Low cmp a b B := by
  intro h0 p g1 g2
  rw [h1.out (a - 1) (by omega)]
  exact h1.all (fun x => ltc cmp x (ge A (a - 1)) = false) (h h0) p g1 g2
section
variable {cf : FuncId} {cmp : E → E → Int} (hc : ∀ (x y : E) (σ : Store), pureV CC cf [val x, val y] σ = some (.p (.int .i64 (cmp x y)))) (H : Ord (ltc cmp))
variable {r n lo : Nat}
def IH (cf : FuncId) (cmp : E → E → Int) (r n lo m : Nat) : Prop := ∀ (a b : Nat) (A : List E) (lim : Int) (wb wp : Bool) (σ : Store), b - a < m → a ≤ b → b ≤ n → A.length = n → Low cmp a b A → r < σ.length →
  Goal cmp r a b A σ (f109_L0 guardT lo (V r n) (N a) (N b) (I lim) (.fn cf []) (Bo wb) (Bo wp) (W σ r A))
theorem subI (t : TypeId) (a b : Int) : binOp PP .sub t (.p (.int .i64 a)) (.p (.int .i64 b)) = some (.p (.int .i64 (IntKind.wrap .i64 (a - b)))) := Eq.trans rfl rfl
theorem quo8 {l : Nat} (h : l ≤ 1000000) : binOp PP .quo 3 (.p (.int .i64 (l : Nat))) (.p (.int .i64 8)) = some (.p (.int .i64 ((l / 8 : Nat) : Int))) := by
  have e3 : ((l : Nat) : Int).tdiv 8 = ((l / 8 : Nat) : Int) := by rw [Int.tdiv_eq_ediv_of_nonneg (by omega)]; omega
  have e4 : binOp PP .quo 3 (.p (.int .i64 ((l : Nat) : Int))) (.p (.int .i64 8)) = some (.p (.int .i64 (IntKind.wrap .i64 (((l : Nat) : Int).tdiv 8)))) := Eq.trans rfl rfl
  rw [e4, e3, wrap_ok (by omega) (by omega)]
include hc H in
theorem pq_part (hlo : lo ≤ r) (hn : n ≤ 100000) {a b p : Nat} (ih : IH cf cmp r n lo (b - a)) (hab : a + 12 < b) (hb : b ≤ n) (hp1 : a ≤ p) (hp2 : p < b) {A : List E} (hA : A.length = n) (hL : Low cmp a b A) (lim : Int) (y : DV) {σ : Store} (hr : r < σ.length) :
    Goal cmp r a b A σ ((plainFn CC lo (DV.fn 131 []) [V r n, N a, N b, N p, .fn cf []] (W σ r A)).bind fun r111_24 =>
     (extractV r111_24.1 0).bind fun x112 =>
     (extractV r111_24.1 1).bind fun x113 =>
     (binOp PP .sub 3 x112 (N a)).bind fun x117 =>
     (binOp PP .sub 3 (N b) x112).bind fun x120 =>
     (binOp PP .quo 3 (N (b - a)) (DV.p (PV.int IntKind.i64 (8)))).bind fun x122 =>
     (binOp PP .lss 3 x117 x120).bind fun x125 =>
     condK x125
     (
     (binOp PP .geq 3 x117 x122).bind fun x128 =>
     (plainFn CC lo (DV.fn 109 []) [V r n, N a, x112, I lim, .fn cf []] r111_24.2).bind fun r134_25 =>
     (binOp PP .add 3 x112 (DV.p (PV.int IntKind.i64 (1)))).bind fun x136 =>
     f109_L0 guardT lo (V r n) x136 (N b) (I lim) (.fn cf []) x128 x113 r134_25.2
     )
     (
     (binOp PP .geq 3 x120 x122).bind fun x139 =>
     (binOp PP .add 3 x112 (DV.p (PV.int IntKind.i64 (1)))).bind fun x142 =>
     (plainFn CC lo (DV.fn 109 []) [V r n, x142, N b, I lim, .fn cf []] r111_24.2).bind fun r146_26 =>
     f109_L0 guardT lo (V r n) (N a) x112 (I lim) (.fn cf []) x139 x113 r146_26.2
     )) := by
  obtain ⟨f, e1⟩ := pa_ok hc hr hlo hn (show a < b by omega) hb (show p < n by omega) A hA
  have r1 : RP a b A (swp A a p) := RP.swap ⟨by omega, by omega⟩ ⟨hp1, hp2⟩ (by omega)
  have hm := prt_mid H (a := a) (b := b) (A := swp A a p) (by omega) (by rw [swp_len]; omega)
  have hm : a ≤ (prt (uA cmp) (vA cmp) a (b - a + 1) (a + 1) (b - 1) (swp A a p)).2.1 ∧ (prt (uA cmp) (vA cmp) a (b - a + 1) (a + 1) (b - 1) (swp A a p)).2.1 < b ∧ RP a b (swp A a p) (swp (prt (uA cmp) (vA cmp) a (b - a + 1) (a + 1) (b - 1) (swp A a p)).2.2 (prt (uA cmp) (vA cmp) a (b - a + 1) (a + 1) (b - 1) (swp A a p)).2.1 a) ∧ Mid (ltc cmp) a b (prt (uA cmp) (vA cmp) a (b - a + 1) (a + 1) (b - 1) (swp A a p)).2.1 (swp (prt (uA cmp) (vA cmp) a (b - a + 1) (a + 1) (b - 1) (swp A a p)).2.2 (prt (uA cmp) (vA cmp) a (b - a + 1) (a + 1) (b - 1) (swp A a p)).2.1 a) := hm
  generalize (swp (prt (uA cmp) (vA cmp) a (b - a + 1) (a + 1) (b - 1) (swp A a p)).2.2 (prt (uA cmp) (vA cmp) a (b - a + 1) (a + 1) (b - 1) (swp A a p)).2.1 a) = A1 at *
  generalize (prt (uA cmp) (vA cmp) a (b - a + 1) (a + 1) (b - 1) (swp A a p)).2.1 = m at *
  obtain ⟨m1, m2, m3, m4⟩ := hm
  have rA : RP a b A A1 := r1.trans m3
  have hL1 := hL.perm rA
  have hA1 : A1.length = n := rA.len.trans hA
  simp only [plainFn_fn, List.append_nil, e1, guard_tt, guard_ff, guard_tf, guard_ft, guard_sk, obind, omap, pickV_true, pickV_false, condK_true, condK_false, decide_true, decide_false, Bool.not_true, Bool.not_false, not_bool, ex2_0, ex2_1]
  by_cases hlt : m - a < b - m
  · -- left first
    have hLl : Low cmp a m A1 := fun h0 p g1 g2 => hL1 h0 p g1 (by omega)
    obtain ⟨B, σ1, g1, g2, g3, x, rfl⟩ := ih a m A1 lim true true σ (by omega) m1 (by omega) hA1 hLl hr
    have c1 : CC lo 109 [V r n, N a, N m, I lim, .fn cf []] (W σ r A1) = some (.tuple [], W (σ ++ x) r B) := F109_call (by rw [F109_eq]; exact g1)
    have hLr : Low cmp (m + 1) b B := fun h0 p k1 k2 => by
      rw [g2.out p (by omega), g2.out (m + 1 - 1) (by omega)]
      exact m4.2 p (by omega) k2
    obtain ⟨C, σ2, q1, q2, q3, z, rfl⟩ := ih (m + 1) b B lim (decide (((m - a : Nat) : Int) ≥ (((b - a) / 8 : Nat) : Int))) f (σ ++ x) (by omega) (by omega) hb (g2.len.trans hA1) hLr (by rw [List.length_append]; omega)
    have gl := glue H (a := a) (b := b) (m := m) ⟨m1, m2⟩ m4 g2 g3 q2 q3
    refine ⟨C, _, ?_, rA.trans gl.1, gl.2, x ++ z, List.append_assoc _ _ _⟩
    simp only [V, N, I] at c1
    simp (disch := omega) only [V, N, I, subN, quo8, b_lss, ltT, guard_tt, guard_ff, guard_tf, guard_ft, guard_sk, obind, omap, pickV_true, pickV_false, condK_true, condK_false, decide_true, decide_false, Bool.not_true, Bool.not_false, not_bool, b_geq]
    rw [c1]
    simp (disch := omega) only [guard_tt, guard_ff, guard_tf, guard_ft, guard_sk, obind, omap, pickV_true, pickV_false, condK_true, condK_false, decide_true, decide_false, Bool.not_true, Bool.not_false, not_bool, add1]
    exact q1
  · have hLr : Low cmp (m + 1) b A1 := fun h0 p k1 k2 => m4.2 p (by omega) k2
    obtain ⟨B, σ1, g1, g2, g3, x, rfl⟩ := ih (m + 1) b A1 lim true true σ (by omega) (by omega) hb hA1 hLr hr
    have c1 : CC lo 109 [V r n, N (m + 1), N b, I lim, .fn cf []] (W σ r A1) = some (.tuple [], W (σ ++ x) r B) := F109_call (by rw [F109_eq]; exact g1)
    have hLl : Low cmp a m B := fun h0 p k1 k2 => by
      rw [g2.out p (by omega), g2.out (a - 1) (by omega)]
      exact hL1 h0 p k1 (by omega)
    obtain ⟨C, σ2, q1, q2, q3, z, rfl⟩ := ih a m B lim (decide (((b - m : Nat) : Int) ≥ (((b - a) / 8 : Nat) : Int))) f (σ ++ x) (by omega) m1 (by omega) (g2.len.trans hA1) hLl (by rw [List.length_append]; omega)
    have gl := glue' H (a := a) (b := b) (m := m) ⟨m1, m2⟩ m4 g2 g3 q2 q3
    refine ⟨C, _, ?_, rA.trans gl.1, gl.2, x ++ z, List.append_assoc _ _ _⟩
    simp only [V, N, I] at c1
    simp (disch := omega) only [V, N, I, subN, quo8, b_lss, ltF, guard_tt, guard_ff, guard_tf, guard_ft, guard_sk, obind, omap, pickV_true, pickV_false, condK_true, condK_false, decide_true, decide_false, Bool.not_true, Bool.not_false, not_bool, b_geq, add1]
    rw [c1]
    simp (disch := omega) only [guard_tt, guard_ff, guard_tf, guard_ft, guard_sk, obind, omap, pickV_true, pickV_false, condK_true, condK_false, decide_true, decide_false, Bool.not_true, Bool.not_false, not_bool]
    exact q1
include hc H in
theorem pq_J2 (hlo : lo ≤ r) (hn : n ≤ 100000) {a b p : Nat} (ih : IH cf cmp r n lo (b - a)) (hab : a + 12 < b) (hb : b ≤ n) (hp1 : a ≤ p) (hp2 : p < b) {A : List E} (hA : A.length = n) (hL : Low cmp a b A) (lim : Int) (wb wp : Bool) {σ : Store} (hr : r < σ.length) (x14 x21 x22 x23 x24 x25 x31 x32 x38 x39 x40 x41 x42 x43 x44 x45 x46 x47 x48 x49 x50 x51 x52 x53 x54 x55 x56 x57 x58 x59 x60 x61 x62 x63 x64 x65 x66 x67 x68 x69 x70 x71 x72 x73 x74 x75 x76 x77 x78 x79 x80 : DV) :
    Goal cmp r a b A σ (f109_J2 guardT lo (V r n) (N a) (N b) (I lim) (.fn cf []) (Bo wb) (Bo wp) (N (b - a)) (N p) x14 x21 x22 x23 x24 x25 x31 x32 x38 x39 x40 x41 x42 x43 x44 x45 x46 x47 x48 x49 x50 x51 x52 x53 x54 x55 x56 x57 x58 x59 x60 x61 x62 x63 x64 x65 x66 x67 x68 x69 x70 x71 x72 x73 x74 x75 x76 x77 x78 x79 x80 (W σ r A)) := by
  have key := pq_part hc H hlo hn ih hab hb hp1 hp2 hA hL lim x14 hr
  rw [f109_J2_eq guardT]
  by_cases h0 : 0 < a
  · by_cases h1 : cmp (ge A (a - 1)) (ge A p) < 0
    · simp (disch := omega) only [V, N, I, Bo, b_gtr, gtT, guard_tt, guard_ff, guard_tf, guard_ft, guard_sk, obind, omap, pickV_true, pickV_false, condK_true, condK_false, decide_true, decide_false, Bool.not_true, Bool.not_false, not_bool, sub1, idxL, ldW, pureFn_fn, List.append_nil, hc, b_lss, ltT]
      exact key
    · have e1 := pe_ok hc hr hlo hn (show a < b by omega) hb (show p < n by omega) A hA
      have r1 : RP a b A (swp A a p) := RP.swap ⟨by omega, by omega⟩ ⟨hp1, hp2⟩ (by omega)
      have hL1 := hL.perm r1
      have g := fun k => ge_swp (A := A) (i := a) (j := p) (by omega) (by omega) k
      have hpv : ltc cmp (ge (swp A a p) (a - 1)) (ge (swp A a p) a) = false := by
        have e2 : ge (swp A a p) a = ge A p := by
          rw [g]
          by_cases e : a = p
          · rw [if_pos e, e]
          · rw [if_neg e, if_pos rfl]
        rw [e2, r1.out (a - 1) (by omega)]
        exact decide_eq_false h1
      have hm := prtE_ok H (a := a) (b := b) (A := swp A a p) (by omega) (by rw [swp_len]; omega) (hL1 h0) h0 hpv
      have hm : a < (prt (uE cmp) (vE cmp) a (b - a + 1) (a + 1) (b - 1) (swp A a p)).1 ∧ (prt (uE cmp) (vE cmp) a (b - a + 1) (a + 1) (b - 1) (swp A a p)).1 ≤ b ∧ RP a b (swp A a p) (prt (uE cmp) (vE cmp) a (b - a + 1) (a + 1) (b - 1) (swp A a p)).2.2 ∧ (∀ q, (prt (uE cmp) (vE cmp) a (b - a + 1) (a + 1) (b - 1) (swp A a p)).1 ≤ q → q < b → ltc cmp (ge (prt (uE cmp) (vE cmp) a (b - a + 1) (a + 1) (b - 1) (swp A a p)).2.2 q) (ge (prt (uE cmp) (vE cmp) a (b - a + 1) (a + 1) (b - 1) (swp A a p)).2.2 ((prt (uE cmp) (vE cmp) a (b - a + 1) (a + 1) (b - 1) (swp A a p)).1 - 1)) = false) ∧ ∀ C, RP (prt (uE cmp) (vE cmp) a (b - a + 1) (a + 1) (b - 1) (swp A a p)).1 b (prt (uE cmp) (vE cmp) a (b - a + 1) (a + 1) (b - 1) (swp A a p)).2.2 C → Sd (ltc cmp) (prt (uE cmp) (vE cmp) a (b - a + 1) (a + 1) (b - 1) (swp A a p)).1 b C → Sd (ltc cmp) a b C := hm
      simp only [enE] at e1
      generalize (prt (uE cmp) (vE cmp) a (b - a + 1) (a + 1) (b - 1) (swp A a p)).2.2 = A1 at *
      generalize (prt (uE cmp) (vE cmp) a (b - a + 1) (a + 1) (b - 1) (swp A a p)).1 = m at *
      obtain ⟨m1, m2, m3, m4, m5⟩ := hm
      obtain ⟨C, σ1, q1, q2, q3, z, rfl⟩ := ih m b A1 lim wb wp σ (by omega) m2 hb ((r1.trans m3).len.trans hA) (fun _ q g1 g2 => m4 q g1 g2) hr
      refine ⟨C, _, ?_, (r1.trans m3).trans (q2.mono (by omega) (Nat.le_refl _)), m5 C q2 q3, z, rfl⟩
      simp only [V, N, I, Bo] at e1
      simp (disch := omega) only [V, N, I, Bo, b_gtr, gtT, guard_tt, guard_ff, guard_tf, guard_ft, guard_sk, obind, omap, pickV_true, pickV_false, condK_true, condK_false, decide_true, decide_false, Bool.not_true, Bool.not_false, not_bool, sub1, idxL, ldW, pureFn_fn, List.append_nil, hc, b_lss, ltF, plainFn_fn]
      rw [e1]
      simp only [guard_tt, guard_ff, guard_tf, guard_ft, guard_sk, obind, omap, pickV_true, pickV_false, condK_true, condK_false, decide_true, decide_false, Bool.not_true, Bool.not_false, not_bool]
      exact q1
  · simp (disch := omega) only [V, N, I, Bo, b_gtr, gtF, guard_tt, guard_ff, guard_tf, guard_ft, guard_sk, obind, omap, pickV_true, pickV_false, condK_true, condK_false, decide_true, decide_false, Bool.not_true, Bool.not_false, not_bool]
    exact key
include hc H in
theorem pq_J1 (hlo : lo ≤ r) (hn : n ≤ 100000) {a b p : Nat} (ih : IH cf cmp r n lo (b - a)) (hab : a + 12 < b) (hb : b ≤ n) (hp1 : a ≤ p) (hp2 : p < b) {A : List E} (hA : A.length = n) (hL : Low cmp a b A) (lim h : Int) (wb wp : Bool) {σ : Store} (hr : r < σ.length) (x21 x22 x23 x24 x25 x31 x32 x38 x39 x40 x41 x42 x43 x44 x45 x46 x47 x48 x49 x50 x51 x52 x53 x54 x55 x56 x57 x58 x59 x60 x61 x62 x63 x64 x65 x66 x67 : DV) :
    Goal cmp r a b A σ (f109_J1 guardT lo (V r n) (N a) (N b) (I lim) (.fn cf []) (Bo wb) (Bo wp) (N (b - a)) (N p) (I h) x21 x22 x23 x24 x25 x31 x32 x38 x39 x40 x41 x42 x43 x44 x45 x46 x47 x48 x49 x50 x51 x52 x53 x54 x55 x56 x57 x58 x59 x60 x61 x62 x63 x64 x65 x66 x67 (W σ r A)) := by
  have e1 := pi_ok hc hr hlo hn hb (show a < b by omega) A hA
  have h1 := pins_ok H (a := a) (b := b) 5 (a + 1) A (Nat.le_refl _) (by omega) (by omega) hL (fun p q g1 g2 g3 => by omega)
  rw [f109_J1_eq guardT]
  cases wb with
  | false => simp only [Bo, guard_tt, guard_ff, guard_tf, guard_ft, guard_sk, obind, omap, pickV_true, pickV_false, condK_true, condK_false, decide_true, decide_false, Bool.not_true, Bool.not_false, not_bool]; exact pq_J2 hc H hlo hn ih hab hb hp1 hp2 hA hL lim false wp hr (I h) _ _ _ _ _ _ _ _ _ _ _ _ _ _ _ _ _ _ _ _ _ _ _ _ _ _ _ _ _ _ _ _ _ _ _ _ _ _ _ _ _ _ _ _ _ _ _ _ _ _
  | true =>
    cases wp with
    | false => simp only [Bo, guard_tt, guard_ff, guard_tf, guard_ft, guard_sk, obind, omap, pickV_true, pickV_false, condK_true, condK_false, decide_true, decide_false, Bool.not_true, Bool.not_false, not_bool]; exact pq_J2 hc H hlo hn ih hab hb hp1 hp2 hA hL lim true false hr (I h) _ _ _ _ _ _ _ _ _ _ _ _ _ _ _ _ _ _ _ _ _ _ _ _ _ _ _ _ _ _ _ _ _ _ _ _ _ _ _ _ _ _ _ _ _ _ _ _ _ _
    | true =>
      by_cases hh : h = 1
      · simp only [Bo, guard_tt, guard_ff, guard_tf, guard_ft, guard_sk, obind, omap, pickV_true, pickV_false, condK_true, condK_false, decide_true, decide_false, Bool.not_true, Bool.not_false, not_bool, I, b_eql, eqT hh, plainFn_fn, List.append_nil]
        rw [e1]
        simp only [guard_tt, guard_ff, guard_tf, guard_ft, guard_sk, obind, omap, pickV_true, pickV_false, condK_true, condK_false, decide_true, decide_false, Bool.not_true, Bool.not_false, not_bool]
        cases hs : (pins (ltc cmp) a b 5 (a + 1) A).1 with
        | true =>
          simp only [guard_tt, guard_ff, guard_tf, guard_ft, guard_sk, obind, omap, pickV_true, pickV_false, condK_true, condK_false, decide_true, decide_false, Bool.not_true, Bool.not_false, not_bool]
          exact ⟨_, σ, rfl, h1.1, h1.2 hs, [], (List.append_nil _).symm⟩
        | false =>
          simp only [guard_tt, guard_ff, guard_tf, guard_ft, guard_sk, obind, omap, pickV_true, pickV_false, condK_true, condK_false, decide_true, decide_false, Bool.not_true, Bool.not_false, not_bool]
          exact Goal.mono (pq_J2 hc H hlo hn ih hab hb hp1 hp2 (h1.1.len.trans hA) (hL.perm h1.1) lim true true hr (I h) _ _ _ _ _ _ _ _ _ _ _ _ _ _ _ _ _ _ _ _ _ _ _ _ _ _ _ _ _ _ _ _ _ _ _ _ _ _ _ _ _ _ _ _ _ _ _ _ _ _) h1.1 ⟨[], (List.append_nil _).symm⟩
      · simp only [Bo, guard_tt, guard_ff, guard_tf, guard_ft, guard_sk, obind, omap, pickV_true, pickV_false, condK_true, condK_false, decide_true, decide_false, Bool.not_true, Bool.not_false, not_bool, I, b_eql, eqF hh]
        exact pq_J2 hc H hlo hn ih hab hb hp1 hp2 hA hL lim true true hr (I h) _ _ _ _ _ _ _ _ _ _ _ _ _ _ _ _ _ _ _ _ _ _ _ _ _ _ _ _ _ _ _ _ _ _ _ _ _ _ _ _ _ _ _ _ _ _ _ _ _ _
include hc H in
theorem pq_J0 (hlo : lo ≤ r) (hn : n ≤ 100000) {a b : Nat} (ih : IH cf cmp r n lo (b - a)) (hab : a + 12 < b) (hb : b ≤ n) {A : List E} (hA : A.length = n) (hL : Low cmp a b A) (lim : Int) (wb wp : Bool) {σ : Store} (hr : r < σ.length) (x21 x22 x23 x24 x25 x31 x32 x38 x39 x40 x41 x42 x43 x44 x45 x46 : DV) :
    Goal cmp r a b A σ (f109_J0 guardT lo (V r n) (N a) (N b) (I lim) (.fn cf []) (Bo wb) (Bo wp) (N (b - a)) x21 x22 x23 x24 x25 x31 x32 x38 x39 x40 x41 x42 x43 x44 x45 x46 (W σ r A)) := by
  obtain ⟨p, h, k, e1, p1, p2⟩ := cp_ok hc hr hlo hn hab hb hA
  have hr1 : r < (σ ++ [Row.mix [.p (.int .i64 k)]]).length := by rw [List.length_append]; omega
  rw [f109_J0_eq guardT]
  simp only [plainFn_fn, List.append_nil]
  rw [e1]
  simp only [guard_tt, guard_ff, guard_tf, guard_ft, guard_sk, obind, omap, pickV_true, pickV_false, condK_true, condK_false, decide_true, decide_false, Bool.not_true, Bool.not_false, not_bool, ex2_0, ex2_1, b_eql]
  by_cases hh : h = 2
  · obtain ⟨B, g1, g2⟩ := rv_ok hr1 hlo hn (show a < b by omega) hb A hA (.fn cf [])
    simp only [V, N] at g2
    simp only [Q, eqT hh, guard_tt, guard_ff, guard_tf, guard_ft, guard_sk, obind, omap, pickV_true, pickV_false, condK_true, condK_false, decide_true, decide_false, Bool.not_true, Bool.not_false, not_bool, V, N]
    rw [g2]
    simp (disch := omega) only [guard_tt, guard_ff, guard_tf, guard_ft, guard_sk, obind, omap, pickV_true, pickV_false, condK_true, condK_false, decide_true, decide_false, Bool.not_true, Bool.not_false, not_bool, sub1, subN]
    exact Goal.mono (pq_J1 hc H hlo hn ih hab hb (show a ≤ b - 1 - (p - a) by omega) (by omega) (g1.len.trans hA) (hL.perm g1) lim 1 wb wp hr1 _ _ _ _ _ _ _ _ _ _ _ _ _ _ _ _ _ _ _ _ _ _ _ _ _ _ _ _ _ _ _ _ _ _ _ _ _) g1 ⟨_, rfl⟩
  · simp only [Q, eqF hh, guard_tt, guard_ff, guard_tf, guard_ft, guard_sk, obind, omap, pickV_true, pickV_false, condK_true, condK_false, decide_true, decide_false, Bool.not_true, Bool.not_false, not_bool]
    exact Goal.mono (pq_J1 hc H hlo hn ih hab hb p1 p2 hA hL lim h wb wp hr1 _ _ _ _ _ _ _ _ _ _ _ _ _ _ _ _ _ _ _ _ _ _ _ _ _ _ _ _ _ _ _ _ _ _ _ _ _) (RP.refl _ _ _) ⟨_, rfl⟩
include hc H in
theorem pq_all (hlo : lo ≤ r) (hn : n ≤ 100000) : ∀ m, IH cf cmp r n lo m
  | 0 => fun a b A lim wb wp σ hm => by omega
  | m + 1 => by
    intro a b A lim wb wp σ hm hab hb hA hL hr
    have ih : IH cf cmp r n lo (b - a) := fun a' b' A' lim' wb' wp' σ' h => pq_all hlo hn m a' b' A' lim' wb' wp' σ' (by omega)
    rw [f109_L0_eq guardT rfl]
    by_cases h12 : b - a ≤ 12
    · have e1 := ins_ok hc hr hlo hn hb (show a ≤ n by omega) A hA
      simp only [V, N] at e1
      simp (disch := omega) only [V, N, I, subN, b_leq, leT, guard_tt, guard_ff, guard_tf, guard_ft, guard_sk, obind, omap, pickV_true, pickV_false, condK_true, condK_false, decide_true, decide_false, Bool.not_true, Bool.not_false, not_bool, plainFn_fn, List.append_nil]
      rw [e1]
      simp only [guard_tt, guard_ff, guard_tf, guard_ft, guard_sk, obind, omap, pickV_true, pickV_false, condK_true, condK_false, decide_true, decide_false, Bool.not_true, Bool.not_false, not_bool]
      by_cases he : a = b
      · subst he
        refine ⟨_, σ, rfl, ?_, fun i j h1 h2 h3 => by omega, [], (List.append_nil _).symm⟩
        rw [show a - (a + 1) = 0 by omega]
        exact RP.refl _ _ _
      · have h1 := insOut_ok H (a := a) (b := b) (b - (a + 1)) (a + 1) A (by omega) (by omega) (by omega) (fun p q g1 g2 g3 => by omega)
        exact ⟨_, σ, rfl, h1.1, h1.2, [], (List.append_nil _).symm⟩
    · by_cases h0 : lim = 0
      · have e1 := hs_ok hc hr hlo hn (show a < b by omega) hb A hA
        simp only [V, N] at e1
        simp (disch := omega) only [V, N, I, subN, b_leq, leF, b_eql, eqT, guard_tt, guard_ff, guard_tf, guard_ft, guard_sk, obind, omap, pickV_true, pickV_false, condK_true, condK_false, decide_true, decide_false, Bool.not_true, Bool.not_false, not_bool, plainFn_fn, List.append_nil]
        rw [e1]
        simp only [guard_tt, guard_ff, guard_tf, guard_ft, guard_sk, obind, omap, pickV_true, pickV_false, condK_true, condK_false, decide_true, decide_false, Bool.not_true, Bool.not_false, not_bool]
        have h1 := hpA_ok H (f := a) (n := b - a) ((b - a - 1) / 2) A (by omega) (by omega) (fun i c g1 g2 g3 => by omega)
        have h2 := hpB_ok H (f := a) (n := b - a) (b - a) _ (Nat.le_refl _) (by rw [h1.1.len]; omega) h1.2 (fun p q g1 g2 g3 => by omega) (fun p q g1 g2 g3 g4 => by omega)
        rw [show a + (b - a) = b by omega] at h1 h2
        exact ⟨_, σ, rfl, h1.1.trans h2.1, h2.2, [], (List.append_nil _).symm⟩
      · cases wb with
        | true =>
          simp (disch := omega) only [V, N, I, Bo, subN, b_leq, leF, b_eql, eqF h0, guard_tt, guard_ff, guard_tf, guard_ft, guard_sk, obind, omap, pickV_true, pickV_false, condK_true, condK_false, decide_true, decide_false, Bool.not_true, Bool.not_false, not_bool]
          exact pq_J0 hc H hlo hn ih (by omega) hb hA hL lim true wp hr _ _ _ _ _ _ _ _ _ _ _ _ _ _ _ _
        | false =>
          obtain ⟨B, k, g1, g2⟩ := bp_ok hr hlo hn (show a + 12 < b by omega) hb hA (.fn cf [])
          have hr1 : r < (σ ++ [Row.mix [.p (.int .u64 k)]]).length := by rw [List.length_append]; omega
          simp only [V, N, QU] at g2
          simp (disch := omega) only [V, N, I, Bo, subN, b_leq, leF, b_eql, eqF h0, guard_tt, guard_ff, guard_tf, guard_ft, guard_sk, obind, omap, pickV_true, pickV_false, condK_true, condK_false, decide_true, decide_false, Bool.not_true, Bool.not_false, not_bool, plainFn_fn, List.append_nil]
          rw [g2]
          simp only [guard_tt, guard_ff, guard_tf, guard_ft, guard_sk, obind, omap, pickV_true, pickV_false, condK_true, condK_false, decide_true, decide_false, Bool.not_true, Bool.not_false, not_bool, subI]
          exact Goal.mono (pq_J0 hc H hlo hn ih (by omega) hb (g1.len.trans hA) (hL.perm g1) _ false wp hr1 _ _ _ _ _ _ _ _ _ _ _ _ _ _ _ _) g1 ⟨_, rfl⟩
include hc H in
/-- SortFunc sorts. -/
theorem sort_ok (hlo : lo ≤ r) {A : List E} (hn : A.length ≤ 100000) {σ : Store} (h : σ[r]? = some (.mix (cels A))) :
    ∃ B e, CC lo 69 [.rsl r 2 0 A.length, .fn cf []] σ = some (.tuple [], W (σ ++ e) r B) ∧ B.Perm A ∧ Sd (ltc cmp) 0 A.length B := by
  have hr := get_lt h
  obtain ⟨b, e1, h2, h3⟩ := bl_ok (n := A.length) (by omega)
  obtain ⟨B, σ1, g1, g2, g3, e, rfl⟩ := pq_all hc H hlo hn (A.length + 1) 0 A.length A b true true σ (by omega) (Nat.zero_le _) (Nat.le_refl _) rfl (fun h0 => by omega) hr
  rw [W_eq h] at g1
  refine ⟨B, e, F69_call ?_, g2.perm, g3⟩
  have c1 : CC lo 109 [V r A.length, N 0, N A.length, I b, .fn cf []] σ = some (.tuple [], W (σ ++ e) r B) := F109_call (by rw [F109_eq]; exact g1)
  have hl : len PP 116 (.rsl r 2 0 A.length) σ = some (N A.length) := by simp [len, uL]
  simp only [V, N, I, U] at c1 e1
  rw [F69_eq]
  simp (disch := omega) only [V, N, I, hl, guard_tt, guard_ff, guard_tf, guard_ft, guard_sk, obind, omap, pickV_true, pickV_false, condK_true, condK_false, decide_true, decide_false, Bool.not_true, Bool.not_false, not_bool, cv_iu, pureFn_fn, plainFn_fn, List.append_nil, e1]
  have c2 : CC lo 109 [.rsl r 2 0 A.length, .p (.int .i64 0), .p (.int .i64 (A.length : Nat)), .p (.int .i64 (b : Nat)), .fn cf []] σ = some (.tuple [], W (σ ++ e) r B) := c1
  rw [c2]
  simp only [guard_tt, guard_ff, guard_tf, guard_ft, guard_sk, obind, omap, pickV_true, pickV_false, condK_true, condK_false, decide_true, decide_false, Bool.not_true, Bool.not_false, not_bool]
end
end Go.D.StB
end
/- Equations of functions 97, 100, 98, 47, 67, 107, 20, 65, 66, 68, 108, 70, 71, 72, 73, 74, 75, 21, 22, 43, 44, 45, 46, 96, 4, 9, printed by gen.py. -/
section
set_option linter.unusedVariables false
set_option maxRecDepth 10000
namespace Go.D
open _root_.Go.D.Code (fstC sndC)
open _root_.Go.D.Ann (left right)
noncomputable def c67_0 : Code := bodyOf Go.Proofs.Try.f67
noncomputable def a67_0 : Ann := (pol 67).ann
noncomputable def a67_7 : Ann := right (left (right (right a67_0)))
noncomputable def a67_8 : Ann := left a67_7
noncomputable def c67_9 : Code := fstC (fstC (sndC (fstC (sndC (sndC c67_0)))))
noncomputable def a67_16 : Ann := left (right (right (left a67_8)))
noncomputable def a67_21 : Ann := right (right (left a67_16))
noncomputable def a67_22 : Ann := left a67_21
noncomputable def c67_23 : Code := fstC (fstC (sndC (sndC (fstC (fstC (sndC (sndC c67_9)))))))
noncomputable def a67_30 : Ann := left (right (right (left a67_22)))
noncomputable def c67_38 : Code := sndC (sndC (sndC c67_23))
noncomputable def a67_38 : Ann := right (right (right (left a67_22)))
noncomputable def c67_39 : Code := sndC (sndC (sndC c67_9))
noncomputable def a67_39 : Ann := right (right (right (left a67_8)))
noncomputable def c67_40 : Code := sndC (sndC (sndC c67_0))
noncomputable def a67_40 : Ann := right (right (right a67_0))
noncomputable def f67_L0 (G : GuardT) (lo : Nat) (x3 x4 x5 x7 x13 x14 x15 : DV) (σ : Store) : Option (DV × Store) :=
 codeF G PP (pol 67) CC lo (.loop c67_9) a67_8 [ud, ud, ud, x3, x4, x5, ud, x7, ud, ud, ud, ud, ud, x13, x14, x15, ud, ud, ud, ud, ud, ud, ud, ud, ud, ud, ud, ud, ud, ud, ud, ud, ud, ud, ud, ud, ud, ud, ud, ud, ud, ud, ud, ud, ud, ud, ud, ud, ud, ud, ud, ud, ud, ud, ud, ud, ud, ud, ud, ud, ud, ud, ud, ud, ud, ud, ud, ud, ud, ud, ud, ud, ud, ud] σ
 (blockC 0 a67_7 (seqC G PP (pol 67) CC lo c67_40 a67_40 (finR PP Go.Proofs.Try.f67.results.toList)))
noncomputable def f67_L1 (G : GuardT) (lo : Nat) (x3 x4 x5 x7 x9 x13 x14 x15 x20 x21 x22 : DV) (σ : Store) : Option (DV × Store) :=
 codeF G PP (pol 67) CC lo (.loop c67_23) a67_22 [ud, ud, ud, x3, x4, x5, ud, x7, ud, x9, ud, ud, ud, x13, x14, x15, ud, ud, ud, ud, x20, x21, x22, ud, ud, ud, ud, ud, ud, ud, ud, ud, ud, ud, ud, ud, ud, ud, ud, ud, ud, ud, ud, ud, ud, ud, ud, ud, ud, ud, ud, ud, ud, ud, ud, ud, ud, ud, ud, ud, ud, ud, ud, ud, ud, ud, ud, ud, ud, ud, ud, ud, ud, ud] σ
 (blockC 2 a67_21 (blockC 1 a67_16 (seqC G PP (pol 67) CC lo c67_39 a67_39 (loopC G PP (pol 67) CC lo c67_9 a67_8 (blockC 0 a67_7 (seqC G PP (pol 67) CC lo c67_40 a67_40 (finR PP Go.Proofs.Try.f67.results.toList)))))))
def f67_J0_fr (x3 x4 x5 x7 x9 x11 x13 x14 x15 x20 x21 x22 x23 x24 x25 x26 x27 x28 x29 x30 x31 x32 x33 x34 x35 x36 x37 x38 x39 x40 x41 x42 x43 x44 x45 x46 x47 x48 x49 x50 x51 x52 x53 x54 x55 x56 x57 x58 x59 x60 x61 x62 x63 x64 x65 x66 x67 : DV) : Frame := [ud, ud, ud, x3, x4, x5, ud, x7, ud, x9, ud, x11, ud, x13, x14, x15, ud, ud, ud, ud, x20, x21, x22, x23, x24, x25, x26, x27, x28, x29, x30, x31, x32, x33, x34, x35, x36, x37, x38, x39, x40, x41, x42, x43, x44, x45, x46, x47, x48, x49, x50, x51, x52, x53, x54, x55, x56, x57, x58, x59, x60, x61, x62, x63, x64, x65, x66, x67, ud, ud, ud, ud, ud, ud]
noncomputable def f67_J0 (G : GuardT) (lo : Nat) (x3 x4 x5 x7 x9 x11 x13 x14 x15 x20 x21 x22 x23 x24 x25 x26 x27 x28 x29 x30 x31 x32 x33 x34 x35 x36 x37 x38 x39 x40 x41 x42 x43 x44 x45 x46 x47 x48 x49 x50 x51 x52 x53 x54 x55 x56 x57 x58 x59 x60 x61 x62 x63 x64 x65 x66 x67 : DV) (σ : Store) : Option (DV × Store) :=
 (blockC 3 a67_30 (seqC G PP (pol 67) CC lo c67_38 a67_38 (loopC G PP (pol 67) CC lo c67_23 a67_22 (blockC 2 a67_21 (blockC 1 a67_16 (seqC G PP (pol 67) CC lo c67_39 a67_39 (loopC G PP (pol 67) CC lo c67_9 a67_8 (blockC 0 a67_7 (seqC G PP (pol 67) CC lo c67_40 a67_40 (finR PP Go.Proofs.Try.f67.results.toList)))))))))) .normal (f67_J0_fr x3 x4 x5 x7 x9 x11 x13 x14 x15 x20 x21 x22 x23 x24 x25 x26 x27 x28 x29 x30 x31 x32 x33 x34 x35 x36 x37 x38 x39 x40 x41 x42 x43 x44 x45 x46 x47 x48 x49 x50 x51 x52 x53 x54 x55 x56 x57 x58 x59 x60 x61 x62 x63 x64 x65 x66 x67) σ
noncomputable def F67 (G : GuardT) (lo : Nat) (x0 x1 x2 : DV) (σ : Store) : Option (DV × Store) :=
 codeF G PP (pol 67) CC lo c67_0 a67_0 [x0, x1, x2, ud, ud, ud, ud, ud, ud, ud, ud, ud, ud, ud, ud, ud, ud, ud, ud, ud, ud, ud, ud, ud, ud, ud, ud, ud, ud, ud, ud, ud, ud, ud, ud, ud, ud, ud, ud, ud, ud, ud, ud, ud, ud, ud, ud, ud, ud, ud, ud, ud, ud, ud, ud, ud, ud, ud, ud, ud, ud, ud, ud, ud, ud, ud, ud, ud, ud, ud, ud, ud, ud, ud] σ (finR PP Go.Proofs.Try.f67.results.toList)
theorem f67_L0_eq (G : GuardT) (hG : GuardOk G) (lo : Nat) (x3 x4 x5 x7 x13 x14 x15 : DV) (σ : Store) : f67_L0 G lo x3 x4 x5 x7 x13 x14 x15 σ =
 (binOp PP .lss 3 x15 x14).bind fun x16 =>
 condK x16
 (
 (indexAddr PP 23 x13 x15).bind fun x17 =>
 (load PP 106 x17 σ).bind fun x18 =>
 (zeroOf PP 106).bind fun z9 =>
 (store PP lo 106 (DV.ptr (List.length σ) 0) x18 (σ ++ [Row.mix z9])).bind fun σ1 =>
 (fieldAddr PP 25 x4 3).bind fun x19 =>
 (load PP 23 x19 σ1).bind fun x20 =>
 (len PP 23 x20 σ1).bind fun x21 =>
 f67_L1 G lo x3 x4 x5 x7 (DV.ptr (List.length σ) 0) x13 x14 x15 x20 x21 (DV.p (PV.int IntKind.i64 (0))) σ1
 )
 (
 (plainFn CC lo (DV.fn 69 []) [x7, (DV.fn 70 [])] σ).bind fun r71_28 =>
 (plainFn CC lo (DV.fn 107 []) [x7] r71_28.2).bind fun r73_29 =>
 some (r73_29.1, r73_29.2)
 ) := (loopF_eq G hG).trans (by kernel_rfl)
theorem f67_L1_eq (G : GuardT) (hG : GuardOk G) (lo : Nat) (x3 x4 x5 x7 x9 x13 x14 x15 x20 x21 x22 : DV) (σ : Store) : f67_L1 G lo x3 x4 x5 x7 x9 x13 x14 x15 x20 x21 x22 σ =
 (binOp PP .lss 3 x22 x21).bind fun x23 =>
 condK x23
 (
 (indexAddr PP 23 x20 x22).bind fun x24 =>
 (load PP 106 x24 σ).bind fun x25 =>
 (zeroOf PP 106).bind fun z11 =>
 (store PP lo 106 (DV.ptr (List.length σ) 0) x25 (σ ++ [Row.mix z11])).bind fun σ2 =>
 (fieldAddr PP 106 x9 0).bind fun x26 =>
 (load PP 3 x26 σ2).bind fun x27 =>
 (fieldAddr PP 120 x5 0).bind fun x28 =>
 (load PP 3 x28 σ2).bind fun x29 =>
 (binOp PP .eql 3 x27 x29).bind fun x30 =>
 G _ x30 true ((fieldAddr PP 106 (DV.ptr (List.length σ) 0) 0).bind fun v => some (v, σ2)) σ2 fun x32 σ3 =>
 G _ x30 true ((load PP 3 x32 σ3).bind fun v => some (v, σ3)) σ3 fun x33 σ4 =>
 G _ x30 true ((fieldAddr PP 120 x5 1).bind fun v => some (v, σ4)) σ4 fun x34 σ5 =>
 G _ x30 true ((load PP 3 x34 σ5).bind fun v => some (v, σ5)) σ5 fun x35 σ6 =>
 G _ x30 true ((binOp PP .eql 3 x33 x35).bind fun v => some (v, σ6)) σ6 fun x36 σ7 =>
 (pickV x30 x36 (DV.p (PV.bool false))).bind fun x37 =>
 G _ x37 true ((fieldAddr PP 106 x9 1).bind fun v => some (v, σ7)) σ7 fun x39 σ8 =>
 G _ x37 true ((load PP 3 x39 σ8).bind fun v => some (v, σ8)) σ8 fun x40 σ9 =>
 G _ x37 true ((fieldAddr PP 25 x4 2).bind fun v => some (v, σ9)) σ9 fun x41 σ10 =>
 G _ x37 true ((load PP 22 x41 σ10).bind fun v => some (v, σ10)) σ10 fun x42 σ11 =>
 G _ x37 true ((fieldAddr PP 120 x5 1).bind fun v => some (v, σ11)) σ11 fun x43 σ12 =>
 G _ x37 true ((load PP 3 x43 σ12).bind fun v => some (v, σ12)) σ12 fun x44 σ13 =>
 G _ x37 true ((indexAddr PP 22 x42 x44).bind fun v => some (v, σ13)) σ13 fun x45 σ14 =>
 G _ x37 true ((load PP 3 x45 σ14).bind fun v => some (v, σ14)) σ14 fun x46 σ15 =>
 G _ x37 true ((binOp PP .eql 3 x40 x46).bind fun v => some (v, σ15)) σ15 fun x47 σ16 =>
 (pickV x37 x47 (DV.p (PV.bool false))).bind fun x48 =>
 G _ x48 true ((fieldAddr PP 106 (DV.ptr (List.length σ) 0) 1).bind fun v => some (v, σ16)) σ16 fun x50 σ17 =>
 G _ x48 true ((load PP 3 x50 σ17).bind fun v => some (v, σ17)) σ17 fun x51 σ18 =>
 G _ x48 true ((fieldAddr PP 25 x3 2).bind fun v => some (v, σ18)) σ18 fun x52 σ19 =>
 G _ x48 true ((load PP 22 x52 σ19).bind fun v => some (v, σ19)) σ19 fun x53 σ20 =>
 G _ x48 true ((fieldAddr PP 120 x5 0).bind fun v => some (v, σ20)) σ20 fun x54 σ21 =>
 G _ x48 true ((load PP 3 x54 σ21).bind fun v => some (v, σ21)) σ21 fun x55 σ22 =>
 G _ x48 true ((indexAddr PP 22 x53 x55).bind fun v => some (v, σ22)) σ22 fun x56 σ23 =>
 G _ x48 true ((load PP 3 x56 σ23).bind fun v => some (v, σ23)) σ23 fun x57 σ24 =>
 G _ x48 true ((binOp PP .eql 3 x51 x57).bind fun v => some (v, σ24)) σ24 fun x58 σ25 =>
 (pickV x48 x58 (DV.p (PV.bool false))).bind fun x59 =>
 condK x59
 (
 (fieldAddr PP 106 x9 2).bind fun x61 =>
 (load PP 3 x61 σ25).bind fun x62 =>
 (fieldAddr PP 106 (DV.ptr (List.length σ) 0) 2).bind fun x63 =>
 (load PP 3 x63 σ25).bind fun x64 =>
 (build PP 120 [(0, x62), (1, x64)]).bind fun x65 =>
 (buildSlice PP none 116 1 [(0, x65)] σ25).bind fun r66_26 =>
 (append PP lo true 116 116 x7 r66_26.1 r66_26.2).bind fun r67_27 =>
 f67_J0 G lo x3 x4 x5 r67_27.1 x9 (DV.ptr (List.length σ) 0) x13 x14 x15 x20 x21 x22 x23 x24 x25 x26 x27 x28 x29 x30 x30 x32 x33 x34 x35 x36 x37 x37 x39 x40 x41 x42 x43 x44 x45 x46 x47 x48 x48 x50 x51 x52 x53 x54 x55 x56 x57 x58 x59 x7 x61 x62 x63 x64 x65 r66_26.1 r67_27.1 r67_27.2
 )
 (
 f67_J0 G lo x3 x4 x5 x7 x9 (DV.ptr (List.length σ) 0) x13 x14 x15 x20 x21 x22 x23 x24 x25 x26 x27 x28 x29 x30 x30 x32 x33 x34 x35 x36 x37 x37 x39 x40 x41 x42 x43 x44 x45 x46 x47 x48 x48 x50 x51 x52 x53 x54 x55 x56 x57 x58 x59 ud ud ud ud ud ud ud ud σ25
 )
 )
 (
 (binOp PP .add 3 x15 (DV.p (PV.int IntKind.i64 (1)))).bind fun x69 =>
 f67_L0 G lo x3 x4 x5 x7 x13 x14 x69 σ
 ) := (loopF_eq G hG).trans (by kernel_rfl)
theorem f67_J0_eq (G : GuardT) (lo : Nat) (x3 x4 x5 x7 x9 x11 x13 x14 x15 x20 x21 x22 x23 x24 x25 x26 x27 x28 x29 x30 x31 x32 x33 x34 x35 x36 x37 x38 x39 x40 x41 x42 x43 x44 x45 x46 x47 x48 x49 x50 x51 x52 x53 x54 x55 x56 x57 x58 x59 x60 x61 x62 x63 x64 x65 x66 x67 : DV) (σ : Store) : f67_J0 G lo x3 x4 x5 x7 x9 x11 x13 x14 x15 x20 x21 x22 x23 x24 x25 x26 x27 x28 x29 x30 x31 x32 x33 x34 x35 x36 x37 x38 x39 x40 x41 x42 x43 x44 x45 x46 x47 x48 x49 x50 x51 x52 x53 x54 x55 x56 x57 x58 x59 x60 x61 x62 x63 x64 x65 x66 x67 σ =
 (binOp PP .add 3 x22 (DV.p (PV.int IntKind.i64 (1)))).bind fun x68 =>
 f67_L1 G lo x3 x4 x5 x7 x9 x13 x14 x15 x20 x21 x68 σ := by kernel_rfl
theorem F67_eq (G : GuardT) (lo : Nat) (x0 x1 x2 : DV) (σ : Store) : F67 G lo x0 x1 x2 σ =
 (boxV x0).bind fun z3 =>
 (boxV x1).bind fun z4 =>
 (boxV x2).bind fun z5 =>
 (fieldAddr PP 25 (DV.ptr (List.length σ) 0) 3).bind fun x12 =>
 (load PP 23 x12 (((σ ++ [Row.mix z3]) ++ [Row.mix z4]) ++ [Row.mix z5])).bind fun x13 =>
 (len PP 23 x13 (((σ ++ [Row.mix z3]) ++ [Row.mix z4]) ++ [Row.mix z5])).bind fun x14 =>
 f67_L0 G lo (DV.ptr (List.length σ) 0) (DV.ptr (List.length (σ ++ [Row.mix z3])) 0) (DV.ptr (List.length ((σ ++ [Row.mix z3]) ++ [Row.mix z4])) 0) (DV.p PV.nilsl) x13 x14 (DV.p (PV.int IntKind.i64 (0))) (((σ ++ [Row.mix z3]) ++ [Row.mix z4]) ++ [Row.mix z5]) := by kernel_rfl
theorem F67_call {lo : Nat} {x0 x1 x2 : DV} {σ : Store} {r : DV × Store} (h : F67 guardT lo x0 x1 x2 σ = some r) : CC lo 67 [x0, x1, x2] σ = some r :=
 callL_run Go.Proofs.Try.func67 (by decide +kernel) rfl (by decide +kernel) h
noncomputable def c107_0 : Code := bodyOf Go.Proofs.Try.f107
noncomputable def a107_0 : Ann := (pol 107).ann
noncomputable def a107_13 : Ann := right (left (right (right a107_0)))
noncomputable def a107_14 : Ann := left a107_13
noncomputable def c107_15 : Code := fstC (fstC (sndC (fstC (sndC (sndC c107_0)))))
noncomputable def a107_22 : Ann := left (right (left a107_14))
noncomputable def a107_31 : Ann := right (left (right (left (right (left a107_22)))))
noncomputable def a107_32 : Ann := left a107_31
noncomputable def c107_33 : Code := fstC (fstC (sndC (fstC (sndC (fstC (sndC (fstC (fstC (sndC c107_15)))))))))
noncomputable def c107_49 : Code := sndC (sndC (fstC (sndC (fstC (fstC (sndC c107_15))))))
noncomputable def a107_49 : Ann := right (right (left (right (left a107_22))))
noncomputable def c107_55 : Code := sndC (sndC c107_15)
noncomputable def a107_55 : Ann := right (right (left a107_14))
noncomputable def c107_56 : Code := sndC (sndC (sndC c107_0))
noncomputable def a107_56 : Ann := right (right (right a107_0))
noncomputable def f107_L0 (G : GuardT) (lo : Nat) (x0 x3 : DV) (σ : Store) : Option (DV × Store) :=
 codeF G PP (pol 107) CC lo (.loop c107_15) a107_14 [x0, ud, ud, x3, ud, ud, ud, ud, ud, ud, ud, ud, ud, ud, ud, ud, ud, ud, ud, ud, ud, ud, ud, ud, ud, ud, ud, ud, ud, ud, ud, ud, ud, ud, ud, ud, ud, ud, ud, ud, ud, ud, ud, ud, ud, ud, ud, ud, ud, ud, ud, ud, ud, ud, ud, ud, ud, ud, ud, ud, ud] σ
 (blockC 0 a107_13 (seqC G PP (pol 107) CC lo c107_56 a107_56 (finR PP Go.Proofs.Try.f107.results.toList)))
noncomputable def f107_L1 (G : GuardT) (lo : Nat) (x0 x3 x4 x5 : DV) (σ : Store) : Option (DV × Store) :=
 codeF G PP (pol 107) CC lo (.loop c107_33) a107_32 [x0, ud, ud, x3, x4, x5, ud, ud, ud, ud, ud, ud, ud, ud, ud, ud, ud, ud, ud, ud, ud, ud, ud, ud, ud, ud, ud, ud, ud, ud, ud, ud, ud, ud, ud, ud, ud, ud, ud, ud, ud, ud, ud, ud, ud, ud, ud, ud, ud, ud, ud, ud, ud, ud, ud, ud, ud, ud, ud, ud, ud] σ
 (blockC 2 a107_31 (seqC G PP (pol 107) CC lo c107_49 a107_49 (blockC 1 a107_22 (seqC G PP (pol 107) CC lo c107_55 a107_55 (loopC G PP (pol 107) CC lo c107_15 a107_14 (blockC 0 a107_13 (seqC G PP (pol 107) CC lo c107_56 a107_56 (finR PP Go.Proofs.Try.f107.results.toList))))))))
noncomputable def F107 (G : GuardT) (lo : Nat) (x0 : DV) (σ : Store) : Option (DV × Store) :=
 codeF G PP (pol 107) CC lo c107_0 a107_0 [x0, ud, ud, ud, ud, ud, ud, ud, ud, ud, ud, ud, ud, ud, ud, ud, ud, ud, ud, ud, ud, ud, ud, ud, ud, ud, ud, ud, ud, ud, ud, ud, ud, ud, ud, ud, ud, ud, ud, ud, ud, ud, ud, ud, ud, ud, ud, ud, ud, ud, ud, ud, ud, ud, ud, ud, ud, ud, ud, ud, ud] σ (finR PP Go.Proofs.Try.f107.results.toList)
theorem f107_L0_eq (G : GuardT) (hG : GuardOk G) (lo : Nat) (x0 x3 : DV) (σ : Store) : f107_L0 G lo x0 x3 σ =
 (len PP 116 x0 σ).bind fun x12 =>
 (binOp PP .lss 3 x3 x12).bind fun x13 =>
 condK x13
 (
 (indexAddr PP 116 x0 x3).bind fun x18 =>
 (load PP 120 x18 σ).bind fun x19 =>
 (binOp PP .sub 3 x3 (DV.p (PV.int IntKind.i64 (1)))).bind fun x22 =>
 (indexAddr PP 116 x0 x22).bind fun x23 =>
 (load PP 120 x23 σ).bind fun x24 =>
 (binOp PP .eql 120 x19 x24).bind fun x25 =>
 condK x25
 (
 (sliceOp PP 116 x0 (some x3) none none).bind fun x28 =>
 f107_L1 G lo x0 x3 x28 (DV.p (PV.int IntKind.i64 (1))) σ
 )
 (
 (binOp PP .add 3 x3 (DV.p (PV.int IntKind.i64 (1)))).bind fun x15 =>
 f107_L0 G lo x0 x15 σ
 )
 )
 (
 some (x0, σ)
 ) := (loopF_eq G hG).trans (by kernel_rfl)
theorem F107_eq (G : GuardT) (lo : Nat) (x0 : DV) (σ : Store) : F107 G lo x0 σ =
 (len PP 116 x0 σ).bind fun x7 =>
 (binOp PP .lss 3 x7 (DV.p (PV.int IntKind.i64 (2)))).bind fun x8 =>
 condK x8
 (
 some (x0, σ)
 )
 (
 f107_L0 G lo x0 (DV.p (PV.int IntKind.i64 (1))) σ
 ) := by kernel_rfl
theorem F107_call {lo : Nat} {x0 : DV} {σ : Store} {r : DV × Store} (h : F107 guardT lo x0 σ = some r) : CC lo 107 [x0] σ = some r :=
 callL_run Go.Proofs.Try.func107 (by decide +kernel) rfl (by decide +kernel) h
noncomputable def c20_0 : Code := bodyOf Go.Proofs.Try.f20
noncomputable def a20_0 : Ann := (pol 20).ann
noncomputable def a20_19 : Ann := right (left (right (right (right (right a20_0)))))
noncomputable def a20_20 : Ann := left a20_19
noncomputable def c20_21 : Code := fstC (fstC (sndC (fstC (sndC (sndC (sndC (sndC c20_0)))))))
noncomputable def a20_28 : Ann := left (right (left a20_20))
noncomputable def a20_31 : Ann := right (left a20_28)
noncomputable def a20_32 : Ann := left a20_31
noncomputable def c20_33 : Code := fstC (fstC (sndC (fstC (fstC (sndC c20_21)))))
noncomputable def a20_40 : Ann := left (right (right (left a20_32)))
noncomputable def c20_48 : Code := sndC (sndC (sndC c20_33))
noncomputable def a20_48 : Ann := right (right (right (left a20_32)))
noncomputable def c20_49 : Code := sndC (sndC c20_21)
noncomputable def a20_49 : Ann := right (right (left a20_20))
noncomputable def c20_50 : Code := sndC (sndC (sndC (sndC (sndC c20_0))))
noncomputable def a20_50 : Ann := right (right (right (right (right a20_0))))
noncomputable def a20_59 : Ann := right (left (right (right (right a20_50))))
noncomputable def a20_60 : Ann := left a20_59
noncomputable def c20_61 : Code := fstC (fstC (sndC (fstC (sndC (sndC (sndC c20_50))))))
noncomputable def c20_73 : Code := sndC (sndC (sndC (sndC c20_50)))
noncomputable def a20_73 : Ann := right (right (right (right a20_50)))
noncomputable def a20_78 : Ann := right (left (right a20_73))
noncomputable def a20_79 : Ann := left a20_78
noncomputable def c20_80 : Code := fstC (fstC (sndC (fstC (sndC c20_73))))
noncomputable def a20_87 : Ann := left (right (right (left a20_79)))
noncomputable def a20_94 : Ann := right (right (right (left a20_87)))
noncomputable def a20_95 : Ann := left a20_94
noncomputable def c20_96 : Code := fstC (fstC (sndC (sndC (sndC (fstC (fstC (sndC (sndC c20_80))))))))
noncomputable def c20_108 : Code := sndC (sndC (sndC c20_80))
noncomputable def a20_108 : Ann := right (right (right (left a20_79)))
noncomputable def c20_109 : Code := sndC (sndC c20_73)
noncomputable def a20_109 : Ann := right (right a20_73)
noncomputable def f20_L0 (G : GuardT) (lo : Nat) (x2 x3 x4 x8 x9 x10 : DV) (σ : Store) : Option (DV × Store) :=
 codeF G PP (pol 20) CC lo (.loop c20_21) a20_20 [ud, ud, x2, x3, x4, ud, ud, ud, x8, x9, x10, ud, ud, ud, ud, ud, ud, ud, ud, ud, ud, ud, ud, ud, ud, ud, ud, ud, ud, ud, ud, ud, ud, ud, ud, ud, ud, ud, ud, ud, ud, ud, ud, ud, ud, ud, ud, ud, ud, ud, ud, ud, ud, ud, ud, ud, ud, ud, ud, ud, ud, ud, ud, ud, ud, ud, ud, ud, ud, ud, ud, ud, ud, ud, ud, ud, ud, ud, ud, ud, ud, ud, ud, ud, ud, ud, ud, ud, ud, ud, ud, ud, ud, ud, ud, ud, ud, ud, ud, ud, ud, ud, ud, ud, ud, ud, ud, ud, ud, ud, ud, ud, ud, ud, ud, ud, ud, ud, ud, ud, ud, ud, ud] σ
 (blockC 0 a20_19 (seqC G PP (pol 20) CC lo c20_50 a20_50 (finR PP Go.Proofs.Try.f20.results.toList)))
noncomputable def f20_L1 (G : GuardT) (lo : Nat) (x2 x3 x4 x8 x9 x10 x49 x50 x51 : DV) (σ : Store) : Option (DV × Store) :=
 codeF G PP (pol 20) CC lo (.loop c20_33) a20_32 [ud, ud, x2, x3, x4, ud, ud, ud, x8, x9, x10, ud, ud, ud, ud, ud, ud, ud, ud, ud, ud, ud, ud, ud, ud, ud, ud, ud, ud, ud, ud, ud, ud, ud, ud, ud, ud, ud, ud, ud, ud, ud, ud, ud, ud, ud, ud, ud, ud, x49, x50, x51, ud, ud, ud, ud, ud, ud, ud, ud, ud, ud, ud, ud, ud, ud, ud, ud, ud, ud, ud, ud, ud, ud, ud, ud, ud, ud, ud, ud, ud, ud, ud, ud, ud, ud, ud, ud, ud, ud, ud, ud, ud, ud, ud, ud, ud, ud, ud, ud, ud, ud, ud, ud, ud, ud, ud, ud, ud, ud, ud, ud, ud, ud, ud, ud, ud, ud, ud, ud, ud, ud, ud] σ
 (blockC 2 a20_31 (blockC 1 a20_28 (seqC G PP (pol 20) CC lo c20_49 a20_49 (loopC G PP (pol 20) CC lo c20_21 a20_20 (blockC 0 a20_19 (seqC G PP (pol 20) CC lo c20_50 a20_50 (finR PP Go.Proofs.Try.f20.results.toList)))))))
def f20_J0_fr (x2 x3 x4 x8 x9 x10 x12 x49 x50 x51 x52 x53 x54 x55 x56 x57 x58 x59 x60 x61 x62 : DV) : Frame := [ud, ud, x2, x3, x4, ud, ud, ud, x8, x9, x10, ud, x12, ud, ud, ud, ud, ud, ud, ud, ud, ud, ud, ud, ud, ud, ud, ud, ud, ud, ud, ud, ud, ud, ud, ud, ud, ud, ud, ud, ud, ud, ud, ud, ud, ud, ud, ud, ud, x49, x50, x51, x52, x53, x54, x55, x56, x57, x58, x59, x60, x61, x62, ud, ud, ud, ud, ud, ud, ud, ud, ud, ud, ud, ud, ud, ud, ud, ud, ud, ud, ud, ud, ud, ud, ud, ud, ud, ud, ud, ud, ud, ud, ud, ud, ud, ud, ud, ud, ud, ud, ud, ud, ud, ud, ud, ud, ud, ud, ud, ud, ud, ud, ud, ud, ud, ud, ud, ud, ud, ud, ud, ud]
noncomputable def f20_J0 (G : GuardT) (lo : Nat) (x2 x3 x4 x8 x9 x10 x12 x49 x50 x51 x52 x53 x54 x55 x56 x57 x58 x59 x60 x61 x62 : DV) (σ : Store) : Option (DV × Store) :=
 (blockC 3 a20_40 (seqC G PP (pol 20) CC lo c20_48 a20_48 (loopC G PP (pol 20) CC lo c20_33 a20_32 (blockC 2 a20_31 (blockC 1 a20_28 (seqC G PP (pol 20) CC lo c20_49 a20_49 (loopC G PP (pol 20) CC lo c20_21 a20_20 (blockC 0 a20_19 (seqC G PP (pol 20) CC lo c20_50 a20_50 (finR PP Go.Proofs.Try.f20.results.toList)))))))))) .normal (f20_J0_fr x2 x3 x4 x8 x9 x10 x12 x49 x50 x51 x52 x53 x54 x55 x56 x57 x58 x59 x60 x61 x62) σ
noncomputable def f20_L2 (G : GuardT) (lo : Nat) (x2 x3 x4 x9 x13 x14 x70 x71 x72 : DV) (σ : Store) : Option (DV × Store) :=
 codeF G PP (pol 20) CC lo (.loop c20_61) a20_60 [ud, ud, x2, x3, x4, ud, ud, ud, ud, x9, ud, ud, ud, x13, x14, ud, ud, ud, ud, ud, ud, ud, ud, ud, ud, ud, ud, ud, ud, ud, ud, ud, ud, ud, ud, ud, ud, ud, ud, ud, ud, ud, ud, ud, ud, ud, ud, ud, ud, ud, ud, ud, ud, ud, ud, ud, ud, ud, ud, ud, ud, ud, ud, ud, ud, ud, ud, ud, ud, ud, x70, x71, x72, ud, ud, ud, ud, ud, ud, ud, ud, ud, ud, ud, ud, ud, ud, ud, ud, ud, ud, ud, ud, ud, ud, ud, ud, ud, ud, ud, ud, ud, ud, ud, ud, ud, ud, ud, ud, ud, ud, ud, ud, ud, ud, ud, ud, ud, ud, ud, ud, ud, ud] σ
 (blockC 4 a20_59 (seqC G PP (pol 20) CC lo c20_73 a20_73 (finR PP Go.Proofs.Try.f20.results.toList)))
noncomputable def f20_L3 (G : GuardT) (lo : Nat) (x2 x3 x4 x13 x14 x17 x85 x86 x87 : DV) (σ : Store) : Option (DV × Store) :=
 codeF G PP (pol 20) CC lo (.loop c20_80) a20_79 [ud, ud, x2, x3, x4, ud, ud, ud, ud, ud, ud, ud, ud, x13, x14, ud, ud, x17, ud, ud, ud, ud, ud, ud, ud, ud, ud, ud, ud, ud, ud, ud, ud, ud, ud, ud, ud, ud, ud, ud, ud, ud, ud, ud, ud, ud, ud, ud, ud, ud, ud, ud, ud, ud, ud, ud, ud, ud, ud, ud, ud, ud, ud, ud, ud, ud, ud, ud, ud, ud, ud, ud, ud, ud, ud, ud, ud, ud, ud, ud, ud, ud, ud, ud, ud, x85, x86, x87, ud, ud, ud, ud, ud, ud, ud, ud, ud, ud, ud, ud, ud, ud, ud, ud, ud, ud, ud, ud, ud, ud, ud, ud, ud, ud, ud, ud, ud, ud, ud, ud, ud, ud, ud] σ
 (blockC 6 a20_78 (seqC G PP (pol 20) CC lo c20_109 a20_109 (finR PP Go.Proofs.Try.f20.results.toList)))
noncomputable def f20_L4 (G : GuardT) (lo : Nat) (x2 x3 x4 x13 x14 x17 x18 x85 x86 x87 x103 x104 x105 : DV) (σ : Store) : Option (DV × Store) :=
 codeF G PP (pol 20) CC lo (.loop c20_96) a20_95 [ud, ud, x2, x3, x4, ud, ud, ud, ud, ud, ud, ud, ud, x13, x14, ud, ud, x17, x18, ud, ud, ud, ud, ud, ud, ud, ud, ud, ud, ud, ud, ud, ud, ud, ud, ud, ud, ud, ud, ud, ud, ud, ud, ud, ud, ud, ud, ud, ud, ud, ud, ud, ud, ud, ud, ud, ud, ud, ud, ud, ud, ud, ud, ud, ud, ud, ud, ud, ud, ud, ud, ud, ud, ud, ud, ud, ud, ud, ud, ud, ud, ud, ud, ud, ud, x85, x86, x87, ud, ud, ud, ud, ud, ud, ud, ud, ud, ud, ud, ud, ud, ud, ud, x103, x104, x105, ud, ud, ud, ud, ud, ud, ud, ud, ud, ud, ud, ud, ud, ud, ud, ud, ud] σ
 (blockC 8 a20_94 (blockC 7 a20_87 (seqC G PP (pol 20) CC lo c20_108 a20_108 (loopC G PP (pol 20) CC lo c20_80 a20_79 (blockC 6 a20_78 (seqC G PP (pol 20) CC lo c20_109 a20_109 (finR PP Go.Proofs.Try.f20.results.toList)))))))
noncomputable def F20 (G : GuardT) (lo : Nat) (x0 x1 : DV) (σ : Store) : Option (DV × Store) :=
 codeF G PP (pol 20) CC lo c20_0 a20_0 [x0, x1, ud, ud, ud, ud, ud, ud, ud, ud, ud, ud, ud, ud, ud, ud, ud, ud, ud, ud, ud, ud, ud, ud, ud, ud, ud, ud, ud, ud, ud, ud, ud, ud, ud, ud, ud, ud, ud, ud, ud, ud, ud, ud, ud, ud, ud, ud, ud, ud, ud, ud, ud, ud, ud, ud, ud, ud, ud, ud, ud, ud, ud, ud, ud, ud, ud, ud, ud, ud, ud, ud, ud, ud, ud, ud, ud, ud, ud, ud, ud, ud, ud, ud, ud, ud, ud, ud, ud, ud, ud, ud, ud, ud, ud, ud, ud, ud, ud, ud, ud, ud, ud, ud, ud, ud, ud, ud, ud, ud, ud, ud, ud, ud, ud, ud, ud, ud, ud, ud, ud, ud, ud] σ (finR PP Go.Proofs.Try.f20.results.toList)
theorem f20_L0_eq (G : GuardT) (hG : GuardOk G) (lo : Nat) (x2 x3 x4 x8 x9 x10 : DV) (σ : Store) : f20_L0 G lo x2 x3 x4 x8 x9 x10 σ =
 (load PP 116 x9 σ).bind fun x38 =>
 (len PP 116 x38 σ).bind fun x39 =>
 (binOp PP .lss 3 x10 x39).bind fun x40 =>
 condK x40
 (
 (load PP 25 x2 σ).bind fun x43 =>
 (load PP 25 x3 σ).bind fun x44 =>
 (load PP 116 x9 σ).bind fun x45 =>
 (indexAddr PP 116 x45 x10).bind fun x47 =>
 (load PP 120 x47 σ).bind fun x48 =>
 (pureFn CC (DV.fn 67 []) [x43, x44, x48] σ).bind fun x49 =>
 (len PP 116 x49 σ).bind fun x50 =>
 f20_L1 G lo x2 x3 x4 x8 x9 x10 x49 x50 (DV.p (PV.int IntKind.i64 (0))) σ
 )
 (
 (load PP 116 x9 σ).bind fun x64 =>
 (plainFn CC lo (DV.fn 69 []) [x64, (DV.fn 70 [])] σ).bind fun r65_9 =>
 (load PP 116 x9 r65_9.2).bind fun x67 =>
 (len PP 116 x67 r65_9.2).bind fun x68 =>
 (build PP 47 [(0, x68)]).bind fun x69 =>
 (zeroOf PP 47).bind fun z14 =>
 (store PP lo 47 (DV.ptr (List.length r65_9.2) 0) x69 (r65_9.2 ++ [Row.mix z14])).bind fun σ10 =>
 (len PP 116 x8 σ10).bind fun x71 =>
 f20_L2 G lo x2 x3 x4 x9 (DV.fn 71 [x9]) (DV.ptr (List.length r65_9.2) 0) x8 x71 (DV.p (PV.int IntKind.i64 (0))) σ10
 ) := (loopF_eq G hG).trans (by kernel_rfl)
theorem f20_L1_eq (G : GuardT) (hG : GuardOk G) (lo : Nat) (x2 x3 x4 x8 x9 x10 x49 x50 x51 : DV) (σ : Store) : f20_L1 G lo x2 x3 x4 x8 x9 x10 x49 x50 x51 σ =
 (binOp PP .lss 3 x51 x50).bind fun x52 =>
 condK x52
 (
 (indexAddr PP 116 x49 x51).bind fun x53 =>
 (load PP 120 x53 σ).bind fun x54 =>
 (zeroOf PP 120).bind fun z12 =>
 (store PP lo 120 (DV.ptr (List.length σ) 0) x54 (σ ++ [Row.mix z12])).bind fun σ5 =>
 (load PP 116 x9 σ5).bind fun x55 =>
 (load PP 120 (DV.ptr (List.length σ) 0) σ5).bind fun x56 =>
 (pureFn CC (DV.fn 68 []) [x55, x56] σ5).bind fun x57 =>
 (unOp .not x57).bind fun x58 =>
 condK x58
 (
 (load PP 116 x9 σ5).bind fun x59 =>
 (load PP 120 (DV.ptr (List.length σ) 0) σ5).bind fun x60 =>
 (buildSlice PP none 116 1 [(0, x60)] σ5).bind fun r61_6 =>
 (append PP lo false 116 116 x59 r61_6.1 r61_6.2).bind fun r62_7 =>
 (store PP lo 116 x9 r62_7.1 r62_7.2).bind fun σ8 =>
 f20_J0 G lo x2 x3 x4 x8 x9 x10 (DV.ptr (List.length σ) 0) x49 x50 x51 x52 x53 x54 x55 x56 x57 x58 x59 x60 r61_6.1 r62_7.1 σ8
 )
 (
 f20_J0 G lo x2 x3 x4 x8 x9 x10 (DV.ptr (List.length σ) 0) x49 x50 x51 x52 x53 x54 x55 x56 x57 x58 ud ud ud ud σ5
 )
 )
 (
 (binOp PP .add 3 x10 (DV.p (PV.int IntKind.i64 (1)))).bind fun x42 =>
 f20_L0 G lo x2 x3 x4 x8 x9 x42 σ
 ) := (loopF_eq G hG).trans (by kernel_rfl)
theorem f20_J0_eq (G : GuardT) (lo : Nat) (x2 x3 x4 x8 x9 x10 x12 x49 x50 x51 x52 x53 x54 x55 x56 x57 x58 x59 x60 x61 x62 : DV) (σ : Store) : f20_J0 G lo x2 x3 x4 x8 x9 x10 x12 x49 x50 x51 x52 x53 x54 x55 x56 x57 x58 x59 x60 x61 x62 σ =
 (binOp PP .add 3 x51 (DV.p (PV.int IntKind.i64 (1)))).bind fun x63 =>
 f20_L1 G lo x2 x3 x4 x8 x9 x10 x49 x50 x63 σ := by kernel_rfl
theorem f20_L2_eq (G : GuardT) (hG : GuardOk G) (lo : Nat) (x2 x3 x4 x9 x13 x14 x70 x71 x72 : DV) (σ : Store) : f20_L2 G lo x2 x3 x4 x9 x13 x14 x70 x71 x72 σ =
 (binOp PP .lss 3 x72 x71).bind fun x73 =>
 condK x73
 (
 (indexAddr PP 116 x70 x72).bind fun x74 =>
 (load PP 120 x74 σ).bind fun x75 =>
 (zeroOf PP 120).bind fun z16 =>
 (store PP lo 120 (DV.ptr (List.length σ) 0) x75 (σ ++ [Row.mix z16])).bind fun σ11 =>
 (fieldAddr PP 47 x14 1).bind fun x76 =>
 (load PP 22 x76 σ11).bind fun x77 =>
 (load PP 120 (DV.ptr (List.length σ) 0) σ11).bind fun x79 =>
 (pureFn CC x13 [x79] σ11).bind fun x80 =>
 (buildSlice PP none 22 1 [(0, x80)] σ11).bind fun r81_12 =>
 (append PP lo false 22 22 x77 r81_12.1 r81_12.2).bind fun r82_13 =>
 (fieldAddr PP 47 x14 1).bind fun x83 =>
 (store PP lo 22 x83 r82_13.1 r82_13.2).bind fun σ14 =>
 (binOp PP .add 3 x72 (DV.p (PV.int IntKind.i64 (1)))).bind fun x84 =>
 f20_L2 G lo x2 x3 x4 x9 x13 x14 x70 x71 x84 σ14
 )
 (
 (load PP 116 x9 σ).bind fun x85 =>
 (len PP 116 x85 σ).bind fun x86 =>
 f20_L3 G lo x2 x3 x4 x13 x14 (DV.p PV.nilsl) x85 x86 (DV.p (PV.int IntKind.i64 (0))) σ
 ) := (loopF_eq G hG).trans (by kernel_rfl)
theorem f20_L3_eq (G : GuardT) (hG : GuardOk G) (lo : Nat) (x2 x3 x4 x13 x14 x17 x85 x86 x87 : DV) (σ : Store) : f20_L3 G lo x2 x3 x4 x13 x14 x17 x85 x86 x87 σ =
 (binOp PP .lss 3 x87 x86).bind fun x88 =>
 condK x88
 (
 (indexAddr PP 116 x85 x87).bind fun x90 =>
 (load PP 120 x90 σ).bind fun x91 =>
 (zeroOf PP 120).bind fun z19 =>
 (store PP lo 120 (DV.ptr (List.length σ) 0) x91 (σ ++ [Row.mix z19])).bind fun σ15 =>
 (fieldAddr PP 120 (DV.ptr (List.length σ) 0) 0).bind fun x93 =>
 (load PP 3 x93 σ15).bind fun x94 =>
 (fieldAddr PP 120 (DV.ptr (List.length σ) 0) 1).bind fun x95 =>
 (load PP 3 x95 σ15).bind fun x96 =>
 (buildSlice PP none 22 2 [(0, x94), (1, x96)] σ15).bind fun r97_16 =>
 (buildSlice PP none 48 1 [(0, r97_16.1)] r97_16.2).bind fun r98_17 =>
 (append PP lo false 48 48 x17 r98_17.1 r98_17.2).bind fun r99_18 =>
 (load PP 25 x2 r99_18.2).bind fun x100 =>
 (load PP 25 x3 r99_18.2).bind fun x101 =>
 (load PP 120 (DV.ptr (List.length σ) 0) r99_18.2).bind fun x102 =>
 (pureFn CC (DV.fn 67 []) [x100, x101, x102] r99_18.2).bind fun x103 =>
 (len PP 116 x103 r99_18.2).bind fun x104 =>
 f20_L4 G lo x2 x3 x4 x13 x14 r99_18.1 x87 x85 x86 x87 x103 x104 (DV.p (PV.int IntKind.i64 (0))) r99_18.2
 )
 (
 (load PP 47 x14 σ).bind fun x121 =>
 (store PP lo 47 x4 x121 σ).bind fun σ23 =>
 (cellV PP 47 x4 σ23).bind fun v0 =>
 some ((DV.tuple [v0, x17, (DV.p (PV.int IntKind.i64 (0)))]), σ23)
 ) := (loopF_eq G hG).trans (by kernel_rfl)
theorem f20_L4_eq (G : GuardT) (hG : GuardOk G) (lo : Nat) (x2 x3 x4 x13 x14 x17 x18 x85 x86 x87 x103 x104 x105 : DV) (σ : Store) : f20_L4 G lo x2 x3 x4 x13 x14 x17 x18 x85 x86 x87 x103 x104 x105 σ =
 (binOp PP .lss 3 x105 x104).bind fun x106 =>
 condK x106
 (
 (indexAddr PP 116 x103 x105).bind fun x107 =>
 (load PP 120 x107 σ).bind fun x108 =>
 (zeroOf PP 120).bind fun z21 =>
 (store PP lo 120 (DV.ptr (List.length σ) 0) x108 (σ ++ [Row.mix z21])).bind fun σ19 =>
 (fieldAddr PP 47 x14 2).bind fun x109 =>
 (load PP 45 x109 σ19).bind fun x110 =>
 (load PP 120 (DV.ptr (List.length σ) 0) σ19).bind fun x113 =>
 (pureFn CC x13 [x113] σ19).bind fun x114 =>
 (build PP 129 [(0, x18), (1, x114)]).bind fun x115 =>
 (buildSlice PP none 45 1 [(0, x115)] σ19).bind fun r116_20 =>
 (append PP lo false 45 45 x110 r116_20.1 r116_20.2).bind fun r117_21 =>
 (fieldAddr PP 47 x14 2).bind fun x118 =>
 (store PP lo 45 x118 r117_21.1 r117_21.2).bind fun σ22 =>
 (binOp PP .add 3 x105 (DV.p (PV.int IntKind.i64 (1)))).bind fun x119 =>
 f20_L4 G lo x2 x3 x4 x13 x14 x17 x18 x85 x86 x87 x103 x104 x119 σ22
 )
 (
 (binOp PP .add 3 x87 (DV.p (PV.int IntKind.i64 (1)))).bind fun x120 =>
 f20_L3 G lo x2 x3 x4 x13 x14 x17 x85 x86 x120 σ
 ) := (loopF_eq G hG).trans (by kernel_rfl)
theorem F20_eq (G : GuardT) (lo : Nat) (x0 x1 : DV) (σ : Store) : F20 G lo x0 x1 σ =
 (boxV x0).bind fun z2 =>
 (boxV x1).bind fun z3 =>
 (zeroOf PP 47).bind fun z4 =>
 (load PP 25 (DV.ptr (List.length σ) 0) (((σ ++ [Row.mix z2]) ++ [Row.mix z3]) ++ [Row.mix z4])).bind fun x22 =>
 (pureFn CC (DV.fn 29 []) [x22] (((σ ++ [Row.mix z2]) ++ [Row.mix z3]) ++ [Row.mix z4])).bind fun x23 =>
 (load PP 25 (DV.ptr (List.length (σ ++ [Row.mix z2])) 0) (((σ ++ [Row.mix z2]) ++ [Row.mix z3]) ++ [Row.mix z4])).bind fun x24 =>
 (pureFn CC (DV.fn 29 []) [x24] (((σ ++ [Row.mix z2]) ++ [Row.mix z3]) ++ [Row.mix z4])).bind fun x25 =>
 (buildSlice PP none 160 2 [(0, x23), (1, x25)] (((σ ++ [Row.mix z2]) ++ [Row.mix z3]) ++ [Row.mix z4])).bind fun r26_1 =>
 (pureFn CC (DV.fn 52 []) [r26_1.1] r26_1.2).bind fun x27 =>
 (binOp PP .neq 34 x27 (DV.p (PV.int IntKind.i64 (0)))).bind fun x29 =>
 condK x29
 (
 (build PP 47 []).bind fun x30 =>
 (store PP lo 47 (DV.ptr (List.length ((σ ++ [Row.mix z2]) ++ [Row.mix z3])) 0) x30 r26_1.2).bind fun σ2 =>
 (cellV PP 47 (DV.ptr (List.length ((σ ++ [Row.mix z2]) ++ [Row.mix z3])) 0) σ2).bind fun v0 =>
 some ((DV.tuple [v0, (DV.p PV.nilsl), x27]), σ2)
 )
 (
 (load PP 25 (DV.ptr (List.length σ) 0) r26_1.2).bind fun x32 =>
 (load PP 25 (DV.ptr (List.length (σ ++ [Row.mix z2])) 0) r26_1.2).bind fun x33 =>
 (pureFn CC (DV.fn 65 []) [x32, x33] r26_1.2).bind fun x34 =>
 (plainFn CC lo (DV.fn 66 []) [x34] r26_1.2).bind fun r36_3 =>
 (zeroOf PP 116).bind fun z9 =>
 (store PP lo 116 (DV.ptr (List.length r36_3.2) 0) r36_3.1 (r36_3.2 ++ [Row.mix z9])).bind fun σ4 =>
 f20_L0 G lo (DV.ptr (List.length σ) 0) (DV.ptr (List.length (σ ++ [Row.mix z2])) 0) (DV.ptr (List.length ((σ ++ [Row.mix z2]) ++ [Row.mix z3])) 0) x34 (DV.ptr (List.length r36_3.2) 0) (DV.p (PV.int IntKind.i64 (0))) σ4
 ) := by kernel_rfl
theorem F20_call {lo : Nat} {x0 x1 : DV} {σ : Store} {r : DV × Store} (h : F20 guardT lo x0 x1 σ = some r) : CC lo 20 [x0, x1] σ = some r :=
 callL_run Go.Proofs.Try.func20 (by decide +kernel) rfl (by decide +kernel) h
noncomputable def c65_0 : Code := bodyOf Go.Proofs.Try.f65
noncomputable def a65_0 : Ann := (pol 65).ann
noncomputable def a65_7 : Ann := right (left (right (right a65_0)))
noncomputable def a65_8 : Ann := left a65_7
noncomputable def c65_9 : Code := fstC (fstC (sndC (fstC (sndC (sndC c65_0)))))
noncomputable def a65_16 : Ann := left (right (right (left a65_8)))
noncomputable def a65_21 : Ann := right (right (left a65_16))
noncomputable def a65_22 : Ann := left a65_21
noncomputable def c65_23 : Code := fstC (fstC (sndC (sndC (fstC (fstC (sndC (sndC c65_9)))))))
noncomputable def c65_35 : Code := sndC (sndC (sndC c65_9))
noncomputable def a65_35 : Ann := right (right (right (left a65_8)))
noncomputable def c65_36 : Code := sndC (sndC (sndC c65_0))
noncomputable def a65_36 : Ann := right (right (right a65_0))
noncomputable def f65_L0 (G : GuardT) (lo : Nat) (x3 x5 x11 x12 x13 : DV) (σ : Store) : Option (DV × Store) :=
 codeF G PP (pol 65) CC lo (.loop c65_9) a65_8 [ud, ud, ud, x3, ud, x5, ud, ud, ud, ud, ud, x11, x12, x13, ud, ud, ud, ud, ud, ud, ud, ud, ud, ud, ud, ud, ud, ud, ud, ud, ud, ud, ud] σ
 (blockC 0 a65_7 (seqC G PP (pol 65) CC lo c65_36 a65_36 (finR PP Go.Proofs.Try.f65.results.toList)))
noncomputable def f65_L1 (G : GuardT) (lo : Nat) (x3 x5 x7 x11 x12 x13 x18 x19 x20 : DV) (σ : Store) : Option (DV × Store) :=
 codeF G PP (pol 65) CC lo (.loop c65_23) a65_22 [ud, ud, ud, x3, ud, x5, ud, x7, ud, ud, ud, x11, x12, x13, ud, ud, ud, ud, x18, x19, x20, ud, ud, ud, ud, ud, ud, ud, ud, ud, ud, ud, ud] σ
 (blockC 2 a65_21 (blockC 1 a65_16 (seqC G PP (pol 65) CC lo c65_35 a65_35 (loopC G PP (pol 65) CC lo c65_9 a65_8 (blockC 0 a65_7 (seqC G PP (pol 65) CC lo c65_36 a65_36 (finR PP Go.Proofs.Try.f65.results.toList)))))))
noncomputable def F65 (G : GuardT) (lo : Nat) (x0 x1 : DV) (σ : Store) : Option (DV × Store) :=
 codeF G PP (pol 65) CC lo c65_0 a65_0 [x0, x1, ud, ud, ud, ud, ud, ud, ud, ud, ud, ud, ud, ud, ud, ud, ud, ud, ud, ud, ud, ud, ud, ud, ud, ud, ud, ud, ud, ud, ud, ud, ud] σ (finR PP Go.Proofs.Try.f65.results.toList)
theorem f65_L0_eq (G : GuardT) (hG : GuardOk G) (lo : Nat) (x3 x5 x11 x12 x13 : DV) (σ : Store) : f65_L0 G lo x3 x5 x11 x12 x13 σ =
 (binOp PP .lss 3 x13 x12).bind fun x14 =>
 condK x14
 (
 (indexAddr PP 22 x11 x13).bind fun x15 =>
 (load PP 3 x15 σ).bind fun x16 =>
 (fieldAddr PP 25 x3 1).bind fun x17 =>
 (load PP 22 x17 σ).bind fun x18 =>
 (len PP 22 x18 σ).bind fun x19 =>
 f65_L1 G lo x3 x5 x16 x11 x12 x13 x18 x19 (DV.p (PV.int IntKind.i64 (0))) σ
 )
 (
 some (x5, σ)
 ) := (loopF_eq G hG).trans (by kernel_rfl)
theorem f65_L1_eq (G : GuardT) (hG : GuardOk G) (lo : Nat) (x3 x5 x7 x11 x12 x13 x18 x19 x20 : DV) (σ : Store) : f65_L1 G lo x3 x5 x7 x11 x12 x13 x18 x19 x20 σ =
 (binOp PP .lss 3 x20 x19).bind fun x21 =>
 condK x21
 (
 (indexAddr PP 22 x18 x20).bind fun x22 =>
 (load PP 3 x22 σ).bind fun x23 =>
 (build PP 120 [(0, x7), (1, x23)]).bind fun x27 =>
 (buildSlice PP none 116 1 [(0, x27)] σ).bind fun r28_1 =>
 (append PP lo false 116 116 x5 r28_1.1 r28_1.2).bind fun r29_2 =>
 (binOp PP .add 3 x20 (DV.p (PV.int IntKind.i64 (1)))).bind fun x30 =>
 f65_L1 G lo x3 r29_2.1 x7 x11 x12 x13 x18 x19 x30 r29_2.2
 )
 (
 (binOp PP .add 3 x13 (DV.p (PV.int IntKind.i64 (1)))).bind fun x31 =>
 f65_L0 G lo x3 x5 x11 x12 x31 σ
 ) := (loopF_eq G hG).trans (by kernel_rfl)
theorem F65_eq (G : GuardT) (lo : Nat) (x0 x1 : DV) (σ : Store) : F65 G lo x0 x1 σ =
 (boxV x0).bind fun z2 =>
 (boxV x1).bind fun z3 =>
 (fieldAddr PP 25 (DV.ptr (List.length σ) 0) 1).bind fun x10 =>
 (load PP 22 x10 ((σ ++ [Row.mix z2]) ++ [Row.mix z3])).bind fun x11 =>
 (len PP 22 x11 ((σ ++ [Row.mix z2]) ++ [Row.mix z3])).bind fun x12 =>
 f65_L0 G lo (DV.ptr (List.length (σ ++ [Row.mix z2])) 0) (DV.p PV.nilsl) x11 x12 (DV.p (PV.int IntKind.i64 (0))) ((σ ++ [Row.mix z2]) ++ [Row.mix z3]) := by kernel_rfl
theorem F65_call {lo : Nat} {x0 x1 : DV} {σ : Store} {r : DV × Store} (h : F65 guardT lo x0 x1 σ = some r) : CC lo 65 [x0, x1] σ = some r :=
 callL_run Go.Proofs.Try.func65 (by decide +kernel) rfl (by decide +kernel) h
noncomputable def c66_0 : Code := bodyOf Go.Proofs.Try.f66
noncomputable def a66_0 : Ann := (pol 66).ann
noncomputable def F66 (G : GuardT) (lo : Nat) (x0 : DV) (σ : Store) : Option (DV × Store) :=
 codeF G PP (pol 66) CC lo c66_0 a66_0 [x0, ud, ud, ud, ud, ud, ud, ud] σ (finR PP Go.Proofs.Try.f66.results.toList)
theorem F66_eq (G : GuardT) (lo : Nat) (x0 : DV) (σ : Store) : F66 G lo x0 σ =
 (binOp PP .eql 116 x0 (DV.p PV.nilsl)).bind fun x4 =>
 condK x4
 (
 some ((DV.p PV.nilsl), σ)
 )
 (
 (buildSlice PP none 116 0 [] σ).bind fun r5_1 =>
 (append PP lo true 116 116 r5_1.1 x0 r5_1.2).bind fun r7_2 =>
 some (r7_2.1, r7_2.2)
 ) := by kernel_rfl
theorem F66_call {lo : Nat} {x0 : DV} {σ : Store} {r : DV × Store} (h : F66 guardT lo x0 σ = some r) : CC lo 66 [x0] σ = some r :=
 callL_run Go.Proofs.Try.func66 (by decide +kernel) rfl (by decide +kernel) h
noncomputable def c68_0 : Code := bodyOf Go.Proofs.Try.f68
noncomputable def a68_0 : Ann := (pol 68).ann
noncomputable def F68 (G : GuardT) (lo : Nat) (x0 x1 : DV) (σ : Store) : Option (DV × Store) :=
 codeF G PP (pol 68) CC lo c68_0 a68_0 [x0, x1, ud, ud, ud, ud, ud, ud, ud] σ (finR PP Go.Proofs.Try.f68.results.toList)
theorem F68_eq (G : GuardT) (lo : Nat) (x0 x1 : DV) (σ : Store) : F68 G lo x0 x1 σ =
 (boxV x1).bind fun z3 =>
 (load PP 120 (DV.ptr (List.length σ) 0) (σ ++ [Row.mix z3])).bind fun x6 =>
 (pureFn CC (DV.fn 108 []) [x0, x6] (σ ++ [Row.mix z3])).bind fun x7 =>
 (binOp PP .geq 3 x7 (DV.p (PV.int IntKind.i64 (0)))).bind fun x8 =>
 some (x8, (σ ++ [Row.mix z3])) := by kernel_rfl
theorem F68_call {lo : Nat} {x0 x1 : DV} {σ : Store} {r : DV × Store} (h : F68 guardT lo x0 x1 σ = some r) : CC lo 68 [x0, x1] σ = some r :=
 callL_run Go.Proofs.Try.func68 (by decide +kernel) rfl (by decide +kernel) h
noncomputable def c108_0 : Code := bodyOf Go.Proofs.Try.f108
noncomputable def a108_0 : Ann := (pol 108).ann
noncomputable def a108_5 : Ann := right (left (right a108_0))
noncomputable def a108_6 : Ann := left a108_5
noncomputable def c108_7 : Code := fstC (fstC (sndC (fstC (sndC c108_0))))
noncomputable def c108_25 : Code := sndC (sndC c108_0)
noncomputable def a108_25 : Ann := right (right a108_0)
noncomputable def f108_L0 (G : GuardT) (lo : Nat) (x0 x3 x7 x8 : DV) (σ : Store) : Option (DV × Store) :=
 codeF G PP (pol 108) CC lo (.loop c108_7) a108_6 [x0, ud, ud, x3, ud, ud, ud, x7, x8, ud, ud, ud, ud, ud, ud, ud, ud, ud, ud] σ
 (blockC 0 a108_5 (seqC G PP (pol 108) CC lo c108_25 a108_25 (finR PP Go.Proofs.Try.f108.results.toList)))
noncomputable def F108 (G : GuardT) (lo : Nat) (x0 x1 : DV) (σ : Store) : Option (DV × Store) :=
 codeF G PP (pol 108) CC lo c108_0 a108_0 [x0, x1, ud, ud, ud, ud, ud, ud, ud, ud, ud, ud, ud, ud, ud, ud, ud, ud, ud] σ (finR PP Go.Proofs.Try.f108.results.toList)
theorem f108_L0_eq (G : GuardT) (hG : GuardOk G) (lo : Nat) (x0 x3 x7 x8 : DV) (σ : Store) : f108_L0 G lo x0 x3 x7 x8 σ =
 (binOp PP .lss 3 x8 x7).bind fun x9 =>
 condK x9
 (
 (load PP 120 x3 σ).bind fun x11 =>
 (indexAddr PP 116 x0 x8).bind fun x14 =>
 (load PP 120 x14 σ).bind fun x15 =>
 (binOp PP .eql 120 x11 x15).bind fun x16 =>
 condK x16
 (
 some (x8, σ)
 )
 (
 (binOp PP .add 3 x8 (DV.p (PV.int IntKind.i64 (1)))).bind fun x18 =>
 f108_L0 G lo x0 x3 x7 x18 σ
 )
 )
 (
 some ((DV.p (PV.int IntKind.i64 (-1))), σ)
 ) := (loopF_eq G hG).trans (by kernel_rfl)
theorem F108_eq (G : GuardT) (lo : Nat) (x0 x1 : DV) (σ : Store) : F108 G lo x0 x1 σ =
 (boxV x1).bind fun z3 =>
 (len PP 116 x0 (σ ++ [Row.mix z3])).bind fun x7 =>
 f108_L0 G lo x0 (DV.ptr (List.length σ) 0) x7 (DV.p (PV.int IntKind.i64 (0))) (σ ++ [Row.mix z3]) := by kernel_rfl
theorem F108_call {lo : Nat} {x0 x1 : DV} {σ : Store} {r : DV × Store} (h : F108 guardT lo x0 x1 σ = some r) : CC lo 108 [x0, x1] σ = some r :=
 callL_run Go.Proofs.Try.func108 (by decide +kernel) rfl (by decide +kernel) h
noncomputable def c70_0 : Code := bodyOf Go.Proofs.Try.f70
noncomputable def a70_0 : Ann := (pol 70).ann
noncomputable def F70 (G : GuardT) (lo : Nat) (x0 x1 : DV) (σ : Store) : Option (DV × Store) :=
 codeF G PP (pol 70) CC lo c70_0 a70_0 [x0, x1, ud, ud, ud, ud, ud, ud, ud, ud, ud, ud, ud, ud, ud, ud, ud] σ (finR PP Go.Proofs.Try.f70.results.toList)
theorem F70_eq (G : GuardT) (lo : Nat) (x0 x1 : DV) (σ : Store) : F70 G lo x0 x1 σ =
 (boxV x0).bind fun z2 =>
 (boxV x1).bind fun z3 =>
 (fieldAddr PP 120 (DV.ptr (List.length σ) 0) 0).bind fun x5 =>
 (load PP 3 x5 ((σ ++ [Row.mix z2]) ++ [Row.mix z3])).bind fun x6 =>
 (fieldAddr PP 120 (DV.ptr (List.length (σ ++ [Row.mix z2])) 0) 0).bind fun x7 =>
 (load PP 3 x7 ((σ ++ [Row.mix z2]) ++ [Row.mix z3])).bind fun x8 =>
 (pureFn CC (DV.fn 112 []) [x6, x8] ((σ ++ [Row.mix z2]) ++ [Row.mix z3])).bind fun x9 =>
 (fieldAddr PP 120 (DV.ptr (List.length σ) 0) 1).bind fun x10 =>
 (load PP 3 x10 ((σ ++ [Row.mix z2]) ++ [Row.mix z3])).bind fun x11 =>
 (fieldAddr PP 120 (DV.ptr (List.length (σ ++ [Row.mix z2])) 0) 1).bind fun x12 =>
 (load PP 3 x12 ((σ ++ [Row.mix z2]) ++ [Row.mix z3])).bind fun x13 =>
 (pureFn CC (DV.fn 112 []) [x11, x13] ((σ ++ [Row.mix z2]) ++ [Row.mix z3])).bind fun x14 =>
 (buildSlice PP none 22 2 [(0, x9), (1, x14)] ((σ ++ [Row.mix z2]) ++ [Row.mix z3])).bind fun r15_1 =>
 (pureFn CC (DV.fn 111 []) [r15_1.1] r15_1.2).bind fun x16 =>
 some (x16, r15_1.2) := by kernel_rfl
theorem F70_call {lo : Nat} {x0 x1 : DV} {σ : Store} {r : DV × Store} (h : F70 guardT lo x0 x1 σ = some r) : CC lo 70 [x0, x1] σ = some r :=
 callL_run Go.Proofs.Try.func70 (by decide +kernel) rfl (by decide +kernel) h
noncomputable def c71_0 : Code := bodyOf Go.Proofs.Try.f71
noncomputable def a71_0 : Ann := (pol 71).ann
noncomputable def F71 (G : GuardT) (lo : Nat) (x0 x1 : DV) (σ : Store) : Option (DV × Store) :=
 codeF G PP (pol 71) CC lo c71_0 a71_0 [x0, x1, ud, ud, ud, ud, ud, ud, ud, ud, ud, ud, ud] σ (finR PP Go.Proofs.Try.f71.results.toList)
theorem F71_eq (G : GuardT) (lo : Nat) (x0 x1 : DV) (σ : Store) : F71 G lo x0 x1 σ =
 (boxV x0).bind fun z2 =>
 (load PP 116 x1 (σ ++ [Row.mix z2])).bind fun x7 =>
 (load PP 120 (DV.ptr (List.length σ) 0) (σ ++ [Row.mix z2])).bind fun x8 =>
 (pureFn CC (DV.fn 72 []) [x7, x8, (DV.fn 70 [])] (σ ++ [Row.mix z2])).bind fun x9 =>
 (extractV x9 0).bind fun x10 =>
 (extractV x9 1).bind fun x11 =>
 some (x10, (σ ++ [Row.mix z2])) := by kernel_rfl
theorem F71_call {lo : Nat} {x0 x1 : DV} {σ : Store} {r : DV × Store} (h : F71 guardT lo x0 x1 σ = some r) : CC lo 71 [x0, x1] σ = some r :=
 callL_run Go.Proofs.Try.func71 (by decide +kernel) rfl (by decide +kernel) h
noncomputable def c72_0 : Code := bodyOf Go.Proofs.Try.f72
noncomputable def a72_0 : Ann := (pol 72).ann
noncomputable def a72_7 : Ann := left (right (right (right a72_0)))
noncomputable def a72_8 : Ann := left a72_7
noncomputable def c72_9 : Code := fstC (fstC (fstC (sndC (sndC (sndC c72_0)))))
noncomputable def c72_23 : Code := sndC (sndC (sndC (sndC c72_0)))
noncomputable def a72_23 : Ann := right (right (right (right a72_0)))
noncomputable def f72_L0 (G : GuardT) (lo : Nat) (x0 x2 x4 x8 x9 x10 : DV) (σ : Store) : Option (DV × Store) :=
 codeF G PP (pol 72) CC lo (.loop c72_9) a72_8 [x0, ud, x2, ud, x4, ud, ud, ud, x8, x9, x10, ud, ud, ud, ud, ud, ud, ud, ud, ud, ud, ud, ud, ud, ud, ud, ud, ud, ud, ud, ud, ud, ud, ud, ud, ud, ud, ud, ud, ud, ud, ud, ud, ud, ud, ud, ud, ud, ud] σ
 (blockC 0 a72_7 (seqC G PP (pol 72) CC lo c72_23 a72_23 (finR PP Go.Proofs.Try.f72.results.toList)))
noncomputable def F72 (G : GuardT) (lo : Nat) (x0 x1 x2 : DV) (σ : Store) : Option (DV × Store) :=
 codeF G PP (pol 72) CC lo c72_0 a72_0 [x0, x1, x2, ud, ud, ud, ud, ud, ud, ud, ud, ud, ud, ud, ud, ud, ud, ud, ud, ud, ud, ud, ud, ud, ud, ud, ud, ud, ud, ud, ud, ud, ud, ud, ud, ud, ud, ud, ud, ud, ud, ud, ud, ud, ud, ud, ud, ud, ud] σ (finR PP Go.Proofs.Try.f72.results.toList)
theorem f72_L0_eq (G : GuardT) (hG : GuardOk G) (lo : Nat) (x0 x2 x4 x8 x9 x10 : DV) (σ : Store) : f72_L0 G lo x0 x2 x4 x8 x9 x10 σ =
 (binOp PP .lss 3 x9 x10).bind fun x17 =>
 condK x17
 (
 (binOp PP .add 3 x9 x10).bind fun x20 =>
 (convert PP 3 174 x20).bind fun x21 =>
 (binOp PP .shr 174 x21 (DV.p (PV.int IntKind.u64 (1)))).bind fun x22 =>
 (convert PP 174 3 x22).bind fun x23 =>
 (indexAddr PP 116 x0 x23).bind fun x27 =>
 (load PP 120 x27 σ).bind fun x28 =>
 (load PP 120 x4 σ).bind fun x29 =>
 (pureFn CC x2 [x28, x29] σ).bind fun x30 =>
 (binOp PP .lss 3 x30 (DV.p (PV.int IntKind.i64 (0)))).bind fun x31 =>
 condK x31
 (
 (binOp PP .add 3 x23 (DV.p (PV.int IntKind.i64 (1)))).bind fun x33 =>
 f72_L0 G lo x0 x2 x4 x8 x33 x10 σ
 )
 (
 f72_L0 G lo x0 x2 x4 x8 x9 x23 σ
 )
 )
 (
 (binOp PP .lss 3 x9 x8).bind fun x38 =>
 G _ x38 true (some (x2, σ)) σ fun x40 σ1 =>
 G _ x38 true (some (x0, σ1)) σ1 fun x41 σ2 =>
 G _ x38 true (some (x9, σ2)) σ2 fun x42 σ3 =>
 G _ x38 true ((indexAddr PP 116 x41 x42).bind fun v => some (v, σ3)) σ3 fun x43 σ4 =>
 G _ x38 true ((load PP 120 x43 σ4).bind fun v => some (v, σ4)) σ4 fun x44 σ5 =>
 G _ x38 true ((load PP 120 x4 σ5).bind fun v => some (v, σ5)) σ5 fun x45 σ6 =>
 G _ x38 true ((pureFn CC x40 [x44, x45] σ6).bind fun v => some (v, σ6)) σ6 fun x46 σ7 =>
 G _ x38 true ((binOp PP .eql 3 x46 (DV.p (PV.int IntKind.i64 (0)))).bind fun v => some (v, σ7)) σ7 fun x47 σ8 =>
 (pickV x38 x47 (DV.p (PV.bool false))).bind fun x48 =>
 some ((DV.tuple [x9, x48]), σ8)
 ) := (loopF_eq G hG).trans (by kernel_rfl)
theorem F72_eq (G : GuardT) (lo : Nat) (x0 x1 x2 : DV) (σ : Store) : F72 G lo x0 x1 x2 σ =
 (boxV x1).bind fun z4 =>
 (len PP 116 x0 (σ ++ [Row.mix z4])).bind fun x13 =>
 f72_L0 G lo x0 x2 (DV.ptr (List.length σ) 0) x13 (DV.p (PV.int IntKind.i64 (0))) x13 (σ ++ [Row.mix z4]) := by kernel_rfl
theorem F72_call {lo : Nat} {x0 x1 x2 : DV} {σ : Store} {r : DV × Store} (h : F72 guardT lo x0 x1 x2 σ = some r) : CC lo 72 [x0, x1, x2] σ = some r :=
 callL_run Go.Proofs.Try.func72 (by decide +kernel) rfl (by decide +kernel) h
noncomputable def c73_0 : Code := bodyOf Go.Proofs.Try.f73
noncomputable def a73_0 : Ann := (pol 73).ann
noncomputable def a73_7 : Ann := right (left (right (right a73_0)))
noncomputable def a73_8 : Ann := left a73_7
noncomputable def c73_9 : Code := fstC (fstC (sndC (fstC (sndC (sndC c73_0)))))
noncomputable def a73_16 : Ann := left (right (left a73_8))
noncomputable def a73_19 : Ann := right (left a73_16)
noncomputable def a73_20 : Ann := left a73_19
noncomputable def c73_21 : Code := fstC (fstC (sndC (fstC (fstC (sndC c73_9)))))
noncomputable def c73_31 : Code := sndC (sndC c73_9)
noncomputable def a73_31 : Ann := right (right (left a73_8))
noncomputable def c73_32 : Code := sndC (sndC (sndC c73_0))
noncomputable def a73_32 : Ann := right (right (right a73_0))
noncomputable def f73_L0 (G : GuardT) (lo : Nat) (x2 x3 x5 x6 : DV) (σ : Store) : Option (DV × Store) :=
 codeF G PP (pol 73) CC lo (.loop c73_9) a73_8 [ud, ud, x2, x3, ud, x5, x6, ud, ud, ud, ud, ud, ud, ud, ud, ud, ud, ud, ud, ud, ud, ud, ud, ud, ud, ud, ud, ud, ud, ud, ud, ud, ud, ud, ud, ud, ud] σ
 (blockC 0 a73_7 (seqC G PP (pol 73) CC lo c73_32 a73_32 (finR PP Go.Proofs.Try.f73.results.toList)))
noncomputable def f73_L1 (G : GuardT) (lo : Nat) (x2 x3 x5 x6 x7 : DV) (σ : Store) : Option (DV × Store) :=
 codeF G PP (pol 73) CC lo (.loop c73_21) a73_20 [ud, ud, x2, x3, ud, x5, x6, x7, ud, ud, ud, ud, ud, ud, ud, ud, ud, ud, ud, ud, ud, ud, ud, ud, ud, ud, ud, ud, ud, ud, ud, ud, ud, ud, ud, ud, ud] σ
 (blockC 2 a73_19 (blockC 1 a73_16 (seqC G PP (pol 73) CC lo c73_31 a73_31 (loopC G PP (pol 73) CC lo c73_9 a73_8 (blockC 0 a73_7 (seqC G PP (pol 73) CC lo c73_32 a73_32 (finR PP Go.Proofs.Try.f73.results.toList)))))))
noncomputable def F73 (G : GuardT) (lo : Nat) (x0 x1 : DV) (σ : Store) : Option (DV × Store) :=
 codeF G PP (pol 73) CC lo c73_0 a73_0 [x0, x1, ud, ud, ud, ud, ud, ud, ud, ud, ud, ud, ud, ud, ud, ud, ud, ud, ud, ud, ud, ud, ud, ud, ud, ud, ud, ud, ud, ud, ud, ud, ud, ud, ud, ud, ud] σ (finR PP Go.Proofs.Try.f73.results.toList)
theorem f73_L0_eq (G : GuardT) (hG : GuardOk G) (lo : Nat) (x2 x3 x5 x6 : DV) (σ : Store) : f73_L0 G lo x2 x3 x5 x6 σ =
 (fieldAddr PP 25 x2 1).bind fun x9 =>
 (load PP 22 x9 σ).bind fun x10 =>
 (len PP 22 x10 σ).bind fun x11 =>
 (binOp PP .lss 3 x6 x11).bind fun x12 =>
 condK x12
 (
 f73_L1 G lo x2 x3 x5 x6 (DV.p (PV.int IntKind.i64 (0))) σ
 )
 (
 some (x5, σ)
 ) := (loopF_eq G hG).trans (by kernel_rfl)
theorem f73_L1_eq (G : GuardT) (hG : GuardOk G) (lo : Nat) (x2 x3 x5 x6 x7 : DV) (σ : Store) : f73_L1 G lo x2 x3 x5 x6 x7 σ =
 (fieldAddr PP 25 x3 1).bind fun x16 =>
 (load PP 22 x16 σ).bind fun x17 =>
 (len PP 22 x17 σ).bind fun x18 =>
 (binOp PP .lss 3 x7 x18).bind fun x19 =>
 condK x19
 (
 (fieldAddr PP 25 x2 1).bind fun x23 =>
 (load PP 22 x23 σ).bind fun x24 =>
 (indexAddr PP 22 x24 x6).bind fun x26 =>
 (load PP 3 x26 σ).bind fun x27 =>
 (fieldAddr PP 25 x3 1).bind fun x28 =>
 (load PP 22 x28 σ).bind fun x29 =>
 (indexAddr PP 22 x29 x7).bind fun x31 =>
 (load PP 3 x31 σ).bind fun x32 =>
 (buildSlice PP none 22 2 [(0, x27), (1, x32)] σ).bind fun r33_1 =>
 (buildSlice PP none 48 1 [(0, r33_1.1)] r33_1.2).bind fun r34_2 =>
 (append PP lo false 48 48 x5 r34_2.1 r34_2.2).bind fun r35_3 =>
 (binOp PP .add 3 x7 (DV.p (PV.int IntKind.i64 (1)))).bind fun x21 =>
 f73_L1 G lo x2 x3 r35_3.1 x6 x21 r35_3.2
 )
 (
 (binOp PP .add 3 x6 (DV.p (PV.int IntKind.i64 (1)))).bind fun x14 =>
 f73_L0 G lo x2 x3 x5 x14 σ
 ) := (loopF_eq G hG).trans (by kernel_rfl)
theorem F73_eq (G : GuardT) (lo : Nat) (x0 x1 : DV) (σ : Store) : F73 G lo x0 x1 σ =
 (boxV x0).bind fun z2 =>
 (boxV x1).bind fun z3 =>
 f73_L0 G lo (DV.ptr (List.length σ) 0) (DV.ptr (List.length (σ ++ [Row.mix z2])) 0) (DV.p PV.nilsl) (DV.p (PV.int IntKind.i64 (0))) ((σ ++ [Row.mix z2]) ++ [Row.mix z3]) := by kernel_rfl
theorem F73_call {lo : Nat} {x0 x1 : DV} {σ : Store} {r : DV × Store} (h : F73 guardT lo x0 x1 σ = some r) : CC lo 73 [x0, x1] σ = some r :=
 callL_run Go.Proofs.Try.func73 (by decide +kernel) rfl (by decide +kernel) h
noncomputable def c74_0 : Code := bodyOf Go.Proofs.Try.f74
noncomputable def a74_0 : Ann := (pol 74).ann
noncomputable def a74_7 : Ann := right (left (right (right a74_0)))
noncomputable def a74_8 : Ann := left a74_7
noncomputable def c74_9 : Code := fstC (fstC (sndC (fstC (sndC (sndC c74_0)))))
noncomputable def a74_16 : Ann := left (right (left a74_8))
noncomputable def a74_19 : Ann := right (left a74_16)
noncomputable def a74_20 : Ann := left a74_19
noncomputable def c74_21 : Code := fstC (fstC (sndC (fstC (fstC (sndC c74_9)))))
noncomputable def a74_28 : Ann := left (right (left a74_20))
noncomputable def c74_34 : Code := sndC (sndC c74_21)
noncomputable def a74_34 : Ann := right (right (left a74_20))
noncomputable def c74_35 : Code := sndC (sndC c74_9)
noncomputable def a74_35 : Ann := right (right (left a74_8))
noncomputable def c74_36 : Code := sndC (sndC (sndC c74_0))
noncomputable def a74_36 : Ann := right (right (right a74_0))
noncomputable def f74_L0 (G : GuardT) (lo : Nat) (x2 x3 x4 x7 x8 : DV) (σ : Store) : Option (DV × Store) :=
 codeF G PP (pol 74) CC lo (.loop c74_9) a74_8 [ud, ud, x2, x3, x4, ud, ud, x7, x8, ud, ud, ud, ud, ud, ud, ud, ud, ud, ud, ud, ud, ud, ud, ud, ud, ud, ud, ud, ud, ud, ud, ud, ud, ud, ud, ud, ud, ud, ud, ud, ud, ud, ud, ud, ud, ud, ud, ud, ud, ud, ud, ud, ud, ud, ud, ud, ud, ud, ud] σ
 (blockC 0 a74_7 (seqC G PP (pol 74) CC lo c74_36 a74_36 (finR PP Go.Proofs.Try.f74.results.toList)))
noncomputable def f74_L1 (G : GuardT) (lo : Nat) (x2 x3 x4 x7 x8 x9 : DV) (σ : Store) : Option (DV × Store) :=
 codeF G PP (pol 74) CC lo (.loop c74_21) a74_20 [ud, ud, x2, x3, x4, ud, ud, x7, x8, x9, ud, ud, ud, ud, ud, ud, ud, ud, ud, ud, ud, ud, ud, ud, ud, ud, ud, ud, ud, ud, ud, ud, ud, ud, ud, ud, ud, ud, ud, ud, ud, ud, ud, ud, ud, ud, ud, ud, ud, ud, ud, ud, ud, ud, ud, ud, ud, ud, ud] σ
 (blockC 2 a74_19 (blockC 1 a74_16 (seqC G PP (pol 74) CC lo c74_35 a74_35 (loopC G PP (pol 74) CC lo c74_9 a74_8 (blockC 0 a74_7 (seqC G PP (pol 74) CC lo c74_36 a74_36 (finR PP Go.Proofs.Try.f74.results.toList)))))))
def f74_J0_fr (x2 x3 x4 x7 x8 x9 x16 x17 x18 x19 x22 x23 x24 x25 x26 x27 x28 x29 x30 x31 x32 x33 x34 x35 x36 x37 x38 x39 x40 x41 x42 x43 x44 x45 x46 x47 x48 x49 x50 x51 x52 x53 x54 x55 x56 x57 : DV) : Frame := [ud, ud, x2, x3, x4, ud, ud, x7, x8, x9, ud, ud, ud, ud, ud, ud, x16, x17, x18, x19, ud, ud, x22, x23, x24, x25, x26, x27, x28, x29, x30, x31, x32, x33, x34, x35, x36, x37, x38, x39, x40, x41, x42, x43, x44, x45, x46, x47, x48, x49, x50, x51, x52, x53, x54, x55, x56, x57, ud]
noncomputable def f74_J0 (G : GuardT) (lo : Nat) (x2 x3 x4 x7 x8 x9 x16 x17 x18 x19 x22 x23 x24 x25 x26 x27 x28 x29 x30 x31 x32 x33 x34 x35 x36 x37 x38 x39 x40 x41 x42 x43 x44 x45 x46 x47 x48 x49 x50 x51 x52 x53 x54 x55 x56 x57 : DV) (σ : Store) : Option (DV × Store) :=
 (blockC 3 a74_28 (seqC G PP (pol 74) CC lo c74_34 a74_34 (loopC G PP (pol 74) CC lo c74_21 a74_20 (blockC 2 a74_19 (blockC 1 a74_16 (seqC G PP (pol 74) CC lo c74_35 a74_35 (loopC G PP (pol 74) CC lo c74_9 a74_8 (blockC 0 a74_7 (seqC G PP (pol 74) CC lo c74_36 a74_36 (finR PP Go.Proofs.Try.f74.results.toList)))))))))) .normal (f74_J0_fr x2 x3 x4 x7 x8 x9 x16 x17 x18 x19 x22 x23 x24 x25 x26 x27 x28 x29 x30 x31 x32 x33 x34 x35 x36 x37 x38 x39 x40 x41 x42 x43 x44 x45 x46 x47 x48 x49 x50 x51 x52 x53 x54 x55 x56 x57) σ
noncomputable def F74 (G : GuardT) (lo : Nat) (x0 x1 x2 : DV) (σ : Store) : Option (DV × Store) :=
 codeF G PP (pol 74) CC lo c74_0 a74_0 [x0, x1, x2, ud, ud, ud, ud, ud, ud, ud, ud, ud, ud, ud, ud, ud, ud, ud, ud, ud, ud, ud, ud, ud, ud, ud, ud, ud, ud, ud, ud, ud, ud, ud, ud, ud, ud, ud, ud, ud, ud, ud, ud, ud, ud, ud, ud, ud, ud, ud, ud, ud, ud, ud, ud, ud, ud, ud, ud] σ (finR PP Go.Proofs.Try.f74.results.toList)
theorem f74_L0_eq (G : GuardT) (hG : GuardOk G) (lo : Nat) (x2 x3 x4 x7 x8 : DV) (σ : Store) : f74_L0 G lo x2 x3 x4 x7 x8 σ =
 (fieldAddr PP 25 x3 0).bind fun x11 =>
 (load PP 3 x11 σ).bind fun x12 =>
 (binOp PP .lss 3 x8 x12).bind fun x13 =>
 condK x13
 (
 f74_L1 G lo x2 x3 x4 x7 x8 (DV.p (PV.int IntKind.i64 (0))) σ
 )
 (
 some (x7, σ)
 ) := (loopF_eq G hG).trans (by kernel_rfl)
theorem f74_L1_eq (G : GuardT) (hG : GuardOk G) (lo : Nat) (x2 x3 x4 x7 x8 x9 : DV) (σ : Store) : f74_L1 G lo x2 x3 x4 x7 x8 x9 σ =
 (fieldAddr PP 25 x4 0).bind fun x17 =>
 (load PP 3 x17 σ).bind fun x18 =>
 (binOp PP .lss 3 x9 x18).bind fun x19 =>
 condK x19
 (
 (load PP 25 x3 σ).bind fun x22 =>
 (indexAddr PP 22 x2 (DV.p (PV.int IntKind.i64 (0)))).bind fun x24 =>
 (load PP 3 x24 σ).bind fun x25 =>
 (fieldAddr PP 25 x4 2).bind fun x26 =>
 (load PP 22 x26 σ).bind fun x27 =>
 (indexAddr PP 22 x2 (DV.p (PV.int IntKind.i64 (1)))).bind fun x29 =>
 (load PP 3 x29 σ).bind fun x30 =>
 (indexAddr PP 22 x27 x30).bind fun x31 =>
 (load PP 3 x31 σ).bind fun x32 =>
 (build PP 106 [(0, x25), (1, x32), (2, x8)]).bind fun x34 =>
 (pureFn CC (DV.fn 89 []) [x22, x34] σ).bind fun x35 =>
 G _ x35 true ((load PP 25 x4 σ).bind fun v => some (v, σ)) σ fun x37 σ1 =>
 G _ x35 true (some (x2, σ1)) σ1 fun x38 σ2 =>
 G _ x35 true ((indexAddr PP 22 x38 (DV.p (PV.int IntKind.i64 (1)))).bind fun v => some (v, σ2)) σ2 fun x39 σ3 =>
 G _ x35 true ((load PP 3 x39 σ3).bind fun v => some (v, σ3)) σ3 fun x40 σ4 =>
 G _ x35 true ((fieldAddr PP 25 x3 2).bind fun v => some (v, σ4)) σ4 fun x41 σ5 =>
 G _ x35 true ((load PP 22 x41 σ5).bind fun v => some (v, σ5)) σ5 fun x42 σ6 =>
 G _ x35 true (some (x2, σ6)) σ6 fun x43 σ7 =>
 G _ x35 true ((indexAddr PP 22 x43 (DV.p (PV.int IntKind.i64 (0)))).bind fun v => some (v, σ7)) σ7 fun x44 σ8 =>
 G _ x35 true ((load PP 3 x44 σ8).bind fun v => some (v, σ8)) σ8 fun x45 σ9 =>
 G _ x35 true ((indexAddr PP 22 x42 x45).bind fun v => some (v, σ9)) σ9 fun x46 σ10 =>
 G _ x35 true ((load PP 3 x46 σ10).bind fun v => some (v, σ10)) σ10 fun x47 σ11 =>
 G _ x35 true (some (x9, σ11)) σ11 fun x48 σ12 =>
 G _ x35 true ((build PP 106 [(0, x40), (1, x47), (2, x48)]).bind fun v => some (v, σ12)) σ12 fun x49 σ13 =>
 G _ x35 true ((pureFn CC (DV.fn 89 []) [x37, x49] σ13).bind fun v => some (v, σ13)) σ13 fun x50 σ14 =>
 (pickV x35 x50 (DV.p (PV.bool false))).bind fun x51 =>
 condK x51
 (
 (buildSlice PP none 22 2 [(0, x8), (1, x9)] σ14).bind fun r55_15 =>
 (buildSlice PP none 48 1 [(0, r55_15.1)] r55_15.2).bind fun r56_16 =>
 (append PP lo false 48 48 x7 r56_16.1 r56_16.2).bind fun r57_17 =>
 f74_J0 G lo x2 x3 x4 r57_17.1 x8 x9 x9 x17 x18 x19 x22 x2 x24 x25 x26 x27 x2 x29 x30 x31 x32 x8 x34 x35 x35 x37 x38 x39 x40 x41 x42 x43 x44 x45 x46 x47 x48 x49 x50 x51 x7 x8 x9 r55_15.1 r56_16.1 r57_17.1 r57_17.2
 )
 (
 f74_J0 G lo x2 x3 x4 x7 x8 x9 x9 x17 x18 x19 x22 x2 x24 x25 x26 x27 x2 x29 x30 x31 x32 x8 x34 x35 x35 x37 x38 x39 x40 x41 x42 x43 x44 x45 x46 x47 x48 x49 x50 x51 ud ud ud ud ud ud σ14
 )
 )
 (
 (binOp PP .add 3 x8 (DV.p (PV.int IntKind.i64 (1)))).bind fun x15 =>
 f74_L0 G lo x2 x3 x4 x7 x15 σ
 ) := (loopF_eq G hG).trans (by kernel_rfl)
theorem f74_J0_eq (G : GuardT) (lo : Nat) (x2 x3 x4 x7 x8 x9 x16 x17 x18 x19 x22 x23 x24 x25 x26 x27 x28 x29 x30 x31 x32 x33 x34 x35 x36 x37 x38 x39 x40 x41 x42 x43 x44 x45 x46 x47 x48 x49 x50 x51 x52 x53 x54 x55 x56 x57 : DV) (σ : Store) : f74_J0 G lo x2 x3 x4 x7 x8 x9 x16 x17 x18 x19 x22 x23 x24 x25 x26 x27 x28 x29 x30 x31 x32 x33 x34 x35 x36 x37 x38 x39 x40 x41 x42 x43 x44 x45 x46 x47 x48 x49 x50 x51 x52 x53 x54 x55 x56 x57 σ =
 (binOp PP .add 3 x9 (DV.p (PV.int IntKind.i64 (1)))).bind fun x21 =>
 f74_L1 G lo x2 x3 x4 x7 x8 x21 σ := by kernel_rfl
theorem F74_eq (G : GuardT) (lo : Nat) (x0 x1 x2 : DV) (σ : Store) : F74 G lo x0 x1 x2 σ =
 (boxV x0).bind fun z3 =>
 (boxV x1).bind fun z4 =>
 f74_L0 G lo x2 (DV.ptr (List.length σ) 0) (DV.ptr (List.length (σ ++ [Row.mix z3])) 0) (DV.p PV.nilsl) (DV.p (PV.int IntKind.i64 (0))) ((σ ++ [Row.mix z3]) ++ [Row.mix z4]) := by kernel_rfl
theorem F74_call {lo : Nat} {x0 x1 x2 : DV} {σ : Store} {r : DV × Store} (h : F74 guardT lo x0 x1 x2 σ = some r) : CC lo 74 [x0, x1, x2] σ = some r :=
 callL_run Go.Proofs.Try.func74 (by decide +kernel) rfl (by decide +kernel) h
noncomputable def c75_0 : Code := bodyOf Go.Proofs.Try.f75
noncomputable def a75_0 : Ann := (pol 75).ann
noncomputable def a75_5 : Ann := right (left (right a75_0))
noncomputable def a75_6 : Ann := left a75_5
noncomputable def c75_7 : Code := fstC (fstC (sndC (fstC (sndC c75_0))))
noncomputable def c75_23 : Code := sndC (sndC c75_0)
noncomputable def a75_23 : Ann := right (right a75_0)
noncomputable def f75_L0 (G : GuardT) (lo : Nat) (x0 x1 x5 : DV) (σ : Store) : Option (DV × Store) :=
 codeF G PP (pol 75) CC lo (.loop c75_7) a75_6 [x0, x1, ud, ud, ud, x5, ud, ud, ud, ud, ud, ud, ud, ud, ud, ud, ud, ud, ud] σ
 (blockC 0 a75_5 (seqC G PP (pol 75) CC lo c75_23 a75_23 (finR PP Go.Proofs.Try.f75.results.toList)))
noncomputable def F75 (G : GuardT) (lo : Nat) (x0 x1 : DV) (σ : Store) : Option (DV × Store) :=
 codeF G PP (pol 75) CC lo c75_0 a75_0 [x0, x1, ud, ud, ud, ud, ud, ud, ud, ud, ud, ud, ud, ud, ud, ud, ud, ud, ud] σ (finR PP Go.Proofs.Try.f75.results.toList)
theorem f75_L0_eq (G : GuardT) (hG : GuardOk G) (lo : Nat) (x0 x1 x5 : DV) (σ : Store) : f75_L0 G lo x0 x1 x5 σ =
 (len PP 48 x0 σ).bind fun x8 =>
 (binOp PP .lss 3 x5 x8).bind fun x9 =>
 condK x9
 (
 (indexAddr PP 48 x0 x5).bind fun x14 =>
 (load PP 22 x14 σ).bind fun x15 =>
 (pureFn CC (DV.fn 61 []) [x15, x1] σ).bind fun x17 =>
 condK x17
 (
 some (x5, σ)
 )
 (
 (binOp PP .add 3 x5 (DV.p (PV.int IntKind.i64 (1)))).bind fun x11 =>
 f75_L0 G lo x0 x1 x11 σ
 )
 )
 (
 some ((DV.p (PV.int IntKind.i64 (-1))), σ)
 ) := (loopF_eq G hG).trans (by kernel_rfl)
theorem F75_eq (G : GuardT) (lo : Nat) (x0 x1 : DV) (σ : Store) : F75 G lo x0 x1 σ =
 f75_L0 G lo x0 x1 (DV.p (PV.int IntKind.i64 (0))) σ := by kernel_rfl
theorem F75_call {lo : Nat} {x0 x1 : DV} {σ : Store} {r : DV × Store} (h : F75 guardT lo x0 x1 σ = some r) : CC lo 75 [x0, x1] σ = some r :=
 callL_run Go.Proofs.Try.func75 (by decide +kernel) rfl (by decide +kernel) h
noncomputable def c21_0 : Code := bodyOf Go.Proofs.Try.f21
noncomputable def a21_0 : Ann := (pol 21).ann
noncomputable def a21_13 : Ann := right (left (right (right a21_0)))
noncomputable def a21_14 : Ann := left a21_13
noncomputable def c21_15 : Code := fstC (fstC (sndC (fstC (sndC (sndC c21_0)))))
noncomputable def c21_31 : Code := sndC (sndC (sndC c21_0))
noncomputable def a21_31 : Ann := right (right (right a21_0))
noncomputable def f21_L0 (G : GuardT) (lo : Nat) (x2 x3 x5 : DV) (σ : Store) : Option (DV × Store) :=
 codeF G PP (pol 21) CC lo (.loop c21_15) a21_14 [ud, ud, x2, x3, ud, x5, ud, ud, ud, ud, ud, ud, ud, ud, ud, ud, ud, ud, ud, ud, ud, ud, ud, ud, ud, ud, ud, ud, ud, ud, ud, ud, ud, ud, ud, ud, ud, ud, ud, ud, ud, ud, ud, ud, ud, ud] σ
 (blockC 0 a21_13 (seqC G PP (pol 21) CC lo c21_31 a21_31 (finR PP Go.Proofs.Try.f21.results.toList)))
noncomputable def F21 (G : GuardT) (lo : Nat) (x0 x1 : DV) (σ : Store) : Option (DV × Store) :=
 codeF G PP (pol 21) CC lo c21_0 a21_0 [x0, x1, ud, ud, ud, ud, ud, ud, ud, ud, ud, ud, ud, ud, ud, ud, ud, ud, ud, ud, ud, ud, ud, ud, ud, ud, ud, ud, ud, ud, ud, ud, ud, ud, ud, ud, ud, ud, ud, ud, ud, ud, ud, ud, ud, ud] σ (finR PP Go.Proofs.Try.f21.results.toList)
theorem f21_L0_eq (G : GuardT) (hG : GuardOk G) (lo : Nat) (x2 x3 x5 : DV) (σ : Store) : f21_L0 G lo x2 x3 x5 σ =
 (fieldAddr PP 47 x2 2).bind fun x29 =>
 (load PP 45 x29 σ).bind fun x30 =>
 (len PP 45 x30 σ).bind fun x31 =>
 (binOp PP .lss 3 x5 x31).bind fun x32 =>
 condK x32
 (
 (fieldAddr PP 47 x2 2).bind fun x35 =>
 (load PP 45 x35 σ).bind fun x36 =>
 (indexAddr PP 45 x36 x5).bind fun x38 =>
 (load PP 129 x38 σ).bind fun x39 =>
 (fieldAddr PP 47 x3 2).bind fun x40 =>
 (load PP 45 x40 σ).bind fun x41 =>
 (indexAddr PP 45 x41 x5).bind fun x43 =>
 (load PP 129 x43 σ).bind fun x44 =>
 (binOp PP .neq 129 x39 x44).bind fun x45 =>
 condK x45
 (
 some ((DV.p (PV.bool false)), σ)
 )
 (
 (binOp PP .add 3 x5 (DV.p (PV.int IntKind.i64 (1)))).bind fun x34 =>
 f21_L0 G lo x2 x3 x34 σ
 )
 )
 (
 some ((DV.p (PV.bool true)), σ)
 ) := (loopF_eq G hG).trans (by kernel_rfl)
theorem F21_eq (G : GuardT) (lo : Nat) (x0 x1 : DV) (σ : Store) : F21 G lo x0 x1 σ =
 (boxV x0).bind fun z2 =>
 (boxV x1).bind fun z3 =>
 (fieldAddr PP 47 (DV.ptr (List.length σ) 0) 0).bind fun x6 =>
 (load PP 3 x6 ((σ ++ [Row.mix z2]) ++ [Row.mix z3])).bind fun x7 =>
 (fieldAddr PP 47 (DV.ptr (List.length (σ ++ [Row.mix z2])) 0) 0).bind fun x8 =>
 (load PP 3 x8 ((σ ++ [Row.mix z2]) ++ [Row.mix z3])).bind fun x9 =>
 (binOp PP .neq 3 x7 x9).bind fun x10 =>
 G _ x10 false ((fieldAddr PP 47 (DV.ptr (List.length σ) 0) 1).bind fun v => some (v, ((σ ++ [Row.mix z2]) ++ [Row.mix z3]))) ((σ ++ [Row.mix z2]) ++ [Row.mix z3]) fun x12 σ1 =>
 G _ x10 false ((load PP 22 x12 σ1).bind fun v => some (v, σ1)) σ1 fun x13 σ2 =>
 G _ x10 false ((fieldAddr PP 47 (DV.ptr (List.length (σ ++ [Row.mix z2])) 0) 1).bind fun v => some (v, σ2)) σ2 fun x14 σ3 =>
 G _ x10 false ((load PP 22 x14 σ3).bind fun v => some (v, σ3)) σ3 fun x15 σ4 =>
 G _ x10 false ((pureFn CC (DV.fn 61 []) [x13, x15] σ4).bind fun v => some (v, σ4)) σ4 fun x16 σ5 =>
 G _ x10 false ((unOp .not x16).bind fun v => some (v, σ5)) σ5 fun x17 σ6 =>
 (pickV x10 (DV.p (PV.bool true)) x17).bind fun x18 =>
 G _ x18 false ((fieldAddr PP 47 (DV.ptr (List.length σ) 0) 2).bind fun v => some (v, σ6)) σ6 fun x20 σ7 =>
 G _ x18 false ((load PP 45 x20 σ7).bind fun v => some (v, σ7)) σ7 fun x21 σ8 =>
 G _ x18 false ((len PP 45 x21 σ8).bind fun v => some (v, σ8)) σ8 fun x22 σ9 =>
 G _ x18 false ((fieldAddr PP 47 (DV.ptr (List.length (σ ++ [Row.mix z2])) 0) 2).bind fun v => some (v, σ9)) σ9 fun x23 σ10 =>
 G _ x18 false ((load PP 45 x23 σ10).bind fun v => some (v, σ10)) σ10 fun x24 σ11 =>
 G _ x18 false ((len PP 45 x24 σ11).bind fun v => some (v, σ11)) σ11 fun x25 σ12 =>
 G _ x18 false ((binOp PP .neq 3 x22 x25).bind fun v => some (v, σ12)) σ12 fun x26 σ13 =>
 (pickV x18 (DV.p (PV.bool true)) x26).bind fun x27 =>
 condK x27
 (
 some ((DV.p (PV.bool false)), σ13)
 )
 (
 f21_L0 G lo (DV.ptr (List.length σ) 0) (DV.ptr (List.length (σ ++ [Row.mix z2])) 0) (DV.p (PV.int IntKind.i64 (0))) σ13
 ) := by kernel_rfl
theorem F21_call {lo : Nat} {x0 x1 : DV} {σ : Store} {r : DV × Store} (h : F21 guardT lo x0 x1 σ = some r) : CC lo 21 [x0, x1] σ = some r :=
 callL_run Go.Proofs.Try.func21 (by decide +kernel) rfl (by decide +kernel) h
noncomputable def c22_0 : Code := bodyOf Go.Proofs.Try.f22
noncomputable def a22_0 : Ann := (pol 22).ann
noncomputable def a22_7 : Ann := right (left (right (right a22_0)))
noncomputable def a22_8 : Ann := left a22_7
noncomputable def c22_9 : Code := fstC (fstC (sndC (fstC (sndC (sndC c22_0)))))
noncomputable def a22_16 : Ann := left (right (left a22_8))
noncomputable def a22_21 : Ann := right (right (left a22_16))
noncomputable def a22_22 : Ann := left a22_21
noncomputable def c22_23 : Code := fstC (fstC (sndC (sndC (fstC (fstC (sndC c22_9))))))
noncomputable def a22_30 : Ann := left (right (left a22_22))
noncomputable def c22_36 : Code := sndC (sndC c22_23)
noncomputable def a22_36 : Ann := right (right (left a22_22))
noncomputable def c22_37 : Code := sndC (sndC c22_9)
noncomputable def a22_37 : Ann := right (right (left a22_8))
noncomputable def c22_38 : Code := sndC (sndC (sndC c22_0))
noncomputable def a22_38 : Ann := right (right (right a22_0))
noncomputable def a22_43 : Ann := right (left (right a22_38))
noncomputable def a22_44 : Ann := left a22_43
noncomputable def c22_45 : Code := fstC (fstC (sndC (fstC (sndC c22_38))))
noncomputable def a22_52 : Ann := left (right (left a22_44))
noncomputable def a22_55 : Ann := right (left a22_52)
noncomputable def a22_56 : Ann := left a22_55
noncomputable def c22_57 : Code := fstC (fstC (sndC (fstC (fstC (sndC c22_45)))))
noncomputable def a22_64 : Ann := left (right (left a22_56))
noncomputable def c22_70 : Code := sndC (sndC c22_57)
noncomputable def a22_70 : Ann := right (right (left a22_56))
noncomputable def c22_71 : Code := sndC (sndC c22_45)
noncomputable def a22_71 : Ann := right (right (left a22_44))
noncomputable def c22_72 : Code := sndC (sndC c22_38)
noncomputable def a22_72 : Ann := right (right a22_38)
noncomputable def a22_77 : Ann := right (left (right a22_72))
noncomputable def a22_78 : Ann := left a22_77
noncomputable def c22_79 : Code := fstC (fstC (sndC (fstC (sndC c22_72))))
noncomputable def a22_86 : Ann := left (right (left a22_78))
noncomputable def c22_93 : Code := sndC (fstC (fstC (sndC c22_79)))
noncomputable def a22_93 : Ann := right (left a22_86)
noncomputable def a22_97 : Ann := right (right a22_93)
noncomputable def a22_98 : Ann := left a22_97
noncomputable def c22_99 : Code := fstC (fstC (sndC (sndC c22_93)))
noncomputable def c22_109 : Code := sndC (sndC c22_79)
noncomputable def a22_109 : Ann := right (right (left a22_78))
noncomputable def c22_110 : Code := sndC (sndC c22_72)
noncomputable def a22_110 : Ann := right (right a22_72)
noncomputable def f22_L0 (G : GuardT) (lo : Nat) (x2 x3 x4 x6 x7 : DV) (σ : Store) : Option (DV × Store) :=
 codeF G PP (pol 22) CC lo (.loop c22_9) a22_8 [ud, ud, x2, x3, x4, ud, x6, x7, ud, ud, ud, ud, ud, ud, ud, ud, ud, ud, ud, ud, ud, ud, ud, ud, ud, ud, ud, ud, ud, ud, ud, ud, ud, ud, ud, ud, ud, ud, ud, ud, ud, ud, ud, ud, ud, ud, ud, ud, ud, ud, ud, ud, ud, ud, ud, ud, ud, ud, ud, ud, ud, ud, ud, ud, ud, ud, ud, ud, ud, ud, ud, ud, ud, ud, ud, ud, ud, ud, ud, ud, ud, ud, ud, ud, ud, ud, ud, ud, ud, ud, ud, ud, ud, ud, ud, ud, ud, ud, ud, ud, ud, ud, ud, ud, ud, ud, ud, ud, ud, ud, ud, ud, ud, ud, ud, ud, ud, ud, ud, ud, ud, ud, ud, ud, ud, ud, ud, ud, ud] σ
 (blockC 0 a22_7 (seqC G PP (pol 22) CC lo c22_38 a22_38 (finR PP Go.Proofs.Try.f22.results.toList)))
noncomputable def f22_L1 (G : GuardT) (lo : Nat) (x2 x3 x4 x6 x7 x8 x9 : DV) (σ : Store) : Option (DV × Store) :=
 codeF G PP (pol 22) CC lo (.loop c22_23) a22_22 [ud, ud, x2, x3, x4, ud, x6, x7, x8, x9, ud, ud, ud, ud, ud, ud, ud, ud, ud, ud, ud, ud, ud, ud, ud, ud, ud, ud, ud, ud, ud, ud, ud, ud, ud, ud, ud, ud, ud, ud, ud, ud, ud, ud, ud, ud, ud, ud, ud, ud, ud, ud, ud, ud, ud, ud, ud, ud, ud, ud, ud, ud, ud, ud, ud, ud, ud, ud, ud, ud, ud, ud, ud, ud, ud, ud, ud, ud, ud, ud, ud, ud, ud, ud, ud, ud, ud, ud, ud, ud, ud, ud, ud, ud, ud, ud, ud, ud, ud, ud, ud, ud, ud, ud, ud, ud, ud, ud, ud, ud, ud, ud, ud, ud, ud, ud, ud, ud, ud, ud, ud, ud, ud, ud, ud, ud, ud, ud, ud] σ
 (blockC 2 a22_21 (blockC 1 a22_16 (seqC G PP (pol 22) CC lo c22_37 a22_37 (loopC G PP (pol 22) CC lo c22_9 a22_8 (blockC 0 a22_7 (seqC G PP (pol 22) CC lo c22_38 a22_38 (finR PP Go.Proofs.Try.f22.results.toList)))))))
def f22_J0_fr (x2 x3 x4 x6 x7 x8 x9 x33 x34 x35 x36 x39 x40 x41 x42 x43 x44 x45 x46 x47 x48 x49 x50 x51 x52 : DV) : Frame := [ud, ud, x2, x3, x4, ud, x6, x7, x8, x9, ud, ud, ud, ud, ud, ud, ud, ud, ud, ud, ud, ud, ud, ud, ud, ud, ud, ud, ud, ud, ud, ud, ud, x33, x34, x35, x36, ud, ud, x39, x40, x41, x42, x43, x44, x45, x46, x47, x48, x49, x50, x51, x52, ud, ud, ud, ud, ud, ud, ud, ud, ud, ud, ud, ud, ud, ud, ud, ud, ud, ud, ud, ud, ud, ud, ud, ud, ud, ud, ud, ud, ud, ud, ud, ud, ud, ud, ud, ud, ud, ud, ud, ud, ud, ud, ud, ud, ud, ud, ud, ud, ud, ud, ud, ud, ud, ud, ud, ud, ud, ud, ud, ud, ud, ud, ud, ud, ud, ud, ud, ud, ud, ud, ud, ud, ud, ud, ud, ud]
noncomputable def f22_J0 (G : GuardT) (lo : Nat) (x2 x3 x4 x6 x7 x8 x9 x33 x34 x35 x36 x39 x40 x41 x42 x43 x44 x45 x46 x47 x48 x49 x50 x51 x52 : DV) (σ : Store) : Option (DV × Store) :=
 (blockC 3 a22_30 (seqC G PP (pol 22) CC lo c22_36 a22_36 (loopC G PP (pol 22) CC lo c22_23 a22_22 (blockC 2 a22_21 (blockC 1 a22_16 (seqC G PP (pol 22) CC lo c22_37 a22_37 (loopC G PP (pol 22) CC lo c22_9 a22_8 (blockC 0 a22_7 (seqC G PP (pol 22) CC lo c22_38 a22_38 (finR PP Go.Proofs.Try.f22.results.toList)))))))))) .normal (f22_J0_fr x2 x3 x4 x6 x7 x8 x9 x33 x34 x35 x36 x39 x40 x41 x42 x43 x44 x45 x46 x47 x48 x49 x50 x51 x52) σ
noncomputable def f22_L2 (G : GuardT) (lo : Nat) (x2 x3 x4 x6 x10 x11 : DV) (σ : Store) : Option (DV × Store) :=
 codeF G PP (pol 22) CC lo (.loop c22_45) a22_44 [ud, ud, x2, x3, x4, ud, x6, ud, ud, ud, x10, x11, ud, ud, ud, ud, ud, ud, ud, ud, ud, ud, ud, ud, ud, ud, ud, ud, ud, ud, ud, ud, ud, ud, ud, ud, ud, ud, ud, ud, ud, ud, ud, ud, ud, ud, ud, ud, ud, ud, ud, ud, ud, ud, ud, ud, ud, ud, ud, ud, ud, ud, ud, ud, ud, ud, ud, ud, ud, ud, ud, ud, ud, ud, ud, ud, ud, ud, ud, ud, ud, ud, ud, ud, ud, ud, ud, ud, ud, ud, ud, ud, ud, ud, ud, ud, ud, ud, ud, ud, ud, ud, ud, ud, ud, ud, ud, ud, ud, ud, ud, ud, ud, ud, ud, ud, ud, ud, ud, ud, ud, ud, ud, ud, ud, ud, ud, ud, ud] σ
 (blockC 4 a22_43 (seqC G PP (pol 22) CC lo c22_72 a22_72 (finR PP Go.Proofs.Try.f22.results.toList)))
noncomputable def f22_L3 (G : GuardT) (lo : Nat) (x2 x3 x4 x6 x10 x11 x12 : DV) (σ : Store) : Option (DV × Store) :=
 codeF G PP (pol 22) CC lo (.loop c22_57) a22_56 [ud, ud, x2, x3, x4, ud, x6, ud, ud, ud, x10, x11, x12, ud, ud, ud, ud, ud, ud, ud, ud, ud, ud, ud, ud, ud, ud, ud, ud, ud, ud, ud, ud, ud, ud, ud, ud, ud, ud, ud, ud, ud, ud, ud, ud, ud, ud, ud, ud, ud, ud, ud, ud, ud, ud, ud, ud, ud, ud, ud, ud, ud, ud, ud, ud, ud, ud, ud, ud, ud, ud, ud, ud, ud, ud, ud, ud, ud, ud, ud, ud, ud, ud, ud, ud, ud, ud, ud, ud, ud, ud, ud, ud, ud, ud, ud, ud, ud, ud, ud, ud, ud, ud, ud, ud, ud, ud, ud, ud, ud, ud, ud, ud, ud, ud, ud, ud, ud, ud, ud, ud, ud, ud, ud, ud, ud, ud, ud, ud] σ
 (blockC 6 a22_55 (blockC 5 a22_52 (seqC G PP (pol 22) CC lo c22_71 a22_71 (loopC G PP (pol 22) CC lo c22_45 a22_44 (blockC 4 a22_43 (seqC G PP (pol 22) CC lo c22_72 a22_72 (finR PP Go.Proofs.Try.f22.results.toList)))))))
def f22_J1_fr (x2 x3 x4 x6 x10 x11 x12 x59 x60 x61 x62 x65 x66 x67 x68 x69 x70 x71 x72 x73 x74 x75 x76 : DV) : Frame := [ud, ud, x2, x3, x4, ud, x6, ud, ud, ud, x10, x11, x12, ud, ud, ud, ud, ud, ud, ud, ud, ud, ud, ud, ud, ud, ud, ud, ud, ud, ud, ud, ud, ud, ud, ud, ud, ud, ud, ud, ud, ud, ud, ud, ud, ud, ud, ud, ud, ud, ud, ud, ud, ud, ud, ud, ud, ud, ud, x59, x60, x61, x62, ud, ud, x65, x66, x67, x68, x69, x70, x71, x72, x73, x74, x75, x76, ud, ud, ud, ud, ud, ud, ud, ud, ud, ud, ud, ud, ud, ud, ud, ud, ud, ud, ud, ud, ud, ud, ud, ud, ud, ud, ud, ud, ud, ud, ud, ud, ud, ud, ud, ud, ud, ud, ud, ud, ud, ud, ud, ud, ud, ud, ud, ud, ud, ud, ud, ud]
noncomputable def f22_J1 (G : GuardT) (lo : Nat) (x2 x3 x4 x6 x10 x11 x12 x59 x60 x61 x62 x65 x66 x67 x68 x69 x70 x71 x72 x73 x74 x75 x76 : DV) (σ : Store) : Option (DV × Store) :=
 (blockC 7 a22_64 (seqC G PP (pol 22) CC lo c22_70 a22_70 (loopC G PP (pol 22) CC lo c22_57 a22_56 (blockC 6 a22_55 (blockC 5 a22_52 (seqC G PP (pol 22) CC lo c22_71 a22_71 (loopC G PP (pol 22) CC lo c22_45 a22_44 (blockC 4 a22_43 (seqC G PP (pol 22) CC lo c22_72 a22_72 (finR PP Go.Proofs.Try.f22.results.toList)))))))))) .normal (f22_J1_fr x2 x3 x4 x6 x10 x11 x12 x59 x60 x61 x62 x65 x66 x67 x68 x69 x70 x71 x72 x73 x74 x75 x76) σ
noncomputable def f22_L4 (G : GuardT) (lo : Nat) (x2 x3 x4 x10 x13 x14 : DV) (σ : Store) : Option (DV × Store) :=
 codeF G PP (pol 22) CC lo (.loop c22_79) a22_78 [ud, ud, x2, x3, x4, ud, ud, ud, ud, ud, x10, ud, ud, x13, x14, ud, ud, ud, ud, ud, ud, ud, ud, ud, ud, ud, ud, ud, ud, ud, ud, ud, ud, ud, ud, ud, ud, ud, ud, ud, ud, ud, ud, ud, ud, ud, ud, ud, ud, ud, ud, ud, ud, ud, ud, ud, ud, ud, ud, ud, ud, ud, ud, ud, ud, ud, ud, ud, ud, ud, ud, ud, ud, ud, ud, ud, ud, ud, ud, ud, ud, ud, ud, ud, ud, ud, ud, ud, ud, ud, ud, ud, ud, ud, ud, ud, ud, ud, ud, ud, ud, ud, ud, ud, ud, ud, ud, ud, ud, ud, ud, ud, ud, ud, ud, ud, ud, ud, ud, ud, ud, ud, ud, ud, ud, ud, ud, ud, ud] σ
 (blockC 8 a22_77 (seqC G PP (pol 22) CC lo c22_110 a22_110 (finR PP Go.Proofs.Try.f22.results.toList)))
def f22_J2_fr (x2 x3 x4 x10 x13 x14 x80 x81 x82 x83 x86 x87 x88 x89 x90 x91 x92 x93 x94 x95 x96 x97 x98 x99 x100 : DV) : Frame := [ud, ud, x2, x3, x4, ud, ud, ud, ud, ud, x10, ud, ud, x13, x14, ud, ud, ud, ud, ud, ud, ud, ud, ud, ud, ud, ud, ud, ud, ud, ud, ud, ud, ud, ud, ud, ud, ud, ud, ud, ud, ud, ud, ud, ud, ud, ud, ud, ud, ud, ud, ud, ud, ud, ud, ud, ud, ud, ud, ud, ud, ud, ud, ud, ud, ud, ud, ud, ud, ud, ud, ud, ud, ud, ud, ud, ud, ud, ud, ud, x80, x81, x82, x83, ud, ud, x86, x87, x88, x89, x90, x91, x92, x93, x94, x95, x96, x97, x98, x99, x100, ud, ud, ud, ud, ud, ud, ud, ud, ud, ud, ud, ud, ud, ud, ud, ud, ud, ud, ud, ud, ud, ud, ud, ud, ud, ud, ud, ud]
noncomputable def f22_J2 (G : GuardT) (lo : Nat) (x2 x3 x4 x10 x13 x14 x80 x81 x82 x83 x86 x87 x88 x89 x90 x91 x92 x93 x94 x95 x96 x97 x98 x99 x100 : DV) (σ : Store) : Option (DV × Store) :=
 (seqC G PP (pol 22) CC lo c22_93 a22_93 (blockC 9 a22_86 (seqC G PP (pol 22) CC lo c22_109 a22_109 (loopC G PP (pol 22) CC lo c22_79 a22_78 (blockC 8 a22_77 (seqC G PP (pol 22) CC lo c22_110 a22_110 (finR PP Go.Proofs.Try.f22.results.toList))))))) .normal (f22_J2_fr x2 x3 x4 x10 x13 x14 x80 x81 x82 x83 x86 x87 x88 x89 x90 x91 x92 x93 x94 x95 x96 x97 x98 x99 x100) σ
noncomputable def f22_L5 (G : GuardT) (lo : Nat) (x2 x3 x4 x10 x13 x14 x15 x16 : DV) (σ : Store) : Option (DV × Store) :=
 codeF G PP (pol 22) CC lo (.loop c22_99) a22_98 [ud, ud, x2, x3, x4, ud, ud, ud, ud, ud, x10, ud, ud, x13, x14, x15, x16, ud, ud, ud, ud, ud, ud, ud, ud, ud, ud, ud, ud, ud, ud, ud, ud, ud, ud, ud, ud, ud, ud, ud, ud, ud, ud, ud, ud, ud, ud, ud, ud, ud, ud, ud, ud, ud, ud, ud, ud, ud, ud, ud, ud, ud, ud, ud, ud, ud, ud, ud, ud, ud, ud, ud, ud, ud, ud, ud, ud, ud, ud, ud, ud, ud, ud, ud, ud, ud, ud, ud, ud, ud, ud, ud, ud, ud, ud, ud, ud, ud, ud, ud, ud, ud, ud, ud, ud, ud, ud, ud, ud, ud, ud, ud, ud, ud, ud, ud, ud, ud, ud, ud, ud, ud, ud, ud, ud, ud, ud, ud, ud] σ
 (blockC 10 a22_97 (blockC 9 a22_86 (seqC G PP (pol 22) CC lo c22_109 a22_109 (loopC G PP (pol 22) CC lo c22_79 a22_78 (blockC 8 a22_77 (seqC G PP (pol 22) CC lo c22_110 a22_110 (finR PP Go.Proofs.Try.f22.results.toList)))))))
noncomputable def F22 (G : GuardT) (lo : Nat) (x0 x1 : DV) (σ : Store) : Option (DV × Store) :=
 codeF G PP (pol 22) CC lo c22_0 a22_0 [x0, x1, ud, ud, ud, ud, ud, ud, ud, ud, ud, ud, ud, ud, ud, ud, ud, ud, ud, ud, ud, ud, ud, ud, ud, ud, ud, ud, ud, ud, ud, ud, ud, ud, ud, ud, ud, ud, ud, ud, ud, ud, ud, ud, ud, ud, ud, ud, ud, ud, ud, ud, ud, ud, ud, ud, ud, ud, ud, ud, ud, ud, ud, ud, ud, ud, ud, ud, ud, ud, ud, ud, ud, ud, ud, ud, ud, ud, ud, ud, ud, ud, ud, ud, ud, ud, ud, ud, ud, ud, ud, ud, ud, ud, ud, ud, ud, ud, ud, ud, ud, ud, ud, ud, ud, ud, ud, ud, ud, ud, ud, ud, ud, ud, ud, ud, ud, ud, ud, ud, ud, ud, ud, ud, ud, ud, ud, ud, ud] σ (finR PP Go.Proofs.Try.f22.results.toList)
theorem f22_L0_eq (G : GuardT) (hG : GuardOk G) (lo : Nat) (x2 x3 x4 x6 x7 : DV) (σ : Store) : f22_L0 G lo x2 x3 x4 x6 x7 σ =
 (len PP 48 x6 σ).bind fun x22 =>
 (binOp PP .lss 3 x7 x22).bind fun x23 =>
 condK x23
 (
 (load PP 25 x2 σ).bind fun x26 =>
 (load PP 25 x3 σ).bind fun x27 =>
 (indexAddr PP 48 x6 x7).bind fun x30 =>
 (load PP 22 x30 σ).bind fun x31 =>
 (pureFn CC (DV.fn 74 []) [x26, x27, x31] σ).bind fun x32 =>
 f22_L1 G lo x2 x3 x4 x6 x7 x32 (DV.p (PV.int IntKind.i64 (0))) σ
 )
 (
 f22_L2 G lo x2 x3 x4 x6 (DV.p PV.nilsl) (DV.p (PV.int IntKind.i64 (0))) σ
 ) := (loopF_eq G hG).trans (by kernel_rfl)
theorem f22_L1_eq (G : GuardT) (hG : GuardOk G) (lo : Nat) (x2 x3 x4 x6 x7 x8 x9 : DV) (σ : Store) : f22_L1 G lo x2 x3 x4 x6 x7 x8 x9 σ =
 (len PP 48 x8 σ).bind fun x35 =>
 (binOp PP .lss 3 x9 x35).bind fun x36 =>
 condK x36
 (
 (indexAddr PP 48 x8 x9).bind fun x42 =>
 (load PP 22 x42 σ).bind fun x43 =>
 (pureFn CC (DV.fn 75 []) [x6, x43] σ).bind fun x44 =>
 (binOp PP .lss 3 x44 (DV.p (PV.int IntKind.i64 (0)))).bind fun x45 =>
 condK x45
 (
 (indexAddr PP 48 x8 x9).bind fun x49 =>
 (load PP 22 x49 σ).bind fun x50 =>
 (buildSlice PP none 48 1 [(0, x50)] σ).bind fun r51_2 =>
 (append PP lo false 48 48 x6 r51_2.1 r51_2.2).bind fun r52_3 =>
 f22_J0 G lo x2 x3 x4 r52_3.1 x7 x8 x9 x9 x8 x35 x36 x6 x8 x9 x42 x43 x44 x45 x6 x8 x9 x49 x50 r51_2.1 r52_3.1 r52_3.2
 )
 (
 f22_J0 G lo x2 x3 x4 x6 x7 x8 x9 x9 x8 x35 x36 x6 x8 x9 x42 x43 x44 x45 ud ud ud ud ud ud ud σ
 )
 )
 (
 (binOp PP .add 3 x7 (DV.p (PV.int IntKind.i64 (1)))).bind fun x25 =>
 f22_L0 G lo x2 x3 x4 x6 x25 σ
 ) := (loopF_eq G hG).trans (by kernel_rfl)
theorem f22_J0_eq (G : GuardT) (lo : Nat) (x2 x3 x4 x6 x7 x8 x9 x33 x34 x35 x36 x39 x40 x41 x42 x43 x44 x45 x46 x47 x48 x49 x50 x51 x52 : DV) (σ : Store) : f22_J0 G lo x2 x3 x4 x6 x7 x8 x9 x33 x34 x35 x36 x39 x40 x41 x42 x43 x44 x45 x46 x47 x48 x49 x50 x51 x52 σ =
 (binOp PP .add 3 x9 (DV.p (PV.int IntKind.i64 (1)))).bind fun x38 =>
 f22_L1 G lo x2 x3 x4 x6 x7 x8 x38 σ := by kernel_rfl
theorem f22_L2_eq (G : GuardT) (hG : GuardOk G) (lo : Nat) (x2 x3 x4 x6 x10 x11 : DV) (σ : Store) : f22_L2 G lo x2 x3 x4 x6 x10 x11 σ =
 (fieldAddr PP 25 x2 0).bind fun x54 =>
 (load PP 3 x54 σ).bind fun x55 =>
 (binOp PP .lss 3 x11 x55).bind fun x56 =>
 condK x56
 (
 f22_L3 G lo x2 x3 x4 x6 x10 x11 (DV.p (PV.int IntKind.i64 (0))) σ
 )
 (
 (len PP 48 x10 σ).bind fun x78 =>
 (build PP 47 [(0, x78)]).bind fun x79 =>
 (zeroOf PP 47).bind fun z13 =>
 (store PP lo 47 (DV.ptr (List.length σ) 0) x79 (σ ++ [Row.mix z13])).bind fun σ8 =>
 f22_L4 G lo x2 x3 x4 x10 (DV.ptr (List.length σ) 0) (DV.p (PV.int IntKind.i64 (0))) σ8
 ) := (loopF_eq G hG).trans (by kernel_rfl)
theorem f22_L3_eq (G : GuardT) (hG : GuardOk G) (lo : Nat) (x2 x3 x4 x6 x10 x11 x12 : DV) (σ : Store) : f22_L3 G lo x2 x3 x4 x6 x10 x11 x12 σ =
 (fieldAddr PP 25 x3 0).bind fun x60 =>
 (load PP 3 x60 σ).bind fun x61 =>
 (binOp PP .lss 3 x12 x61).bind fun x62 =>
 condK x62
 (
 (buildSlice PP none 22 2 [(0, x11), (1, x12)] σ).bind fun r68_4 =>
 (pureFn CC (DV.fn 75 []) [x6, r68_4.1] r68_4.2).bind fun x69 =>
 (binOp PP .geq 3 x69 (DV.p (PV.int IntKind.i64 (0)))).bind fun x70 =>
 condK x70
 (
 (buildSlice PP none 22 2 [(0, x11), (1, x12)] r68_4.2).bind fun r74_5 =>
 (buildSlice PP none 48 1 [(0, r74_5.1)] r74_5.2).bind fun r75_6 =>
 (append PP lo false 48 48 x10 r75_6.1 r75_6.2).bind fun r76_7 =>
 f22_J1 G lo x2 x3 x4 x6 r76_7.1 x11 x12 x12 x60 x61 x62 x6 x11 x12 r68_4.1 x69 x70 x10 x11 x12 r74_5.1 r75_6.1 r76_7.1 r76_7.2
 )
 (
 f22_J1 G lo x2 x3 x4 x6 x10 x11 x12 x12 x60 x61 x62 x6 x11 x12 r68_4.1 x69 x70 ud ud ud ud ud ud r68_4.2
 )
 )
 (
 (binOp PP .add 3 x11 (DV.p (PV.int IntKind.i64 (1)))).bind fun x58 =>
 f22_L2 G lo x2 x3 x4 x6 x10 x58 σ
 ) := (loopF_eq G hG).trans (by kernel_rfl)
theorem f22_J1_eq (G : GuardT) (lo : Nat) (x2 x3 x4 x6 x10 x11 x12 x59 x60 x61 x62 x65 x66 x67 x68 x69 x70 x71 x72 x73 x74 x75 x76 : DV) (σ : Store) : f22_J1 G lo x2 x3 x4 x6 x10 x11 x12 x59 x60 x61 x62 x65 x66 x67 x68 x69 x70 x71 x72 x73 x74 x75 x76 σ =
 (binOp PP .add 3 x12 (DV.p (PV.int IntKind.i64 (1)))).bind fun x64 =>
 f22_L3 G lo x2 x3 x4 x6 x10 x11 x64 σ := by kernel_rfl
theorem f22_L4_eq (G : GuardT) (hG : GuardOk G) (lo : Nat) (x2 x3 x4 x10 x13 x14 : DV) (σ : Store) : f22_L4 G lo x2 x3 x4 x10 x13 x14 σ =
 (len PP 48 x10 σ).bind fun x82 =>
 (binOp PP .lss 3 x14 x82).bind fun x83 =>
 condK x83
 (
 (load PP 25 x2 σ).bind fun x86 =>
 (load PP 25 x3 σ).bind fun x87 =>
 (pureFn CC (DV.fn 73 []) [x86, x87] σ).bind fun x88 =>
 (indexAddr PP 48 x10 x14).bind fun x91 =>
 (load PP 22 x91 σ).bind fun x92 =>
 (pureFn CC (DV.fn 75 []) [x88, x92] σ).bind fun x93 =>
 (binOp PP .geq 3 x93 (DV.p (PV.int IntKind.i64 (0)))).bind fun x94 =>
 condK x94
 (
 (fieldAddr PP 47 x13 1).bind fun x95 =>
 (load PP 22 x95 σ).bind fun x96 =>
 (buildSlice PP none 22 1 [(0, x14)] σ).bind fun r98_9 =>
 (append PP lo false 22 22 x96 r98_9.1 r98_9.2).bind fun r99_10 =>
 (fieldAddr PP 47 x13 1).bind fun x100 =>
 (store PP lo 22 x100 r99_10.1 r99_10.2).bind fun σ11 =>
 f22_J2 G lo x2 x3 x4 x10 x13 x14 x14 x10 x82 x83 x86 x87 x88 x10 x14 x91 x92 x93 x94 x95 x96 x14 r98_9.1 r99_10.1 x100 σ11
 )
 (
 f22_J2 G lo x2 x3 x4 x10 x13 x14 x14 x10 x82 x83 x86 x87 x88 x10 x14 x91 x92 x93 x94 ud ud ud ud ud ud σ
 )
 )
 (
 (load PP 47 x13 σ).bind fun x127 =>
 (store PP lo 47 x4 x127 σ).bind fun σ15 =>
 (cellV PP 47 x4 σ15).bind fun v0 =>
 some ((DV.tuple [v0, x10]), σ15)
 ) := (loopF_eq G hG).trans (by kernel_rfl)
theorem f22_J2_eq (G : GuardT) (lo : Nat) (x2 x3 x4 x10 x13 x14 x80 x81 x82 x83 x86 x87 x88 x89 x90 x91 x92 x93 x94 x95 x96 x97 x98 x99 x100 : DV) (σ : Store) : f22_J2 G lo x2 x3 x4 x10 x13 x14 x80 x81 x82 x83 x86 x87 x88 x89 x90 x91 x92 x93 x94 x95 x96 x97 x98 x99 x100 σ =
 (load PP 25 x2 σ).bind fun x101 =>
 (load PP 25 x3 σ).bind fun x102 =>
 (indexAddr PP 48 x10 x14).bind fun x105 =>
 (load PP 22 x105 σ).bind fun x106 =>
 (pureFn CC (DV.fn 74 []) [x101, x102, x106] σ).bind fun x107 =>
 f22_L5 G lo x2 x3 x4 x10 x13 x14 x107 (DV.p (PV.int IntKind.i64 (0))) σ := by kernel_rfl
theorem f22_L5_eq (G : GuardT) (hG : GuardOk G) (lo : Nat) (x2 x3 x4 x10 x13 x14 x15 x16 : DV) (σ : Store) : f22_L5 G lo x2 x3 x4 x10 x13 x14 x15 x16 σ =
 (len PP 48 x15 σ).bind fun x110 =>
 (binOp PP .lss 3 x16 x110).bind fun x111 =>
 condK x111
 (
 (fieldAddr PP 47 x13 2).bind fun x114 =>
 (load PP 45 x114 σ).bind fun x115 =>
 (indexAddr PP 48 x15 x16).bind fun x120 =>
 (load PP 22 x120 σ).bind fun x121 =>
 (pureFn CC (DV.fn 75 []) [x10, x121] σ).bind fun x122 =>
 (build PP 129 [(0, x14), (1, x122)]).bind fun x123 =>
 (buildSlice PP none 45 1 [(0, x123)] σ).bind fun r124_12 =>
 (append PP lo false 45 45 x115 r124_12.1 r124_12.2).bind fun r125_13 =>
 (fieldAddr PP 47 x13 2).bind fun x126 =>
 (store PP lo 45 x126 r125_13.1 r125_13.2).bind fun σ14 =>
 (binOp PP .add 3 x16 (DV.p (PV.int IntKind.i64 (1)))).bind fun x113 =>
 f22_L5 G lo x2 x3 x4 x10 x13 x14 x15 x113 σ14
 )
 (
 (binOp PP .add 3 x14 (DV.p (PV.int IntKind.i64 (1)))).bind fun x85 =>
 f22_L4 G lo x2 x3 x4 x10 x13 x85 σ
 ) := (loopF_eq G hG).trans (by kernel_rfl)
theorem F22_eq (G : GuardT) (lo : Nat) (x0 x1 : DV) (σ : Store) : F22 G lo x0 x1 σ =
 (boxV x0).bind fun z2 =>
 (boxV x1).bind fun z3 =>
 (zeroOf PP 47).bind fun z4 =>
 (load PP 25 (DV.ptr (List.length σ) 0) (((σ ++ [Row.mix z2]) ++ [Row.mix z3]) ++ [Row.mix z4])).bind fun x17 =>
 (load PP 25 (DV.ptr (List.length (σ ++ [Row.mix z2])) 0) (((σ ++ [Row.mix z2]) ++ [Row.mix z3]) ++ [Row.mix z4])).bind fun x18 =>
 (plainFn CC lo (DV.fn 73 []) [x17, x18] (((σ ++ [Row.mix z2]) ++ [Row.mix z3]) ++ [Row.mix z4])).bind fun r19_1 =>
 f22_L0 G lo (DV.ptr (List.length σ) 0) (DV.ptr (List.length (σ ++ [Row.mix z2])) 0) (DV.ptr (List.length ((σ ++ [Row.mix z2]) ++ [Row.mix z3])) 0) r19_1.1 (DV.p (PV.int IntKind.i64 (0))) r19_1.2 := by kernel_rfl
theorem F22_call {lo : Nat} {x0 x1 : DV} {σ : Store} {r : DV × Store} (h : F22 guardT lo x0 x1 σ = some r) : CC lo 22 [x0, x1] σ = some r :=
 callL_run Go.Proofs.Try.func22 (by decide +kernel) rfl (by decide +kernel) h
noncomputable def c4_0 : Code := bodyOf Go.Proofs.Try.f4
noncomputable def a4_0 : Ann := (pol 4).ann
noncomputable def c4_28 : Code := sndC (sndC (sndC (sndC (sndC (sndC c4_0)))))
noncomputable def a4_28 : Ann := right (right (right (right (right (right a4_0)))))
def f4_J0_fr (x0 x1 x2 x3 x4 x5 x6 x7 x8 x11 x12 x13 x14 x15 x16 x17 x18 x19 x20 x21 x22 x23 x24 x25 x26 x27 x28 x29 x30 x31 x32 x33 x34 x35 : DV) : Frame := [x0, x1, x2, x3, x4, x5, x6, x7, x8, ud, ud, x11, x12, x13, x14, x15, x16, x17, x18, x19, x20, x21, x22, x23, x24, x25, x26, x27, x28, x29, x30, x31, x32, x33, x34, x35, ud, ud, ud, ud, ud, ud, ud, ud, ud, ud, ud, ud, ud, ud, ud, ud, ud, ud, ud, ud, ud, ud, ud, ud, ud, ud, ud, ud, ud, ud, ud, ud, ud]
noncomputable def f4_J0 (G : GuardT) (lo : Nat) (x0 x1 x2 x3 x4 x5 x6 x7 x8 x11 x12 x13 x14 x15 x16 x17 x18 x19 x20 x21 x22 x23 x24 x25 x26 x27 x28 x29 x30 x31 x32 x33 x34 x35 : DV) (σ : Store) : Option (DV × Store) :=
 (seqC G PP (pol 4) CC lo c4_28 a4_28 (finR PP Go.Proofs.Try.f4.results.toList)) .normal (f4_J0_fr x0 x1 x2 x3 x4 x5 x6 x7 x8 x11 x12 x13 x14 x15 x16 x17 x18 x19 x20 x21 x22 x23 x24 x25 x26 x27 x28 x29 x30 x31 x32 x33 x34 x35) σ
noncomputable def F4 (G : GuardT) (lo : Nat) (x0 x1 : DV) (σ : Store) : Option (DV × Store) :=
 codeF G PP (pol 4) CC lo c4_0 a4_0 [x0, x1, ud, ud, ud, ud, ud, ud, ud, ud, ud, ud, ud, ud, ud, ud, ud, ud, ud, ud, ud, ud, ud, ud, ud, ud, ud, ud, ud, ud, ud, ud, ud, ud, ud, ud, ud, ud, ud, ud, ud, ud, ud, ud, ud, ud, ud, ud, ud, ud, ud, ud, ud, ud, ud, ud, ud, ud, ud, ud, ud, ud, ud, ud, ud, ud, ud, ud, ud] σ (finR PP Go.Proofs.Try.f4.results.toList)
theorem f4_J0_eq (G : GuardT) (lo : Nat) (x0 x1 x2 x3 x4 x5 x6 x7 x8 x11 x12 x13 x14 x15 x16 x17 x18 x19 x20 x21 x22 x23 x24 x25 x26 x27 x28 x29 x30 x31 x32 x33 x34 x35 : DV) (σ : Store) : f4_J0 G lo x0 x1 x2 x3 x4 x5 x6 x7 x8 x11 x12 x13 x14 x15 x16 x17 x18 x19 x20 x21 x22 x23 x24 x25 x26 x27 x28 x29 x30 x31 x32 x33 x34 x35 σ =
 (binOp PP .neq 3 x8 (DV.p (PV.int IntKind.i64 (0)))).bind fun x37 =>
 condK x37
 (
 (binOp PP .eql 3 x7 x8).bind fun x40 =>
 G _ x40 true ((load PP 47 x5 σ).bind fun v => some (v, σ)) σ fun x42 σ5 =>
 G _ x40 true ((build PP 47 []).bind fun v => some (v, σ5)) σ5 fun x43 σ6 =>
 G _ x40 true ((pureFn CC (DV.fn 21 []) [x42, x43] σ6).bind fun v => some (v, σ6)) σ6 fun x44 σ7 =>
 (pickV x40 x44 (DV.p (PV.bool false))).bind fun x45 =>
 G _ x45 true (some (x6, σ7)) σ7 fun x47 σ8 =>
 G _ x45 true ((len PP 48 x47 σ8).bind fun v => some (v, σ8)) σ8 fun x48 σ9 =>
 G _ x45 true ((binOp PP .eql 3 x48 (DV.p (PV.int IntKind.i64 (0)))).bind fun v => some (v, σ9)) σ9 fun x49 σ10 =>
 (pickV x45 x49 (DV.p (PV.bool false))).bind fun x50 =>
 some (x50, σ10)
 )
 (
 (load PP 25 x2 σ).bind fun x52 =>
 (load PP 25 x3 σ).bind fun x53 =>
 (pureFn CC (DV.fn 22 []) [x52, x53] σ).bind fun x54 =>
 (extractV x54 0).bind fun x55 =>
 (extractV x54 1).bind fun x56 =>
 (zeroOf PP 47).bind fun z9 =>
 (store PP lo 47 (DV.ptr (List.length σ) 0) x55 (σ ++ [Row.mix z9])).bind fun σ11 =>
 (binOp PP .eql 34 x7 (DV.p (PV.int IntKind.i64 (0)))).bind fun x58 =>
 G _ x58 true ((load PP 47 x5 σ11).bind fun v => some (v, σ11)) σ11 fun x60 σ12 =>
 G _ x58 true ((load PP 47 (DV.ptr (List.length σ) 0) σ12).bind fun v => some (v, σ12)) σ12 fun x61 σ13 =>
 G _ x58 true ((pureFn CC (DV.fn 21 []) [x60, x61] σ13).bind fun v => some (v, σ13)) σ13 fun x62 σ14 =>
 (pickV x58 x62 (DV.p (PV.bool false))).bind fun x63 =>
 G _ x63 true (some (x6, σ14)) σ14 fun x65 σ15 =>
 G _ x63 true (some (x56, σ15)) σ15 fun x66 σ16 =>
 G _ x63 true ((pureFn CC (DV.fn 23 []) [x65, x66] σ16).bind fun v => some (v, σ16)) σ16 fun x67 σ17 =>
 (pickV x63 x67 (DV.p (PV.bool false))).bind fun x68 =>
 some (x68, σ17)
 ) := by kernel_rfl
theorem F4_eq (G : GuardT) (lo : Nat) (x0 x1 : DV) (σ : Store) : F4 G lo x0 x1 σ =
 (boxV x0).bind fun z2 =>
 (boxV x1).bind fun z3 =>
 (pureFn CC (DV.fn 10 []) [] ((σ ++ [Row.mix z2]) ++ [Row.mix z3])).bind fun x11 =>
 (unOp .not x11).bind fun x12 =>
 condK x12
 (
 some ((DV.p (PV.bool false)), ((σ ++ [Row.mix z2]) ++ [Row.mix z3]))
 )
 (
 (load PP 25 (DV.ptr (List.length σ) 0) ((σ ++ [Row.mix z2]) ++ [Row.mix z3])).bind fun x13 =>
 (pureFn CC (DV.fn 11 []) [x13] ((σ ++ [Row.mix z2]) ++ [Row.mix z3])).bind fun x14 =>
 (unOp .not x14).bind fun x15 =>
 G _ x15 false ((load PP 25 (DV.ptr (List.length (σ ++ [Row.mix z2])) 0) ((σ ++ [Row.mix z2]) ++ [Row.mix z3])).bind fun v => some (v, ((σ ++ [Row.mix z2]) ++ [Row.mix z3]))) ((σ ++ [Row.mix z2]) ++ [Row.mix z3]) fun x17 σ1 =>
 G _ x15 false ((pureFn CC (DV.fn 11 []) [x17] σ1).bind fun v => some (v, σ1)) σ1 fun x18 σ2 =>
 G _ x15 false ((unOp .not x18).bind fun v => some (v, σ2)) σ2 fun x19 σ3 =>
 (pickV x15 (DV.p (PV.bool true)) x19).bind fun x20 =>
 condK x20
 (
 some ((DV.p (PV.bool true)), σ3)
 )
 (
 (load PP 25 (DV.ptr (List.length σ) 0) σ3).bind fun x22 =>
 (pureFn CC (DV.fn 14 []) [x22] σ3).bind fun x23 =>
 (load PP 25 (DV.ptr (List.length (σ ++ [Row.mix z2])) 0) σ3).bind fun x24 =>
 (pureFn CC (DV.fn 14 []) [x24] σ3).bind fun x25 =>
 (pureFn CC (DV.fn 20 []) [x23, x25] σ3).bind fun x26 =>
 (extractV x26 0).bind fun x27 =>
 (extractV x26 1).bind fun x28 =>
 (extractV x26 2).bind fun x29 =>
 (zeroOf PP 47).bind fun z5 =>
 (store PP lo 47 (DV.ptr (List.length σ3) 0) x27 (σ3 ++ [Row.mix z5])).bind fun σ4 =>
 (load PP 25 (DV.ptr (List.length σ) 0) σ4).bind fun x30 =>
 (pureFn CC (DV.fn 16 []) [x30] σ4).bind fun x31 =>
 (binOp PP .eql 3 x31 (DV.p (PV.int IntKind.i64 (0)))).bind fun x33 =>
 condK x33
 (
 (load PP 25 (DV.ptr (List.length (σ ++ [Row.mix z2])) 0) σ4).bind fun x34 =>
 (pureFn CC (DV.fn 16 []) [x34] σ4).bind fun x35 =>
 f4_J0 G lo x0 x1 (DV.ptr (List.length σ) 0) (DV.ptr (List.length (σ ++ [Row.mix z2])) 0) (DV.p (PV.bool false)) (DV.ptr (List.length σ3) 0) x28 x29 x35 x11 x12 x13 x14 x15 x15 x17 x18 x19 x20 x26 x22 x23 x24 x25 x26 x27 x28 x29 x30 x31 x31 x33 x34 x35 σ4
 )
 (
 f4_J0 G lo x0 x1 (DV.ptr (List.length σ) 0) (DV.ptr (List.length (σ ++ [Row.mix z2])) 0) (DV.p (PV.bool false)) (DV.ptr (List.length σ3) 0) x28 x29 x31 x11 x12 x13 x14 x15 x15 x17 x18 x19 x20 x26 x22 x23 x24 x25 x26 x27 x28 x29 x30 x31 x31 x33 ud ud σ4
 )
 )
 ) := by kernel_rfl
theorem F4_call {lo : Nat} {x0 x1 : DV} {σ : Store} {r : DV × Store} (h : F4 guardT lo x0 x1 σ = some r) : CC lo 4 [x0, x1] σ = some r :=
 callL_run Go.Proofs.Try.func4 (by decide +kernel) rfl (by decide +kernel) h
end Go.D
end
/- The search over walked: the program's add and run. -/
section
set_option linter.unusedVariables false
set_option linter.unusedSimpArgs false
namespace Go.D.RnV
structure SS (σ0 σ : Store) (m s : Nat) (q : List QE) (to : Nat) : Prop where
  mp : σ[m]? = some (.map (entN q))
  st : ∃ lay, σ[s]? = some (.mix [.map m, lay]) ∧ Out σ σ0.length 4 (q.length - to) (qsP (q.drop to)) lay
  le : to ≤ q.length
  ml : σ0.length ≤ m
  sl : σ0.length ≤ s
  ln : ∀ x ∈ q, x.n.length = 3
  low : Ext σ0 σ
theorem ext_len {σ σ' : Store} (h : Ext σ σ') : σ.length ≤ σ'.length := by
  cases hl : σ.length with
  | zero => exact Nat.zero_le _
  | succ n =>
    have h1 : n < σ.length := by omega
    exact get_lt (h n _ (List.getElem?_eq_getElem h1))
theorem SS.lle {σ0 σ : Store} {m s : Nat} {q : List QE} {to : Nat} (h : SS σ0 σ m s q to) : σ0.length ≤ σ.length := ext_len h.low
theorem SS.snoc {σ0 σ : Store} {m s : Nat} {q : List QE} {to : Nat} (h : SS σ0 σ m s q to) (r : Row) : SS σ0 (σ ++ [r]) m s q to := by
  obtain ⟨lay, h1, h2⟩ := h.st
  exact ⟨get_old h.mp, ⟨lay, get_old h1, h2.snoc⟩, h.le, h.ml, h.sl, h.ln, h.low.trans (Ext.snoc σ r)⟩
/-- Boxes that are kept. -/
def KeepB (σ σ' : Store) (s : Nat) : Prop := ∀ (j : Nat) (cs : List DV), j ≠ s → σ[j]? = some (.mix cs) → σ'[j]? = some (.mix cs)
theorem KeepB.trans {a b c : Store} {s : Nat} (h : KeepB a b s) (h2 : KeepB b c s) : KeepB a c s := fun j cs hj e => h2 j cs hj (h j cs hj e)
section
variable {σ0 : Store} {fv : FuncId} {caps : List DV} {vis : QE → List QE → Sum (List Int) (List QE)} {I : List QE → Prop} {B : Nat}
end
end Go.D.RnV
end
/- What the search for violations does at a node. -/
section
set_option linter.unusedVariables false
set_option linter.unusedSimpArgs false
namespace Go.D
def stsOf : List Int → List Int
  | _ :: t :: r => t :: stsOf r
  | _ => []
def endOf : Int → List Int → Int
  | _, _ :: t :: r => endOf t r
  | s, _ => s
theorem stsOf_snoc (i t : Int) : ∀ (r : List Int), r.length % 2 = 0 → stsOf (r ++ [i, t]) = stsOf r ++ [t]
  | [], _ => rfl
  | [a], h => absurd h (by simp)
  | a :: b :: r, h => by
    have := stsOf_snoc i t r (by simp at h; omega)
    show b :: stsOf (r ++ [i, t]) = _
    rw [this]; rfl
theorem endOf_snoc (i t : Int) : ∀ (s : Int) (r : List Int), r.length % 2 = 0 → endOf s (r ++ [i, t]) = t
  | s, [], _ => rfl
  | s, [a], h => absurd h (by simp)
  | s, a :: b :: r, h => endOf_snoc i t b r (by simp at h; omega)
/-- A path that ends in a state, with states in range. -/
structure POk (n : Nat) (p : List Int) (at0 : Int) : Prop where
  ex : ∃ s r, p = s :: r ∧ r.length % 2 = 0 ∧ endOf s r = at0 ∧ ∀ v ∈ s :: stsOf r, 0 ≤ v ∧ v < n
theorem POk.snoc {n : Nat} {p : List Int} {a i t : Int} (h : POk n p a) (ht : 0 ≤ t ∧ t < n) : POk n (p ++ [i, t]) t := by
  obtain ⟨s, r, rfl, h1, h2, h3⟩ := h.ex
  refine ⟨s, r ++ [i, t], rfl, by simp; omega, endOf_snoc i t s r h1, fun v hv => ?_⟩
  rw [stsOf_snoc i t r h1] at hv
  have : v ∈ s :: stsOf r ∨ v = t := by simpa [or_assoc] using hv
  rcases this with h | rfl
  · exact h3 v h
  · exact ht
/-- Right nodes. -/
structure NOkV (n : Nat) (wa wg : W3) (l : List Int) : Prop where
  len : l.length = 3
  at0 : 0 ≤ l.getD 0 0 ∧ l.getD 0 0 < n
  a : 0 ≤ l.getD 1 0 ∧ l.getD 1 0 < (wa.length : Nat)
  g : 0 ≤ l.getD 2 0 ∧ l.getD 2 0 < (wg.length : Nat)
structure IV (n : Nat) (wa wg : W3) (q : List QE) : Prop where
  nd : (q.map (·.n)).Nodup
  ok : ∀ x ∈ q, NOkV n wa wg x.n
  pl : ∀ x ∈ q, x.p.length < 2 * q.length
  pp : ∀ x ∈ q, POk n x.p (x.n.getD 0 0)
theorem IV.add {n : Nat} {wa wg : W3} {q : List QE} {l p : List Int} (h : IV n wa wg q) (hn : NOkV n wa wg l) (hp : p.length < 2 * q.length + 2) (hv : POk n p (l.getD 0 0)) : IV n wa wg (addN q l p) := by
  unfold addN
  split
  · exact h
  · rename_i hh
    have hh : ¬ ∃ x ∈ q, x.n = l := fun e => hh (hasN_mem.2 e)
    have hm : ∀ y ∈ q ++ [(⟨l, p⟩ : QE)], y ∈ q ∨ y = ⟨l, p⟩ := fun y hy => by simpa using hy
    refine ⟨?_, fun y hy => ?_, fun y hy => ?_, fun y hy => ?_⟩
    · rw [List.map_append, List.nodup_append]
      refine ⟨h.nd, by simp, fun a ha b hb => ?_⟩
      obtain ⟨x, hx, rfl⟩ := List.mem_map.1 ha
      have : b = l := by simpa using hb
      subst this
      exact fun e => hh ⟨x, hx, e⟩
    · rcases hm y hy with h1 | rfl
      · exact h.ok y h1
      · exact hn
    · rw [List.length_append]
      rcases hm y hy with h1 | rfl
      · have := h.pl y h1; simp; omega
      · simp; omega
    · rcases hm y hy with h1 | rfl
      · exact h.pp y h1
      · exact hv
theorem IV.le {n : Nat} {wa wg : W3} {q : List QE} (hn : n ≤ 10) (ha : WOk wa wa.length) (hg : WOk wg wg.length) (h : IV n wa wg q) : q.length ≤ 360 := by
  have h1 : (q.map (·.n)).length ≤ (allTo [10, 6, 6]).length := by
    refine nodup_le h.nd fun l hl => ?_
    obtain ⟨x, hx, rfl⟩ := List.mem_map.1 hl
    have hk := h.ok x hx
    have h6 := ha.n6
    have h7 := hg.n6
    refine allTo_mem (by rw [hk.len]; rfl) fun i h1 h2 => ?_
    rw [← getD_at 0 h1]
    have hi : i < 3 := by rw [hk.len] at h1; exact h1
    match i, hi with
    | 0, _ => have := hk.at0; show _ ∧ _ < ((10 : Nat) : Int); omega
    | 1, _ => have := hk.a; show _ ∧ _ < ((6 : Nat) : Int); omega
    | 2, _ => have := hk.g; show _ ∧ _ < ((6 : Nat) : Int); omega
  rw [allTo_len, List.length_map] at h1
  exact h1
open RnV
section
variable {σ0 : Store} {rc ra rg n : Nat} {c : Cmp} {wa wg : OW} (h1 : σ0[rc]? = some (.mix (eCmp c))) (h2 : σ0[ra]? = some (.mix [.p (eWt wa)])) (h3 : σ0[rg]? = some (.mix [.p (eWt wg)]))
  (hc : COk c n) (ha : WOk (wl wa) (wl wa).length) (hg : WOk (wl wg) (wl wg).length)
include h1 h2 h3 hc ha hg
end
end Go.D
end
/- Violations: what the program answers. -/
section
set_option linter.unusedVariables false
set_option linter.unusedSimpArgs false
namespace Go.D
theorem Grow.keep {σ σ' : Store} {B sz n : Nat} {cs : List PV} {x : DV} (h : Grow σ B sz n cs x) (he : ∀ r row, rowOf x = some r → σ[r]? = some row → σ'[r]? = some row) : Grow σ' B sz n cs x := by
  refine ⟨h.1, ?_⟩
  rcases h.2 with h | h | ⟨q, ver, h1, h2, h3⟩
  · exact .inl h
  · exact .inr (.inl h)
  · exact .inr (.inr ⟨q, ver, h1, he q _ (by rw [h1]; rfl) h2, h3⟩)
theorem Grow.one {σ : Store} {B sz n : Nat} {cs : List PV} {x : DV} (h : Grow σ B sz n cs x) : x.one = true ∧ x.cells = [x] := by
  rcases h.2 with ⟨_, rfl⟩ | rfl | ⟨q, ver, rfl, h2, h3⟩ <;> exact ⟨rfl, rfl⟩
open RnV
end Go.D
end
/- Seat 2: the order of pairs of states, lists of them in rows, and compaction of a sorted list. -/
section
set_option linter.unusedVariables false
set_option linter.unusedSimpArgs false
namespace Go.D.StB
open Go.D.Srt
def cmpB (x y : E) : Int := orL [cmpI x.1 y.1, cmpI x.2 y.2]
theorem box_val (e : E) : boxV (val e) = some (cel e) := rfl
theorem fa120_0 (x : DV) : fieldAddr PP 120 x 0 = shiftPtr x 0 := Eq.trans (by kernel_rfl) rfl
theorem fa120_1 (x : DV) : fieldAddr PP 120 x 1 = shiftPtr x 1 := Eq.trans (by kernel_rfl) rfl
theorem bs22_2w (x y : Int) (σ : Store) : buildSlice PP none 22 2 [(0, .p (pI x)), (1, .p (pI y))] σ = some (.p (.sl true 2 (eInts [x, y])), σ) := Eq.trans (by kernel_rfl) rfl
theorem sl2_view (x y : Int) : view (.p (.sl true 2 (eInts [x, y]))) = .p (eSl (some [x, y])) := rfl
theorem S70 (x y : E) (σ : Store) : pureV CC 70 [val x, val y] σ = some (.p (.int .i64 (cmpB x y))) := by
  refine pureV_free rfl rfl (F70_call (r := (.p (pI (cmpB x y)), [.mix (cel x), .mix (cel y)])) ?_) rfl
  rw [F70_eq]
  have g0 : ([Row.mix (cel x), Row.mix (cel y)] : Store)[0]? = some (.mix (cel x)) := rfl
  have g1 : ([Row.mix (cel x), Row.mix (cel y)] : Store)[1]? = some (.mix (cel y)) := rfl
  simp only [box_val, obind, List.length_nil, List.nil_append, List.length_cons, List.cons_append, fa120_0, fa120_1, shift_ptr, load3, Nat.zero_add,
    load1_ptr (off := 0) g0 rfl, load1_ptr (off := 1) g0 rfl, load1_ptr (off := 0) g1 rfl, load1_ptr (off := 1) g1 rfl, pureFn_fn, List.append_nil, S112, bs22_2w]
  rw [pureV_view (args' := [.p (eSl (some [cmpI x.1 y.1, cmpI x.2 y.2]))]) (by simp [sl2_view]) (by simp [sl_view]), S111 (by simp)]
  rfl
/-- The order in plain terms. -/
def ltB (x y : E) : Prop := x.1 < y.1 ∨ (x.1 = y.1 ∧ x.2 < y.2)
theorem cmpB_lt (x y : E) : cmpB x y < 0 ↔ ltB x y := by
  unfold cmpB ltB cmpI
  simp only [orL]
  split <;> split <;> (try split) <;> omega
theorem ltc_iff (x y : E) : ltc cmpB x y = true ↔ ltB x y := by
  unfold ltc
  rw [decide_eq_true_iff]
  exact cmpB_lt x y
theorem ltc_false (x y : E) : ltc cmpB x y = false ↔ ¬ ltB x y := by
  rw [← ltc_iff]
  cases ltc cmpB x y <;> simp
theorem ordB : Ord (ltc cmpB) where
  asym x y h := by
    rw [ltc_iff] at h
    rw [ltc_false]
    unfold ltB at *
    omega
  trans x y z h1 h2 := by
    rw [ltc_false] at *
    unfold ltB at *
    omega
theorem ltB_anti {x y : E} (h1 : ¬ ltB x y) (h2 : ¬ ltB y x) : x = y := by
  obtain ⟨a, b⟩ := x
  obtain ⟨c, d⟩ := y
  unfold ltB at *
  simp only at *
  have e1 : a = c := by omega
  have e2 : b = d := by omega
  rw [e1, e2]
/-- Ascending without equal ones. -/
def Asc (l : List E) : Prop := l.Pairwise ltB
def leB (x y : E) : Prop := ¬ ltB y x
theorem sd_pair {B : List E} (h : Sd (ltc cmpB) 0 B.length B) : B.Pairwise leB := by
  rw [List.pairwise_iff_getElem]
  intro i j hi hj hij
  have h1 := h i j (Nat.zero_le _) hij hj
  rw [ltc_false] at h1
  have e : ∀ k (hk : k < B.length), ge B k = B[k] := fun k hk => by unfold ge; rw [List.getD_eq_getElem?_getD, List.getElem?_eq_getElem hk]; rfl
  rw [e i hi, e j hj] at h1
  exact h1
theorem sorted_eq {A B : List E} (hp : B.Perm A) (h1 : B.Pairwise leB) (h2 : A.Pairwise leB) : B = A :=
  List.Perm.eq_of_pairwise (fun a b _ _ h3 h4 => ltB_anti h4 h3) h1 h2 hp
theorem asc_le {A : List E} (h : Asc A) : A.Pairwise leB := List.Pairwise.imp (fun {a b} h => by unfold leB; unfold ltB at *; omega) h
/-- A list in a row that is appended to. -/
def RowL (σ : Store) (B : Nat) (A : List E) (x : DV) : Prop := (A = [] ∧ x = .p .nilsl) ∨ ∃ r, x = .rsl r 2 0 A.length ∧ σ[r]? = some (.mix (cels A)) ∧ B ≤ r ∧ A ≠ []
theorem u116 : PP.underlying 116 = some (.slice 120) := uL
theorem bytesB : bytes? PP 120 = some 16 := Eq.trans (by kernel_rfl) rfl
theorem zeroB : zeroOf PP 120 = some [.p (pI 0), .p (pI 0)] := Eq.trans (by kernel_rfl) rfl
theorem srcB : srcType PP 116 = true := Eq.trans (by kernel_rfl) rfl
def celP (e : E) : List PV := [pI e.1, pI e.2]
def celsP (A : List E) : List PV := A.flatMap celP
theorem celP_map (e : E) : (celP e).map DV.p = cel e := rfl
theorem celsP_map (A : List E) : (celsP A).map DV.p = cels A := by
  induction A with
  | nil => rfl
  | cons a A ih =>
    have e1 : celsP (a :: A) = celP a ++ celsP A := rfl
    have e2 : cels (a :: A) = cel a ++ cels A := rfl
    rw [e1, e2, List.map_append, ih, celP_map]
theorem celsP_len (A : List E) : (celsP A).length = A.length * 2 := by
  have h := congrArg List.length (celsP_map A)
  rwa [List.length_map, cels_len] at h
theorem RowL.push {σ : Store} {B lo : Nat} {A : List E} {x : DV} (h : RowL σ B A x) (hA : A.length ≤ 1000000) (hlo : lo ≤ B) (hB : B ≤ σ.length) (m : Bool) (hm : A = [] → m = true) (e : E) :
    ∃ σ', append PP lo m 116 116 x (.p (.sl true 1 (celP e))) σ = some (.rsl σ.length 2 0 (A.length + 1), σ') ∧ RowL σ' B (A ++ [e]) (.rsl σ.length 2 0 (A.length + 1)) ∧
      (∀ j row, (∀ r, x = .rsl r 2 0 A.length → j ≠ r) → σ[j]? = some row → σ'[j]? = some row) ∧ σ'.length = σ.length + 1 := by
  have hsrc : source σ 2 (.p (.sl true 1 (celP e))) = some (1, (celP e).map DV.p) := by simp [source, celP]
  have hz0 : ¬ ([DV.p (pI 0), DV.p (pI 0)].length ≠ 2 ∨ 2 = 0) := by decide
  have ec : cels (A ++ [e]) = cels A ++ cel e := by rw [cels_app]; rfl
  have hne : A ++ [e] ≠ [] := by simp
  have hl : (A ++ [e]).length = A.length + 1 := by simp
  rcases h with ⟨rfl, rfl⟩ | ⟨r, rfl, h1, h2, h3⟩
  · have hm := hm rfl
    subst hm
    refine ⟨σ ++ [.mix (cel e)], ?_, .inr ⟨σ.length, by rw [hl], get_snoc, hB, hne⟩, fun j row _ g => get_old g, by simp⟩
    simp only [append, srcB, u116, sE, bytesB, zeroB, hz0, hsrc, appNil]
    rfl
  · have hr := get_lt h1
    have hcl := cels_len A
    refine ⟨σ.set r .dead ++ [.mix (cels A ++ cel e)], ?_, .inr ⟨σ.length, by rw [hl], ?_, hB, hne⟩, fun j row hj g => get_old (get_set_ne g (hj r rfl)), by simp⟩
    · simp only [append, srcB, u116, sE, bytesB, zeroB, hz0, hsrc, appRow]
      have e1 : (A.length + 1) * 16 ≤ 140737488355328 := by omega
      have e2 : A.length + 1 ≤ 140737488355328 := by omega
      have e3 : lo ≤ r := by omega
      have e4 : ¬ (0 + (A.length + 1) * 2 ≤ (cels A).length) := by omega
      have e5 : 0 + A.length * 2 = (cels A).length := by omega
      have e6 : (cel e).all DV.one = true := rfl
      simp [e1, e2, e3, h1, celP_map, e6, hcl, ← e5]
      omega
    · rw [ec]
      have : (σ.set r .dead).length = σ.length := by simp
      rw [← this]; exact get_snoc
theorem eqVal (x y : E) : binOp PP .eql 120 (val x) (val y) = some (.p (.bool (decide (x = y)))) := by
  have e1 : binOp PP .eql 120 (val x) (val y) = (match some (x.1 == y.1) with | some true => (match some (x.2 == y.2) with | some true => some true | r => r) | r => r).map fun b => .p (.bool b) := by kernel_rfl
  rw [e1]
  obtain ⟨a, b⟩ := x
  obtain ⟨c, d⟩ := y
  by_cases h1 : a = c <;> by_cases h2 : b = d <;> simp [h1, h2]
theorem cmpct_L0 {σ : Store} {r n lo : Nat} {A : List E} (h : σ[r]? = some (.mix (cels A))) (hA : A.length = n) (hn : n ≤ 100000) (hne : ∀ i, 1 ≤ i → i < n → ge A i ≠ ge A (i - 1)) : ∀ (k i : Nat), n - i = k → 1 ≤ i →
    f107_L0 guardT lo (.rsl r 2 0 n) (N i) σ = some (.rsl r 2 0 n, σ)
  | 0, i, hk, hi => by
    have hl : len PP 116 (.rsl r 2 0 n) σ = some (N n) := by simp [len, uL]
    rw [f107_L0_eq guardT rfl]
    simp (disch := omega) only [hl, guard_tt, guard_ff, guard_tf, guard_ft, guard_sk, obind, omap, pickV_true, pickV_false, condK_true, condK_false, decide_true, decide_false, Bool.not_true, Bool.not_false, not_bool, N, b_lss, ltF]
  | k + 1, i, hk, hi => by
    have hl : len PP 116 (.rsl r 2 0 n) σ = some (N n) := by simp [len, uL]
    have hr := get_lt h
    have hld : ∀ j, j < A.length → load PP 120 (.ptr r (j * 2)) σ = some (val (ge A j)) := fun j hj => by
      have := ldW (A := A) hr hj
      rwa [W_eq h] at this
    have ih := cmpct_L0 (lo := lo) h hA hn hne k (i + 1) (by omega) (by omega)
    have hd : decide (ge A i = ge A (i - 1)) = false := decide_eq_false (hne i hi (by omega))
    rw [f107_L0_eq guardT rfl, ← ih]
    simp (disch := omega) only [hl, guard_tt, guard_ff, guard_tf, guard_ft, guard_sk, obind, omap, pickV_true, pickV_false, condK_true, condK_false, decide_true, decide_false, Bool.not_true, Bool.not_false, not_bool, N, b_lss, ltT, idxL, hld, sub1, eqVal, hd, add1]
theorem asc_ne {A : List E} (h : Asc A) : ∀ i, 1 ≤ i → i < A.length → ge A i ≠ ge A (i - 1) := by
  intro i h1 h2 e
  have h3 := List.pairwise_iff_getElem.1 h (i - 1) i (by omega) h2 (by omega)
  have e1 : ∀ k (hk : k < A.length), ge A k = A[k] := fun k hk => by unfold ge; rw [List.getD_eq_getElem?_getD, List.getElem?_eq_getElem hk]; rfl
  rw [← e1, ← e1, e] at h3
  unfold ltB at h3
  omega
theorem cmpct_ok {σ : Store} {r lo : Nat} {A : List E} (h : σ[r]? = some (.mix (cels A))) (hn : A.length ≤ 100000) (ha : Asc A) : CC lo 107 [.rsl r 2 0 A.length] σ = some (.rsl r 2 0 A.length, σ) := by
  have hl : len PP 116 (.rsl r 2 0 A.length) σ = some (N A.length) := by simp [len, uL]
  refine F107_call ?_
  rw [F107_eq]
  by_cases h2 : A.length < 2
  · simp (disch := omega) only [hl, guard_tt, guard_ff, guard_tf, guard_ft, guard_sk, obind, omap, pickV_true, pickV_false, condK_true, condK_false, decide_true, decide_false, Bool.not_true, Bool.not_false, not_bool, N, b_lss, ltT]
  · simp (disch := omega) only [hl, guard_tt, guard_ff, guard_tf, guard_ft, guard_sk, obind, omap, pickV_true, pickV_false, condK_true, condK_false, decide_true, decide_false, Bool.not_true, Bool.not_false, not_bool, N, b_lss, ltF]
    exact cmpct_L0 h rfl hn (asc_ne ha) _ 1 rfl (Nat.le_refl _)
theorem cmpct_nil {σ : Store} {lo : Nat} : CC lo 107 [.p .nilsl] σ = some (.p .nilsl, σ) := by
  have hl : len PP 116 (.p .nilsl) σ = some (.p (.int .i64 0)) := by simp [len, uL]
  refine F107_call ?_
  rw [F107_eq]
  simp (disch := omega) only [hl, guard_tt, guard_ff, guard_tf, guard_ft, guard_sk, obind, omap, pickV_true, pickV_false, condK_true, condK_false, decide_true, decide_false, Bool.not_true, Bool.not_false, not_bool, b_lss, ltT]
/-- Sorting what is sorted. -/
theorem sort_same {σ : Store} {r lo : Nat} {A : List E} (hlo : lo ≤ r) (h : σ[r]? = some (.mix (cels A))) (hn : A.length ≤ 100000) (ha : Asc A) : ∃ e, CC lo 69 [.rsl r 2 0 A.length, .fn 70 []] σ = some (.tuple [], σ ++ e) := by
  obtain ⟨B, e, h1, h2, h3⟩ := sort_ok S70 ordB hlo hn h
  have h4 : B = A := sorted_eq h2 (sd_pair (by rw [h2.length_eq]; exact h3)) (asc_le ha)
  subst h4
  refine ⟨e, ?_⟩
  rw [h1]
  have hr := get_lt h
  have : W (σ ++ e) r B = σ ++ e := W_eq (by rw [List.getElem?_append_left hr]; exact h)
  rw [this]
end Go.D.StB
end
/- Seat 2: steps, what two components do together. -/
section
set_option linter.unusedVariables false
set_option linter.unusedSimpArgs false
namespace Go.D.StB
open Go.D.Srt
def outAt (c : Cmp) (i : Int) : Int := (L c.out).getD i.toNat 0
def stepC (a b : Cmp) (x : E) (m n : Edg) : Bool := decide (m.f = x.1) && decide (n.f = x.2) && decide (m.t = outAt b x.2) && decide (n.t = outAt a x.1)
theorem stepC_iff {a b : Cmp} {x : E} {m n : Edg} : stepC a b x m n = true ↔ m.f = x.1 ∧ n.f = x.2 ∧ m.t = outAt b x.2 ∧ n.t = outAt a x.1 := by
  simp only [stepC, Bool.and_eq_true, decide_eq_true_eq, and_assoc]
def inr (a b : Cmp) (x : E) (m : Edg) (l : List Edg) : List E := (l.filter (stepC a b x m)).map fun n => (m.a, n.a)
def stepsL (a b : Cmp) (x : E) : List E := (L a.mv).flatMap fun m => inr a b x m (L b.mv)
theorem drop_getD {l : List Edg} {k : Nat} (h : k < l.length) : l.drop k = l.getD k default :: l.drop (k + 1) := by
  rw [List.getD_eq_getElem?_getD, List.getElem?_eq_getElem h]
  exact List.drop_eq_getElem_cons h
theorem inr_cons (a b : Cmp) (x : E) (m n : Edg) (l : List Edg) : inr a b x m (n :: l) = (if stepC a b x m n = true then [(m.a, n.a)] else []) ++ inr a b x m l := by
  unfold inr
  rw [List.filter_cons]
  split <;> simp
theorem ld120_0 {σ : Store} {i : Nat} {x : E} (h : σ[i]? = some (.mix (cel x))) : load1 (.ptr i 0) σ = some (.p (.int .i64 x.1)) := load1_ptr h rfl
theorem ld120_1 {σ : Store} {i : Nat} {x : E} (h : σ[i]? = some (.mix (cel x))) : load1 (.ptr i 1) σ = some (.p (.int .i64 x.2)) := load1_ptr h rfl
theorem ed_0 {σ : Store} {i : Nat} {m : Edg} (h : σ[i]? = some (.mix (edgD m))) : load1 (.ptr i 0) σ = some (.p (.int .i64 m.f)) := load1_ptr h rfl
theorem ed_1 {σ : Store} {i : Nat} {m : Edg} (h : σ[i]? = some (.mix (edgD m))) : load1 (.ptr i 1) σ = some (.p (.int .i64 m.t)) := load1_ptr h rfl
theorem ed_2 {σ : Store} {i : Nat} {m : Edg} (h : σ[i]? = some (.mix (edgD m))) : load1 (.ptr i 2) σ = some (.p (.int .i64 m.a)) := load1_ptr h rfl
theorem bld120 (x y : Int) : build PP 120 [(0, .p (.int .i64 x)), (1, .p (.int .i64 y))] = some (val (x, y)) := Eq.trans (by kernel_rfl) rfl
theorem bs116 (e : E) (σ : Store) : buildSlice PP none 116 1 [(0, val e)] σ = some (.p (.sl true 1 (celP e)), σ) := Eq.trans (by kernel_rfl) rfl
theorem ldOut {o : OI} {i : Nat} (h : i < (L o).length) (σ : Store) : load1 (.pptr (eInts (L o)) i) σ = some (.p (.int .i64 ((L o).getD i 0))) := load1_getD h σ
section
variable {a b : Cmp} {x : E} {i3 i4 i5 B : Nat} (hb : (L b.mv).length ≤ 60) (h0 : 0 ≤ x.1 ∧ x.1.toNat < (L a.out).length) (h1 : 0 ≤ x.2 ∧ x.2.toNat < (L b.out).length) (hB : i3 < B ∧ i4 < B ∧ i5 < B)
include hb h0 h1 hB
theorem st_L1 {i9 q : Nat} {m : Edg} {x13 x14 : DV} (hq : q ≤ 60) : ∀ (d k : Nat) (A : List E) (y : DV) (σ : Store), (L b.mv).length - k = d → k ≤ (L b.mv).length →
    σ[i3]? = some (.mix (eCmp a)) → σ[i4]? = some (.mix (eCmp b)) → σ[i5]? = some (.mix (cel x)) → σ[i9]? = some (.mix (edgD m)) → RowL σ B A y → (∀ r, y = .rsl r 2 0 A.length → i9 ≠ r) → B ≤ σ.length → A.length ≤ 60 * q + k →
    ∃ y' σ', f67_L1 guardT 0 (.ptr i3 0) (.ptr i4 0) (.ptr i5 0) y (.ptr i9 0) x13 x14 (N q) (.p (eEs b.mv)) (N (L b.mv).length) (N k) σ = f67_L0 guardT 0 (.ptr i3 0) (.ptr i4 0) (.ptr i5 0) y' x13 x14 (N (q + 1)) σ' ∧
      RowL σ' B (A ++ inr a b x m ((L b.mv).drop k)) y' ∧ (∀ j row, j < B → σ[j]? = some row → σ'[j]? = some row) ∧ B ≤ σ'.length ∧ (A ++ inr a b x m ((L b.mv).drop k)).length ≤ 60 * q + (L b.mv).length
  | 0, k, A, y, σ, hd, hk, g3, g4, g5, g9, hR, hne, hBl, hA => by
    refine ⟨y, σ, ?_, ?_, fun j row _ h => h, hBl, ?_⟩
    · rw [f67_L1_eq guardT rfl]
      simp (disch := omega) only [N, b_lss, ltF, guard_tt, guard_ff, guard_tf, guard_ft, guard_sk, obind, omap, pickV_true, pickV_false, condK_true, condK_false, decide_true, decide_false, Bool.not_true, Bool.not_false, not_bool, add1]
    · rw [List.drop_of_length_le (by omega)]
      simpa [inr] using hR
    · rw [List.drop_of_length_le (by omega)]
      simp [inr]; omega
  | d + 1, k, A, y, σ, hd, hk, g3, g4, g5, g9, hR, hne, hBl, hA => by
    have hkl : k < (L b.mv).length := by omega
    have f3 : (σ ++ [Row.mix (edgD ((L b.mv).getD k default))])[i3]? = _ := get_old g3
    have f4 : (σ ++ [Row.mix (edgD ((L b.mv).getD k default))])[i4]? = _ := get_old g4
    have f5 : (σ ++ [Row.mix (edgD ((L b.mv).getD k default))])[i5]? = _ := get_old g5
    have f9 : (σ ++ [Row.mix (edgD ((L b.mv).getD k default))])[i9]? = _ := get_old g9
    have fn : (σ ++ [Row.mix (edgD ((L b.mv).getD k default))])[σ.length]? = some (.mix (edgD ((L b.mv).getD k default))) := get_snoc
    have hR2 : RowL (σ ++ [Row.mix (edgD ((L b.mv).getD k default))]) B A y := by
      rcases hR with hR | ⟨r, e1, e2, e3, e4⟩
      · exact .inl hR
      · exact .inr ⟨r, e1, get_old e2, e3, e4⟩
    have hBl2 : B ≤ (σ ++ [Row.mix (edgD ((L b.mv).getD k default))]).length := by simp; omega
    have hold : ∀ j row, j < B → σ[j]? = some row → (σ ++ [Row.mix (edgD ((L b.mv).getD k default))])[j]? = some row := fun j row _ h => get_old h
    have hsn := store_new106 σ ((L b.mv).getD k default) [.p (pI 0), .p (pI 0), .p (pI 0)] rfl
    have hi9 : i9 < σ.length := get_lt g9
    have hlen : (σ ++ [Row.mix (edgD ((L b.mv).getD k default))]).length = σ.length + 1 := by simp
    rw [drop_getD hkl, inr_cons]
    generalize hn : (L b.mv).getD k default = n at *
    have hld : (loadN σ 3 (.pptr (eEdgs (L b.mv)) (k * 3))).map DV.agg = some (.agg (edgD n)) := by rw [← hn]; exact load106_D hkl σ
    have key : f67_L1 guardT 0 (.ptr i3 0) (.ptr i4 0) (.ptr i5 0) y (.ptr i9 0) x13 x14 (N q) (.p (eEs b.mv)) (N (L b.mv).length) (N k) σ =
        if stepC a b x m n = true then (append PP 0 true 116 116 y (.p (.sl true 1 (celP (m.a, n.a)))) (σ ++ [.mix (edgD n)])).bind fun r => f67_L1 guardT 0 (.ptr i3 0) (.ptr i4 0) (.ptr i5 0) r.1 (.ptr i9 0) x13 x14 (N q) (.p (eEs b.mv)) (N (L b.mv).length) (N (k + 1)) r.2
        else f67_L1 guardT 0 (.ptr i3 0) (.ptr i4 0) (.ptr i5 0) y (.ptr i9 0) x13 x14 (N q) (.p (eEs b.mv)) (N (L b.mv).length) (N (k + 1)) (σ ++ [.mix (edgD n)]) := by
      rw [f67_L1_eq guardT rfl]
      generalize (σ ++ [Row.mix (edgD n)]) = ρ at *
      have hk1 : k ≤ 1000000 := by omega
      by_cases c1 : m.f = x.1
      · by_cases c2 : n.f = x.2
        · by_cases c3 : m.t = (L b.out).getD x.2.toNat 0
          · by_cases c4 : n.t = (L a.out).getD x.1.toNat 0
            · have hs : stepC a b x m n = true := stepC_iff.2 ⟨c1, c2, c3, c4⟩
              rw [if_pos hs]
              simp (disch := omega) only [N, b_lss, ltT, guard_tt, guard_ff, guard_tf, guard_ft, guard_sk, obind, omap, pickV_true, pickV_false, condK_true, condK_false, decide_true, decide_false, Bool.not_true, Bool.not_false, not_bool, idx23 hkl, load106, hld, zero106, hsn, fa106_0, fa106_1, fa106_2, fa120_0, fa120_1, fa25_2, shift_ptr, shift_pptr, Nat.zero_add, Nat.add_zero, pureFn_fn, List.append_nil, List.singleton_append, List.cons_append, List.nil_append, load3, load22, ed_0 f9, ed_0 fn, ed_1 f9, ed_1 fn, ed_2 f9, ed_2 fn, ld120_0 f5, ld120_1 f5, cm_2 f3, cm_2 f4, b_eql, eqT c1, eqT c2, idx22i h0.1 h0.2, idx22i h1.1 h1.2, ldOut h0.2, ldOut h1.2, eqT c3, eqT c4, bld120, bs116, f67_J0_eq, add1]
            · have hs : ¬ stepC a b x m n = true := fun e => c4 (stepC_iff.1 e).2.2.2
              rw [if_neg hs]
              simp (disch := omega) only [N, b_lss, ltT, guard_tt, guard_ff, guard_tf, guard_ft, guard_sk, obind, omap, pickV_true, pickV_false, condK_true, condK_false, decide_true, decide_false, Bool.not_true, Bool.not_false, not_bool, idx23 hkl, load106, hld, zero106, hsn, fa106_0, fa106_1, fa106_2, fa120_0, fa120_1, fa25_2, shift_ptr, shift_pptr, Nat.zero_add, Nat.add_zero, pureFn_fn, List.append_nil, List.singleton_append, List.cons_append, List.nil_append, load3, load22, ed_0 f9, ed_0 fn, ed_1 f9, ed_1 fn, ed_2 f9, ed_2 fn, ld120_0 f5, ld120_1 f5, cm_2 f3, cm_2 f4, b_eql, eqT c1, eqT c2, idx22i h0.1 h0.2, idx22i h1.1 h1.2, ldOut h0.2, ldOut h1.2, eqT c3, eqF c4, f67_J0_eq, add1]
          · have hs : ¬ stepC a b x m n = true := fun e => c3 (stepC_iff.1 e).2.2.1
            rw [if_neg hs]
            simp (disch := omega) only [N, b_lss, ltT, guard_tt, guard_ff, guard_tf, guard_ft, guard_sk, obind, omap, pickV_true, pickV_false, condK_true, condK_false, decide_true, decide_false, Bool.not_true, Bool.not_false, not_bool, idx23 hkl, load106, hld, zero106, hsn, fa106_0, fa106_1, fa106_2, fa120_0, fa120_1, fa25_2, shift_ptr, shift_pptr, Nat.zero_add, Nat.add_zero, pureFn_fn, List.append_nil, List.singleton_append, List.cons_append, List.nil_append, load3, load22, ed_0 f9, ed_0 fn, ed_1 f9, ed_1 fn, ed_2 f9, ed_2 fn, ld120_0 f5, ld120_1 f5, cm_2 f3, cm_2 f4, b_eql, eqT c1, eqT c2, idx22i h0.1 h0.2, idx22i h1.1 h1.2, ldOut h0.2, ldOut h1.2, eqF c3, f67_J0_eq, add1]
        · have hs : ¬ stepC a b x m n = true := fun e => c2 (stepC_iff.1 e).2.1
          rw [if_neg hs]
          simp (disch := omega) only [N, b_lss, ltT, guard_tt, guard_ff, guard_tf, guard_ft, guard_sk, obind, omap, pickV_true, pickV_false, condK_true, condK_false, decide_true, decide_false, Bool.not_true, Bool.not_false, not_bool, idx23 hkl, load106, hld, zero106, hsn, fa106_0, fa106_1, fa106_2, fa120_0, fa120_1, fa25_2, shift_ptr, shift_pptr, Nat.zero_add, Nat.add_zero, pureFn_fn, List.append_nil, List.singleton_append, List.cons_append, List.nil_append, load3, load22, ed_0 f9, ed_0 fn, ed_1 f9, ed_1 fn, ld120_0 f5, ld120_1 f5, b_eql, eqT c1, eqF c2, f67_J0_eq, add1]
      · have hs : ¬ stepC a b x m n = true := fun e => c1 (stepC_iff.1 e).1
        rw [if_neg hs]
        simp (disch := omega) only [N, b_lss, ltT, guard_tt, guard_ff, guard_tf, guard_ft, guard_sk, obind, omap, pickV_true, pickV_false, condK_true, condK_false, decide_true, decide_false, Bool.not_true, Bool.not_false, not_bool, idx23 hkl, load106, hld, zero106, hsn, fa106_0, fa106_1, fa106_2, fa120_0, fa120_1, fa25_2, shift_ptr, shift_pptr, Nat.zero_add, Nat.add_zero, pureFn_fn, List.append_nil, List.singleton_append, List.cons_append, List.nil_append, load3, load22, ed_0 f9, ed_0 fn, ed_1 f9, ed_1 fn, ld120_0 f5, ld120_1 f5, b_eql, eqF c1, f67_J0_eq, add1]
    rw [key]
    by_cases hs : stepC a b x m n = true
    · rw [if_pos hs, if_pos hs]
      obtain ⟨σ2, p1, p2, p3, p4⟩ := hR2.push (lo := 0) (by omega) (Nat.zero_le _) hBl2 true (fun _ => rfl) (m.a, n.a)
      have hrB : ∀ r, y = .rsl r 2 0 A.length → B ≤ r := fun r e => by
        rcases hR with ⟨_, e2⟩ | ⟨r', e1, _, e3, _⟩
        · rw [e2] at e; exact absurd e (by simp)
        · rw [e1] at e; injection e with e; omega
      have kp : ∀ j row, j < B → (σ ++ [Row.mix (edgD n)])[j]? = some row → σ2[j]? = some row := fun j row hj h => p3 j row (fun r e => by have := hrB r e; omega) h
      have q9 : σ2[i9]? = some (.mix (edgD m)) := p3 i9 _ (fun r e => hne r e) f9
      obtain ⟨y', σ', r1, r2, r3, r4, r5⟩ := st_L1 (i9 := i9) (m := m) (x13 := x13) (x14 := x14) hq d (k + 1) (A ++ [(m.a, n.a)]) _ σ2 (by omega) (by omega) (kp i3 _ hB.1 f3) (kp i4 _ hB.2.1 f4) (kp i5 _ hB.2.2 f5) q9 p2 (fun r e => by injection e with e; omega) (by omega) (by simp; omega)
      refine ⟨y', σ', ?_, ?_, fun j row hj h => r3 j row hj (kp j row hj (get_old h)), r4, ?_⟩
      · rw [p1]
        simp only [guard_tt, guard_ff, guard_tf, guard_ft, guard_sk, obind, omap, pickV_true, pickV_false, condK_true, condK_false, decide_true, decide_false, Bool.not_true, Bool.not_false, not_bool]
        exact r1
      · rw [← List.append_assoc]; exact r2
      · rw [← List.append_assoc]; exact r5
    · rw [if_neg hs, if_neg hs, List.nil_append]
      obtain ⟨y', σ', r1, r2, r3, r4, r5⟩ := st_L1 (i9 := i9) (m := m) (x13 := x13) (x14 := x14) hq d (k + 1) A y (σ ++ [Row.mix (edgD n)]) (by omega) (by omega) f3 f4 f5 f9 hR2 hne (by omega) (by omega)
      exact ⟨y', σ', r1, r2, fun j row hj h => r3 j row hj (get_old h), r4, r5⟩
theorem st_L0 (ha : (L a.mv).length ≤ 60) : ∀ (d q : Nat) (A : List E) (y : DV) (σ : Store), (L a.mv).length - q = d → q ≤ (L a.mv).length →
    σ[i3]? = some (.mix (eCmp a)) → σ[i4]? = some (.mix (eCmp b)) → σ[i5]? = some (.mix (cel x)) → RowL σ B A y → B ≤ σ.length → A.length ≤ 60 * q →
    ∃ y' σ' A', A' = A ++ ((L a.mv).drop q).flatMap (fun m => inr a b x m (L b.mv)) ∧ f67_L0 guardT 0 (.ptr i3 0) (.ptr i4 0) (.ptr i5 0) y (.p (eEs a.mv)) (N (L a.mv).length) (N q) σ =
      (plainFn CC 0 (DV.fn 69 []) [y', .fn 70 []] σ').bind (fun r => (plainFn CC 0 (DV.fn 107 []) [y'] r.2).bind fun r => some (r.1, r.2)) ∧ RowL σ' B A' y' ∧ A'.length ≤ 3600
  | 0, q, A, y, σ, hd, hq, g3, g4, g5, hR, hBl, hA => by
    refine ⟨y, σ, A, by rw [List.drop_of_length_le (by omega)]; simp, ?_, hR, by omega⟩
    rw [f67_L0_eq guardT rfl]
    simp (disch := omega) only [N, b_lss, ltF, guard_tt, guard_ff, guard_tf, guard_ft, guard_sk, obind, omap, pickV_true, pickV_false, condK_true, condK_false, decide_true, decide_false, Bool.not_true, Bool.not_false, not_bool]
  | d + 1, q, A, y, σ, hd, hq, g3, g4, g5, hR, hBl, hA => by
    have hql : q < (L a.mv).length := by omega
    have hsn := store_new106 σ ((L a.mv).getD q default) [.p (pI 0), .p (pI 0), .p (pI 0)] rfl
    have f3 : (σ ++ [Row.mix (edgD ((L a.mv).getD q default))])[i3]? = _ := get_old g3
    have f4 : (σ ++ [Row.mix (edgD ((L a.mv).getD q default))])[i4]? = _ := get_old g4
    have f5 : (σ ++ [Row.mix (edgD ((L a.mv).getD q default))])[i5]? = _ := get_old g5
    have fn : (σ ++ [Row.mix (edgD ((L a.mv).getD q default))])[σ.length]? = some (.mix (edgD ((L a.mv).getD q default))) := get_snoc
    have hR2 : RowL (σ ++ [Row.mix (edgD ((L a.mv).getD q default))]) B A y := by
      rcases hR with hR | ⟨r, e1, e2, e3, e4⟩
      · exact .inl hR
      · exact .inr ⟨r, e1, get_old e2, e3, e4⟩
    have hne : ∀ r, y = .rsl r 2 0 A.length → σ.length ≠ r := fun r e => by
      rcases hR with ⟨_, e2⟩ | ⟨r', e1, e2, _, _⟩
      · rw [e2] at e; exact absurd e (by simp)
      · rw [e1] at e; injection e with e; have := get_lt e2; omega
    have hld : (loadN σ 3 (.pptr (eEdgs (L a.mv)) (q * 3))).map DV.agg = some (.agg (edgD ((L a.mv).getD q default))) := load106_D hql σ
    obtain ⟨y1, σ1, r1, r2, r3, r4, r5⟩ := st_L1 hb h0 h1 hB (q := q) (i9 := σ.length) (m := (L a.mv).getD q default) (x13 := .p (eEs a.mv)) (x14 := N (L a.mv).length) (by omega) ((L b.mv).length - 0) 0 A y _ rfl (Nat.zero_le _) f3 f4 f5 fn hR2 hne (by simp; omega) (by omega)
    rw [List.drop_zero] at r2 r5
    obtain ⟨y', σ', A', w1, w2, w3, w4⟩ := st_L0 ha d (q + 1) _ y1 σ1 (by omega) (by omega) (r3 i3 _ hB.1 f3) (r3 i4 _ hB.2.1 f4) (r3 i5 _ hB.2.2 f5) r2 r4 (by omega)
    refine ⟨y', σ', A', ?_, ?_, w3, w4⟩
    · rw [w1, drop_getD hql, List.flatMap_cons, List.append_assoc]
    · rw [← w2, ← r1, f67_L0_eq guardT rfl]
      simp (disch := omega) only [N, b_lss, ltT, guard_tt, guard_ff, guard_tf, guard_ft, guard_sk, obind, omap, pickV_true, pickV_false, condK_true, condK_false, decide_true, decide_false, Bool.not_true, Bool.not_false, not_bool, idx23 hql, load106, hld, zero106, hsn, fa25_3, shift_ptr, shift_pptr, Nat.zero_add, Nat.add_zero, pureFn_fn, List.append_nil, List.singleton_append, List.cons_append, List.nil_append, load23, cm_3 f4, len23]
      rfl
end
theorem sort_nil {σ : Store} {lo : Nat} : CC lo 69 [.p .nilsl, .fn 70 []] σ = some (.tuple [], σ) := by
  have hl : len PP 116 (.p .nilsl) σ = some (.p (.int .i64 0)) := by simp [len, uL]
  obtain ⟨b, e1, _, _⟩ := bl_ok (n := 0) (by omega)
  have c1 : CC lo 109 [.p .nilsl, .p (.int .i64 0), .p (.int .i64 0), N b, .fn 70 []] σ = some (.tuple [], σ) := by
    have c2 : CC lo 124 [.p .nilsl, .p (.int .i64 0), .p (.int .i64 0), .fn 70 []] σ = some (.tuple [], σ) := by
      refine F124_call ?_
      have e : binOp PP .add 3 (.p (.int .i64 0)) (.p (.int .i64 1)) = some (.p (.int .i64 1)) := by rw [b_add]; rfl
      rw [F124_eq]
      simp only [e, guard_tt, guard_ff, guard_tf, guard_ft, guard_sk, obind, omap, pickV_true, pickV_false, condK_true, condK_false, decide_true, decide_false, Bool.not_true, Bool.not_false, not_bool]
      rw [f124_L0_eq guardT rfl]
      simp (disch := omega) only [b_lss, ltF, guard_tt, guard_ff, guard_tf, guard_ft, guard_sk, obind, omap, pickV_true, pickV_false, condK_true, condK_false, decide_true, decide_false, Bool.not_true, Bool.not_false, not_bool]
    have e : binOp PP .sub 3 (.p (.int .i64 0)) (.p (.int .i64 0)) = some (.p (.int .i64 0)) := by rw [b_sub]; rfl
    refine F109_call ?_
    rw [F109_eq, f109_L0_eq guardT rfl]
    simp (disch := omega) only [e, guard_tt, guard_ff, guard_tf, guard_ft, guard_sk, obind, omap, pickV_true, pickV_false, condK_true, condK_false, decide_true, decide_false, Bool.not_true, Bool.not_false, not_bool, b_leq, leT, plainFn_fn, List.append_nil]
    rw [c2]
    simp only [guard_tt, guard_ff, guard_tf, guard_ft, guard_sk, obind, omap, pickV_true, pickV_false, condK_true, condK_false, decide_true, decide_false, Bool.not_true, Bool.not_false, not_bool]
  have e2 : convert PP 3 174 (.p (.int .i64 0)) = some (U 0) := cv_iu (m := 0) (by omega)
  refine F69_call ?_
  rw [F69_eq]
  simp only [U, N] at e1 e2 c1
  simp only [hl, guard_tt, guard_ff, guard_tf, guard_ft, guard_sk, obind, omap, pickV_true, pickV_false, condK_true, condK_false, decide_true, decide_false, Bool.not_true, Bool.not_false, not_bool, e2, pureFn_fn, plainFn_fn, List.append_nil, e1]
  rw [c1]
  simp only [guard_tt, guard_ff, guard_tf, guard_ft, guard_sk, obind, omap, pickV_true, pickV_false, condK_true, condK_false, decide_true, decide_false, Bool.not_true, Bool.not_false, not_bool]
def eBs (A : List E) : PV := if A = [] then .nilsl else .sl false A.length (celsP A)
theorem loosens_cels (A : List E) : loosens (celsP A) = celsP A := by
  induction A with
  | nil => rfl
  | cons a A ih =>
    have e1 : celsP (a :: A) = pI a.1 :: pI a.2 :: celsP A := rfl
    rw [e1]
    simp only [loosens, ih]
    rfl
theorem mapO_cels (σ : Store) (n d : Nat) (A : List E) : mapO (thawP n σ (d + 1)) (cels A) = some (celsP A) := by
  induction A with
  | nil => rfl
  | cons a A ih =>
    have e1 : celsP (a :: A) = pI a.1 :: pI a.2 :: celsP A := rfl
    have e2 : cels (a :: A) = .p (pI a.1) :: .p (pI a.2) :: cels A := rfl
    rw [e1, e2]
    simp only [mapO, ih]
    rfl
theorem thaw_row {σ : Store} {B lo : Nat} {A : List E} {y : DV} (h : RowL σ B A y) (hlo : lo ≤ B) : thawAll lo σ y = some (.p (eBs A)) := by
  rcases h with ⟨rfl, rfl⟩ | ⟨r, rfl, h1, h2, h3⟩
  · rfl
  · have e : ((cels A).drop 0).take (A.length * 2) = cels A := by rw [List.drop_zero, List.take_of_length_le (by rw [cels_len]; exact Nat.le_refl _)]
    have e2 : lo ≤ r := by omega
    have e3 : 0 + A.length * 2 ≤ (cels A).length := by rw [cels_len]; omega
    simp only [thawAll, thawPart, thaw, thaw1, thawP, e2, if_true, h1, e3, e, mapO_cels, Option.map_some, eBs, h3, if_false]
theorem S67 {a b : Cmp} {x : E} {σ : Store} (ha : (L a.mv).length ≤ 60) (hb : (L b.mv).length ≤ 60) (h0 : 0 ≤ x.1 ∧ x.1.toNat < (L a.out).length) (h1 : 0 ≤ x.2 ∧ x.2.toNat < (L b.out).length) (hs : Asc (stepsL a b x)) :
    pureV CC 67 [.agg (eCmp a), .agg (eCmp b), val x] σ = some (.p (eBs (stepsL a b x))) := by
  have g3 : ([Row.mix (eCmp a), Row.mix (eCmp b), Row.mix (cel x)] : Store)[0]? = some (.mix (eCmp a)) := rfl
  have g4 : ([Row.mix (eCmp a), Row.mix (eCmp b), Row.mix (cel x)] : Store)[1]? = some (.mix (eCmp b)) := rfl
  have g5 : ([Row.mix (eCmp a), Row.mix (eCmp b), Row.mix (cel x)] : Store)[2]? = some (.mix (cel x)) := rfl
  obtain ⟨y', σ', A', w1, w2, w3, w4⟩ := st_L0 hb h0 h1 (B := 3) (i3 := 0) (i4 := 1) (i5 := 2) (by omega) ha ((L a.mv).length - 0) 0 [] (.p .nilsl) _ rfl (Nat.zero_le _) g3 g4 g5 (.inl ⟨rfl, rfl⟩) (Nat.le_refl _) (by simp)
  rw [List.drop_zero, List.nil_append] at w1
  have w1 : A' = stepsL a b x := w1
  subst w1
  have fin : ∃ σ2, RowL σ2 3 (stepsL a b x) y' ∧ (plainFn CC 0 (DV.fn 69 []) [y', .fn 70 []] σ').bind (fun r => (plainFn CC 0 (DV.fn 107 []) [y'] r.2).bind fun r => some (r.1, r.2)) = some (y', σ2) := by
    simp only [plainFn_fn, List.append_nil]
    rcases w3 with ⟨e1, rfl⟩ | ⟨r, rfl, e2, e3, e4⟩
    · refine ⟨σ', .inl ⟨e1, rfl⟩, ?_⟩
      rw [sort_nil]
      simp only [guard_tt, guard_ff, guard_tf, guard_ft, guard_sk, obind, omap, pickV_true, pickV_false, condK_true, condK_false, decide_true, decide_false, Bool.not_true, Bool.not_false, not_bool]
      rw [cmpct_nil]
      simp only [guard_tt, guard_ff, guard_tf, guard_ft, guard_sk, obind, omap, pickV_true, pickV_false, condK_true, condK_false, decide_true, decide_false, Bool.not_true, Bool.not_false, not_bool]
    · obtain ⟨e, k1⟩ := sort_same (lo := 0) (Nat.zero_le _) e2 (by omega) hs
      have e5 : (σ' ++ e)[r]? = some (.mix (cels (stepsL a b x))) := by rw [List.getElem?_append_left (get_lt e2)]; exact e2
      refine ⟨σ' ++ e, .inr ⟨r, rfl, e5, e3, e4⟩, ?_⟩
      rw [k1]
      simp only [guard_tt, guard_ff, guard_tf, guard_ft, guard_sk, obind, omap, pickV_true, pickV_false, condK_true, condK_false, decide_true, decide_false, Bool.not_true, Bool.not_false, not_bool]
      rw [cmpct_ok e5 (by omega) hs]
      simp only [guard_tt, guard_ff, guard_tf, guard_ft, guard_sk, obind, omap, pickV_true, pickV_false, condK_true, condK_false, decide_true, decide_false, Bool.not_true, Bool.not_false, not_bool]
  obtain ⟨σ2, k1, k2⟩ := fin
  refine pureV_free (by simp [cmp_view]; rfl) rfl (F67_call (r := (y', σ2)) ?_) (thaw_row k1 (Nat.zero_le _))
  rw [F67_eq]
  simp only [N] at w2
  simp only [box_cmp, box_val, guard_tt, guard_ff, guard_tf, guard_ft, guard_sk, obind, omap, pickV_true, pickV_false, condK_true, condK_false, decide_true, decide_false, Bool.not_true, Bool.not_false, not_bool, List.length_nil, List.nil_append, List.length_cons, List.cons_append, fa25_3, shift_ptr, shift_pptr, Nat.zero_add, Nat.add_zero, pureFn_fn, List.append_nil, List.singleton_append, List.cons_append, List.nil_append, load23, cm_3 g3, len23]
  exact w2.trans k2
end Go.D.StB
end
/- Seat 2: beginnings, membership and binary search over pairs of states. -/
section
set_option linter.unusedVariables false
set_option linter.unusedSimpArgs false
namespace Go.D.StB
open Go.D.Srt
def begL (a b : Cmp) : List E := (L a.init).flatMap fun s => (L b.init).map fun u => (s, u)
theorem celsP_app (A B : List E) : celsP (A ++ B) = celsP A ++ celsP B := by simp [celsP]
theorem Out.pushE {σ : Store} {lo : Nat} {A : List E} {x : DV} (ho : Out σ lo 2 A.length (celsP A) x) (hn : A.length ≤ 10000000) (hlo : lo ≤ σ.length) (e : E) :
    ∃ x' σ', append PP lo false 116 116 x (.p (.sl true 1 (celP e))) σ = some (x', σ') ∧ Out σ' lo 2 (A ++ [e]).length (celsP (A ++ [e])) x' ∧ Others σ σ' x ∧ Fresh σ x x' ∧ lo ≤ σ'.length := by
  obtain ⟨x', σ', h1, h2, h3, h4⟩ := Out.pushF (vs := celP e) srcB u116 sE bytesB zeroB rfl (by decide) (by decide) (by decide) rfl ho hn hlo
  refine ⟨x', σ', h1, ?_, h3, h4, ?_⟩
  · rw [celsP_app, List.length_append]
    exact h2
  · rcases h2.2 with ⟨h, _⟩ | ⟨_, r, ver, _, h, h5⟩
    · omega
    · have := get_lt h; omega
theorem bg_L1 {b : Cmp} {s : Int} {i3 : Nat} {x11 x12 x13 : DV} (hb : (L b.init).length ≤ 1000) (q : Nat) (hx : x13 = N q) (hq : q ≤ 1000) : ∀ (d k : Nat) (A : List E) (y : DV) (σ : Store), (L b.init).length - k = d → k ≤ (L b.init).length →
    (∀ c : Unit, σ[i3]? = some (.mix (eCmp b))) → Out σ 2 2 A.length (celsP A) y → i3 < 2 → 2 ≤ σ.length → A.length ≤ 1000 * q + k →
    ∃ y' σ', f65_L1 guardT 0 (.ptr i3 0) y (.p (.int .i64 s)) x11 x12 x13 (.p (eSl b.init)) (N (L b.init).length) (N k) σ = f65_L0 guardT 0 (.ptr i3 0) y' x11 x12 (N (q + 1)) σ' ∧
      Out σ' 2 2 (A ++ ((L b.init).drop k).map fun u => (s, u)).length (celsP (A ++ ((L b.init).drop k).map fun u => (s, u))) y' ∧ σ'[i3]? = some (.mix (eCmp b)) ∧ 2 ≤ σ'.length
  | 0, k, A, y, σ, hd, hk, g3, hO, h3, hl, hA => by
    refine ⟨y, σ, ?_, by rw [List.drop_of_length_le (by omega)]; simpa using hO, g3 (), hl⟩
    subst hx
    rw [f65_L1_eq guardT rfl]
    simp (disch := omega) only [N, b_lss, ltF, guard_tt, guard_ff, guard_tf, guard_ft, guard_sk, obind, omap, pickV_true, pickV_false, condK_true, condK_false, decide_true, decide_false, Bool.not_true, Bool.not_false, not_bool, add1]
  | d + 1, k, A, y, σ, hd, hk, g3, hO, h3, hl, hA => by
    have hkl : k < (L b.init).length := by omega
    have e0 : (L b.init).drop k = (L b.init).getD k 0 :: (L b.init).drop (k + 1) := by
      rw [List.getD_eq_getElem?_getD, List.getElem?_eq_getElem hkl]; exact List.drop_eq_getElem_cons hkl
    obtain ⟨y1, σ1, p1, p2, p3, p4, p5⟩ := Out.pushE hO (by omega) hl (s, (L b.init).getD k 0)
    have p1 : append PP 0 false 116 116 y (.p (.sl true 1 (celP (s, (L b.init).getD k 0)))) σ = some (y1, σ1) := append_lo0 hO p1
    have g3' : σ1[i3]? = some (.mix (eCmp b)) := p3 i3 _ (g3 ()) fun r ver sz n cs e => by
      rcases hO.2 with ⟨_, e2⟩ | ⟨_, r2, ver2, e2, _, e3⟩
      · rw [e2] at e; exact absurd e (by simp)
      · rw [e2] at e; injection e with e; omega
    obtain ⟨y', σ', r1, r2, r3, r4⟩ := bg_L1 (s := s) (x11 := x11) (x12 := x12) hb q hx hq d (k + 1) (A ++ [(s, (L b.init).getD k 0)]) y1 σ1 (by omega) (by omega) (fun _ => g3') p2 h3 p5 (by simp; omega)
    refine ⟨y', σ', ?_, ?_, r3, r4⟩
    · rw [← r1, f65_L1_eq guardT rfl]
      simp (disch := omega) only [N, b_lss, ltT, guard_tt, guard_ff, guard_tf, guard_ft, guard_sk, obind, omap, pickV_true, pickV_false, condK_true, condK_false, decide_true, decide_false, Bool.not_true, Bool.not_false, not_bool, idx22 hkl, load3, ldOut hkl, bld120, bs116, p1, add1]
    · rw [e0, List.map_cons, ← List.singleton_append, ← List.append_assoc]
      exact r2
where
  append_lo0 {σ : Store} {A : List E} {y y1 : DV} {σ1 : Store} {v : DV} (hO : Out σ 2 2 A.length (celsP A) y) (h : append PP 2 false 116 116 y v σ = some (y1, σ1)) : append PP 0 false 116 116 y v σ = some (y1, σ1) := by
    rw [← h]
    rcases hO.2 with ⟨_, rfl⟩ | ⟨_, r, ver, rfl, _, h5⟩
    · simp only [append]
    · simp only [append, appTok, h5, Nat.zero_le]
theorem bg_L0 {a b : Cmp} {i3 : Nat} (ha : (L a.init).length ≤ 1000) (hb : (L b.init).length ≤ 1000) (h3 : i3 < 2) : ∀ (d q : Nat) (A : List E) (y : DV) (σ : Store), (L a.init).length - q = d → q ≤ (L a.init).length →
    σ[i3]? = some (.mix (eCmp b)) → Out σ 2 2 A.length (celsP A) y → 2 ≤ σ.length → A.length ≤ 1000 * q →
    ∃ y' σ' A', A' = A ++ ((L a.init).drop q).flatMap (fun s => (L b.init).map fun u => (s, u)) ∧ f65_L0 guardT 0 (.ptr i3 0) y (.p (eSl a.init)) (N (L a.init).length) (N q) σ = some (y', σ') ∧ Out σ' 2 2 A'.length (celsP A') y'
  | 0, q, A, y, σ, hd, hq, g3, hO, hl, hA => by
    refine ⟨y, σ, A, by rw [List.drop_of_length_le (by omega)]; simp, ?_, hO⟩
    rw [f65_L0_eq guardT rfl]
    simp (disch := omega) only [N, b_lss, ltF, guard_tt, guard_ff, guard_tf, guard_ft, guard_sk, obind, omap, pickV_true, pickV_false, condK_true, condK_false, decide_true, decide_false, Bool.not_true, Bool.not_false, not_bool]
  | d + 1, q, A, y, σ, hd, hq, g3, hO, hl, hA => by
    have hql : q < (L a.init).length := by omega
    have e0 : (L a.init).drop q = (L a.init).getD q 0 :: (L a.init).drop (q + 1) := by
      rw [List.getD_eq_getElem?_getD, List.getElem?_eq_getElem hql]; exact List.drop_eq_getElem_cons hql
    obtain ⟨y1, σ1, r1, r2, r3, r4⟩ := bg_L1 (s := (L a.init).getD q 0) (x11 := .p (eSl a.init)) (x12 := N (L a.init).length) hb q rfl (by omega) ((L b.init).length - 0) 0 A y σ rfl (Nat.zero_le _) (fun _ => g3) hO h3 hl (by omega)
    rw [List.drop_zero] at r2
    obtain ⟨y', σ', A', w1, w2, w3⟩ := bg_L0 ha hb h3 d (q + 1) _ y1 σ1 (by omega) (by omega) r3 r2 r4 (by simp; omega)
    refine ⟨y', σ', A', ?_, ?_, w3⟩
    · rw [w1, e0, List.flatMap_cons, List.append_assoc]
    · rw [← w2, ← r1, f65_L0_eq guardT rfl]
      simp (disch := omega) only [N, b_lss, ltT, guard_tt, guard_ff, guard_tf, guard_ft, guard_sk, obind, omap, pickV_true, pickV_false, condK_true, condK_false, decide_true, decide_false, Bool.not_true, Bool.not_false, not_bool, idx22 hql, load3, ldOut hql, fa25_1, shift_ptr, shift_pptr, Nat.zero_add, Nat.add_zero, pureFn_fn, List.append_nil, List.singleton_append, List.cons_append, List.nil_append, load22, cm_1 g3, len22]
      rfl
theorem out_eBs {σ : Store} {A : List E} {x : DV} {lo m : Nat} (h : Out σ lo 2 A.length (celsP A) x) : thawAll m σ x = some (.p (eBs A)) := by
  rw [Out.twAll h m, loosens_cels]
  unfold eBs
  by_cases e : A = []
  · subst e; rfl
  · rw [if_neg e, if_neg (fun h => e (List.length_eq_zero_iff.1 h))]
theorem S65 {a b : Cmp} {σ : Store} (ha : (L a.init).length ≤ 1000) (hb : (L b.init).length ≤ 1000) : pureV CC 65 [.agg (eCmp a), .agg (eCmp b)] σ = some (.p (eBs (begL a b))) := by
  have g0 : ([Row.mix (eCmp a), Row.mix (eCmp b)] : Store)[0]? = some (.mix (eCmp a)) := rfl
  have g1 : ([Row.mix (eCmp a), Row.mix (eCmp b)] : Store)[1]? = some (.mix (eCmp b)) := rfl
  obtain ⟨y', σ', A', w1, w2, w3⟩ := bg_L0 (i3 := 1) ha hb (by omega) ((L a.init).length - 0) 0 [] (.p .nilsl) _ rfl (Nat.zero_le _) g1 Out.zero (Nat.le_refl _) (by simp)
  rw [List.drop_zero, List.nil_append] at w1
  have w1 : A' = begL a b := w1
  subst w1
  refine pureV_free (by simp [cmp_view]) rfl (F65_call (r := (y', σ')) ?_) (out_eBs w3)
  rw [F65_eq]
  simp only [N] at w2
  simp only [box_cmp, guard_tt, guard_ff, guard_tf, guard_ft, guard_sk, obind, omap, pickV_true, pickV_false, condK_true, condK_false, decide_true, decide_false, Bool.not_true, Bool.not_false, not_bool, List.length_nil, List.nil_append, List.length_cons, List.cons_append, fa25_1, shift_ptr, shift_pptr, Nat.zero_add, Nat.add_zero, pureFn_fn, List.append_nil, List.singleton_append, List.cons_append, List.nil_append, load22, cm_1 g0, len22]
  exact w2
/-- Index, counted from i on, or -1. -/
def fIdx (x : E) : Nat → List E → Int
  | _, [] => -1
  | i, y :: l => if x = y then (i : Int) else fIdx x (i + 1) l
theorem fIdx_ge (x : E) : ∀ (l : List E) (i : Nat), decide (fIdx x i l ≥ 0) = l.contains x
  | [], i => rfl
  | y :: l, i => by
    unfold fIdx
    by_cases e : x = y
    · subst e; simp
    · rw [if_neg e, fIdx_ge x l (i + 1)]
      simp [e]
theorem ix_L0 {σ : Store} {r s n lo : Nat} {A : List E} {x : E} (h : σ[r]? = some (.mix (cels A))) (hx : σ[s]? = some (.mix (cel x))) (hA : A.length = n) (hn : n ≤ 100000) : ∀ (k i : Nat), n - i = k → i ≤ n →
    f108_L0 guardT lo (.rsl r 2 0 n) (.ptr s 0) (N n) (N i) σ = some (.p (.int .i64 (fIdx x i (A.drop i))), σ)
  | 0, i, hk, hi => by
    rw [f108_L0_eq guardT rfl, List.drop_of_length_le (by omega)]
    simp (disch := omega) only [guard_tt, guard_ff, guard_tf, guard_ft, guard_sk, obind, omap, pickV_true, pickV_false, condK_true, condK_false, decide_true, decide_false, Bool.not_true, Bool.not_false, not_bool, N, b_lss, ltF, fIdx]
  | k + 1, i, hk, hi => by
    have hil : i < A.length := by omega
    have hr := get_lt h
    have hld : ∀ j, j < A.length → load PP 120 (.ptr r (j * 2)) σ = some (val (ge A j)) := fun j hj => by
      have := ldW (A := A) hr hj
      rwa [W_eq h] at this
    have hlx : load PP 120 (.ptr s 0) σ = some (val x) := by
      rw [loadE, loadN_ptr hx rfl (Nat.le_refl 2)]; rfl
    have e0 : A.drop i = ge A i :: A.drop (i + 1) := by
      unfold ge
      rw [List.getD_eq_getElem?_getD, List.getElem?_eq_getElem hil]; exact List.drop_eq_getElem_cons hil
    have ih := ix_L0 (lo := lo) h hx hA hn k (i + 1) (by omega) (by omega)
    rw [f108_L0_eq guardT rfl, e0, fIdx]
    by_cases e : x = ge A i
    · rw [if_pos e]
      simp (disch := omega) only [guard_tt, guard_ff, guard_tf, guard_ft, guard_sk, obind, omap, pickV_true, pickV_false, condK_true, condK_false, decide_true, decide_false, Bool.not_true, Bool.not_false, not_bool, N, b_lss, ltT, hlx, idxL, hld, eqVal, decide_eq_true e]
    · rw [if_neg e]
      simp (disch := omega) only [guard_tt, guard_ff, guard_tf, guard_ft, guard_sk, obind, omap, pickV_true, pickV_false, condK_true, condK_false, decide_true, decide_false, Bool.not_true, Bool.not_false, not_bool, N, b_lss, ltT, hlx, idxL, hld, eqVal, decide_eq_false e, add1]
      exact ih
theorem S68 {σ : Store} {r : Nat} {A : List E} {x : E} (h : σ[r]? = some (.mix (cels A))) (hn : A.length ≤ 100000) : pureV CC 68 [.rsl r 2 0 A.length, val x] σ = some (.p (.bool (A.contains x))) := by
  have h108 : ∀ σ : Store, σ[r]? = some (.mix (cels A)) → pureV CC 108 [.rsl r 2 0 A.length, val x] σ = some (.p (.int .i64 (fIdx x 0 A))) := fun σ h => by
    have e1 : len PP 116 (.rsl r 2 0 A.length) (σ ++ [.mix (cel x)]) = some (N A.length) := by simp [len, uL]
    have e2 := ix_L0 (lo := σ.length) (σ := σ ++ [.mix (cel x)]) (x := x) (get_old h) get_snoc rfl hn (A.length - 0) 0 rfl (Nat.zero_le _)
    refine pureV_rows rfl rfl (F108_call (r := (.p (.int .i64 (fIdx x 0 A)), σ ++ [.mix (cel x)])) ?_) rfl
    rw [F108_eq]
    rw [List.drop_zero] at e2
    simp only [N] at e1 e2
    simp only [box_val, guard_tt, guard_ff, guard_tf, guard_ft, guard_sk, obind, omap, pickV_true, pickV_false, condK_true, condK_false, decide_true, decide_false, Bool.not_true, Bool.not_false, not_bool, e1]
    exact e2
  have hlx : load PP 120 (.ptr σ.length 0) (σ ++ [.mix (cel x)]) = some (val x) := by
    rw [loadE, loadN_ptr get_snoc rfl (Nat.le_refl 2)]; rfl
  refine pureV_rows rfl rfl (F68_call (r := (.p (.bool (A.contains x)), σ ++ [.mix (cel x)])) ?_) rfl
  rw [F68_eq]
  simp only [box_val, guard_tt, guard_ff, guard_tf, guard_ft, guard_sk, obind, omap, pickV_true, pickV_false, condK_true, condK_false, decide_true, decide_false, Bool.not_true, Bool.not_false, not_bool, hlx, pureFn_fn, List.append_nil, h108 _ (get_old h), b_geq, fIdx_ge]
end Go.D.StB
end
/- Seat 2: binary search, and the number of a pair. -/
section
set_option linter.unusedVariables false
set_option linter.unusedSimpArgs false
namespace Go.D.StB
open Go.D.Srt
theorem ge_at {A : List E} {k : Nat} (hk : k < A.length) : ge A k = A[k] := by unfold ge; rw [List.getD_eq_getElem?_getD, List.getElem?_eq_getElem hk]; rfl
theorem asc_lt {A : List E} (h : Asc A) {i j : Nat} (hij : i < j) (hj : j < A.length) : ltB (ge A i) (ge A j) := by
  rw [ge_at (by omega), ge_at hj]
  exact List.pairwise_iff_getElem.1 h i j (by omega) hj hij
theorem cmpB_self (x : E) : cmpB x x = 0 := by simp [cmpB, cmpI, orL]
theorem cmp_pos {A : List E} (h : Asc A) {p k : Nat} (hp : p < A.length) (hk : k < A.length) : cmpB (ge A k) (ge A p) < 0 ↔ k < p := by
  rw [cmpB_lt]
  constructor
  · intro h1
    by_cases e : k < p
    · exact e
    · by_cases e2 : k = p
      · subst e2; unfold ltB at h1; omega
      · have h2 := asc_lt h (show p < k by omega) hk
        unfold ltB at h1 h2
        omega
  · intro h1
    exact asc_lt h h1 hp
theorem shr1 (t : TypeId) (n : Nat) : binOp PP .shr t (.p (.int .u64 (n : Int))) (.p (.int .u64 1)) = some (.p (.int .u64 ((n / 2 : Nat) : Int))) := by
  have e : binOp PP .shr t (.p (.int .u64 (n : Int))) (.p (.int .u64 1)) = some (.p (.int .u64 ((n : Int).fdiv (2 ^ 1)))) := Eq.trans rfl rfl
  rw [e, Int.fdiv_eq_ediv_of_nonneg _ (by decide)]
  congr 3
theorem bs_L0 {σ : Store} {r s n lo p : Nat} {A : List E} (h : σ[r]? = some (.mix (cels A))) (hx : σ[s]? = some (.mix (cel (ge A p)))) (hA : A.length = n) (hn : n ≤ 100000) (ha : Asc A) (hp : p < n) : ∀ (d i j : Nat), j - i ≤ d → i ≤ p → p ≤ j → j ≤ n →
    f72_L0 guardT lo (.rsl r 2 0 n) (.fn 70 []) (.ptr s 0) (N n) (N i) (N j) σ = some (.tuple [N p, .p (.bool true)], σ) := by
  have hr := get_lt h
  have hld : ∀ j, j < A.length → load PP 120 (.ptr r (j * 2)) σ = some (val (ge A j)) := fun j hj => by
    have := ldW (A := A) hr hj
    rwa [W_eq h] at this
  have hlx : load PP 120 (.ptr s 0) σ = some (val (ge A p)) := by
    rw [loadE, loadN_ptr hx rfl (Nat.le_refl 2)]; rfl
  intro d
  induction d with
  | zero =>
    intro i j hd hi hj hjn
    have e : i = p := by omega
    subst e
    rw [f72_L0_eq guardT rfl]
    simp (disch := omega) only [guard_tt, guard_ff, guard_tf, guard_ft, guard_sk, obind, omap, pickV_true, pickV_false, condK_true, condK_false, decide_true, decide_false, Bool.not_true, Bool.not_false, not_bool, N, b_lss, ltT, ltF, idxL, hld, hlx, pureFn_fn, List.append_nil, S70, cmpB_self, b_eql, eqT]
  | succ d ih =>
    intro i j hd hi hj hjn
    by_cases hij : i < j
    · have hm : (i + j) / 2 < A.length := by omega
      rw [f72_L0_eq guardT rfl]
      have c1 := cv_iu (m := i + j) (by omega)
      have c2 := cv_ui (m := (i + j) / 2) (by omega)
      by_cases hlt : (i + j) / 2 < p
      · have h1 : cmpB (ge A ((i + j) / 2)) (ge A p) < 0 := (cmp_pos ha (by omega) hm).2 hlt
        rw [← ih ((i + j) / 2 + 1) j (by omega) (by omega) hj hjn]
        simp (disch := omega) only [guard_tt, guard_ff, guard_tf, guard_ft, guard_sk, obind, omap, pickV_true, pickV_false, condK_true, condK_false, decide_true, decide_false, Bool.not_true, Bool.not_false, not_bool, N, b_lss, ltT, addN, c1, shr1, c2, idxL, hld, hlx, pureFn_fn, List.append_nil, S70, add1]
      · have h1 : ¬ cmpB (ge A ((i + j) / 2)) (ge A p) < 0 := fun e => hlt ((cmp_pos ha (by omega) hm).1 e)
        rw [← ih i ((i + j) / 2) (by omega) hi (by omega) (by omega)]
        simp (disch := omega) only [guard_tt, guard_ff, guard_tf, guard_ft, guard_sk, obind, omap, pickV_true, pickV_false, condK_true, condK_false, decide_true, decide_false, Bool.not_true, Bool.not_false, not_bool, N, b_lss, ltT, ltF, addN, c1, shr1, c2, idxL, hld, hlx, pureFn_fn, List.append_nil, S70, add1]
    · have e : i = p := by omega
      subst e
      rw [f72_L0_eq guardT rfl]
      simp (disch := omega) only [guard_tt, guard_ff, guard_tf, guard_ft, guard_sk, obind, omap, pickV_true, pickV_false, condK_true, condK_false, decide_true, decide_false, Bool.not_true, Bool.not_false, not_bool, N, b_lss, ltT, ltF, idxL, hld, hlx, pureFn_fn, List.append_nil, S70, cmpB_self, b_eql, eqT]
theorem S72 {σ : Store} {r p : Nat} {A : List E} (h : σ[r]? = some (.mix (cels A))) (hn : A.length ≤ 100000) (ha : Asc A) (hp : p < A.length) : pureV CC 72 [.rsl r 2 0 A.length, val (ge A p), .fn 70 []] σ = some (.tuple [N p, .p (.bool true)]) := by
  have e1 : len PP 116 (.rsl r 2 0 A.length) (σ ++ [.mix (cel (ge A p))]) = some (N A.length) := by simp [len, uL]
  have e2 := bs_L0 (lo := σ.length) (σ := σ ++ [.mix (cel (ge A p))]) (get_old h) get_snoc rfl hn ha hp A.length 0 A.length (by omega) (by omega) (by omega) (Nat.le_refl _)
  refine pureV_rows rfl rfl (F72_call (r := (.tuple [N p, .p (.bool true)], σ ++ [.mix (cel (ge A p))])) ?_) rfl
  rw [F72_eq]
  simp only [N] at e1 e2
  simp only [box_val, guard_tt, guard_ff, guard_tf, guard_ft, guard_sk, obind, omap, pickV_true, pickV_false, condK_true, condK_false, decide_true, decide_false, Bool.not_true, Bool.not_false, not_bool, e1]
  exact e2
theorem load116 (x : DV) (σ : Store) : load PP 116 x σ = load1 x σ := Eq.trans (by kernel_rfl) rfl
theorem S71 {σ : Store} {r q p : Nat} {A : List E} (hq : σ[q]? = some (.mix [.rsl r 2 0 A.length])) (h : σ[r]? = some (.mix (cels A))) (hn : A.length ≤ 100000) (ha : Asc A) (hp : p < A.length) : pureV CC 71 [val (ge A p), .ptr q 0] σ = some (.p (.int .i64 (p : Int))) := by
  have hlx : load PP 120 (.ptr σ.length 0) (σ ++ [.mix (cel (ge A p))]) = some (val (ge A p)) := by
    rw [loadE, loadN_ptr get_snoc rfl (Nat.le_refl 2)]; rfl
  have hl : load1 (.ptr q 0) (σ ++ [.mix (cel (ge A p))]) = some (.rsl r 2 0 A.length) := load1_ptr (get_old hq) rfl
  have h2 := S72 (σ := σ ++ [.mix (cel (ge A p))]) (get_old h) hn ha hp
  refine pureV_rows rfl rfl (F71_call (r := (N p, σ ++ [.mix (cel (ge A p))])) ?_) rfl
  rw [F71_eq]
  simp only [box_val, guard_tt, guard_ff, guard_tf, guard_ft, guard_sk, obind, omap, pickV_true, pickV_false, condK_true, condK_false, decide_true, decide_false, Bool.not_true, Bool.not_false, not_bool, load116, hl, hlx, pureFn_fn, List.append_nil, h2, ex2_0, ex2_1]
end Go.D.StB
end
/- Seat 2: Composed, first part: all pairs that are reached. -/
section
set_option linter.unusedVariables false
set_option linter.unusedSimpArgs false
namespace Go.D.StB
open Go.D.Srt
def addAll (A : List E) : List E → List E
  | [] => A
  | y :: l => addAll (if A.contains y = true then A else A ++ [y]) l
def gro (a b : Cmp) : Nat → Nat → List E → List E
  | 0, _, A => A
  | k + 1, i, A => if i < A.length then gro a b k (i + 1) (addAll A (stepsL a b (ge A i))) else A
structure CS (a b : Cmp) (q : Nat) (A : List E) (σ : Store) : Prop where
  ca : σ[0]? = some (.mix (eCmp a))
  cb : σ[1]? = some (.mix (eCmp b))
  cg : ∃ z, σ[2]? = some (.mix z) ∧ z.length = 3
  q3 : 3 ≤ q
  ex : ∃ y, σ[q]? = some (.mix [y]) ∧ RowL σ 3 A y ∧ (∀ r, y = .rsl r 2 0 A.length → r ≠ q)
theorem RowL.snoc {σ : Store} {B : Nat} {A : List E} {x : DV} (h : RowL σ B A x) (row : Row) : RowL (σ ++ [row]) B A x := by
  rcases h with h | ⟨r, e1, e2, e3, e4⟩
  · exact .inl h
  · exact .inr ⟨r, e1, get_old e2, e3, e4⟩
theorem CS.snoc {a b : Cmp} {q : Nat} {A : List E} {σ : Store} (h : CS a b q A σ) (row : Row) : CS a b q A (σ ++ [row]) := by
  obtain ⟨z, h1, h2⟩ := h.cg
  obtain ⟨y, h3, h4, h5⟩ := h.ex
  exact ⟨get_old h.ca, get_old h.cb, ⟨z, get_old h1, h2⟩, h.q3, y, get_old h3, h4.snoc row, h5⟩
theorem len116 (A : List E) (σ : Store) : len PP 116 (.p (eBs A)) σ = some (N A.length) := by
  unfold eBs
  by_cases e : A = []
  · subst e; simp [len, uL]
  · simp [e, len, uL]
theorem lenR {σ σ' : Store} {B : Nat} {A : List E} {x : DV} (h : RowL σ B A x) : len PP 116 x σ' = some (N A.length) := by
  rcases h with ⟨rfl, rfl⟩ | ⟨r, rfl, _, _, _⟩ <;> simp [len, uL]
theorem celsP_get {A : List E} {i : Nat} (h : i < A.length) : (((celsP A).drop (i * 2)).take 2).map DV.p = cel (ge A i) := by
  rw [List.map_take, List.map_drop, celsP_map, cels_get h]
theorem idxB {A : List E} {i : Nat} (h : i < A.length) : indexAddr PP 116 (.p (eBs A)) (.p (.int .i64 (i : Nat))) = some (.pptr (celsP A) (i * 2)) := by
  have h2 : (0 : Int) ≤ (i : Int) ∧ (i : Int) < (A.length : Nat) := by omega
  have e : A ≠ [] := by rintro rfl; simp at h
  simp [indexAddr, uL, sE, eBs, e, h2, h]
theorem ldB {A : List E} {i : Nat} (h : i < A.length) (σ : Store) : load PP 120 (.pptr (celsP A) (i * 2)) σ = some (val (ge A i)) := by
  have e : i * 2 + 2 ≤ (celsP A).length := by rw [celsP_len]; omega
  rw [loadE]
  simp only [loadN, e, if_true, celsP_get h, Option.map_some]
  rfl
theorem stNew {σ : Store} (e : E) {lo : Nat} (hlo : lo ≤ σ.length) : store PP lo 120 (.ptr σ.length 0) (val e) (σ ++ [.mix [.p (pI 0), .p (pI 0)]]) = some (σ ++ [.mix (cel e)]) := by
  have e1 : (val e).cells = cel e := rfl
  have e2 : (σ ++ [Row.mix [.p (pI 0), .p (pI 0)]])[σ.length]? = some (.mix [.p (pI 0), .p (pI 0)]) := get_snoc
  have e3 : splice [DV.p (pI 0), .p (pI 0)] 0 (cel e) = cel e := rfl
  simp only [store, sE, e1, cel_len, if_true, storeN, hlo, e2, cel_one, e3]
  rw [List.set_append_right _ _ (Nat.le_refl _), Nat.sub_self]
  rfl
theorem ldBox {σ : Store} {s : Nat} {e : E} (h : σ[s]? = some (.mix (cel e))) : load PP 120 (.ptr s 0) σ = some (val e) := by
  rw [loadE, loadN_ptr h rfl (Nat.le_refl 2)]; rfl
theorem s116 : size? PP 116 = some 1 := Eq.trans (by kernel_rfl) rfl
theorem st116 {σ : Store} {q : Nat} {y v : DV} (h : σ[q]? = some (.mix [y])) (hv : v.one = true) (hc : v.cells = [v]) : store PP 0 116 (.ptr q 0) v σ = some (σ.set q (.mix [v])) := by
  have e3 : splice [y] 0 [v] = [v] := rfl
  simp [store, s116, hc, storeN, h, hv, e3]
theorem addAll_ge (A l : List E) : A.length ≤ (addAll A l).length := by
  induction l generalizing A with
  | nil => exact Nat.le_refl _
  | cons y l ih =>
    unfold addAll
    split
    · exact ih A
    · exact Nat.le_trans (by simp) (ih _)
section
variable {a b : Cmp} {q : Nat}
theorem co_L1 {x8 : DV} {i : Nat} (hi : i ≤ 100000) {l : List E} : ∀ (d k : Nat) (A : List E) (σ : Store), l.length - k = d → k ≤ l.length → CS a b q A σ → (addAll A (l.drop k)).length ≤ 100000 → A ≠ [] → l.length ≤ 10000 →
    ∃ σ', f20_L1 guardT 0 (.ptr 0 0) (.ptr 1 0) (.ptr 2 0) x8 (.ptr q 0) (N i) (.p (eBs l)) (N l.length) (N k) σ = f20_L0 guardT 0 (.ptr 0 0) (.ptr 1 0) (.ptr 2 0) x8 (.ptr q 0) (N (i + 1)) σ' ∧ CS a b q (addAll A (l.drop k)) σ'
  | 0, k, A, σ, hd, hk, h, hb, hne, hl => by
    refine ⟨σ, ?_, by rw [List.drop_of_length_le (by omega)]; exact h⟩
    rw [f20_L1_eq guardT rfl]
    simp (disch := omega) only [N, b_lss, ltF, guard_tt, guard_ff, guard_tf, guard_ft, guard_sk, obind, omap, pickV_true, pickV_false, condK_true, condK_false, decide_true, decide_false, Bool.not_true, Bool.not_false, not_bool, add1]
  | d + 1, k, A, σ, hd, hk, h, hb, hne, hl => by
    have hkl : k < l.length := by omega
    have e0 : l.drop k = ge l k :: l.drop (k + 1) := by
      rw [ge_at hkl]; exact List.drop_eq_getElem_cons hkl
    have h1 := h.snoc (.mix (cel (ge l k)))
    have hB : (σ ++ [Row.mix (cel (ge l k))])[σ.length]? = some (.mix (cel (ge l k))) := get_snoc
    have hAl : A.length ≤ 100000 := Nat.le_trans (addAll_ge A _) hb
    rw [e0, addAll] at hb ⊢
    obtain ⟨y, g1, g2, g3⟩ := h1.ex
    have g2' := g2
    rcases g2 with ⟨e1, _⟩ | ⟨r, rfl, w1, w2, w3⟩
    · exact absurd e1 hne
    have hsn := stNew (lo := 0) (σ := σ) (ge l k) (Nat.zero_le _)
    have hql : q < σ.length := by
      obtain ⟨y0, z0, _, _⟩ := h.ex
      exact get_lt z0
    have hln : (σ ++ [Row.mix (cel (ge l k))]).length = σ.length + 1 := by simp
    have q3 := h.q3
    have h68 := S68 (x := ge l k) w1 hAl
    have hld : ∀ ρ : Store, ρ[q]? = some (.mix [.rsl r 2 0 A.length]) → load1 (.ptr q 0) ρ = some (.rsl r 2 0 A.length) := fun ρ h => load1_ptr h rfl
    generalize hρ : σ ++ [Row.mix (cel (ge l k))] = ρ at *
    by_cases hc : A.contains (ge l k) = true
    · rw [if_pos hc] at hb ⊢
      obtain ⟨σ', r1, r2⟩ := co_L1 (x8 := x8) hi d (k + 1) A ρ (by omega) (by omega) h1 hb hne hl
      refine ⟨σ', ?_, r2⟩
      rw [← r1, f20_L1_eq guardT rfl]
      rw [hc] at h68
      simp (disch := omega) only [N, b_lss, ltT, guard_tt, guard_ff, guard_tf, guard_ft, guard_sk, obind, omap, pickV_true, pickV_false, condK_true, condK_false, decide_true, decide_false, Bool.not_true, Bool.not_false, not_bool, idxB, ldB, zeroB, hsn, hρ, load116, hld _ g1, ldBox hB, pureFn_fn, List.append_nil, h68, f20_J0_eq, add1]
    · rw [if_neg hc] at hb ⊢
      obtain ⟨σ2, p1, p2, p3, p4⟩ := g2'.push (lo := 0) (by omega) (Nat.zero_le _) (by omega) false (fun e => absurd e hne) (ge l k)
      have k0 : σ2[0]? = some (.mix (eCmp a)) := p3 0 _ (fun r' e => by injection e with e; omega) h1.ca
      have k1 : σ2[1]? = some (.mix (eCmp b)) := p3 1 _ (fun r' e => by injection e with e; omega) h1.cb
      obtain ⟨z, hz1, hz2⟩ := h1.cg
      have k2 : σ2[2]? = some (.mix z) := p3 2 _ (fun r' e => by injection e with e; omega) hz1
      have kq : σ2[q]? = some (.mix [.rsl r 2 0 A.length]) := p3 q _ (fun r' e => (g3 r' e).symm) g1
      have hst := st116 (v := .rsl ρ.length 2 0 (A.length + 1)) kq rfl rfl
      have hcs : CS a b q (A ++ [ge l k]) (σ2.set q (.mix [.rsl ρ.length 2 0 (A.length + 1)])) := by
        refine ⟨get_set_ne k0 (by omega), get_set_ne k1 (by omega), ⟨z, get_set_ne k2 (by omega), hz2⟩, h.q3, .rsl ρ.length 2 0 (A.length + 1), by rw [List.getElem?_set_self (get_lt kq)], ?_, ?_⟩
        · rcases p2 with ⟨e1, _⟩ | ⟨r', e1, e2, e3, e4⟩
          · exact absurd e1 (by simp)
          · injection e1 with e5
            exact .inr ⟨ρ.length, by simp, get_set_ne (by rw [e5]; exact e2) (by omega), by omega, e4⟩
        · intro r' e
          injection e with e
          omega
      obtain ⟨σ', r1, r2⟩ := co_L1 (x8 := x8) hi d (k + 1) (A ++ [ge l k]) _ (by omega) (by omega) hcs hb (by simp) hl
      refine ⟨σ', ?_, r2⟩
      rw [← r1, f20_L1_eq guardT rfl]
      have hc' : A.contains (ge l k) = false := by simpa using hc
      rw [hc'] at h68
      simp (disch := omega) only [N, b_lss, ltT, guard_tt, guard_ff, guard_tf, guard_ft, guard_sk, obind, omap, pickV_true, pickV_false, condK_true, condK_false, decide_true, decide_false, Bool.not_true, Bool.not_false, not_bool, idxB, ldB, zeroB, hsn, hρ, load116, hld _ g1, ldBox hB, pureFn_fn, List.append_nil, h68, bs116, p1, hst, f20_J0_eq, add1]
/-- The loop over all pairs. -/
theorem co_L0 {x8 : DV} (Pn : E → Prop) (hS : ∀ x, Pn x → ∀ σ, pureV CC 67 [.agg (eCmp a), .agg (eCmp b), val x] σ = some (.p (eBs (stepsL a b x)))) (hl : ∀ x, Pn x → (stepsL a b x).length ≤ 10000)
    (I : List E → Prop) (hP : ∀ A, I A → ∀ x ∈ A, Pn x) (hN : ∀ A, I A → A.length ≤ 1000) (hI : ∀ A x, I A → x ∈ A → I (addAll A (stepsL a b x))) : ∀ (d i : Nat) (A : List E) (σ : Store), 1000 - i = d → i ≤ A.length → CS a b q A σ → I A →
    ∃ σ' y r' , CS a b q (gro a b d i A) σ' ∧ I (gro a b d i A) ∧ σ'[q]? = some (.mix [y]) ∧ RowL σ' 3 (gro a b d i A) y ∧ (∀ r, y = .rsl r 2 0 (gro a b d i A).length → r ≠ q) ∧ plainFn CC 0 (DV.fn 69 []) [y, (DV.fn 70 [])] σ' = r' ∧
      f20_L0 guardT 0 (.ptr 0 0) (.ptr 1 0) (.ptr 2 0) x8 (.ptr q 0) (N i) σ = r'.bind fun r65_9 =>
 (load PP 116 (.ptr q 0) r65_9.2).bind fun x67 =>
 (len PP 116 x67 r65_9.2).bind fun x68 =>
 (build PP 47 [(0, x68)]).bind fun x69 =>
 (zeroOf PP 47).bind fun z14 =>
 (store PP 0 47 (DV.ptr (List.length r65_9.2) 0) x69 (r65_9.2 ++ [Row.mix z14])).bind fun σ10 =>
 (len PP 116 x8 σ10).bind fun x71 =>
 f20_L2 guardT 0 (.ptr 0 0) (.ptr 1 0) (.ptr 2 0) (.ptr q 0) (DV.fn 71 [.ptr q 0]) (DV.ptr (List.length r65_9.2) 0) x8 x71 (DV.p (PV.int IntKind.i64 (0))) σ10 := by
  intro d
  induction d with
  | zero =>
    intro i A σ hd hi h hA
    have hn := hN A hA
    obtain ⟨y, g1, g2, g3⟩ := h.ex
    refine ⟨σ, y, _, h, hA, g1, g2, g3, rfl, ?_⟩
    have hl1 : load1 (.ptr q 0) σ = some y := load1_ptr g1 rfl
    rw [f20_L0_eq guardT rfl]
    simp (disch := omega) only [N, load116, hl1, guard_tt, guard_ff, guard_tf, guard_ft, guard_sk, obind, omap, pickV_true, pickV_false, condK_true, condK_false, decide_true, decide_false, Bool.not_true, Bool.not_false, not_bool, lenR g2, b_lss, ltF]
  | succ d ih =>
    intro i A σ hd hi h hA
    have hn := hN A hA
    obtain ⟨y, g1, g2, g3⟩ := h.ex
    have hl1 : load1 (.ptr q 0) σ = some y := load1_ptr g1 rfl
    by_cases hlt : i < A.length
    · have hx : ge A i ∈ A := by rw [ge_at hlt]; exact List.getElem_mem hlt
      have hne : A ≠ [] := by rintro rfl; simp at hlt
      have hIA := hI A _ hA hx
      have h67 := hS _ (hP A hA _ hx) σ
      obtain ⟨σ1, r1, r2⟩ := co_L1 (x8 := x8) (i := i) (l := stepsL a b (ge A i)) (by omega) _ 0 A σ rfl (Nat.zero_le _) h (by rw [List.drop_zero]; have := hN _ hIA; omega) hne (hl _ (hP A hA _ hx))
      rw [List.drop_zero] at r2
      have e : gro a b (d + 1) i A = gro a b d (i + 1) (addAll A (stepsL a b (ge A i))) := by rw [gro, if_pos hlt]
      obtain ⟨σ', y', r', w⟩ := ih (i + 1) _ σ1 (by omega) (by have := addAll_ge A (stepsL a b (ge A i)); omega) r2 hIA
      refine ⟨σ', y', r', ?_⟩
      rw [e]
      refine ⟨w.1, w.2.1, w.2.2.1, w.2.2.2.1, w.2.2.2.2.1, w.2.2.2.2.2.1, ?_⟩
      rw [← w.2.2.2.2.2.2, ← r1, f20_L0_eq guardT rfl]
      rcases g2 with ⟨e1, _⟩ | ⟨r, rfl, v1, v2, v3⟩
      · exact absurd e1 hne
      · have hr := get_lt v1
        have hlen : len PP 116 (.rsl r 2 0 A.length) σ = some (N A.length) := by simp [len, uL]
        have hld : ∀ j, j < A.length → load PP 120 (.ptr r (j * 2)) σ = some (val (ge A j)) := fun j hj => by
          have := ldW (A := A) hr hj
          rwa [W_eq v1] at this
        simp (disch := omega) only [N, load116, hl1, guard_tt, guard_ff, guard_tf, guard_ft, guard_sk, obind, omap, pickV_true, pickV_false, condK_true, condK_false, decide_true, decide_false, Bool.not_true, Bool.not_false, not_bool, hlen, b_lss, ltT, load25, cm_all h.ca, cm_all h.cb, idxL, hld, pureFn_fn, List.append_nil, h67, len116]
        rfl
    · have e : gro a b (d + 1) i A = A := by rw [gro, if_neg hlt]
      rw [e]
      refine ⟨σ, y, _, h, hA, g1, g2, g3, rfl, ?_⟩
      rw [f20_L0_eq guardT rfl]
      simp (disch := omega) only [N, load116, hl1, guard_tt, guard_ff, guard_tf, guard_ft, guard_sk, obind, omap, pickV_true, pickV_false, condK_true, condK_false, decide_true, decide_false, Bool.not_true, Bool.not_false, not_bool, lenR g2, b_lss, ltF]
end
end Go.D.StB
end
/- Seat 2: Composed, second part: the numbers of first pairs, pairs and edges. -/
section
set_option linter.unusedVariables false
set_option linter.unusedSimpArgs false
namespace Go.D.StB
open Go.D.Srt
structure C2 (a b : Cmp) (q r t : Nat) (B : List E) (σ : Store) : Prop where
  ca : σ[0]? = some (.mix (eCmp a))
  cb : σ[1]? = some (.mix (eCmp b))
  cg : ∃ z, σ[2]? = some (.mix z) ∧ z.length = 3
  cq : σ[q]? = some (.mix [.rsl r 2 0 B.length])
  cr : σ[r]? = some (.mix (cels B))
  ne : 3 ≤ t ∧ t ≠ q ∧ t ≠ r
def KM (σ σ' : Store) : Prop := ∀ (j : Nat) (cs : List DV), σ[j]? = some (.mix cs) → σ'[j]? = some (.mix cs)
theorem KM.trans {σ σ' σ'' : Store} (h : KM σ σ') (h2 : KM σ' σ'') : KM σ σ'' := fun j cs e => h2 j cs (h j cs e)
theorem km_snoc (σ : Store) (row : Row) : KM σ (σ ++ [row]) := fun j cs e => get_old e
theorem km_app {σ σ' : Store} {lo sz n : Nat} {cs : List PV} {x : DV} (ho : Out σ lo sz n cs x) (h : Others σ σ' x) : KM σ σ' := fun j cs' e => h j _ e fun r ver sz' n' cs'' e2 => by
  rintro rfl
  rcases ho.2 with ⟨_, e3⟩ | ⟨_, r', ver', e3, e4, _⟩
  · rw [e3] at e2; exact absurd e2 (by simp)
  · rw [e2] at e3
    injection e3 with e5
    rw [← e5, e] at e4
    exact absurd e4 (by simp)
theorem C2.km {a b : Cmp} {q r t : Nat} {B : List E} {σ σ' : Store} (h : C2 a b q r t B σ) (k : KM σ σ') : C2 a b q r t B σ' := by
  obtain ⟨z, h1, h2⟩ := h.cg
  exact ⟨k _ _ h.ca, k _ _ h.cb, ⟨z, k _ _ h1, h2⟩, k _ _ h.cq, k _ _ h.cr, h.ne⟩
theorem C2.setT {a b : Cmp} {q r t : Nat} {B : List E} {σ : Store} (h : C2 a b q r t B σ) (row : Row) : C2 a b q r t B (σ.set t row) := by
  obtain ⟨z, h1, h2⟩ := h.cg
  have := h.ne
  exact ⟨get_set_ne h.ca (by omega), get_set_ne h.cb (by omega), ⟨z, get_set_ne h1 (by omega), h2⟩, get_set_ne h.cq (by omega), get_set_ne h.cr (by omega), h.ne⟩
theorem Out.setM {σ : Store} {lo sz n : Nat} {cs : List PV} {x : DV} (ho : Out σ lo sz n cs x) {q : Nat} {c : List DV} (hq : σ[q]? = some (.mix c)) (row : Row) : Out (σ.set q row) lo sz n cs x := by
  refine ⟨ho.1, ?_⟩
  rcases ho.2 with h | ⟨h0, r, ver, e1, e2, e3⟩
  · exact .inl h
  · refine .inr ⟨h0, r, ver, e1, get_set_ne e2 ?_, e3⟩
    rintro rfl
    rw [hq] at e2; exact absurd e2 (by simp)
theorem Out.snocM {σ : Store} {lo sz n : Nat} {cs : List PV} {x : DV} (ho : Out σ lo sz n cs x) (row : Row) : Out (σ ++ [row]) lo sz n cs x := by
  refine ⟨ho.1, ?_⟩
  rcases ho.2 with h | ⟨h0, r, ver, e1, e2, e3⟩
  · exact .inl h
  · exact .inr ⟨h0, r, ver, e1, get_old e2, e3⟩
theorem out_one' {σ : Store} {lo sz n : Nat} {cs : List PV} {x : DV} (ho : Out σ lo sz n cs x) : x.one = true ∧ x.cells = [x] := by
  rcases ho.2 with ⟨_, rfl⟩ | ⟨_, q, ver, rfl, _⟩ <;> exact ⟨rfl, rfl⟩
theorem fa47_1 (x : DV) : fieldAddr PP 47 x 1 = shiftPtr x 1 := Eq.trans (by kernel_rfl) rfl
theorem fa47_2 (x : DV) : fieldAddr PP 47 x 2 = shiftPtr x 2 := Eq.trans (by kernel_rfl) rfl
theorem load45 (x : DV) (σ : Store) : load PP 45 x σ = load1 x σ := Eq.trans (by kernel_rfl) rfl
theorem s22' : size? PP 22 = some 1 := Eq.trans (by kernel_rfl) rfl
theorem s45' : size? PP 45 = some 1 := Eq.trans (by kernel_rfl) rfl
theorem st47_1 {σ : Store} {t : Nat} {c0 c1 c2 v : DV} (h : σ[t]? = some (.mix [c0, c1, c2])) (hv : v.one = true) (hc : v.cells = [v]) : store PP 0 22 (.ptr t 1) v σ = some (σ.set t (.mix [c0, v, c2])) := by
  have e3 : splice [c0, c1, c2] 1 [v] = [c0, v, c2] := rfl
  simp [store, s22', hc, storeN, h, hv, e3]
theorem st47_2 {σ : Store} {t : Nat} {c0 c1 c2 v : DV} (h : σ[t]? = some (.mix [c0, c1, c2])) (hv : v.one = true) (hc : v.cells = [v]) : store PP 0 45 (.ptr t 2) v σ = some (σ.set t (.mix [c0, c1, v])) := by
  have e3 : splice [c0, c1, c2] 2 [v] = [c0, c1, v] := rfl
  simp [store, s45', hc, storeN, h, hv, e3]
theorem bs22_1 (p : Int) (σ : Store) : buildSlice PP none 22 1 [(0, .p (.int .i64 p))] σ = some (.p (.sl true 1 [pI p]), σ) := Eq.trans (by kernel_rfl) rfl
theorem idx_mem {B : List E} {e : E} (h : e ∈ B) : B.idxOf e < B.length ∧ ge B (B.idxOf e) = e := by
  have h1 := List.idxOf_lt_length_of_mem h
  exact ⟨h1, by rw [ge_at h1]; exact List.getElem_idxOf h1⟩
def nums (B : List E) (l : List E) : List Int := l.map fun e => ((B.idxOf e : Nat) : Int)
theorem z22 : zeroOf PP 3 = some [.p (pI 0)] := Eq.trans (by kernel_rfl) rfl
theorem by3 : bytes? PP 3 = some 8 := Eq.trans (by kernel_rfl) rfl
theorem src22 : srcType PP 22 = true := Eq.trans (by kernel_rfl) rfl
theorem un22 : PP.underlying 22 = some (.slice 3) := Eq.trans (by kernel_rfl) rfl
section
variable {a b : Cmp} {q r t : Nat} {B : List E} (hB : Asc B) (hBn : B.length ≤ 1000)
include hB hBn
theorem num_ok {σ : Store} (h : C2 a b q r t B σ) {e : E} (he : e ∈ B) : pureV CC 71 [val e, .ptr q 0] σ = some (.p (.int .i64 ((B.idxOf e : Nat) : Int))) := by
  obtain ⟨h1, h2⟩ := idx_mem he
  have := S71 h.cq h.cr (by omega) hB h1
  rwa [h2] at this
theorem co_L2 {beg : List E} (hbeg : ∀ e ∈ beg, e ∈ B) (hbn : beg.length ≤ 1000) (c0 : DV) : ∀ (d k : Nat) (σ : Store) (y : DV), beg.length - k = d → k ≤ beg.length → C2 a b q r t B σ → σ[t]? = some (.mix [c0, y, .p .nilsl]) →
    Out σ 0 1 k (eInts (nums B (beg.take k))) y →
    ∃ σ' y', f20_L2 guardT 0 (.ptr 0 0) (.ptr 1 0) (.ptr 2 0) (.ptr q 0) (.fn 71 [.ptr q 0]) (.ptr t 0) (.p (eBs beg)) (N beg.length) (N k) σ =
      f20_L3 guardT 0 (.ptr 0 0) (.ptr 1 0) (.ptr 2 0) (.fn 71 [.ptr q 0]) (.ptr t 0) (.p .nilsl) (V r B.length) (N B.length) (N 0) σ' ∧ C2 a b q r t B σ' ∧ σ'[t]? = some (.mix [c0, y', .p .nilsl]) ∧ Out σ' 0 1 beg.length (eInts (nums B beg)) y'
  | 0, k, σ, y, hd, hk, h, ht, hO => by
    have e : k = beg.length := by omega
    subst e
    have hl : load1 (.ptr q 0) σ = some (.rsl r 2 0 B.length) := load1_ptr h.cq rfl
    have hlen : len PP 116 (.rsl r 2 0 B.length) σ = some (N B.length) := by simp [len, uL]
    refine ⟨σ, y, ?_, h, ht, by rwa [List.take_length] at hO⟩
    rw [f20_L2_eq guardT rfl]
    simp (disch := omega) only [N, V, b_lss, ltF, guard_tt, guard_ff, guard_tf, guard_ft, guard_sk, obind, omap, pickV_true, pickV_false, condK_true, condK_false, decide_true, decide_false, Bool.not_true, Bool.not_false, not_bool, load116, hl, hlen]
    rfl
  | d + 1, k, σ, y, hd, hk, h, ht, hO => by
    have hkl : k < beg.length := by omega
    have he : ge beg k ∈ B := hbeg _ (by rw [ge_at hkl]; exact List.getElem_mem hkl)
    have hsn := stNew (lo := 0) (σ := σ) (ge beg k) (Nat.zero_le _)
    have h1 := h.km (km_snoc σ (.mix (cel (ge beg k))))
    have hBx : (σ ++ [Row.mix (cel (ge beg k))])[σ.length]? = some (.mix (cel (ge beg k))) := get_snoc
    have ht1 : (σ ++ [Row.mix (cel (ge beg k))])[t]? = some (.mix [c0, y, .p .nilsl]) := get_old ht
    have hO1 := Out.snocM hO (.mix (cel (ge beg k)))
    have hnum := num_ok hB hBn h1 he
    generalize hρ : σ ++ [Row.mix (cel (ge beg k))] = ρ at *
    obtain ⟨y1, σ1, p1, p2, p3, p4⟩ := Out.pushF (vs := [pI ((B.idxOf (ge beg k) : Nat) : Int)]) src22 un22 s3i by3 z22 rfl (by decide) (by decide) (by decide) rfl hO1 (by omega) (Nat.zero_le _)
    have km := km_app hO1 p3
    have ht2 := km _ _ ht1
    have h2 := h1.km km
    have hst := st47_1 ht2 (out_one' p2).1 (out_one' p2).2
    have e1 : eInts (nums B (beg.take k)) ++ [pI ((B.idxOf (ge beg k) : Nat) : Int)] = eInts (nums B (beg.take (k + 1))) := by
      rw [List.take_succ_eq_append_getElem hkl, ge_at hkl]; unfold nums eInts; rw [List.map_append, List.map_append]; rfl
    rw [e1] at p2
    obtain ⟨σ', y', r1, r2, r3, r4⟩ := co_L2 hbeg hbn c0 d (k + 1) (σ1.set t (.mix [c0, y1, .p .nilsl])) y1 (by omega) (by omega) (h2.setT _) (by rw [List.getElem?_set_self (get_lt ht2)]) (Out.setM p2 ht2 _)
    refine ⟨σ', y', ?_, r2, r3, r4⟩
    rw [← r1, f20_L2_eq guardT rfl]
    simp (disch := omega) only [N, b_lss, ltT, guard_tt, guard_ff, guard_tf, guard_ft, guard_sk, obind, omap, pickV_true, pickV_false, condK_true, condK_false, decide_true, decide_false, Bool.not_true, Bool.not_false, not_bool, idxB, ldB, zeroB, hsn, hρ, fa47_1, shift_ptr, shift_pptr, Nat.zero_add, Nat.add_zero, pureFn_fn, List.append_nil, List.singleton_append, List.cons_append, List.nil_append, load22, load1_ptr (off := 1) ht1 rfl, ldBox hBx, hnum, bs22_1, p1, hst, add1]
end
end Go.D.StB
end
/- Seat 2: Composed, third part: pairs and edges. -/
section
set_option linter.unusedVariables false
set_option linter.unusedSimpArgs false
namespace Go.D.StB
open Go.D.Srt
theorem un45 : PP.underlying 45 = some (.slice 129) := Eq.trans (by kernel_rfl) rfl
theorem src45 : srcType PP 45 = true := Eq.trans (by kernel_rfl) rfl
theorem s129 : size? PP 129 = some 3 := Eq.trans (by kernel_rfl) rfl
theorem by129 : bytes? PP 129 = some 24 := Eq.trans (by kernel_rfl) rfl
theorem z129 : zeroOf PP 129 = some [.p (pI 0), .p (pI 0), .p (pI 0)] := Eq.trans (by kernel_rfl) rfl
theorem bld129 (x y : Int) : build PP 129 [(0, .p (.int .i64 x)), (1, .p (.int .i64 y))] = some (.agg (edgD ⟨x, y, 0⟩)) := Eq.trans (by kernel_rfl) rfl
theorem eEdgs_app (A B : List Edg) : eEdgs (A ++ B) = eEdgs A ++ eEdgs B := by
  induction A with
  | nil => rfl
  | cons e A ih => simp only [List.cons_append, eEdgs, ih, List.append_assoc]
theorem bs45 (e : Edg) (σ : Store) : buildSlice PP none 45 1 [(0, .agg (edgD e))] σ = some (.p (.sl true 1 (eEdg e)), σ) := Eq.trans (by kernel_rfl) rfl
theorem un48 : PP.underlying 48 = some (.slice 22) := Eq.trans (by kernel_rfl) rfl
theorem src48 : srcType PP 48 = true := Eq.trans (by kernel_rfl) rfl
theorem by22 : bytes? PP 22 = some 24 := Eq.trans (by kernel_rfl) rfl
theorem zr22 : zeroOf PP 22 = some [.p .nilsl] := Eq.trans (by kernel_rfl) rfl
def pC (x : E) : PV := .sl true 2 [pI x.1, pI x.2]
theorem bs48 (x : E) (σ : Store) : buildSlice PP none 48 1 [(0, .p (pC x))] σ = some (.p (.sl true 1 [pC x]), σ) := Eq.trans (by kernel_rfl) rfl
theorem bs22p (x : E) (σ : Store) : buildSlice PP none 22 2 [(0, .p (.int .i64 x.1)), (1, .p (.int .i64 x.2))] σ = some (.p (pC x), σ) := Eq.trans (by kernel_rfl) rfl
theorem apart_app {σ : Store} {lo lo' sz sz' n n' : Nat} {cs cs' : List PV} {x x' y : DV} (hx : Out σ lo sz n cs x) (hy : Out σ lo' sz' n' cs' y) (ha : Apart x y) (hf : Fresh σ x x') : Apart x' y := by
  intro r h1 h2
  rcases hf r h1 with h | h
  · exact ha r h h2
  · have : r < σ.length := by
      rcases hy.2 with ⟨_, rfl⟩ | ⟨_, r', ver, rfl, h3, _⟩
      · exact absurd h2 (by simp [rowOf])
      · have : r' = r := by simpa [rowOf] using h2
        rw [← this]; exact get_lt h3
    omega
theorem apart_symm {x y : DV} (h : Apart x y) : Apart y x := fun r h1 h2 => h r h2 h1
theorem ld47 {σ : Store} {t : Nat} {c0 c1 c2 : DV} (h : σ[t]? = some (.mix [c0, c1, c2])) : load PP 47 (.ptr t 0) σ = some (.agg [c0, c1, c2]) := by
  have e : ∀ x σ, load PP 47 x σ = (loadN σ 3 x).map .agg := fun x σ => Eq.trans (by kernel_rfl) rfl
  rw [e, loadN_ptr h rfl (Nat.le_refl 3)]; rfl
theorem s47 : size? PP 47 = some 3 := Eq.trans (by kernel_rfl) rfl
theorem st47 {σ : Store} {z c : List DV} (h : σ[2]? = some (.mix z)) (hz : z.length = 3) (hc : c.length = 3) (ho : c.all DV.one = true) : store PP 0 47 (.ptr 2 0) (.agg c) σ = some (σ.set 2 (.mix c)) := by
  have e : splice z 0 c = c := by simp [splice, hz, hc]
  simp [store, s47, DV.cells, storeN, hc, h, hz, ho, e]
section
variable {a b : Cmp} {q r t : Nat} {B : List E} (hB : Asc B) (hBn : B.length ≤ 1000)
include hB hBn
def eRow (B : List E) (i : Nat) (l : List E) : List Edg := l.map fun y => ⟨(i : Int), ((B.idxOf y : Nat) : Int), 0⟩
omit hB hBn in
theorem eRow_len (B : List E) (i : Nat) (l : List E) : (eRow B i l).length = l.length := by simp [eRow]
theorem co_L4 {i np : Nat} {ps : List PV} {x17 c0 y1 : DV} {l : List E} (hl : ∀ e ∈ l, e ∈ B) (hln : l.length ≤ 10000) (hi : i ≤ 10000) : ∀ (d k : Nat) (σ : Store) (y2 : DV) (es : List Edg), l.length - k = d → k ≤ l.length → C2 a b q r t B σ → σ[t]? = some (.mix [c0, y1, y2]) →
    Out σ 0 3 es.length (eEdgs es) y2 → Out σ 0 1 np ps x17 → Apart y2 x17 → es.length + (l.length - k) ≤ 10000000 →
    ∃ σ' y2', f20_L4 guardT 0 (.ptr 0 0) (.ptr 1 0) (.ptr 2 0) (.fn 71 [.ptr q 0]) (.ptr t 0) x17 (N i) (V r B.length) (N B.length) (N i) (.p (eBs l)) (N l.length) (N k) σ =
      f20_L3 guardT 0 (.ptr 0 0) (.ptr 1 0) (.ptr 2 0) (.fn 71 [.ptr q 0]) (.ptr t 0) x17 (V r B.length) (N B.length) (N (i + 1)) σ' ∧ C2 a b q r t B σ' ∧ σ'[t]? = some (.mix [c0, y1, y2']) ∧
      Out σ' 0 3 (es ++ eRow B i (l.drop k)).length (eEdgs (es ++ eRow B i (l.drop k))) y2' ∧ Out σ' 0 1 np ps x17 ∧ Apart y2' x17
  | 0, k, σ, y2, es, hd, hk, h, ht, hO, hP, hA, hn => by
    refine ⟨σ, y2, ?_, h, ht, ?_, hP, hA⟩
    · rw [f20_L4_eq guardT rfl]
      simp (disch := omega) only [N, b_lss, ltF, guard_tt, guard_ff, guard_tf, guard_ft, guard_sk, obind, omap, pickV_true, pickV_false, condK_true, condK_false, decide_true, decide_false, Bool.not_true, Bool.not_false, not_bool, add1]
    · rw [List.drop_of_length_le (by omega)]; simpa [eRow] using hO
  | d + 1, k, σ, y2, es, hd, hk, h, ht, hO, hP, hA, hn => by
    have hkl : k < l.length := by omega
    have he : ge l k ∈ B := hl _ (by rw [ge_at hkl]; exact List.getElem_mem hkl)
    have e0 : l.drop k = ge l k :: l.drop (k + 1) := by rw [ge_at hkl]; exact List.drop_eq_getElem_cons hkl
    have hsn := stNew (lo := 0) (σ := σ) (ge l k) (Nat.zero_le _)
    have h1 := h.km (km_snoc σ (.mix (cel (ge l k))))
    have hBx : (σ ++ [Row.mix (cel (ge l k))])[σ.length]? = some (.mix (cel (ge l k))) := get_snoc
    have ht1 : (σ ++ [Row.mix (cel (ge l k))])[t]? = some (.mix [c0, y1, y2]) := get_old ht
    have hO1 := Out.snocM hO (.mix (cel (ge l k)))
    have hP1 := Out.snocM hP (.mix (cel (ge l k)))
    have hnum := num_ok hB hBn h1 he
    generalize hρ : σ ++ [Row.mix (cel (ge l k))] = ρ at *
    obtain ⟨y3, σ1, p1, p2, p3, p4⟩ := Out.pushF (vs := eEdg ⟨(i : Int), ((B.idxOf (ge l k) : Nat) : Int), 0⟩) src45 un45 s129 by129 z129 rfl (by decide) (by decide) (by decide) rfl hO1 (by omega) (Nat.zero_le _)
    have km := km_app hO1 p3
    have ht2 := km _ _ ht1
    have h2 := h1.km km
    have hP2 : Out σ1 0 1 np ps x17 := Out.other hP1 p3 hA
    have hA2 : Apart y3 x17 := apart_app hO1 hP1 hA p4
    have hst := st47_2 ht2 (out_one' p2).1 (out_one' p2).2
    have e1 : eEdgs es ++ eEdg ⟨(i : Int), ((B.idxOf (ge l k) : Nat) : Int), 0⟩ = eEdgs (es ++ [⟨(i : Int), ((B.idxOf (ge l k) : Nat) : Int), 0⟩]) := by rw [eEdgs_app]; simp [eEdgs, eEdg]
    have e2 : es.length + 1 = (es ++ [(⟨(i : Int), ((B.idxOf (ge l k) : Nat) : Int), 0⟩ : Edg)]).length := by simp
    rw [e1, e2] at p2
    obtain ⟨σ', y', r1, r2, r3, r4, r5, r6⟩ := co_L4 (x17 := x17) (ps := ps) (np := np) (c0 := c0) (y1 := y1) hl hln hi d (k + 1) (σ1.set t (.mix [c0, y1, y3])) y3 _ (by omega) (by omega) (h2.setT _) (by rw [List.getElem?_set_self (get_lt ht2)]) (Out.setM p2 ht2 _) (Out.setM hP2 ht2 _) hA2 (by simp; omega)
    refine ⟨σ', y', ?_, r2, r3, ?_, r5, r6⟩
    · rw [← r1, f20_L4_eq guardT rfl]
      simp (disch := omega) only [N, V, b_lss, ltT, guard_tt, guard_ff, guard_tf, guard_ft, guard_sk, obind, omap, pickV_true, pickV_false, condK_true, condK_false, decide_true, decide_false, Bool.not_true, Bool.not_false, not_bool, idxB, ldB, zeroB, hsn, hρ, fa47_2, shift_ptr, shift_pptr, Nat.zero_add, Nat.add_zero, pureFn_fn, List.append_nil, List.singleton_append, List.cons_append, List.nil_append, load45, load1_ptr (off := 2) ht1 rfl, ldBox hBx, hnum, bld129, bs45, p1, hst, add1]
    · rw [e0]
      have e3 : es ++ eRow B i (ge l k :: l.drop (k + 1)) = es ++ [(⟨(i : Int), ((B.idxOf (ge l k) : Nat) : Int), 0⟩ : Edg)] ++ eRow B i (l.drop (k + 1)) := by simp [eRow]
      rw [e3]; exact r4
/-- All edges. -/
def esFrom (a b : Cmp) (B : List E) : Nat → List E → List Edg
  | _, [] => []
  | i, x :: l => eRow B i (stepsL a b x) ++ esFrom a b B (i + 1) l
theorem co_L3 {c0 y1 : DV} (hc0 : c0.one = true) (hy1 : y1.one = true) (hS : ∀ x ∈ B, ∀ σ, pureV CC 67 [.agg (eCmp a), .agg (eCmp b), val x] σ = some (.p (eBs (stepsL a b x)))) (hin : ∀ x ∈ B, ∀ y ∈ stepsL a b x, y ∈ B) (hln : ∀ x ∈ B, (stepsL a b x).length ≤ 10000) :
    ∀ (d i : Nat) (σ : Store) (y2 x17 : DV) (es : List Edg), B.length - i = d → i ≤ B.length → C2 a b q r t B σ → σ[t]? = some (.mix [c0, y1, y2]) →
    Out σ 0 3 es.length (eEdgs es) y2 → Out σ 0 1 i ((B.take i).map pC) x17 → Apart y2 x17 → es.length ≤ 10000 * i →
    ∃ σ' y2' x17' es', es' = es ++ esFrom a b B i (B.drop i) ∧ f20_L3 guardT 0 (.ptr 0 0) (.ptr 1 0) (.ptr 2 0) (.fn 71 [.ptr q 0]) (.ptr t 0) x17 (V r B.length) (N B.length) (N i) σ =
      ((cellV PP 47 (.ptr 2 0) (σ'.set 2 (.mix [c0, y1, y2']))).bind fun v0 => some ((DV.tuple [v0, x17', (DV.p (PV.int IntKind.i64 (0)))]), σ'.set 2 (.mix [c0, y1, y2']))) ∧
      Out σ' 0 3 es'.length (eEdgs es') y2' ∧ Out σ' 0 1 B.length (B.map pC) x17' ∧ 2 < σ'.length
  | 0, i, σ, y2, x17, es, hd, hi, h, ht, hO, hP, hA, hn => by
    have e : i = B.length := by omega
    subst e
    obtain ⟨z, hz1, hz2⟩ := h.cg
    refine ⟨σ, y2, x17, es, by rw [List.drop_length]; simp [esFrom], ?_, hO, by rwa [List.take_length] at hP, get_lt hz1⟩
    have hst := st47 (c := [c0, y1, y2]) hz1 hz2 rfl (by simp [hc0, hy1, (out_one' hO).1])
    rw [f20_L3_eq guardT rfl]
    simp (disch := omega) only [N, b_lss, ltF, guard_tt, guard_ff, guard_tf, guard_ft, guard_sk, obind, omap, pickV_true, pickV_false, condK_true, condK_false, decide_true, decide_false, Bool.not_true, Bool.not_false, not_bool, ld47 ht, hst]
  | d + 1, i, σ, y2, x17, es, hd, hi, h, ht, hO, hP, hA, hn => by
    have hil : i < B.length := by omega
    have hx : ge B i ∈ B := by rw [ge_at hil]; exact List.getElem_mem hil
    have e0 : B.drop i = ge B i :: B.drop (i + 1) := by rw [ge_at hil]; exact List.drop_eq_getElem_cons hil
    have hr := get_lt h.cr
    have hld : load PP 120 (.ptr r (i * 2)) σ = some (val (ge B i)) := by
      have := ldW (A := B) hr hil
      rwa [W_eq h.cr] at this
    have hsn := stNew (lo := 0) (σ := σ) (ge B i) (Nat.zero_le _)
    have h1 := h.km (km_snoc σ (.mix (cel (ge B i))))
    have hBx : (σ ++ [Row.mix (cel (ge B i))])[σ.length]? = some (.mix (cel (ge B i))) := get_snoc
    have ht1 : (σ ++ [Row.mix (cel (ge B i))])[t]? = some (.mix [c0, y1, y2]) := get_old ht
    have hO1 := Out.snocM hO (.mix (cel (ge B i)))
    have hP1 := Out.snocM hP (.mix (cel (ge B i)))
    generalize hρ : σ ++ [Row.mix (cel (ge B i))] = ρ at *
    obtain ⟨x18, σ1, p1, p2, p3, p4⟩ := Out.pushF (vs := [pC (ge B i)]) src48 un48 s22' by22 zr22 rfl (by decide) (by decide) (by decide) rfl hP1 (by omega) (Nat.zero_le _)
    have km := km_app hP1 p3
    have ht2 := km _ _ ht1
    have h2 := h1.km km
    have hBx2 := km _ _ hBx
    have hO2 : Out σ1 0 3 es.length (eEdgs es) y2 := Out.other hO1 p3 (apart_symm hA)
    have hA2 : Apart y2 x18 := apart_symm (apart_app hP1 hO1 (apart_symm hA) p4)
    have e1 : (B.take i).map pC ++ [pC (ge B i)] = (B.take (i + 1)).map pC := by
      rw [List.take_succ_eq_append_getElem hil, ge_at hil, List.map_append]; rfl
    rw [e1] at p2
    have h67 := hS _ hx σ1
    obtain ⟨σ2, y3, r1, r2, r3, r4, r5, r6⟩ := co_L4 hB hBn (i := i) (np := i + 1) (c0 := c0) (y1 := y1) (l := stepsL a b (ge B i)) (hin _ hx) (hln _ hx) (by omega) _ 0 σ1 y2 es rfl (Nat.zero_le _) h2 ht2 hO2 p2 hA2 (by have := hln _ hx; omega)
    rw [List.drop_zero] at r4
    obtain ⟨σ', y2', x17', es', w1, w2, w3, w4, w5⟩ := co_L3 hc0 hy1 hS hin hln d (i + 1) σ2 y3 x18 _ (by omega) (by omega) r2 r3 r4 r5 r6 (by have := hln _ hx; rw [List.length_append, eRow_len]; omega)
    refine ⟨σ', y2', x17', es', ?_, ?_, w3, w4, w5⟩
    · rw [w1, e0, esFrom, List.append_assoc]
    · rw [← w2, ← r1, f20_L3_eq guardT rfl]
      simp (disch := omega) only [N, V, b_lss, ltT, guard_tt, guard_ff, guard_tf, guard_ft, guard_sk, obind, omap, pickV_true, pickV_false, condK_true, condK_false, decide_true, decide_false, Bool.not_true, Bool.not_false, not_bool, idxL, hld, zeroB, hsn, hρ, fa120_0, fa120_1, shift_ptr, shift_pptr, Nat.zero_add, Nat.add_zero, pureFn_fn, List.append_nil, List.singleton_append, List.cons_append, List.nil_append, load3, ld120_0 hBx, ld120_1 hBx, bs22p, bs48, p1, load25, cm_all h2.ca, cm_all h2.cb, ldBox hBx2, pureFn_fn, List.append_nil, h67, len116]
      rfl
end
end Go.D.StB
end
/- Seat 2: Composed in plain terms: what is reached is closed and without doubles; steps ascend. -/
section
set_option linter.unusedVariables false
set_option linter.unusedSimpArgs false
namespace Go.D.StB
open Go.D.Srt
theorem ordE_lt (x y : Edg) : ordE x y < 0 ↔ x.f < y.f ∨ (x.f = y.f ∧ (x.t < y.t ∨ (x.t = y.t ∧ x.a < y.a))) := by
  have h1 : ∀ c1 c2 c3 : Int, orL [c1, c2, c3] < 0 ↔ c1 < 0 ∨ (c1 = 0 ∧ (c2 < 0 ∨ (c2 = 0 ∧ c3 < 0))) := fun c1 c2 c3 => by
    simp only [orL]
    repeat' split
    all_goals omega
  have h2 : ∀ u v : Int, cmpI u v < 0 ↔ u < v := fun u v => by unfold cmpI; split <;> (try split) <;> omega
  have h3 : ∀ u v : Int, cmpI u v = 0 ↔ u = v := fun u v => by unfold cmpI; split <;> (try split) <;> omega
  unfold ordE
  rw [h1, h2, h2, h2, h3, h3]
theorem adj_pair {α : Type} {R : α → α → Prop} (ht : ∀ x y z, R x y → R y z → R x z) : ∀ {l : List α}, (∀ i (h : i + 1 < l.length), R l[i] l[i + 1]) → l.Pairwise R
  | [], _ => List.Pairwise.nil
  | [x], _ => by simp
  | x :: y :: l, h => by
    have ih : (y :: l).Pairwise R := adj_pair ht fun i hi => h (i + 1) (by simpa using hi)
    have h0 : R x y := h 0 (by simp)
    rw [List.pairwise_cons]
    refine ⟨fun z hz => ?_, ih⟩
    rcases List.mem_cons.1 hz with rfl | hz
    · exact h0
    · rw [List.pairwise_cons] at ih
      exact ht _ _ _ h0 (ih.1 z hz)
theorem mv_pair {c : Cmp} {n : Nat} (h : COk c n) : (L c.mv).Pairwise fun x y => ordE x y < 0 := by
  refine adj_pair (fun x y z h1 h2 => ?_) fun i hi => ?_
  · rw [ordE_lt] at *; omega
  · have := h.mo i hi
    rwa [List.getD_eq_getElem?_getD, List.getD_eq_getElem?_getD, List.getElem?_eq_getElem (by omega), List.getElem?_eq_getElem hi] at this
theorem init_pair {c : Cmp} {n : Nat} (h : COk c n) : (L c.init).Pairwise fun x y => x < y := by
  refine adj_pair (fun x y z h1 h2 => by omega) fun i hi => ?_
  have := h.inc i hi
  rwa [List.getD_eq_getElem?_getD, List.getD_eq_getElem?_getD, List.getElem?_eq_getElem (by omega), List.getElem?_eq_getElem hi] at this
theorem mem_steps {a b : Cmp} {x y : E} : y ∈ stepsL a b x ↔ ∃ m ∈ L a.mv, ∃ n ∈ L b.mv, stepC a b x m n = true ∧ y = (m.a, n.a) := by
  simp only [stepsL, inr, List.mem_flatMap, List.mem_map, List.mem_filter]
  constructor
  · rintro ⟨m, hm, n, ⟨hn, hs⟩, rfl⟩
    exact ⟨m, hm, n, hn, hs, rfl⟩
  · rintro ⟨m, hm, n, hn, hs, rfl⟩
    exact ⟨m, hm, n, ⟨hn, hs⟩, rfl⟩
theorem steps_asc {a b : Cmp} {na nb : Nat} (ha : COk a na) (hb : COk b nb) (x : E) : Asc (stepsL a b x) := by
  unfold Asc stepsL
  rw [List.pairwise_flatMap]
  refine ⟨fun m hm => ?_, (mv_pair ha).imp_of_mem fun {m m'} hm hm' h => ?_⟩
  · unfold inr
    rw [List.pairwise_map, List.pairwise_filter]
    refine (mv_pair hb).imp fun {n n'} h h1 h2 => ?_
    rw [ordE_lt] at h
    rw [stepC_iff] at h1 h2
    right
    refine ⟨rfl, ?_⟩
    show n.a < n'.a
    omega
  · intro u hu v hv
    unfold inr at hu hv
    rw [List.mem_map] at hu hv
    obtain ⟨n, hn, rfl⟩ := hu
    obtain ⟨n', hn', rfl⟩ := hv
    rw [List.mem_filter, stepC_iff] at hn hn'
    rw [ordE_lt] at h
    left
    show m.a < m'.a
    omega
/-- Pairs of states. -/
def InR (na nb : Nat) (x : E) : Prop := (0 ≤ x.1 ∧ x.1 < na) ∧ (0 ≤ x.2 ∧ x.2 < nb)
theorem steps_in {a b : Cmp} {na nb : Nat} (ha : COk a na) (hb : COk b nb) {x y : E} (h : y ∈ stepsL a b x) : InR na nb y := by
  rw [mem_steps] at h
  obtain ⟨m, hm, n, hn, _, rfl⟩ := h
  exact ⟨(ha.ml m hm).2.1, (hb.ml n hn).2.1⟩
theorem beg_in {a b : Cmp} {na nb : Nat} (ha : COk a na) (hb : COk b nb) {y : E} (h : y ∈ begL a b) : InR na nb y := by
  unfold begL at h
  rw [List.mem_flatMap] at h
  obtain ⟨s, hs, h⟩ := h
  rw [List.mem_map] at h
  obtain ⟨u, hu, rfl⟩ := h
  exact ⟨ha.il s hs, hb.il u hu⟩
theorem beg_asc {a b : Cmp} {na nb : Nat} (ha : COk a na) (hb : COk b nb) : Asc (begL a b) := by
  unfold Asc begL
  rw [List.pairwise_flatMap]
  refine ⟨fun s hs => ?_, (init_pair ha).imp fun {s s'} h => ?_⟩
  · rw [List.pairwise_map]
    exact (init_pair hb).imp fun {u u'} h => .inr ⟨rfl, h⟩
  · intro u hu v hv
    rw [List.mem_map] at hu hv
    obtain ⟨_, _, rfl⟩ := hu
    obtain ⟨_, _, rfl⟩ := hv
    exact .inl h
theorem asc_nodup {A : List E} (h : Asc A) : A.Nodup := by
  refine List.Pairwise.imp (fun {x y} h e => ?_) h
  subst e
  unfold ltB at h
  omega
theorem addAll_mem (A l : List E) (x : E) : x ∈ addAll A l ↔ x ∈ A ∨ x ∈ l := by
  induction l generalizing A with
  | nil => simp [addAll]
  | cons y l ih =>
    unfold addAll
    rw [ih]
    by_cases h : A.contains y = true
    · rw [if_pos h, List.mem_cons]
      constructor
      · rintro (h | h)
        · exact .inl h
        · exact .inr (.inr h)
      · rintro (h2 | rfl | h2)
        · exact .inl h2
        · exact .inl (List.contains_iff_mem.1 h)
        · exact .inr h2
    · rw [if_neg h, List.mem_append, List.mem_singleton, List.mem_cons, or_assoc]
theorem addAll_nodup (A l : List E) (h : A.Nodup) : (addAll A l).Nodup := by
  induction l generalizing A with
  | nil => exact h
  | cons y l ih =>
    unfold addAll
    by_cases hc : A.contains y = true
    · rw [if_pos hc]; exact ih A h
    · rw [if_neg hc]
      refine ih _ ?_
      rw [List.nodup_append]
      refine ⟨h, by simp, fun u hu v hv e => hc ?_⟩
      rw [List.mem_singleton] at hv
      subst hv
      subst e
      exact List.contains_iff_mem.2 hu
theorem addAll_pre (A l : List E) : A <+: addAll A l := by
  induction l generalizing A with
  | nil => exact List.prefix_refl A
  | cons y l ih =>
    unfold addAll
    split
    · exact ih A
    · exact (List.prefix_append A _).trans (ih _)
/-- What holds of the lists on the way. -/
structure IG (na nb : Nat) (A : List E) : Prop where
  nd : A.Nodup
  ir : ∀ x ∈ A, InR na nb x
theorem IG.len {na nb : Nat} {A : List E} (h : IG na nb A) : A.length ≤ na * nb := by
  have h1 : (A.map fun x : E => [x.1, x.2]).Nodup := by
    rw [List.nodup_iff_pairwise_ne, List.pairwise_map]
    refine List.Pairwise.imp (fun {x y} h e => h ?_) h.nd
    simp only [List.cons.injEq, and_true] at e
    exact Prod.ext e.1 e.2
  have h2 := nodup_le (u := allTo [na, nb]) h1 fun l hl => by
    rw [List.mem_map] at hl
    obtain ⟨x, hx, rfl⟩ := hl
    have hi := h.ir x hx
    refine allTo_mem rfl fun i g1 g2 => ?_
    match i, g1 with
    | 0, _ => exact hi.1
    | 1, _ => exact hi.2
  rw [List.length_map, allTo_len] at h2
  simpa using h2
theorem IG.add {a b : Cmp} {na nb : Nat} (ha : COk a na) (hb : COk b nb) {A : List E} (h : IG na nb A) (x : E) : IG na nb (addAll A (stepsL a b x)) :=
  ⟨addAll_nodup _ _ h.nd, fun y hy => by
    rcases (addAll_mem _ _ _).1 hy with h1 | h1
    · exact h.ir y h1
    · exact steps_in ha hb h1⟩
theorem IG.beg {a b : Cmp} {na nb : Nat} (ha : COk a na) (hb : COk b nb) : IG na nb (begL a b) := ⟨asc_nodup (beg_asc ha hb), fun x hx => beg_in ha hb hx⟩
theorem le100 {a b : Cmp} {na nb : Nat} (ha : COk a na) (hb : COk b nb) : na * nb ≤ 100 := Nat.le_trans (Nat.mul_le_mul ha.n10 hb.n10) (by decide)
/-- What is reached is closed, and holds what it began with. -/
theorem gro_closed {a b : Cmp} {na nb : Nat} (ha : COk a na) (hb : COk b nb) : ∀ (d i : Nat) (A : List E), IG na nb A → 100 - i ≤ d → (∀ j, j < i → j < A.length → ∀ y ∈ stepsL a b (ge A j), y ∈ A) →
    IG na nb (gro a b d i A) ∧ A <+: gro a b d i A ∧ ∀ x ∈ gro a b d i A, ∀ y ∈ stepsL a b x, y ∈ gro a b d i A
  | 0, i, A, h, hd, hj => by
    have h1 := h.len
    have h2 := le100 ha hb
    refine ⟨h, List.prefix_refl _, fun x (hx : x ∈ A) y hy => ?_⟩
    obtain ⟨k, hk, rfl⟩ := List.getElem_of_mem hx
    have := hj k (by omega) hk y
    rw [ge_at hk] at this
    exact this hy
  | d + 1, i, A, h, hd, hj => by
    unfold gro
    by_cases hlt : i < A.length
    · rw [if_pos hlt]
      have hp := addAll_pre A (stepsL a b (ge A i))
      have hg : ∀ j, j < A.length → ge (addAll A (stepsL a b (ge A i))) j = ge A j := fun j hj => by
        obtain ⟨t, ht⟩ := hp
        rw [← ht]
        unfold ge
        rw [List.getD_eq_getElem?_getD, List.getElem?_append_left hj, ← List.getD_eq_getElem?_getD]
      obtain ⟨r1, r2, r3⟩ := gro_closed ha hb d (i + 1) (addAll A (stepsL a b (ge A i))) (h.add ha hb _) (by omega) fun j hji hjl y hy => by
        rw [hg j (by omega)] at hy
        rw [addAll_mem]
        by_cases e : j = i
        · subst e; exact .inr hy
        · exact .inl (hj j (by omega) (by omega) y hy)
      exact ⟨r1, hp.trans r2, r3⟩
    · rw [if_neg hlt]
      refine ⟨h, List.prefix_refl _, fun x hx y hy => ?_⟩
      obtain ⟨k, hk, rfl⟩ := List.getElem_of_mem hx
      have := hj k (by omega) hk y
      rw [ge_at hk] at this
      exact this hy
end Go.D.StB
end
/- Seat 2: what Composed answers for right components. -/
section
set_option linter.unusedVariables false
set_option linter.unusedSimpArgs false
namespace Go.D.StB
open Go.D.Srt
theorem S66 {l : List E} (h : l ≠ []) (hl : l.length ≤ 1000000) (σ : Store) : CC 0 66 [.p (eBs l)] σ = some (.rsl σ.length 2 0 l.length, σ ++ [.mix (cels l)]) := by
  have e1 : binOp PP .eql 116 (.p (.sl false l.length (celsP l))) (.p .nilsl) = some (.p (.bool false)) := Eq.trans (by kernel_rfl) rfl
  have e2 : buildSlice PP none 116 0 [] σ = some (.p (.sl true 0 []), σ) := Eq.trans (by kernel_rfl) rfl
  have hn : l.length ≠ 0 := fun e => h (List.length_eq_zero_iff.1 e)
  have hsrc : source σ 2 (.p (.sl false l.length (celsP l))) = some (l.length, (celsP l).map DV.p) := by simp [source, celsP_len]
  have hz0 : ¬ ([DV.p (pI 0), DV.p (pI 0)].length ≠ 2 ∨ 2 = 0) := by decide
  have e3 : append PP 0 true 116 116 (.p (.sl true 0 [])) (.p (.sl false l.length (celsP l))) σ = some (.rsl σ.length 2 0 l.length, σ ++ [.mix (cels l)]) := by
    simp only [append, srcB, u116, sE, bytesB, zeroB, hz0, hsrc, appLit]
    have e4 : l.length * 16 ≤ 140737488355328 := by omega
    have e5 : l.length ≤ 140737488355328 := by omega
    simp [e4, e5, hn, celsP_map, h]
  refine F66_call ?_
  rw [F66_eq]
  simp only [eBs, h, if_false, e1, guard_tt, guard_ff, guard_tf, guard_ft, guard_sk, obind, omap, pickV_true, pickV_false, condK_true, condK_false, decide_true, decide_false, Bool.not_true, Bool.not_false, not_bool, e2, e3]
theorem S66n (σ : Store) : CC 0 66 [.p .nilsl] σ = some (.p .nilsl, σ) := by
  have e1 : binOp PP .eql 116 (.p .nilsl) (.p .nilsl) = some (.p (.bool true)) := Eq.trans (by kernel_rfl) rfl
  refine F66_call ?_
  rw [F66_eq]
  simp only [e1, guard_tt, guard_ff, guard_tf, guard_ft, guard_sk, obind, omap, pickV_true, pickV_false, condK_true, condK_false, decide_true, decide_false, Bool.not_true, Bool.not_false, not_bool]
def pD (x : E) : PV := .sl false 2 [pI x.1, pI x.2]
def eIn (l : List Int) : PV := if l.length = 0 then .nilsl else .sl false l.length (eInts l)
def eEn (l : List Edg) : PV := if l.length = 0 then .nilsl else .sl false l.length (eEdgs l)
def ePn (B : List E) : PV := if B.length = 0 then .nilsl else .sl false B.length (B.map pD)
def resC (a b : Cmp) (B : List E) : DV := .tuple [.agg [.p (pI B.length), .p (eIn (nums B (begL a b))), .p (eEn (esFrom a b B 0 B))], .p (ePn B), .p (pI 0)]
theorem tw_any {σ σ' : Store} {lo sz n m : Nat} {cs : List PV} {x : DV} (ho : Out σ lo sz n cs x) : thaw m σ' x = some (.p (if n = 0 then .nilsl else .sl false n (loosens cs))) := by
  rcases ho.2 with ⟨h, rfl⟩ | ⟨h, r, ver, rfl, _, _⟩
  · rw [if_pos h]; rfl
  · rw [if_neg h]; rfl
theorem loosens_pC (B : List E) : loosens (B.map pC) = B.map pD := by
  induction B with
  | nil => rfl
  | cons x B ih => simp only [List.map_cons, loosens, ih]; rfl
theorem zr116 : zeroOf PP 116 = some [.p .nilsl] := Eq.trans (by kernel_rfl) rfl
theorem stN116 {σ : Store} {v : DV} (hv : v.one = true) (hc : v.cells = [v]) : store PP 0 116 (.ptr σ.length 0) v (σ ++ [.mix [.p .nilsl]]) = some (σ ++ [.mix [v]]) := by
  rw [st116 get_snoc hv hc, List.set_append_right _ _ (Nat.le_refl _), Nat.sub_self]
  rfl
theorem zr47 : zeroOf PP 47 = some [.p (pI 0), .p .nilsl, .p .nilsl] := Eq.trans (by kernel_rfl) rfl
theorem bld47 (n : Int) : build PP 47 [(0, .p (.int .i64 n))] = some (.agg [.p (.int .i64 n), .p .nilsl, .p .nilsl]) := Eq.trans (by kernel_rfl) rfl
theorem stN47 {σ : Store} (n : Int) : store PP 0 47 (.ptr σ.length 0) (.agg [.p (.int .i64 n), .p .nilsl, .p .nilsl]) (σ ++ [.mix [.p (pI 0), .p .nilsl, .p .nilsl]]) = some (σ ++ [.mix [.p (.int .i64 n), .p .nilsl, .p .nilsl]]) := by
  have e : splice [DV.p (pI 0), .p .nilsl, .p .nilsl] 0 [.p (.int .i64 n), .p .nilsl, .p .nilsl] = [.p (.int .i64 n), .p .nilsl, .p .nilsl] := rfl
  have e2 : (σ ++ [Row.mix [.p (pI 0), .p .nilsl, .p .nilsl]])[σ.length]? = some (.mix [.p (pI 0), .p .nilsl, .p .nilsl]) := get_snoc
  have e3 : [DV.p (.int .i64 n), .p .nilsl, .p .nilsl].all DV.one = true := rfl
  simp only [store, s47, DV.cells, List.length_cons, List.length_nil, if_true, storeN, Nat.zero_le, e2, e3, e]
  rw [List.set_append_right _ _ (Nat.le_refl _), Nat.sub_self]
  rfl
theorem tp_any {σ σ' : Store} {lo sz n m : Nat} {cs : List PV} {x : DV} (ho : Out σ lo sz n cs x) : thawPart m σ' x = some (.p (if n = 0 then .nilsl else .sl false n (loosens cs))) := by
  rcases ho.2 with ⟨h, rfl⟩ | ⟨h, r, ver, rfl, _, _⟩
  · rw [if_pos h]; rfl
  · rw [if_neg h]; rfl
theorem tp_agg (n : Nat) (σ : Store) (cs : List DV) : thawPart n σ (.agg cs) = (mapO (thaw n σ) cs).map .agg := rfl
theorem tp_int (n : Nat) (σ : Store) (v : Int) : thawPart n σ (.p (.int .i64 v)) = some (.p (.int .i64 v)) := rfl
theorem tw_int (n : Nat) (σ : Store) (v : Int) : thaw n σ (.p (.int .i64 v)) = some (.p (.int .i64 v)) := rfl
theorem ta_tup (n : Nat) (σ : Store) (vs : List DV) : thawAll n σ (.tuple vs) = (mapO (thawPart n σ) vs).map .tuple := rfl
theorem cellV_ptr (P : Program) (t : TypeId) (r off : Nat) (σ : Store) : cellV P t (.ptr r off) σ = load P t (.ptr r off) σ := rfl
section
variable {a b : Cmp} {na nb : Nat} (ha : COk a na) (hb : COk b nb)
include ha hb
theorem S67c {x : E} (hx : InR na nb x) (σ : Store) : pureV CC 67 [.agg (eCmp a), .agg (eCmp b), val x] σ = some (.p (eBs (stepsL a b x))) := by
  have h1 := ha.o
  have h2 := hb.o
  have h3 := hx.1
  have h4 := hx.2
  exact S67 ha.m60 hb.m60 ⟨h3.1, by omega⟩ ⟨h4.1, by omega⟩ (steps_asc ha hb x)
theorem steps_len (x : E) : (stepsL a b x).length ≤ 100 := by
  have h : IG na nb (stepsL a b x) := ⟨asc_nodup (steps_asc ha hb x), fun y hy => steps_in ha hb hy⟩
  exact Nat.le_trans h.len (le100 ha hb)
/-- From the loop over all pairs on. -/
theorem co_main (hne : begL a b ≠ []) {σ : Store} {q : Nat} (h : CS a b q (begL a b) σ) :
    ∃ B ρ v, B.Perm (gro a b 1000 0 (begL a b)) ∧ Asc B ∧ f20_L0 guardT 0 (.ptr 0 0) (.ptr 1 0) (.ptr 2 0) (.p (eBs (begL a b))) (.ptr q 0) (N 0) σ = some (v, ρ) ∧ thawAll 0 ρ v = some (resC a b B) := by
  have hbeg := IG.beg ha hb
  obtain ⟨σ', y, r', c1, c2, c3, c4, c5, c6, c7⟩ := co_L0 (x8 := .p (eBs (begL a b))) (InR na nb) (fun x hx σ => S67c ha hb hx σ) (fun x _ => Nat.le_trans (steps_len ha hb x) (by decide)) (IG na nb) (fun A hA => hA.ir)
    (fun A hA => by have := hA.len; have := le100 ha hb; omega) (fun A x hA _ => hA.add ha hb x) 1000 0 (begL a b) σ rfl (Nat.zero_le _) h hbeg
  obtain ⟨k1, k2, k3⟩ := gro_closed ha hb 1000 0 (begL a b) hbeg (by omega) (fun j hj => by omega)
  generalize hG : gro a b 1000 0 (begL a b) = G at *
  have hGl : G.length ≤ 100 := Nat.le_trans k1.len (le100 ha hb)
  have hGne : G ≠ [] := fun e => by
    rw [e] at k2
    exact hne (List.prefix_nil.1 k2)
  rcases c4 with ⟨e1, _⟩ | ⟨r, rfl, w1, w2, w3⟩
  · exact absurd e1 hGne
  have hrq : r ≠ q := c5 r rfl
  obtain ⟨B, e, s1, s2, s3⟩ := sort_ok (lo := 0) S70 ordB (Nat.zero_le _) (by omega) w1
  have hBl : B.length = G.length := s2.length_eq
  have hBle : B.Pairwise leB := sd_pair (by rw [hBl]; exact s3)
  have hBnd : B.Nodup := s2.nodup_iff.2 k1.nd
  have hB : Asc B := by
    rw [List.nodup_iff_pairwise_ne] at hBnd
    exact hBle.imp₂ (fun x y h1 h2 => by
      by_cases hlt : ltB x y
      · exact hlt
      · exact absurd (ltB_anti hlt h1) h2) hBnd
  have hmem : ∀ x, x ∈ B ↔ x ∈ G := fun x => s2.mem_iff
  have hr := get_lt w1
  -- the store after sorting
  have km : ∀ j cs, j ≠ r → σ'[j]? = some (.mix cs) → (W (σ' ++ e) r B)[j]? = some (.mix cs) := fun j cs hj hh => get_set_ne (by rw [List.getElem?_append_left (get_lt hh)]; exact hh) hj
  have g0 := km 0 _ (by omega) c1.ca
  have g1 := km 1 _ (by omega) c1.cb
  obtain ⟨z, hz1, hz2⟩ := c1.cg
  have g2 := km 2 _ (by omega) hz1
  have gq := km q _ (fun h => hrq h.symm) c3
  have gr : (W (σ' ++ e) r B)[r]? = some (.mix (cels B)) := W_get (by rw [List.length_append]; omega) B
  generalize hρ : W (σ' ++ e) r B = ρ at *
  have hl : load1 (.ptr q 0) ρ = some (.rsl r 2 0 G.length) := load1_ptr gq rfl
  have hlen : len PP 116 (.rsl r 2 0 G.length) ρ = some (.p (.int .i64 (G.length : Nat))) := by simp [len, uL]
  have h2 : C2 a b q r ρ.length B (ρ ++ [.mix [.p (.int .i64 (G.length : Nat)), .p .nilsl, .p .nilsl]]) :=
    ⟨get_old g0, get_old g1, ⟨z, get_old g2, hz2⟩, by rw [hBl]; exact get_old gq, get_old gr, by have := get_lt gq; have := get_lt gr; have := c1.q3; omega⟩
  have ht : (ρ ++ [Row.mix [.p (.int .i64 (G.length : Nat)), .p .nilsl, .p .nilsl]])[ρ.length]? = some (.mix [.p (.int .i64 (G.length : Nat)), .p .nilsl, .p .nilsl]) := get_snoc
  have hBn : B.length ≤ 1000 := by omega
  obtain ⟨σ2, y1, r1, r2, r3, r4⟩ := co_L2 hB hBn (beg := begL a b) (fun x hx => (hmem x).2 (k2.subset hx)) (by have := hbeg.len; have := le100 ha hb; omega) (.p (.int .i64 (G.length : Nat))) ((begL a b).length - 0) 0 _ (.p .nilsl) rfl (Nat.zero_le _) h2 ht Out.zero
  have hy1 := (out_one' r4).1
  obtain ⟨σ3, y2, x17, es, u1, u2, u3, u4, u5⟩ := co_L3 hB hBn (c0 := .p (.int .i64 (G.length : Nat))) rfl hy1 (fun x hx σ => S67c ha hb (k1.ir x ((hmem x).1 hx)) σ) (fun x hx y hy => (hmem y).2 (k3 x ((hmem x).1 hx) y hy)) (fun x _ => Nat.le_trans (steps_len ha hb x) (by decide)) (B.length - 0) 0 σ2 (.p .nilsl) (.p .nilsl) [] rfl (Nat.zero_le _) r2 r3 Out.zero Out.zero (fun r h1 _ => by simp [rowOf] at h1) (by simp)
  rw [List.drop_zero, List.nil_append] at u1
  subst u1
  have hg : (σ3.set 2 (.mix [.p (.int .i64 (G.length : Nat)), y1, y2]))[2]? = some (.mix [.p (.int .i64 (G.length : Nat)), y1, y2]) := by rw [List.getElem?_set_self u5]
  have hcv : cellV PP 47 (.ptr 2 0) (σ3.set 2 (.mix [.p (.int .i64 (G.length : Nat)), y1, y2])) = some (.agg [.p (.int .i64 (G.length : Nat)), y1, y2]) := (cellV_ptr _ _ _ _ _).trans (ld47 hg)
  rw [hcv] at u2
  have s1' : plainFn CC 0 (DV.fn 69 []) [.rsl r 2 0 G.length, .fn 70 []] σ' = some (.tuple [], ρ) := s1
  rw [s1'] at c6
  subst c6
  refine ⟨B, σ3.set 2 (.mix [.p (.int .i64 (G.length : Nat)), y1, y2]), .tuple [.agg [.p (.int .i64 (G.length : Nat)), y1, y2], x17, .p (.int .i64 0)], s2, hB, ?_, ?_⟩
  · rw [c7]
    simp only [guard_tt, guard_ff, guard_tf, guard_ft, guard_sk, obind, omap, pickV_true, pickV_false, condK_true, condK_false, decide_true, decide_false, Bool.not_true, Bool.not_false, not_bool, load116, hl, hlen, bld47, zr47, stN47, len116]
    refine (r1.trans ?_)
    exact u2
  · rw [ta_tup]
    simp only [mapO, tp_agg, tp_int, tw_int, tw_any r4, tw_any u3, tp_any u4, loosens_ints, loosens_edgs, loosens_pC, Option.map_some]
    simp only [resC, eIn, eEn, ePn, hBl, nums, List.length_map]
end
end Go.D.StB
end
