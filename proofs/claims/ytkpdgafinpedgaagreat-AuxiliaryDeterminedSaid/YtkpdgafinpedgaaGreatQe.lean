/- pdqsort over elements of type 102: it sorts. -/
import Derived.Test.YtkpdgafinpedgaaGreatQd
import Derived.Test.YtkpdgafinpedgaaGreatQc
section
set_option linter.unusedVariables false
set_option linter.unusedSimpArgs false
namespace Go.D.StS
open Go.D.Srt
abbrev I (x : Int) : DV := .p (.int .i64 x)
abbrev Bo (b : Bool) : DV := .p (.bool b)
def Goal (cmp : E → E → Int) (r a b : Nat) (A : List E) (σ : Store) (res : Option (DV × Store)) : Prop :=
  ∃ B σ', res = some (.tuple [], W σ' r B) ∧ RP a b A B ∧ Sd (ltc cmp) a b B ∧ ∃ e, σ' = σ ++ e
def Low (cmp : E → E → Int) (a b : Nat) (A : List E) : Prop := 0 < a → ∀ p, a ≤ p → p < b → ltc cmp (ge A p) (ge A (a - 1)) = false
theorem Goal.mono {cmp : E → E → Int} {r a b : Nat} {A A0 : List E} {σ σ0 : Store} {res : Option (DV × Store)} (h : Goal cmp r a b A0 σ0 res) (h1 : RP a b A A0) (h2 : ∃ e, σ0 = σ ++ e) : Goal cmp r a b A σ res := by
  obtain ⟨B, σ', e1, e2, e3, x, e4⟩ := h
  obtain ⟨y, rfl⟩ := h2
  exact ⟨B, σ', e1, h1.trans e2, e3, y ++ x, by rw [e4, List.append_assoc]⟩
theorem Low.perm {cmp : E → E → Int} {a b : Nat} {A B : List E} (h : Low cmp a b A) (h1 : RP a b A B) : Low cmp a b B := by
  intro h0 p g1 g2
  rw [h1.out (a - 1) (by omega)]
  exact h1.all (fun x => ltc cmp x (ge A (a - 1)) = false) (h h0) p g1 g2
section
variable {cf : FuncId} {cmp : E → E → Int} (hc : ∀ (x y : E) (σ : Store), pureV CC cf [val x, val y] σ = some (.p (.int .i64 (cmp x y)))) (H : Ord (ltc cmp))
variable {r n lo : Nat}
def IH (cf : FuncId) (cmp : E → E → Int) (r n lo m : Nat) : Prop := ∀ (a b : Nat) (A : List E) (lim : Int) (wb wp : Bool) (σ : Store), b - a < m → a ≤ b → b ≤ n → A.length = n → Low cmp a b A → r < σ.length →
  Goal cmp r a b A σ (f121_L0 guardT lo (V r n) (N a) (N b) (I lim) (.fn cf []) (Bo wb) (Bo wp) (W σ r A))
theorem subI (t : TypeId) (a b : Int) : binOp PP .sub t (.p (.int .i64 a)) (.p (.int .i64 b)) = some (.p (.int .i64 (IntKind.wrap .i64 (a - b)))) := Eq.trans rfl rfl
theorem quo8 {l : Nat} (h : l ≤ 1000000) : binOp PP .quo 3 (.p (.int .i64 (l : Nat))) (.p (.int .i64 8)) = some (.p (.int .i64 ((l / 8 : Nat) : Int))) := by
  have e3 : ((l : Nat) : Int).tdiv 8 = ((l / 8 : Nat) : Int) := by rw [Int.tdiv_eq_ediv_of_nonneg (by omega)]; omega
  have e4 : binOp PP .quo 3 (.p (.int .i64 ((l : Nat) : Int))) (.p (.int .i64 8)) = some (.p (.int .i64 (IntKind.wrap .i64 (((l : Nat) : Int).tdiv 8)))) := Eq.trans rfl rfl
  rw [e4, e3, wrap_ok (by omega) (by omega)]
include hc H in
theorem pq_part (hlo : lo ≤ r) (hn : n ≤ 100000) {a b p : Nat} (ih : IH cf cmp r n lo (b - a)) (hab : a + 12 < b) (hb : b ≤ n) (hp1 : a ≤ p) (hp2 : p < b) {A : List E} (hA : A.length = n) (hL : Low cmp a b A) (lim : Int) (y : DV) {σ : Store} (hr : r < σ.length) :
    Goal cmp r a b A σ ((plainFn CC lo (DV.fn 133 []) [V r n, N a, N b, N p, .fn cf []] (W σ r A)).bind fun r111_24 =>
     (extractV r111_24.1 0).bind fun x112 =>
     (extractV r111_24.1 1).bind fun x113 =>
     (binOp PP .sub 3 x112 (N a)).bind fun x117 =>
     (binOp PP .sub 3 (N b) x112).bind fun x120 =>
     (binOp PP .quo 3 (N (b - a)) (DV.p (PV.int IntKind.i64 (8)))).bind fun x122 =>
     (binOp PP .lss 3 x117 x120).bind fun x125 =>
     condK x125
     (
     (binOp PP .geq 3 x117 x122).bind fun x128 =>
     (plainFn CC lo (DV.fn 121 []) [V r n, N a, x112, I lim, .fn cf []] r111_24.2).bind fun r134_25 =>
     (binOp PP .add 3 x112 (DV.p (PV.int IntKind.i64 (1)))).bind fun x136 =>
     f121_L0 guardT lo (V r n) x136 (N b) (I lim) (.fn cf []) x128 x113 r134_25.2
     )
     (
     (binOp PP .geq 3 x120 x122).bind fun x139 =>
     (binOp PP .add 3 x112 (DV.p (PV.int IntKind.i64 (1)))).bind fun x142 =>
     (plainFn CC lo (DV.fn 121 []) [V r n, x142, N b, I lim, .fn cf []] r111_24.2).bind fun r146_26 =>
     f121_L0 guardT lo (V r n) (N a) x112 (I lim) (.fn cf []) x139 x113 r146_26.2
     )) := by
  obtain ⟨f, e1⟩ := pa_ok hc hr hlo hn (show a < b by omega) hb (show p < n by omega) A hA
  have r1 : RP a b A (swp A a p) := RP.swap ⟨by omega, by omega⟩ ⟨hp1, hp2⟩ (by omega)
  have hm := prt_mid H (a := a) (b := b) (A := swp A a p) (by omega) (by rw [swp_len]; omega)
  have hm : a ≤ (prt (uA cmp) (vA cmp) a (b - a + 1) (a + 1) (b - 1) (swp A a p)).2.1 ∧ (prt (uA cmp) (vA cmp) a (b - a + 1) (a + 1) (b - 1) (swp A a p)).2.1 < b ∧ RP a b (swp A a p) (swp (prt (uA cmp) (vA cmp) a (b - a + 1) (a + 1) (b - 1) (swp A a p)).2.2 (prt (uA cmp) (vA cmp) a (b - a + 1) (a + 1) (b - 1) (swp A a p)).2.1 a) ∧ Mid (ltc cmp) a b (prt (uA cmp) (vA cmp) a (b - a + 1) (a + 1) (b - 1) (swp A a p)).2.1 (swp (prt (uA cmp) (vA cmp) a (b - a + 1) (a + 1) (b - 1) (swp A a p)).2.2 (prt (uA cmp) (vA cmp) a (b - a + 1) (a + 1) (b - 1) (swp A a p)).2.1 a) := hm
  generalize (swp (prt (uA cmp) (vA cmp) a (b - a + 1) (a + 1) (b - 1) (swp A a p)).2.2 (prt (uA cmp) (vA cmp) a (b - a + 1) (a + 1) (b - 1) (swp A a p)).2.1 a) = A1 at *
  generalize (prt (uA cmp) (vA cmp) a (b - a + 1) (a + 1) (b - 1) (swp A a p)).2.1 = m at *
  obtain ⟨m1, m2, m3, m4⟩ := hm
  have rA : RP a b A A1 := r1.trans m3
  have hL1 := hL.perm rA
  have hA1 : A1.length = n := rA.len.trans hA
  simp only [plainFn_fn, List.append_nil, e1, gG, ex2_0, ex2_1]
  by_cases hlt : m - a < b - m
  · -- left first
    have hLl : Low cmp a m A1 := fun h0 p g1 g2 => hL1 h0 p g1 (by omega)
    obtain ⟨B, σ1, g1, g2, g3, x, rfl⟩ := ih a m A1 lim true true σ (by omega) m1 (by omega) hA1 hLl hr
    have c1 : CC lo 121 [V r n, N a, N m, I lim, .fn cf []] (W σ r A1) = some (.tuple [], W (σ ++ x) r B) := F121_call (by rw [F121_eq]; exact g1)
    have hLr : Low cmp (m + 1) b B := fun h0 p k1 k2 => by
      rw [g2.out p (by omega), g2.out (m + 1 - 1) (by omega)]
      exact m4.2 p (by omega) k2
    obtain ⟨C, σ2, q1, q2, q3, z, rfl⟩ := ih (m + 1) b B lim (decide (((m - a : Nat) : Int) ≥ (((b - a) / 8 : Nat) : Int))) f (σ ++ x) (by omega) (by omega) hb (g2.len.trans hA1) hLr (by rw [List.length_append]; omega)
    have gl := glue H (a := a) (b := b) (m := m) ⟨m1, m2⟩ m4 g2 g3 q2 q3
    refine ⟨C, _, ?_, rA.trans gl.1, gl.2, x ++ z, List.append_assoc _ _ _⟩
    simp only [V, N, I] at c1
    simp (disch := omega) only [V, N, I, subN, quo8, b_lss, ltT, gG, b_geq]
    rw [c1]
    simp (disch := omega) only [gG, add1]
    exact q1
  · have hLr : Low cmp (m + 1) b A1 := fun h0 p k1 k2 => m4.2 p (by omega) k2
    obtain ⟨B, σ1, g1, g2, g3, x, rfl⟩ := ih (m + 1) b A1 lim true true σ (by omega) (by omega) hb hA1 hLr hr
    have c1 : CC lo 121 [V r n, N (m + 1), N b, I lim, .fn cf []] (W σ r A1) = some (.tuple [], W (σ ++ x) r B) := F121_call (by rw [F121_eq]; exact g1)
    have hLl : Low cmp a m B := fun h0 p k1 k2 => by
      rw [g2.out p (by omega), g2.out (a - 1) (by omega)]
      exact hL1 h0 p k1 (by omega)
    obtain ⟨C, σ2, q1, q2, q3, z, rfl⟩ := ih a m B lim (decide (((b - m : Nat) : Int) ≥ (((b - a) / 8 : Nat) : Int))) f (σ ++ x) (by omega) m1 (by omega) (g2.len.trans hA1) hLl (by rw [List.length_append]; omega)
    have gl := glue' H (a := a) (b := b) (m := m) ⟨m1, m2⟩ m4 g2 g3 q2 q3
    refine ⟨C, _, ?_, rA.trans gl.1, gl.2, x ++ z, List.append_assoc _ _ _⟩
    simp only [V, N, I] at c1
    simp (disch := omega) only [V, N, I, subN, quo8, b_lss, ltF, gG, b_geq, add1]
    rw [c1]
    simp (disch := omega) only [gG]
    exact q1
include hc H in
theorem pq_J2 (hlo : lo ≤ r) (hn : n ≤ 100000) {a b p : Nat} (ih : IH cf cmp r n lo (b - a)) (hab : a + 12 < b) (hb : b ≤ n) (hp1 : a ≤ p) (hp2 : p < b) {A : List E} (hA : A.length = n) (hL : Low cmp a b A) (lim : Int) (wb wp : Bool) {σ : Store} (hr : r < σ.length) (x14 x21 x22 x23 x24 x25 x31 x32 x38 x39 x40 x41 x42 x43 x44 x45 x46 x47 x48 x49 x50 x51 x52 x53 x54 x55 x56 x57 x58 x59 x60 x61 x62 x63 x64 x65 x66 x67 x68 x69 x70 x71 x72 x73 x74 x75 x76 x77 x78 x79 x80 : DV) :
    Goal cmp r a b A σ (f121_J2 guardT lo (V r n) (N a) (N b) (I lim) (.fn cf []) (Bo wb) (Bo wp) (N (b - a)) (N p) x14 x21 x22 x23 x24 x25 x31 x32 x38 x39 x40 x41 x42 x43 x44 x45 x46 x47 x48 x49 x50 x51 x52 x53 x54 x55 x56 x57 x58 x59 x60 x61 x62 x63 x64 x65 x66 x67 x68 x69 x70 x71 x72 x73 x74 x75 x76 x77 x78 x79 x80 (W σ r A)) := by
  have key := pq_part hc H hlo hn ih hab hb hp1 hp2 hA hL lim x14 hr
  rw [f121_J2_eq guardT]
  by_cases h0 : 0 < a
  · by_cases h1 : cmp (ge A (a - 1)) (ge A p) < 0
    · simp (disch := omega) only [V, N, I, Bo, b_gtr, gtT, gG, sub1, idxL, ldW, pureFn_fn, List.append_nil, hc, b_lss, ltT]
      exact key
    · have e1 := pe_ok hc hr hlo hn (show a < b by omega) hb (show p < n by omega) A hA
      have r1 : RP a b A (swp A a p) := RP.swap ⟨by omega, by omega⟩ ⟨hp1, hp2⟩ (by omega)
      have hL1 := hL.perm r1
      have g := fun k => ge_swp (A := A) (i := a) (j := p) (by omega) (by omega) k
      have hpv : ltc cmp (ge (swp A a p) (a - 1)) (ge (swp A a p) a) = false := by
        have e2 : ge (swp A a p) a = ge A p := by
          rw [g]
          by_cases e : a = p
          · rw [if_pos e, e]
          · rw [if_neg e, if_pos rfl]
        rw [e2, r1.out (a - 1) (by omega)]
        exact decide_eq_false h1
      have hm := prtE_ok H (a := a) (b := b) (A := swp A a p) (by omega) (by rw [swp_len]; omega) (hL1 h0) h0 hpv
      have hm : a < (prt (uE cmp) (vE cmp) a (b - a + 1) (a + 1) (b - 1) (swp A a p)).1 ∧ (prt (uE cmp) (vE cmp) a (b - a + 1) (a + 1) (b - 1) (swp A a p)).1 ≤ b ∧ RP a b (swp A a p) (prt (uE cmp) (vE cmp) a (b - a + 1) (a + 1) (b - 1) (swp A a p)).2.2 ∧ (∀ q, (prt (uE cmp) (vE cmp) a (b - a + 1) (a + 1) (b - 1) (swp A a p)).1 ≤ q → q < b → ltc cmp (ge (prt (uE cmp) (vE cmp) a (b - a + 1) (a + 1) (b - 1) (swp A a p)).2.2 q) (ge (prt (uE cmp) (vE cmp) a (b - a + 1) (a + 1) (b - 1) (swp A a p)).2.2 ((prt (uE cmp) (vE cmp) a (b - a + 1) (a + 1) (b - 1) (swp A a p)).1 - 1)) = false) ∧ ∀ C, RP (prt (uE cmp) (vE cmp) a (b - a + 1) (a + 1) (b - 1) (swp A a p)).1 b (prt (uE cmp) (vE cmp) a (b - a + 1) (a + 1) (b - 1) (swp A a p)).2.2 C → Sd (ltc cmp) (prt (uE cmp) (vE cmp) a (b - a + 1) (a + 1) (b - 1) (swp A a p)).1 b C → Sd (ltc cmp) a b C := hm
      simp only [enE] at e1
      generalize (prt (uE cmp) (vE cmp) a (b - a + 1) (a + 1) (b - 1) (swp A a p)).2.2 = A1 at *
      generalize (prt (uE cmp) (vE cmp) a (b - a + 1) (a + 1) (b - 1) (swp A a p)).1 = m at *
      obtain ⟨m1, m2, m3, m4, m5⟩ := hm
      obtain ⟨C, σ1, q1, q2, q3, z, rfl⟩ := ih m b A1 lim wb wp σ (by omega) m2 hb ((r1.trans m3).len.trans hA) (fun _ q g1 g2 => m4 q g1 g2) hr
      refine ⟨C, _, ?_, (r1.trans m3).trans (q2.mono (by omega) (Nat.le_refl _)), m5 C q2 q3, z, rfl⟩
      simp only [V, N, I, Bo] at e1
      simp (disch := omega) only [V, N, I, Bo, b_gtr, gtT, gG, sub1, idxL, ldW, pureFn_fn, List.append_nil, hc, b_lss, ltF, plainFn_fn]
      rw [e1]
      simp only [gG]
      exact q1
  · simp (disch := omega) only [V, N, I, Bo, b_gtr, gtF, gG]
    exact key
include hc H in
theorem pq_J1 (hlo : lo ≤ r) (hn : n ≤ 100000) {a b p : Nat} (ih : IH cf cmp r n lo (b - a)) (hab : a + 12 < b) (hb : b ≤ n) (hp1 : a ≤ p) (hp2 : p < b) {A : List E} (hA : A.length = n) (hL : Low cmp a b A) (lim h : Int) (wb wp : Bool) {σ : Store} (hr : r < σ.length) (x21 x22 x23 x24 x25 x31 x32 x38 x39 x40 x41 x42 x43 x44 x45 x46 x47 x48 x49 x50 x51 x52 x53 x54 x55 x56 x57 x58 x59 x60 x61 x62 x63 x64 x65 x66 x67 : DV) :
    Goal cmp r a b A σ (f121_J1 guardT lo (V r n) (N a) (N b) (I lim) (.fn cf []) (Bo wb) (Bo wp) (N (b - a)) (N p) (I h) x21 x22 x23 x24 x25 x31 x32 x38 x39 x40 x41 x42 x43 x44 x45 x46 x47 x48 x49 x50 x51 x52 x53 x54 x55 x56 x57 x58 x59 x60 x61 x62 x63 x64 x65 x66 x67 (W σ r A)) := by
  have e1 := pi_ok hc hr hlo hn hb (show a < b by omega) A hA
  have h1 := pins_ok H (a := a) (b := b) 5 (a + 1) A (Nat.le_refl _) (by omega) (by omega) hL (fun p q g1 g2 g3 => by omega)
  rw [f121_J1_eq guardT]
  cases wb with
  | false => simp only [Bo, gG]; exact pq_J2 hc H hlo hn ih hab hb hp1 hp2 hA hL lim false wp hr (I h) _ _ _ _ _ _ _ _ _ _ _ _ _ _ _ _ _ _ _ _ _ _ _ _ _ _ _ _ _ _ _ _ _ _ _ _ _ _ _ _ _ _ _ _ _ _ _ _ _ _
  | true =>
    cases wp with
    | false => simp only [Bo, gG]; exact pq_J2 hc H hlo hn ih hab hb hp1 hp2 hA hL lim true false hr (I h) _ _ _ _ _ _ _ _ _ _ _ _ _ _ _ _ _ _ _ _ _ _ _ _ _ _ _ _ _ _ _ _ _ _ _ _ _ _ _ _ _ _ _ _ _ _ _ _ _ _
    | true =>
      by_cases hh : h = 1
      · simp only [Bo, gG, I, b_eql, eqT hh, plainFn_fn, List.append_nil]
        rw [e1]
        simp only [gG]
        cases hs : (pins (ltc cmp) a b 5 (a + 1) A).1 with
        | true =>
          simp only [gG]
          exact ⟨_, σ, rfl, h1.1, h1.2 hs, [], (List.append_nil _).symm⟩
        | false =>
          simp only [gG]
          exact Goal.mono (pq_J2 hc H hlo hn ih hab hb hp1 hp2 (h1.1.len.trans hA) (hL.perm h1.1) lim true true hr (I h) _ _ _ _ _ _ _ _ _ _ _ _ _ _ _ _ _ _ _ _ _ _ _ _ _ _ _ _ _ _ _ _ _ _ _ _ _ _ _ _ _ _ _ _ _ _ _ _ _ _) h1.1 ⟨[], (List.append_nil _).symm⟩
      · simp only [Bo, gG, I, b_eql, eqF hh]
        exact pq_J2 hc H hlo hn ih hab hb hp1 hp2 hA hL lim true true hr (I h) _ _ _ _ _ _ _ _ _ _ _ _ _ _ _ _ _ _ _ _ _ _ _ _ _ _ _ _ _ _ _ _ _ _ _ _ _ _ _ _ _ _ _ _ _ _ _ _ _ _
include hc H in
theorem pq_J0 (hlo : lo ≤ r) (hn : n ≤ 100000) {a b : Nat} (ih : IH cf cmp r n lo (b - a)) (hab : a + 12 < b) (hb : b ≤ n) {A : List E} (hA : A.length = n) (hL : Low cmp a b A) (lim : Int) (wb wp : Bool) {σ : Store} (hr : r < σ.length) (x21 x22 x23 x24 x25 x31 x32 x38 x39 x40 x41 x42 x43 x44 x45 x46 : DV) :
    Goal cmp r a b A σ (f121_J0 guardT lo (V r n) (N a) (N b) (I lim) (.fn cf []) (Bo wb) (Bo wp) (N (b - a)) x21 x22 x23 x24 x25 x31 x32 x38 x39 x40 x41 x42 x43 x44 x45 x46 (W σ r A)) := by
  obtain ⟨p, h, k, e1, p1, p2⟩ := cp_ok hc hr hlo hn hab hb hA
  have hr1 : r < (σ ++ [Row.mix [.p (.int .i64 k)]]).length := by rw [List.length_append]; omega
  rw [f121_J0_eq guardT]
  simp only [plainFn_fn, List.append_nil]
  rw [e1]
  simp only [gG, ex2_0, ex2_1, b_eql]
  by_cases hh : h = 2
  · obtain ⟨B, g1, g2⟩ := rv_ok hr1 hlo hn (show a < b by omega) hb A hA (.fn cf [])
    simp only [V, N] at g2
    simp only [Q, eqT hh, gG, V, N]
    rw [g2]
    simp (disch := omega) only [gG, sub1, subN]
    exact Goal.mono (pq_J1 hc H hlo hn ih hab hb (show a ≤ b - 1 - (p - a) by omega) (by omega) (g1.len.trans hA) (hL.perm g1) lim 1 wb wp hr1 _ _ _ _ _ _ _ _ _ _ _ _ _ _ _ _ _ _ _ _ _ _ _ _ _ _ _ _ _ _ _ _ _ _ _ _ _) g1 ⟨_, rfl⟩
  · simp only [Q, eqF hh, gG]
    exact Goal.mono (pq_J1 hc H hlo hn ih hab hb p1 p2 hA hL lim h wb wp hr1 _ _ _ _ _ _ _ _ _ _ _ _ _ _ _ _ _ _ _ _ _ _ _ _ _ _ _ _ _ _ _ _ _ _ _ _ _) (RP.refl _ _ _) ⟨_, rfl⟩
include hc H in
theorem pq_all (hlo : lo ≤ r) (hn : n ≤ 100000) : ∀ m, IH cf cmp r n lo m
  | 0 => fun a b A lim wb wp σ hm => by omega
  | m + 1 => by
    intro a b A lim wb wp σ hm hab hb hA hL hr
    have ih : IH cf cmp r n lo (b - a) := fun a' b' A' lim' wb' wp' σ' h => pq_all hlo hn m a' b' A' lim' wb' wp' σ' (by omega)
    rw [f121_L0_eq guardT rfl]
    by_cases h12 : b - a ≤ 12
    · have e1 := ins_ok hc hr hlo hn hb (show a ≤ n by omega) A hA
      simp only [V, N] at e1
      simp (disch := omega) only [V, N, I, subN, b_leq, leT, gG, plainFn_fn, List.append_nil]
      rw [e1]
      simp only [gG]
      by_cases he : a = b
      · subst he
        refine ⟨_, σ, rfl, ?_, fun i j h1 h2 h3 => by omega, [], (List.append_nil _).symm⟩
        rw [show a - (a + 1) = 0 by omega]
        exact RP.refl _ _ _
      · have h1 := insOut_ok H (a := a) (b := b) (b - (a + 1)) (a + 1) A (by omega) (by omega) (by omega) (fun p q g1 g2 g3 => by omega)
        exact ⟨_, σ, rfl, h1.1, h1.2, [], (List.append_nil _).symm⟩
    · by_cases h0 : lim = 0
      · have e1 := hs_ok hc hr hlo hn (show a < b by omega) hb A hA
        simp only [V, N] at e1
        simp (disch := omega) only [V, N, I, subN, b_leq, leF, b_eql, eqT, gG, plainFn_fn, List.append_nil]
        rw [e1]
        simp only [gG]
        have h1 := hpA_ok H (f := a) (n := b - a) ((b - a - 1) / 2) A (by omega) (by omega) (fun i c g1 g2 g3 => by omega)
        have h2 := hpB_ok H (f := a) (n := b - a) (b - a) _ (Nat.le_refl _) (by rw [h1.1.len]; omega) h1.2 (fun p q g1 g2 g3 => by omega) (fun p q g1 g2 g3 g4 => by omega)
        rw [show a + (b - a) = b by omega] at h1 h2
        exact ⟨_, σ, rfl, h1.1.trans h2.1, h2.2, [], (List.append_nil _).symm⟩
      · cases wb with
        | true =>
          simp (disch := omega) only [V, N, I, Bo, subN, b_leq, leF, b_eql, eqF h0, gG]
          exact pq_J0 hc H hlo hn ih (by omega) hb hA hL lim true wp hr _ _ _ _ _ _ _ _ _ _ _ _ _ _ _ _
        | false =>
          obtain ⟨B, k, g1, g2⟩ := bp_ok hr hlo hn (show a + 12 < b by omega) hb hA (.fn cf [])
          have hr1 : r < (σ ++ [Row.mix [.p (.int .u64 k)]]).length := by rw [List.length_append]; omega
          simp only [V, N, QU] at g2
          simp (disch := omega) only [V, N, I, Bo, subN, b_leq, leF, b_eql, eqF h0, gG, plainFn_fn, List.append_nil]
          rw [g2]
          simp only [gG, subI]
          exact Goal.mono (pq_J0 hc H hlo hn ih (by omega) hb (g1.len.trans hA) (hL.perm g1) _ false wp hr1 _ _ _ _ _ _ _ _ _ _ _ _ _ _ _ _) g1 ⟨_, rfl⟩
include hc H in
theorem sort_ok (hlo : lo ≤ r) {A : List E} (hn : A.length ≤ 100000) {σ : Store} (h : σ[r]? = some (.mix (cels A))) :
    ∃ B e, CC lo 111 [.rsl r 2 0 A.length, .fn cf []] σ = some (.tuple [], W (σ ++ e) r B) ∧ B.Perm A ∧ Sd (ltc cmp) 0 A.length B := by
  have hr := get_lt h
  obtain ⟨b, e1, h2, h3⟩ := bl_ok (n := A.length) (by omega)
  obtain ⟨B, σ1, g1, g2, g3, e, rfl⟩ := pq_all hc H hlo hn (A.length + 1) 0 A.length A b true true σ (by omega) (Nat.zero_le _) (Nat.le_refl _) rfl (fun h0 => by omega) hr
  rw [W_eq h] at g1
  refine ⟨B, e, F111_call ?_, g2.perm, g3⟩
  have c1 : CC lo 121 [V r A.length, N 0, N A.length, I b, .fn cf []] σ = some (.tuple [], W (σ ++ e) r B) := F121_call (by rw [F121_eq]; exact g1)
  have hl : len PP 134 (.rsl r 2 0 A.length) σ = some (N A.length) := by simp [len, uL]
  simp only [V, N, I, U] at c1 e1
  rw [F111_eq]
  simp (disch := omega) only [V, N, I, hl, gG, cv_iu, pureFn_fn, plainFn_fn, List.append_nil, e1]
  have c2 : CC lo 121 [.rsl r 2 0 A.length, .p (.int .i64 0), .p (.int .i64 (A.length : Nat)), .p (.int .i64 (b : Nat)), .fn cf []] σ = some (.tuple [], W (σ ++ e) r B) := c1
  rw [c2]
  simp only [gG]
end
end Go.D.StS
end
/- Equations of functions 112, 110, 84, 83, 51, 12, 50, 81, 107, 115, 125, printed by gen.py. -/
section
set_option linter.unusedVariables false
set_option maxRecDepth 10000
namespace Go.D
open Go.Proofs
noncomputable section
variable (G : GuardT) (lo : Nat) {σ : Store} {r : DV × Store}
open _root_.Go.D.Code (fstC sndC)
open _root_.Go.D.Ann (left right)
def c112_0 : Code := bodyOf Tryz.f112
def a112_0 : Ann := (pol 112).ann
def F112 (x0 x1 : DV) (σ : Store) : RS :=
 codeF G PP (pol 112) CC lo c112_0 a112_0 (x0 :: x1 :: zn 15 []) σ (finR PP Tryz.f112.results.toList)
theorem F112_eq (G : GuardT) (lo : Nat) (x0 x1 : DV) (σ : Store) : F112 G lo x0 x1 σ =
 (boxV x0).bind fun z2 =>
 (boxV x1).bind fun z3 =>
 (fieldAddr PP 102 (DV.ptr (List.length σ) 0) 0).bind fun x5 =>
 (load PP 3 x5 ((σ ++ [Row.mix z2]) ++ [Row.mix z3])).bind fun x6 =>
 (fieldAddr PP 102 (DV.ptr (List.length (σ ++ [Row.mix z2])) 0) 0).bind fun x7 =>
 (load PP 3 x7 ((σ ++ [Row.mix z2]) ++ [Row.mix z3])).bind fun x8 =>
 (pureFn CC (DV.fn 99 []) [x6, x8] ((σ ++ [Row.mix z2]) ++ [Row.mix z3])).bind fun x9 =>
 (fieldAddr PP 102 (DV.ptr (List.length σ) 0) 1).bind fun x10 =>
 (load PP 3 x10 ((σ ++ [Row.mix z2]) ++ [Row.mix z3])).bind fun x11 =>
 (fieldAddr PP 102 (DV.ptr (List.length (σ ++ [Row.mix z2])) 0) 1).bind fun x12 =>
 (load PP 3 x12 ((σ ++ [Row.mix z2]) ++ [Row.mix z3])).bind fun x13 =>
 (pureFn CC (DV.fn 99 []) [x11, x13] ((σ ++ [Row.mix z2]) ++ [Row.mix z3])).bind fun x14 =>
 (buildSlice PP none 22 2 [(0, x9), (1, x14)] ((σ ++ [Row.mix z2]) ++ [Row.mix z3])).bind fun r15_1 =>
 (pureFn CC (DV.fn 98 []) [r15_1.1] r15_1.2).bind fun x16 =>
 some (x16, r15_1.2) := by kernel_rfl
theorem F112_call {lo : Nat} {x0 x1 : DV} (h : F112 guardT lo x0 x1 σ = some r) : CC lo 112 [x0, x1] σ = some r :=
 callL_run Tryz.func112 (by decide +kernel) rfl (by decide +kernel) h
def c110_0 : Code := bodyOf Tryz.f110
def a110_0 : Ann := (pol 110).ann
def F110 (x0 x1 x2 : DV) (σ : Store) : RS :=
 codeF G PP (pol 110) CC lo c110_0 a110_0 (x0 :: x1 :: x2 :: zn 19 []) σ (finR PP Tryz.f110.results.toList)
theorem F110_eq (G : GuardT) (lo : Nat) (x0 x1 x2 : DV) (σ : Store) : F110 G lo x0 x1 x2 σ =
 (boxV x0).bind fun z3 =>
 (fieldAddr PP 95 x1 1).bind fun x7 =>
 (load PP 93 x7 (σ ++ [Row.mix z3])).bind fun x8 =>
 (load PP 102 (DV.ptr (List.length σ) 0) (σ ++ [Row.mix z3])).bind fun x9 =>
 (lookup PP 93 x8 x9 true (σ ++ [Row.mix z3])).bind fun x10 =>
 (extractV x10 0).bind fun x11 =>
 (extractV x10 1).bind fun x12 =>
 (unOp .not x12).bind fun x14 =>
 condK x14
 (
 (fieldAddr PP 95 x1 1).bind fun x15 =>
 (load PP 93 x15 (σ ++ [Row.mix z3])).bind fun x16 =>
 (load PP 102 (DV.ptr (List.length σ) 0) (σ ++ [Row.mix z3])).bind fun x17 =>
 (mapUpdate PP lo 93 x16 x17 I0 (σ ++ [Row.mix z3])).bind fun σ1 =>
 (load PP 134 x2 σ1).bind fun x18 =>
 (load PP 102 (DV.ptr (List.length σ) 0) σ1).bind fun x19 =>
 (buildSlice PP none 134 1 [(0, x19)] σ1).bind fun r20_2 =>
 (append PP lo true 134 134 x18 r20_2.1 r20_2.2).bind fun r21_3 =>
 (store PP lo 134 x2 r21_3.1 r21_3.2).bind fun σ4 =>
 some ((DV.tuple []), σ4)
 )
 (
 some ((DV.tuple []), (σ ++ [Row.mix z3]))
 ) := by kernel_rfl
theorem F110_call {lo : Nat} {x0 x1 x2 : DV} (h : F110 guardT lo x0 x1 x2 σ = some r) : CC lo 110 [x0, x1, x2] σ = some r :=
 callL_run Tryz.func110 (by decide +kernel) rfl (by decide +kernel) h
def c84_0 : Code := bodyOf Tryz.f84
def a84_0 : Ann := (pol 84).ann
def a84_7 : Ann := right (left (right (right a84_0)))
def a84_8 : Ann := left a84_7
def c84_9 : Code := fstC (fstC (sndC (fstC (sndC (sndC c84_0)))))
def a84_16 : Ann := left (right (right (left a84_8)))
def c84_24 : Code := sndC (sndC (sndC c84_9))
def a84_24 : Ann := right (right (right (left a84_8)))
def c84_25 : Code := sndC (sndC (sndC c84_0))
def a84_25 : Ann := right (right (right a84_0))
def f84_L0 (x1 x5 x9 x10 x11 : DV) (σ : Store) : RS :=
 codeF G PP (pol 84) CC lo (.loop c84_9) a84_8 (Z :: x1 :: Z :: Z :: Z :: x5 :: Z :: Z :: Z :: x9 :: x10 :: x11 :: zn 14 []) σ
 (blockC 0 a84_7 (seqC G PP (pol 84) CC lo c84_25 a84_25 (finR PP Tryz.f84.results.toList)))
def f84_J0_fr (x1 x5 x6 x7 x9 x10 x11 x12 x13 x14 x15 x16 x17 x18 x19 x20 x21 x22 x23 : DV) : Frame := [Z, x1, Z, Z, Z, x5, x6, x7, Z, x9, x10, x11, x12, x13, x14, x15, x16, x17, x18, x19, x20, x21, x22, x23, Z, Z]
def f84_J0 (x1 x5 x6 x7 x9 x10 x11 x12 x13 x14 x15 x16 x17 x18 x19 x20 x21 x22 x23 : DV) (σ : Store) : RS :=
 (blockC 1 a84_16 (seqC G PP (pol 84) CC lo c84_24 a84_24 (loopC G PP (pol 84) CC lo c84_9 a84_8 (blockC 0 a84_7 (seqC G PP (pol 84) CC lo c84_25 a84_25 (finR PP Tryz.f84.results.toList)))))) .normal (f84_J0_fr x1 x5 x6 x7 x9 x10 x11 x12 x13 x14 x15 x16 x17 x18 x19 x20 x21 x22 x23) σ
def F84 (x0 x1 : DV) (σ : Store) : RS :=
 codeF G PP (pol 84) CC lo c84_0 a84_0 (x0 :: x1 :: zn 24 []) σ (finR PP Tryz.f84.results.toList)
theorem f84_L0_eq (G : GuardT) (hG : GuardOk G) (lo : Nat) (x1 x5 x9 x10 x11 : DV) (σ : Store) : f84_L0 G lo x1 x5 x9 x10 x11 σ =
 (binOp PP .lss 3 x11 x10).bind fun x12 =>
 condK x12
 (
 (indexAddr PP 23 x9 x11).bind fun x14 =>
 (load PP 69 x14 σ).bind fun x15 =>
 (zeroOf PP 69).bind fun z7 =>
 (store PP lo 69 (DV.ptr (List.length σ) 0) x15 (σ ++ [Row.mix z7])).bind fun σ1 =>
 (fieldAddr PP 69 (DV.ptr (List.length σ) 0) 0).bind fun x16 =>
 (load PP 3 x16 σ1).bind fun x17 =>
 (binOp PP .eql 3 x17 x1).bind fun x19 =>
 condK x19
 (
 (buildSlice PP none 22 1 [(0, x11)] σ1).bind fun r22_2 =>
 (append PP lo false 22 22 x5 r22_2.1 r22_2.2).bind fun r23_3 =>
 f84_J0 G lo x1 r23_3.1 x11 (DV.ptr (List.length σ) 0) x9 x10 x11 x12 x11 x14 x15 x16 x17 x1 x19 x5 x11 r22_2.1 r23_3.1 r23_3.2
 )
 (
 f84_J0 G lo x1 x5 x11 (DV.ptr (List.length σ) 0) x9 x10 x11 x12 x11 x14 x15 x16 x17 x1 x19 Z Z Z Z σ1
 )
 )
 (
 some (x5, σ)
 ) := (loopF_eq G hG).trans (by kernel_rfl)
theorem f84_J0_eq (G : GuardT) (lo : Nat) (x1 x5 x6 x7 x9 x10 x11 x12 x13 x14 x15 x16 x17 x18 x19 x20 x21 x22 x23 : DV) (σ : Store) : f84_J0 G lo x1 x5 x6 x7 x9 x10 x11 x12 x13 x14 x15 x16 x17 x18 x19 x20 x21 x22 x23 σ =
 (binOp PP .add 3 x11 I1).bind fun x24 =>
 f84_L0 G lo x1 x5 x9 x10 x24 σ := by kernel_rfl
theorem F84_eq (G : GuardT) (lo : Nat) (x0 x1 : DV) (σ : Store) : F84 G lo x0 x1 σ =
 (boxV x0).bind fun z2 =>
 (fieldAddr PP 25 (DV.ptr (List.length σ) 0) 2).bind fun x8 =>
 (load PP 23 x8 (σ ++ [Row.mix z2])).bind fun x9 =>
 (len PP 23 x9 (σ ++ [Row.mix z2])).bind fun x10 =>
 f84_L0 G lo x1 (DV.p PV.nilsl) x9 x10 I0 (σ ++ [Row.mix z2]) := by kernel_rfl
theorem F84_call {lo : Nat} {x0 x1 : DV} (h : F84 guardT lo x0 x1 σ = some r) : CC lo 84 [x0, x1] σ = some r :=
 callL_run Tryz.func84 (by decide +kernel) rfl (by decide +kernel) h
def c83_0 : Code := bodyOf Tryz.f83
def a83_0 : Ann := (pol 83).ann
def a83_7 : Ann := right (left (right (right a83_0)))
def a83_8 : Ann := left a83_7
def c83_9 : Code := fstC (fstC (sndC (fstC (sndC (sndC c83_0)))))
def c83_21 : Code := sndC (sndC (sndC c83_0))
def a83_21 : Ann := right (right (right a83_0))
def f83_L0 (x1 x2 x3 x5 x11 x12 x13 : DV) (σ : Store) : RS :=
 codeF G PP (pol 83) CC lo (.loop c83_9) a83_8 (Z :: x1 :: x2 :: x3 :: Z :: x5 :: zn 5 (x11 :: x12 :: x13 :: zn 31 [])) σ
 (blockC 0 a83_7 (seqC G PP (pol 83) CC lo c83_21 a83_21 (finR PP Tryz.f83.results.toList)))
def F83 (x0 x1 x2 : DV) (σ : Store) : RS :=
 codeF G PP (pol 83) CC lo c83_0 a83_0 (x0 :: x1 :: x2 :: zn 42 []) σ (finR PP Tryz.f83.results.toList)
theorem f83_L0_eq (G : GuardT) (hG : GuardOk G) (lo : Nat) (x1 x2 x3 x5 x11 x12 x13 : DV) (σ : Store) : f83_L0 G lo x1 x2 x3 x5 x11 x12 x13 σ =
 (binOp PP .lss 3 x13 x12).bind fun x14 =>
 condK x14
 (
 (indexAddr PP 22 x11 x13).bind fun x15 =>
 (load PP 3 x15 σ).bind fun x16 =>
 (fieldAddr PP 25 x1 2).bind fun x18 =>
 (load PP 23 x18 σ).bind fun x19 =>
 (indexAddr PP 23 x19 x16).bind fun x21 =>
 (fieldAddr PP 69 x21 1).bind fun x22 =>
 (load PP 3 x22 σ).bind fun x23 =>
 (fieldAddr PP 28 x2 1).bind fun x24 =>
 (load PP 26 x24 σ).bind fun x25 =>
 (indexAddr PP 26 x25 x16).bind fun x27 =>
 (load PP 22 x27 σ).bind fun x28 =>
 (fieldAddr PP 102 x3 1).bind fun x29 =>
 (load PP 3 x29 σ).bind fun x30 =>
 (indexAddr PP 22 x28 x30).bind fun x31 =>
 (load PP 3 x31 σ).bind fun x32 =>
 (build PP 102 [(0, x23), (1, x32)]).bind fun x33 =>
 (fieldAddr PP 25 x1 2).bind fun x34 =>
 (load PP 23 x34 σ).bind fun x35 =>
 (indexAddr PP 23 x35 x16).bind fun x37 =>
 (fieldAddr PP 69 x37 2).bind fun x38 =>
 (load PP 3 x38 σ).bind fun x39 =>
 (build PP 141 [(0, x33), (1, x39)]).bind fun x40 =>
 (buildSlice PP none 138 1 [(0, x40)] σ).bind fun r41_1 =>
 (append PP lo false 138 138 x5 r41_1.1 r41_1.2).bind fun r42_2 =>
 (binOp PP .add 3 x13 I1).bind fun x43 =>
 f83_L0 G lo x1 x2 x3 r42_2.1 x11 x12 x43 r42_2.2
 )
 (
 some (x5, σ)
 ) := (loopF_eq G hG).trans (by kernel_rfl)
theorem F83_eq (G : GuardT) (lo : Nat) (x0 x1 x2 : DV) (σ : Store) : F83 G lo x0 x1 x2 σ =
 (boxV x0).bind fun z3 =>
 (load PP 25 x1 (σ ++ [Row.mix z3])).bind fun x8 =>
 (fieldAddr PP 102 (DV.ptr (List.length σ) 0) 0).bind fun x9 =>
 (load PP 3 x9 (σ ++ [Row.mix z3])).bind fun x10 =>
 (pureFn CC (DV.fn 84 []) [x8, x10] (σ ++ [Row.mix z3])).bind fun x11 =>
 (len PP 22 x11 (σ ++ [Row.mix z3])).bind fun x12 =>
 f83_L0 G lo x1 x2 (DV.ptr (List.length σ) 0) (DV.p PV.nilsl) x11 x12 I0 (σ ++ [Row.mix z3]) := by kernel_rfl
theorem F83_call {lo : Nat} {x0 x1 x2 : DV} (h : F83 guardT lo x0 x1 x2 σ = some r) : CC lo 83 [x0, x1, x2] σ = some r :=
 callL_run Tryz.func83 (by decide +kernel) rfl (by decide +kernel) h
def c51_0 : Code := bodyOf Tryz.f51
def a51_0 : Ann := (pol 51).ann
def a51_7 : Ann := right (left (right (right a51_0)))
def a51_8 : Ann := left a51_7
def c51_9 : Code := fstC (fstC (sndC (fstC (sndC (sndC c51_0)))))
def c51_21 : Code := sndC (sndC (sndC c51_0))
def a51_21 : Ann := right (right (right a51_0))
def f51_L0 (x2 x3 x4 x6 x10 x11 x12 : DV) (σ : Store) : RS :=
 codeF G PP (pol 51) CC lo (.loop c51_9) a51_8 (Z :: Z :: x2 :: x3 :: x4 :: Z :: x6 :: Z :: Z :: Z :: x10 :: x11 :: x12 :: zn 22 []) σ
 (blockC 0 a51_7 (seqC G PP (pol 51) CC lo c51_21 a51_21 (finR PP Tryz.f51.results.toList)))
def F51 (x0 x1 : DV) (σ : Store) : RS :=
 codeF G PP (pol 51) CC lo c51_0 a51_0 (x0 :: x1 :: zn 33 []) σ (finR PP Tryz.f51.results.toList)
theorem f51_L0_eq (G : GuardT) (hG : GuardOk G) (lo : Nat) (x2 x3 x4 x6 x10 x11 x12 : DV) (σ : Store) : f51_L0 G lo x2 x3 x4 x6 x10 x11 x12 σ =
 (binOp PP .lss 3 x12 x11).bind fun x13 =>
 condK x13
 (
 (indexAddr PP 22 x10 x12).bind fun x14 =>
 (load PP 3 x14 σ).bind fun x15 =>
 (fieldAddr PP 137 x6 0).bind fun x16 =>
 (load PP 134 x16 σ).bind fun x17 =>
 (fieldAddr PP 28 x3 0).bind fun x19 =>
 (load PP 22 x19 σ).bind fun x20 =>
 (indexAddr PP 22 x20 x15).bind fun x22 =>
 (load PP 3 x22 σ).bind fun x23 =>
 (build PP 102 [(0, x15), (1, x23)]).bind fun x24 =>
 (buildSlice PP none 134 1 [(0, x24)] σ).bind fun r25_1 =>
 (append PP lo false 134 134 x17 r25_1.1 r25_1.2).bind fun r26_2 =>
 (fieldAddr PP 137 x6 0).bind fun x27 =>
 (store PP lo 134 x27 r26_2.1 r26_2.2).bind fun σ3 =>
 (binOp PP .add 3 x12 I1).bind fun x28 =>
 f51_L0 G lo x2 x3 x4 x6 x10 x11 x28 σ3
 )
 (
 (fieldAddr PP 137 x6 1).bind fun x30 =>
 (store PP lo 135 x30 (DV.fn 83 [x2, x3]) σ).bind fun σ4 =>
 (load PP 137 x6 σ4).bind fun x31 =>
 (plainFn CC lo (DV.fn 85 []) [x31] σ4).bind fun r32_5 =>
 (extractV r32_5.1 0).bind fun x33 =>
 (extractV r32_5.1 1).bind fun x34 =>
 (store PP lo 95 x4 x33 r32_5.2).bind fun σ6 =>
 (cellV PP 95 x4 σ6).bind fun v0 =>
 some ((DV.tuple [v0, x34]), σ6)
 ) := (loopF_eq G hG).trans (by kernel_rfl)
theorem F51_eq (G : GuardT) (lo : Nat) (x0 x1 : DV) (σ : Store) : F51 G lo x0 x1 σ =
 (boxV x0).bind fun z2 =>
 (boxV x1).bind fun z3 =>
 (zeroOf PP 95).bind fun z4 =>
 (zeroOf PP 137).bind fun z6 =>
 (fieldAddr PP 25 (DV.ptr (List.length σ) 0) 1).bind fun x9 =>
 (load PP 22 x9 ((((σ ++ [Row.mix z2]) ++ [Row.mix z3]) ++ [Row.mix z4]) ++ [Row.mix z6])).bind fun x10 =>
 (len PP 22 x10 ((((σ ++ [Row.mix z2]) ++ [Row.mix z3]) ++ [Row.mix z4]) ++ [Row.mix z6])).bind fun x11 =>
 f51_L0 G lo (DV.ptr (List.length σ) 0) (DV.ptr (List.length (σ ++ [Row.mix z2])) 0) (DV.ptr (List.length ((σ ++ [Row.mix z2]) ++ [Row.mix z3])) 0) (DV.ptr (List.length (((σ ++ [Row.mix z2]) ++ [Row.mix z3]) ++ [Row.mix z4])) 0) x10 x11 I0 ((((σ ++ [Row.mix z2]) ++ [Row.mix z3]) ++ [Row.mix z4]) ++ [Row.mix z6]) := by kernel_rfl
theorem F51_call {lo : Nat} {x0 x1 : DV} (h : F51 guardT lo x0 x1 σ = some r) : CC lo 51 [x0, x1] σ = some r :=
 callL_run Tryz.func51 (by decide +kernel) rfl (by decide +kernel) h
def c12_0 : Code := bodyOf Tryz.f12
def a12_0 : Ann := (pol 12).ann
def F12 (x0 x1 : DV) (σ : Store) : RS :=
 codeF G PP (pol 12) CC lo c12_0 a12_0 (x0 :: x1 :: zn 23 []) σ (finR PP Tryz.f12.results.toList)
theorem F12_eq (G : GuardT) (lo : Nat) (x0 x1 : DV) (σ : Store) : F12 G lo x0 x1 σ =
 (boxV x0).bind fun z2 =>
 (boxV x1).bind fun z3 =>
 (zeroOf PP 33).bind fun z4 =>
 (load PP 25 (DV.ptr (List.length σ) 0) (((σ ++ [Row.mix z2]) ++ [Row.mix z3]) ++ [Row.mix z4])).bind fun x9 =>
 (load PP 28 (DV.ptr (List.length (σ ++ [Row.mix z2])) 0) (((σ ++ [Row.mix z2]) ++ [Row.mix z3]) ++ [Row.mix z4])).bind fun x10 =>
 (pureFn CC (DV.fn 50 []) [x9, x10] (((σ ++ [Row.mix z2]) ++ [Row.mix z3]) ++ [Row.mix z4])).bind fun x11 =>
 (binOp PP .neq 34 x11 I0).bind fun x13 =>
 condK x13
 (
 (build PP 33 []).bind fun x14 =>
 (store PP lo 33 (DV.ptr (List.length ((σ ++ [Row.mix z2]) ++ [Row.mix z3])) 0) x14 (((σ ++ [Row.mix z2]) ++ [Row.mix z3]) ++ [Row.mix z4])).bind fun σ1 =>
 (cellV PP 33 (DV.ptr (List.length ((σ ++ [Row.mix z2]) ++ [Row.mix z3])) 0) σ1).bind fun v0 =>
 some ((DV.tuple [v0, x11]), σ1)
 )
 (
 (load PP 25 (DV.ptr (List.length σ) 0) (((σ ++ [Row.mix z2]) ++ [Row.mix z3]) ++ [Row.mix z4])).bind fun x17 =>
 (load PP 28 (DV.ptr (List.length (σ ++ [Row.mix z2])) 0) (((σ ++ [Row.mix z2]) ++ [Row.mix z3]) ++ [Row.mix z4])).bind fun x18 =>
 (plainFn CC lo (DV.fn 51 []) [x17, x18] (((σ ++ [Row.mix z2]) ++ [Row.mix z3]) ++ [Row.mix z4])).bind fun r19_2 =>
 (extractV r19_2.1 0).bind fun x20 =>
 (extractV r19_2.1 1).bind fun x21 =>
 (zeroOf PP 95).bind fun z7 =>
 (store PP lo 95 (DV.ptr (List.length r19_2.2) 0) x20 (r19_2.2 ++ [Row.mix z7])).bind fun σ3 =>
 (fieldAddr PP 95 (DV.ptr (List.length r19_2.2) 0) 0).bind fun x22 =>
 (load PP 33 x22 σ3).bind fun x23 =>
 (store PP lo 33 (DV.ptr (List.length ((σ ++ [Row.mix z2]) ++ [Row.mix z3])) 0) x23 σ3).bind fun σ4 =>
 (cellV PP 33 (DV.ptr (List.length ((σ ++ [Row.mix z2]) ++ [Row.mix z3])) 0) σ4).bind fun v0 =>
 some ((DV.tuple [v0, x21]), σ4)
 ) := by kernel_rfl
theorem F12_call {lo : Nat} {x0 x1 : DV} (h : F12 guardT lo x0 x1 σ = some r) : CC lo 12 [x0, x1] σ = some r :=
 callL_run Tryz.func12 (by decide +kernel) rfl (by decide +kernel) h
def c50_0 : Code := bodyOf Tryz.f50
def a50_0 : Ann := (pol 50).ann
def a50_15 : Ann := right (left (right (right a50_0)))
def a50_16 : Ann := left a50_15
def c50_17 : Code := fstC (fstC (sndC (fstC (sndC (sndC c50_0)))))
def c50_37 : Code := sndC (sndC (sndC c50_0))
def a50_37 : Ann := right (right (right a50_0))
def f50_L0 (x36 x37 x38 : DV) (σ : Store) : RS :=
 codeF G PP (pol 50) CC lo (.loop c50_17) a50_16 (zn 36 (x36 :: x37 :: x38 :: zn 16 [])) σ
 (blockC 0 a50_15 (seqC G PP (pol 50) CC lo c50_37 a50_37 (finR PP Tryz.f50.results.toList)))
def F50 (x0 x1 : DV) (σ : Store) : RS :=
 codeF G PP (pol 50) CC lo c50_0 a50_0 (x0 :: x1 :: zn 53 []) σ (finR PP Tryz.f50.results.toList)
theorem f50_L0_eq (G : GuardT) (hG : GuardOk G) (lo : Nat) (x36 x37 x38 : DV) (σ : Store) : f50_L0 G lo x36 x37 x38 σ =
 (binOp PP .lss 3 x38 x37).bind fun x39 =>
 condK x39
 (
 (indexAddr PP 26 x36 x38).bind fun x40 =>
 (load PP 22 x40 σ).bind fun x41 =>
 (len PP 22 x41 σ).bind fun x43 =>
 (binOp PP .eql 3 x43 (DV.p (PV.int IntKind.i64 (8)))).bind fun x44 =>
 (pureFn CC (DV.fn 73 []) [x44, (DV.p (PV.int IntKind.i64 (6)))] σ).bind fun x45 =>
 (pureFn CC (DV.fn 82 []) [x41] σ).bind fun x47 =>
 (pureFn CC (DV.fn 73 []) [x47, (DV.p (PV.int IntKind.i64 (3)))] σ).bind fun x48 =>
 (buildSlice PP none 143 2 [(0, x45), (1, x48)] σ).bind fun r49_2 =>
 (pureFn CC (DV.fn 53 []) [r49_2.1] r49_2.2).bind fun x50 =>
 (binOp PP .neq 34 x50 I0).bind fun x52 =>
 condK x52
 (
 some (x50, r49_2.2)
 )
 (
 (binOp PP .add 3 x38 I1).bind fun x54 =>
 f50_L0 G lo x36 x37 x54 r49_2.2
 )
 )
 (
 some (I0, σ)
 ) := (loopF_eq G hG).trans (by kernel_rfl)
theorem F50_eq (G : GuardT) (lo : Nat) (x0 x1 : DV) (σ : Store) : F50 G lo x0 x1 σ =
 (boxV x0).bind fun z2 =>
 (boxV x1).bind fun z3 =>
 (load PP 25 (DV.ptr (List.length σ) 0) ((σ ++ [Row.mix z2]) ++ [Row.mix z3])).bind fun x9 =>
 (pureFn CC (DV.fn 81 []) [x9] ((σ ++ [Row.mix z2]) ++ [Row.mix z3])).bind fun x10 =>
 (fieldAddr PP 28 (DV.ptr (List.length (σ ++ [Row.mix z2])) 0) 0).bind fun x11 =>
 (load PP 22 x11 ((σ ++ [Row.mix z2]) ++ [Row.mix z3])).bind fun x12 =>
 (len PP 22 x12 ((σ ++ [Row.mix z2]) ++ [Row.mix z3])).bind fun x13 =>
 (fieldAddr PP 25 (DV.ptr (List.length σ) 0) 0).bind fun x14 =>
 (load PP 3 x14 ((σ ++ [Row.mix z2]) ++ [Row.mix z3])).bind fun x15 =>
 (binOp PP .eql 3 x13 x15).bind fun x16 =>
 (pureFn CC (DV.fn 73 []) [x16, (DV.p (PV.int IntKind.i64 (6)))] ((σ ++ [Row.mix z2]) ++ [Row.mix z3])).bind fun x17 =>
 (fieldAddr PP 28 (DV.ptr (List.length (σ ++ [Row.mix z2])) 0) 0).bind fun x18 =>
 (load PP 22 x18 ((σ ++ [Row.mix z2]) ++ [Row.mix z3])).bind fun x19 =>
 (pureFn CC (DV.fn 82 []) [x19] ((σ ++ [Row.mix z2]) ++ [Row.mix z3])).bind fun x20 =>
 (pureFn CC (DV.fn 73 []) [x20, (DV.p (PV.int IntKind.i64 (3)))] ((σ ++ [Row.mix z2]) ++ [Row.mix z3])).bind fun x21 =>
 (fieldAddr PP 28 (DV.ptr (List.length (σ ++ [Row.mix z2])) 0) 1).bind fun x22 =>
 (load PP 26 x22 ((σ ++ [Row.mix z2]) ++ [Row.mix z3])).bind fun x23 =>
 (len PP 26 x23 ((σ ++ [Row.mix z2]) ++ [Row.mix z3])).bind fun x24 =>
 (fieldAddr PP 25 (DV.ptr (List.length σ) 0) 2).bind fun x25 =>
 (load PP 23 x25 ((σ ++ [Row.mix z2]) ++ [Row.mix z3])).bind fun x26 =>
 (len PP 23 x26 ((σ ++ [Row.mix z2]) ++ [Row.mix z3])).bind fun x27 =>
 (binOp PP .eql 3 x24 x27).bind fun x28 =>
 (pureFn CC (DV.fn 73 []) [x28, (DV.p (PV.int IntKind.i64 (6)))] ((σ ++ [Row.mix z2]) ++ [Row.mix z3])).bind fun x29 =>
 (buildSlice PP none 143 4 [(0, x10), (1, x17), (2, x21), (3, x29)] ((σ ++ [Row.mix z2]) ++ [Row.mix z3])).bind fun r30_1 =>
 (pureFn CC (DV.fn 53 []) [r30_1.1] r30_1.2).bind fun x31 =>
 (binOp PP .neq 34 x31 I0).bind fun x33 =>
 condK x33
 (
 some (x31, r30_1.2)
 )
 (
 (fieldAddr PP 28 (DV.ptr (List.length (σ ++ [Row.mix z2])) 0) 1).bind fun x35 =>
 (load PP 26 x35 r30_1.2).bind fun x36 =>
 (len PP 26 x36 r30_1.2).bind fun x37 =>
 f50_L0 G lo x36 x37 I0 r30_1.2
 ) := by kernel_rfl
theorem F50_call {lo : Nat} {x0 x1 : DV} (h : F50 guardT lo x0 x1 σ = some r) : CC lo 50 [x0, x1] σ = some r :=
 callL_run Tryz.func50 (by decide +kernel) rfl (by decide +kernel) h
def c81_0 : Code := bodyOf Tryz.f81
def a81_0 : Ann := (pol 81).ann
def F81 (x0 : DV) (σ : Store) : RS :=
 codeF G PP (pol 81) CC lo c81_0 a81_0 (x0 :: zn 24 []) σ (finR PP Tryz.f81.results.toList)
theorem F81_eq (G : GuardT) (lo : Nat) (x0 : DV) (σ : Store) : F81 G lo x0 σ =
 (boxV x0).bind fun z1 =>
 (fieldAddr PP 25 (DV.ptr (List.length σ) 0) 2).bind fun x4 =>
 (load PP 23 x4 (σ ++ [Row.mix z1])).bind fun x5 =>
 (pureFn CC (DV.fn 100 []) [x5, (DV.fn 107 [])] (σ ++ [Row.mix z1])).bind fun x6 =>
 (load PP 25 (DV.ptr (List.length σ) 0) (σ ++ [Row.mix z1])).bind fun x7 =>
 (pureFn CC (DV.fn 96 []) [x7] (σ ++ [Row.mix z1])).bind fun x8 =>
 (pureFn CC (DV.fn 73 []) [x8, (DV.p (PV.int IntKind.i64 (5)))] (σ ++ [Row.mix z1])).bind fun x9 =>
 (fieldAddr PP 25 (DV.ptr (List.length σ) 0) 0).bind fun x10 =>
 (load PP 3 x10 (σ ++ [Row.mix z1])).bind fun x11 =>
 (binOp PP .leq 3 x11 (DV.p (PV.int IntKind.i64 (30)))).bind fun x12 =>
 G _ x12 true ((fieldAddr PP 25 (DV.ptr (List.length σ) 0) 2).bind fun v => some (v, (σ ++ [Row.mix z1]))) (σ ++ [Row.mix z1]) fun x14 σ1 =>
 G _ x12 true ((load PP 23 x14 σ1).bind fun v => some (v, σ1)) σ1 fun x15 σ2 =>
 G _ x12 true ((len PP 23 x15 σ2).bind fun v => some (v, σ2)) σ2 fun x16 σ3 =>
 G _ x12 true ((binOp PP .leq 3 x16 (DV.p (PV.int IntKind.i64 (120)))).bind fun v => some (v, σ3)) σ3 fun x17 σ4 =>
 (pickV x12 x17 (DV.p (PV.bool false))).bind fun x18 =>
 (pureFn CC (DV.fn 73 []) [x18, (DV.p (PV.int IntKind.i64 (2)))] σ4).bind fun x19 =>
 (unOp .not x6).bind fun x21 =>
 (pureFn CC (DV.fn 73 []) [x21, (DV.p (PV.int IntKind.i64 (3)))] σ4).bind fun x22 =>
 (buildSlice PP none 143 3 [(0, x9), (1, x19), (2, x22)] σ4).bind fun r23_5 =>
 (pureFn CC (DV.fn 53 []) [r23_5.1] r23_5.2).bind fun x24 =>
 some (x24, r23_5.2) := by kernel_rfl
theorem F81_call {lo : Nat} {x0 : DV} (h : F81 guardT lo x0 σ = some r) : CC lo 81 [x0] σ = some r :=
 callL_run Tryz.func81 (by decide +kernel) rfl (by decide +kernel) h
def c107_0 : Code := bodyOf Tryz.f107
def a107_0 : Ann := (pol 107).ann
def F107 (x0 : DV) (σ : Store) : RS :=
 codeF G PP (pol 107) CC lo c107_0 a107_0 (x0 :: zn 5 []) σ (finR PP Tryz.f107.results.toList)
theorem F107_eq (G : GuardT) (lo : Nat) (x0 : DV) (σ : Store) : F107 G lo x0 σ =
 (boxV x0).bind fun z1 =>
 (fieldAddr PP 69 (DV.ptr (List.length σ) 0) 2).bind fun x3 =>
 (load PP 3 x3 (σ ++ [Row.mix z1])).bind fun x4 =>
 (binOp PP .eql 3 x4 (DV.p (PV.int IntKind.i64 (11)))).bind fun x5 =>
 some (x5, (σ ++ [Row.mix z1])) := by kernel_rfl
theorem F107_call {lo : Nat} {x0 : DV} (h : F107 guardT lo x0 σ = some r) : CC lo 107 [x0] σ = some r :=
 callL_run Tryz.func107 (by decide +kernel) rfl (by decide +kernel) h
def c115_0 : Code := bodyOf Tryz.f115
def a115_0 : Ann := (pol 115).ann
def F115 (x0 : DV) (σ : Store) : RS :=
 codeF G PP (pol 115) CC lo c115_0 a115_0 (x0 :: zn 6 []) σ (finR PP Tryz.f115.results.toList)
theorem F115_eq (G : GuardT) (lo : Nat) (x0 : DV) (σ : Store) : F115 G lo x0 σ =
 (plainFn CC lo (DV.fn 124 []) [x0, (DV.fn 119 [])] σ).bind fun r4_1 =>
 (plainFn CC lo (DV.fn 125 []) [x0] r4_1.2).bind fun r6_2 =>
 some (r6_2.1, r6_2.2) := by kernel_rfl
theorem F115_call {lo : Nat} {x0 : DV} (h : F115 guardT lo x0 σ = some r) : CC lo 115 [x0] σ = some r :=
 callL_run Tryz.func115 (by decide +kernel) rfl (by decide +kernel) h
def c125_0 : Code := bodyOf Tryz.f125
def a125_0 : Ann := (pol 125).ann
def a125_13 : Ann := right (left (right (right a125_0)))
def a125_14 : Ann := left a125_13
def c125_15 : Code := fstC (fstC (sndC (fstC (sndC (sndC c125_0)))))
def a125_22 : Ann := left (right (left a125_14))
def a125_31 : Ann := right (left (right (left (right (left a125_22)))))
def a125_32 : Ann := left a125_31
def c125_33 : Code := fstC (fstC (sndC (fstC (sndC (fstC (sndC (fstC (fstC (sndC c125_15)))))))))
def c125_49 : Code := sndC (sndC (fstC (sndC (fstC (fstC (sndC c125_15))))))
def a125_49 : Ann := right (right (left (right (left a125_22))))
def c125_55 : Code := sndC (sndC c125_15)
def a125_55 : Ann := right (right (left a125_14))
def c125_56 : Code := sndC (sndC (sndC c125_0))
def a125_56 : Ann := right (right (right a125_0))
def f125_L0 (x0 x3 : DV) (σ : Store) : RS :=
 codeF G PP (pol 125) CC lo (.loop c125_15) a125_14 (x0 :: Z :: Z :: x3 :: zn 57 []) σ
 (blockC 0 a125_13 (seqC G PP (pol 125) CC lo c125_56 a125_56 (finR PP Tryz.f125.results.toList)))
def f125_L1 (x0 x3 x4 x5 : DV) (σ : Store) : RS :=
 codeF G PP (pol 125) CC lo (.loop c125_33) a125_32 (x0 :: Z :: Z :: x3 :: x4 :: x5 :: zn 55 []) σ
 (blockC 2 a125_31 (seqC G PP (pol 125) CC lo c125_49 a125_49 (blockC 1 a125_22 (seqC G PP (pol 125) CC lo c125_55 a125_55 (loopC G PP (pol 125) CC lo c125_15 a125_14 (blockC 0 a125_13 (seqC G PP (pol 125) CC lo c125_56 a125_56 (finR PP Tryz.f125.results.toList))))))))
def F125 (x0 : DV) (σ : Store) : RS :=
 codeF G PP (pol 125) CC lo c125_0 a125_0 (x0 :: zn 60 []) σ (finR PP Tryz.f125.results.toList)
theorem f125_L0_eq (G : GuardT) (hG : GuardOk G) (lo : Nat) (x0 x3 : DV) (σ : Store) : f125_L0 G lo x0 x3 σ =
 (len PP 23 x0 σ).bind fun x12 =>
 (binOp PP .lss 3 x3 x12).bind fun x13 =>
 condK x13
 (
 (indexAddr PP 23 x0 x3).bind fun x18 =>
 (load PP 69 x18 σ).bind fun x19 =>
 (binOp PP .sub 3 x3 I1).bind fun x22 =>
 (indexAddr PP 23 x0 x22).bind fun x23 =>
 (load PP 69 x23 σ).bind fun x24 =>
 (binOp PP .eql 69 x19 x24).bind fun x25 =>
 condK x25
 (
 (sliceOp PP 23 x0 (some x3) none none).bind fun x28 =>
 f125_L1 G lo x0 x3 x28 I1 σ
 )
 (
 (binOp PP .add 3 x3 I1).bind fun x15 =>
 f125_L0 G lo x0 x15 σ
 )
 )
 (
 some (x0, σ)
 ) := (loopF_eq G hG).trans (by kernel_rfl)
theorem F125_eq (G : GuardT) (lo : Nat) (x0 : DV) (σ : Store) : F125 G lo x0 σ =
 (len PP 23 x0 σ).bind fun x7 =>
 (binOp PP .lss 3 x7 (DV.p (PV.int IntKind.i64 (2)))).bind fun x8 =>
 condK x8
 (
 some (x0, σ)
 )
 (
 f125_L0 G lo x0 I1 σ
 ) := by kernel_rfl
theorem F125_call {lo : Nat} {x0 : DV} (h : F125 guardT lo x0 σ = some r) : CC lo 125 [x0] σ = some r :=
 callL_run Tryz.func125 (by decide +kernel) rfl (by decide +kernel) h
end
end Go.D
end
/- Chapter 22: lists of states that grow in a row, their order; turned from the texts of chapter 24. -/
section
set_option linter.unusedVariables false
set_option linter.unusedSimpArgs false
namespace Go.D.StS
open Go.D.Srt
def cmpB (x y : E) : Int := orL [cmpI x.1 y.1, cmpI x.2 y.2]
theorem box_val (e : E) : boxV (val e) = some (cel e) := rfl
theorem fa102_0 (x : DV) : fieldAddr PP 102 x 0 = shiftPtr x 0 := Eq.trans (by kernel_rfl) rfl
theorem fa102_1 (x : DV) : fieldAddr PP 102 x 1 = shiftPtr x 1 := Eq.trans (by kernel_rfl) rfl
theorem bs22_2w (x y : Int) (σ : Store) : buildSlice PP none 22 2 [(0, .p (pI x)), (1, .p (pI y))] σ = some (.p (.sl true 2 (eInts [x, y])), σ) := Eq.trans (by kernel_rfl) rfl
theorem sl2_view (x y : Int) : view (.p (.sl true 2 (eInts [x, y]))) = .p (eSl (some [x, y])) := rfl
theorem S112 (x y : E) (σ : Store) : pureV CC 112 [val x, val y] σ = some (.p (.int .i64 (cmpB x y))) := by
  refine pureV_free rfl rfl (F112_call (r := (.p (pI (cmpB x y)), [.mix (cel x), .mix (cel y)])) ?_) rfl
  rw [F112_eq]
  have g0 : ([Row.mix (cel x), Row.mix (cel y)] : Store)[0]? = some (.mix (cel x)) := rfl
  have g1 : ([Row.mix (cel x), Row.mix (cel y)] : Store)[1]? = some (.mix (cel y)) := rfl
  simp only [box_val, obind, List.length_nil, List.nil_append, List.length_cons, List.cons_append, fa102_0, fa102_1, shift_ptr, load3, Nat.zero_add,
    load1_ptr (off := 0) g0 rfl, load1_ptr (off := 1) g0 rfl, load1_ptr (off := 0) g1 rfl, load1_ptr (off := 1) g1 rfl, pureFn_fn, List.append_nil, S99, bs22_2w]
  rw [pureV_view (args' := [.p (eSl (some [cmpI x.1 y.1, cmpI x.2 y.2]))]) (by simp [sl2_view]) (by simp [sl_view]), S98 (by simp)]
  rfl
def ltB (x y : E) : Prop := x.1 < y.1 ∨ (x.1 = y.1 ∧ x.2 < y.2)
theorem cmpB_lt (x y : E) : cmpB x y < 0 ↔ ltB x y := by
  unfold cmpB ltB cmpI
  simp only [orL]
  split <;> split <;> (try split) <;> omega
theorem ltc_iff (x y : E) : ltc cmpB x y = true ↔ ltB x y := by
  unfold ltc
  rw [decide_eq_true_iff]
  exact cmpB_lt x y
theorem ltc_false (x y : E) : ltc cmpB x y = false ↔ ¬ ltB x y := by
  rw [← ltc_iff]
  cases ltc cmpB x y <;> simp
theorem ordB : Ord (ltc cmpB) where
  asym x y h := by
    rw [ltc_iff] at h
    rw [ltc_false]
    unfold ltB at *
    omega
  trans x y z h1 h2 := by
    rw [ltc_false] at *
    unfold ltB at *
    omega
theorem ltB_anti {x y : E} (h1 : ¬ ltB x y) (h2 : ¬ ltB y x) : x = y := by
  obtain ⟨a, b⟩ := x
  obtain ⟨c, d⟩ := y
  unfold ltB at *
  simp only at *
  have e1 : a = c := by omega
  have e2 : b = d := by omega
  rw [e1, e2]
def Asc (l : List E) : Prop := l.Pairwise ltB
def leB (x y : E) : Prop := ¬ ltB y x
theorem sd_pair {B : List E} (h : Sd (ltc cmpB) 0 B.length B) : B.Pairwise leB := by
  rw [List.pairwise_iff_getElem]
  intro i j hi hj hij
  have h1 := h i j (Nat.zero_le _) hij hj
  rw [ltc_false] at h1
  have e : ∀ k (hk : k < B.length), ge B k = B[k] := fun k hk => by unfold ge; rw [List.getD_eq_getElem?_getD, List.getElem?_eq_getElem hk]; rfl
  rw [e i hi, e j hj] at h1
  exact h1
def RowL (σ : Store) (B : Nat) (A : List E) (x : DV) : Prop := (A = [] ∧ x = .p .nilsl) ∨ ∃ r, x = .rsl r 2 0 A.length ∧ σ[r]? = some (.mix (cels A)) ∧ B ≤ r ∧ A ≠ []
theorem u134 : PP.underlying 134 = some (.slice 102) := uL
theorem bytesB : bytes? PP 102 = some 16 := Eq.trans (by kernel_rfl) rfl
theorem zeroB : zeroOf PP 102 = some [.p (pI 0), .p (pI 0)] := Eq.trans (by kernel_rfl) rfl
theorem srcB : srcType PP 134 = true := Eq.trans (by kernel_rfl) rfl
def celP (e : E) : List PV := [pI e.1, pI e.2]
def celsP (A : List E) : List PV := A.flatMap celP
theorem celP_map (e : E) : (celP e).map DV.p = cel e := rfl
theorem celsP_map (A : List E) : (celsP A).map DV.p = cels A := by
  induction A with
  | nil => rfl
  | cons a A ih =>
    have e1 : celsP (a :: A) = celP a ++ celsP A := rfl
    have e2 : cels (a :: A) = cel a ++ cels A := rfl
    rw [e1, e2, List.map_append, ih, celP_map]
theorem celsP_len (A : List E) : (celsP A).length = A.length * 2 := by
  have h := congrArg List.length (celsP_map A)
  rwa [List.length_map, cels_len] at h
theorem RowL.push {σ : Store} {B lo : Nat} {A : List E} {x : DV} (h : RowL σ B A x) (hA : A.length ≤ 1000000) (hlo : lo ≤ B) (hB : B ≤ σ.length) (m : Bool) (hm : A = [] → m = true) (e : E) :
    ∃ σ', append PP lo m 134 134 x (.p (.sl true 1 (celP e))) σ = some (.rsl σ.length 2 0 (A.length + 1), σ') ∧ RowL σ' B (A ++ [e]) (.rsl σ.length 2 0 (A.length + 1)) ∧
      (∀ j row, (∀ r, x = .rsl r 2 0 A.length → j ≠ r) → σ[j]? = some row → σ'[j]? = some row) ∧ σ'.length = σ.length + 1 := by
  have hsrc : source σ 2 (.p (.sl true 1 (celP e))) = some (1, (celP e).map DV.p) := by simp [source, celP]
  have hz0 : ¬ ([DV.p (pI 0), DV.p (pI 0)].length ≠ 2 ∨ 2 = 0) := by decide
  have ec : cels (A ++ [e]) = cels A ++ cel e := by rw [cels_app]; rfl
  have hne : A ++ [e] ≠ [] := by simp
  have hl : (A ++ [e]).length = A.length + 1 := by simp
  rcases h with ⟨rfl, rfl⟩ | ⟨r, rfl, h1, h2, h3⟩
  · have hm := hm rfl
    subst hm
    refine ⟨σ ++ [.mix (cel e)], ?_, .inr ⟨σ.length, by rw [hl], get_snoc, hB, hne⟩, fun j row _ g => get_old g, by simp⟩
    simp only [append, srcB, u134, sE, bytesB, zeroB, hz0, hsrc, appNil]
    rfl
  · have hr := get_lt h1
    have hcl := cels_len A
    refine ⟨σ.set r .dead ++ [.mix (cels A ++ cel e)], ?_, .inr ⟨σ.length, by rw [hl], ?_, hB, hne⟩, fun j row hj g => get_old (get_set_ne g (hj r rfl)), by simp⟩
    · simp only [append, srcB, u134, sE, bytesB, zeroB, hz0, hsrc, appRow]
      have e1 : (A.length + 1) * 16 ≤ 140737488355328 := by omega
      have e2 : A.length + 1 ≤ 140737488355328 := by omega
      have e3 : lo ≤ r := by omega
      have e4 : ¬ (0 + (A.length + 1) * 2 ≤ (cels A).length) := by omega
      have e5 : 0 + A.length * 2 = (cels A).length := by omega
      have e6 : (cel e).all DV.one = true := rfl
      simp [e1, e2, e3, h1, celP_map, e6, hcl, ← e5]
      omega
    · rw [ec]
      have : (σ.set r .dead).length = σ.length := by simp
      rw [← this]; exact get_snoc
theorem bs134 (e : E) (σ : Store) : buildSlice PP none 134 1 [(0, val e)] σ = some (.p (.sl true 1 (celP e)), σ) := Eq.trans (by kernel_rfl) rfl
theorem celsP_app (A B : List E) : celsP (A ++ B) = celsP A ++ celsP B := by simp [celsP]
theorem Out.pushE {σ : Store} {lo : Nat} {A : List E} {x : DV} (ho : Out σ lo 2 A.length (celsP A) x) (hn : A.length ≤ 10000000) (hlo : lo ≤ σ.length) (e : E) :
    ∃ x' σ', append PP lo false 134 134 x (.p (.sl true 1 (celP e))) σ = some (x', σ') ∧ Out σ' lo 2 (A ++ [e]).length (celsP (A ++ [e])) x' ∧ Others σ σ' x ∧ Fresh σ x x' ∧ lo ≤ σ'.length := by
  obtain ⟨x', σ', h1, h2, h3, h4⟩ := Out.pushF (vs := celP e) srcB u134 sE bytesB zeroB rfl (by decide) (by decide) (by decide) rfl ho hn hlo
  refine ⟨x', σ', h1, ?_, h3, h4, ?_⟩
  · rw [celsP_app, List.length_append]
    exact h2
  · rcases h2.2 with ⟨h, _⟩ | ⟨_, r, ver, _, h, h5⟩
    · omega
    · have := get_lt h; omega
theorem ge_at {A : List E} {k : Nat} (hk : k < A.length) : ge A k = A[k] := by unfold ge; rw [List.getD_eq_getElem?_getD, List.getElem?_eq_getElem hk]; rfl
theorem asc_lt {A : List E} (h : Asc A) {i j : Nat} (hij : i < j) (hj : j < A.length) : ltB (ge A i) (ge A j) := by
  rw [ge_at (by omega), ge_at hj]
  exact List.pairwise_iff_getElem.1 h i j (by omega) hj hij
def addAll (A : List E) : List E → List E
  | [] => A
  | y :: l => addAll (if A.contains y = true then A else A ++ [y]) l
theorem RowL.snoc {σ : Store} {B : Nat} {A : List E} {x : DV} (h : RowL σ B A x) (row : Row) : RowL (σ ++ [row]) B A x := by
  rcases h with h | ⟨r, e1, e2, e3, e4⟩
  · exact .inl h
  · exact .inr ⟨r, e1, get_old e2, e3, e4⟩
theorem lenR {σ σ' : Store} {B : Nat} {A : List E} {x : DV} (h : RowL σ B A x) : len PP 134 x σ' = some (N A.length) := by
  rcases h with ⟨rfl, rfl⟩ | ⟨r, rfl, _, _, _⟩ <;> simp [len, uL]
theorem celsP_get {A : List E} {i : Nat} (h : i < A.length) : (((celsP A).drop (i * 2)).take 2).map DV.p = cel (ge A i) := by
  rw [List.map_take, List.map_drop, celsP_map, cels_get h]
theorem ldB {A : List E} {i : Nat} (h : i < A.length) (σ : Store) : load PP 102 (.pptr (celsP A) (i * 2)) σ = some (val (ge A i)) := by
  have e : i * 2 + 2 ≤ (celsP A).length := by rw [celsP_len]; omega
  rw [loadE]
  simp only [loadN, e, if_true, celsP_get h, Option.map_some]
  rfl
theorem stNew {σ : Store} (e : E) {lo : Nat} (hlo : lo ≤ σ.length) : store PP lo 102 (.ptr σ.length 0) (val e) (σ ++ [.mix [.p (pI 0), .p (pI 0)]]) = some (σ ++ [.mix (cel e)]) := by
  have e1 : (val e).cells = cel e := rfl
  have e2 : (σ ++ [Row.mix [.p (pI 0), .p (pI 0)]])[σ.length]? = some (.mix [.p (pI 0), .p (pI 0)]) := get_snoc
  have e3 : splice [DV.p (pI 0), .p (pI 0)] 0 (cel e) = cel e := rfl
  simp only [store, sE, e1, cel_len, if_true, storeN, hlo, e2, cel_one, e3]
  rw [List.set_append_right _ _ (Nat.le_refl _), Nat.sub_self]
  rfl
theorem ldBox {σ : Store} {s : Nat} {e : E} (h : σ[s]? = some (.mix (cel e))) : load PP 102 (.ptr s 0) σ = some (val e) := by
  rw [loadE, loadN_ptr h rfl (Nat.le_refl 2)]; rfl
theorem s134 : size? PP 134 = some 1 := Eq.trans (by kernel_rfl) rfl
theorem st134 {σ : Store} {q : Nat} {y v : DV} (h : σ[q]? = some (.mix [y])) (hv : v.one = true) (hc : v.cells = [v]) : store PP 0 134 (.ptr q 0) v σ = some (σ.set q (.mix [v])) := by
  have e3 : splice [y] 0 [v] = [v] := rfl
  simp [store, s134, hc, storeN, h, hv, e3]
end Go.D.StS
end
/- Equations of functions 85, printed by gen.py. -/
section
set_option linter.unusedVariables false
set_option maxRecDepth 10000
namespace Go.D
open Go.Proofs
noncomputable section
variable (G : GuardT) (lo : Nat) {σ : Store} {r : DV × Store}
open _root_.Go.D.Code (fstC sndC)
open _root_.Go.D.Ann (left right)
def c85_0 : Code := bodyOf Tryz.f85
def a85_0 : Ann := (pol 85).ann
def a85_11 : Ann := right (left (right (right (right (right a85_0)))))
def a85_12 : Ann := left a85_11
def c85_13 : Code := fstC (fstC (sndC (fstC (sndC (sndC (sndC (sndC c85_0)))))))
def c85_25 : Code := sndC (sndC (sndC (sndC (sndC c85_0))))
def a85_25 : Ann := right (right (right (right (right a85_0))))
def a85_28 : Ann := right (left a85_25)
def a85_29 : Ann := left a85_28
def c85_30 : Code := fstC (fstC (sndC (fstC c85_25)))
def a85_37 : Ann := left (right (left a85_29))
def a85_40 : Ann := right (left a85_37)
def a85_41 : Ann := left a85_40
def c85_42 : Code := fstC (fstC (sndC (fstC (fstC (sndC c85_30)))))
def c85_54 : Code := sndC (sndC c85_30)
def a85_54 : Ann := right (right (left a85_29))
def c85_55 : Code := sndC c85_25
def a85_55 : Ann := right a85_25
def a85_60 : Ann := right (left (right a85_55))
def a85_61 : Ann := left a85_60
def c85_62 : Code := fstC (fstC (sndC (fstC (sndC c85_55))))
def c85_76 : Code := sndC (sndC c85_55)
def a85_76 : Ann := right (right a85_55)
def a85_81 : Ann := right (left (right a85_76))
def a85_82 : Ann := left a85_81
def c85_83 : Code := fstC (fstC (sndC (fstC (sndC c85_76))))
def c85_95 : Code := sndC (sndC c85_76)
def a85_95 : Ann := right (right a85_76)
def a85_102 : Ann := right (left (right (right a85_95)))
def a85_103 : Ann := left a85_102
def c85_104 : Code := fstC (fstC (sndC (fstC (sndC (sndC c85_95)))))
def a85_111 : Ann := left (right (right (left a85_103)))
def a85_116 : Ann := right (right (left a85_111))
def a85_117 : Ann := left a85_116
def c85_118 : Code := fstC (fstC (sndC (sndC (fstC (fstC (sndC (sndC c85_104)))))))
def c85_130 : Code := sndC (sndC (sndC c85_104))
def a85_130 : Ann := right (right (right (left a85_103)))
def c85_131 : Code := sndC (sndC (sndC c85_95))
def a85_131 : Ann := right (right (right a85_95))
def f85_L0 (x1 x2 x4 x5 x6 x24 x25 x26 : DV) (σ : Store) : RS :=
 codeF G PP (pol 85) CC lo (.loop c85_13) a85_12 (Z :: x1 :: x2 :: Z :: x4 :: x5 :: x6 :: zn 17 (x24 :: x25 :: x26 :: zn 158 [])) σ
 (blockC 0 a85_11 (seqC G PP (pol 85) CC lo c85_25 a85_25 (finR PP Tryz.f85.results.toList)))
def f85_L1 (x1 x2 x4 x5 x6 x9 : DV) (σ : Store) : RS :=
 codeF G PP (pol 85) CC lo (.loop c85_30) a85_29 (Z :: x1 :: x2 :: Z :: x4 :: x5 :: x6 :: Z :: Z :: x9 :: zn 175 []) σ
 (blockC 2 a85_28 (seqC G PP (pol 85) CC lo c85_55 a85_55 (finR PP Tryz.f85.results.toList)))
def f85_L2 (x1 x2 x4 x5 x6 x9 x46 x47 x48 : DV) (σ : Store) : RS :=
 codeF G PP (pol 85) CC lo (.loop c85_42) a85_41 (Z :: x1 :: x2 :: Z :: x4 :: x5 :: x6 :: Z :: Z :: x9 :: zn 36 (x46 :: x47 :: x48 :: zn 136 [])) σ
 (blockC 4 a85_40 (blockC 3 a85_37 (seqC G PP (pol 85) CC lo c85_54 a85_54 (loopC G PP (pol 85) CC lo c85_30 a85_29 (blockC 2 a85_28 (seqC G PP (pol 85) CC lo c85_55 a85_55 (finR PP Tryz.f85.results.toList)))))))
def f85_L3 (x1 x2 x4 x5 x59 x60 x61 : DV) (σ : Store) : RS :=
 codeF G PP (pol 85) CC lo (.loop c85_62) a85_61 (Z :: x1 :: x2 :: Z :: x4 :: x5 :: zn 53 (x59 :: x60 :: x61 :: zn 123 [])) σ
 (blockC 6 a85_60 (seqC G PP (pol 85) CC lo c85_76 a85_76 (finR PP Tryz.f85.results.toList)))
def f85_L4 (x1 x2 x4 x5 x95 x96 x97 : DV) (σ : Store) : RS :=
 codeF G PP (pol 85) CC lo (.loop c85_83) a85_82 (Z :: x1 :: x2 :: Z :: x4 :: x5 :: zn 89 (x95 :: x96 :: x97 :: zn 87 [])) σ
 (blockC 8 a85_81 (seqC G PP (pol 85) CC lo c85_95 a85_95 (finR PP Tryz.f85.results.toList)))
def f85_L5 (x1 x2 x4 x5 x128 x129 x130 : DV) (σ : Store) : RS :=
 codeF G PP (pol 85) CC lo (.loop c85_104) a85_103 (Z :: x1 :: x2 :: Z :: x4 :: x5 :: zn 122 (x128 :: x129 :: x130 :: zn 54 [])) σ
 (blockC 10 a85_102 (seqC G PP (pol 85) CC lo c85_131 a85_131 (finR PP Tryz.f85.results.toList)))
def f85_L6 (x1 x2 x4 x5 x16 x128 x129 x130 x138 x139 x140 : DV) (σ : Store) : RS :=
 codeF G PP (pol 85) CC lo (.loop c85_118) a85_117 (Z :: x1 :: x2 :: Z :: x4 :: x5 :: zn 10 (x16 :: zn 111 (x128 :: x129 :: x130 :: zn 7 (x138 :: x139 :: x140 :: zn 44 [])))) σ
 (blockC 12 a85_116 (blockC 11 a85_111 (seqC G PP (pol 85) CC lo c85_130 a85_130 (loopC G PP (pol 85) CC lo c85_104 a85_103 (blockC 10 a85_102 (seqC G PP (pol 85) CC lo c85_131 a85_131 (finR PP Tryz.f85.results.toList)))))))
def F85 (x0 : DV) (σ : Store) : RS :=
 codeF G PP (pol 85) CC lo c85_0 a85_0 (x0 :: zn 184 []) σ (finR PP Tryz.f85.results.toList)
theorem f85_L0_eq (G : GuardT) (hG : GuardOk G) (lo : Nat) (x1 x2 x4 x5 x6 x24 x25 x26 : DV) (σ : Store) : f85_L0 G lo x1 x2 x4 x5 x6 x24 x25 x26 σ =
 (binOp PP .lss 3 x26 x25).bind fun x27 =>
 condK x27
 (
 (indexAddr PP 134 x24 x26).bind fun x28 =>
 (load PP 102 x28 σ).bind fun x29 =>
 (zeroOf PP 102).bind fun z8 =>
 (store PP lo 102 (DV.ptr (List.length σ) 0) x29 (σ ++ [Row.mix z8])).bind fun σ2 =>
 (load PP 102 (DV.ptr (List.length σ) 0) σ2).bind fun x31 =>
 (plainFn CC lo x6 [x31] σ2).bind fun r32_3 =>
 (binOp PP .add 3 x26 I1).bind fun x33 =>
 f85_L0 G lo x1 x2 x4 x5 x6 x24 x25 x33 r32_3.2
 )
 (
 f85_L1 G lo x1 x2 x4 x5 x6 I0 σ
 ) := (loopF_eq G hG).trans (by kernel_rfl)
theorem f85_L1_eq (G : GuardT) (hG : GuardOk G) (lo : Nat) (x1 x2 x4 x5 x6 x9 : DV) (σ : Store) : f85_L1 G lo x1 x2 x4 x5 x6 x9 σ =
 (load PP 134 x5 σ).bind fun x35 =>
 (len PP 134 x35 σ).bind fun x36 =>
 (binOp PP .lss 3 x9 x36).bind fun x37 =>
 condK x37
 (
 (fieldAddr PP 137 x1 1).bind fun x40 =>
 (load PP 135 x40 σ).bind fun x41 =>
 (load PP 134 x5 σ).bind fun x42 =>
 (indexAddr PP 134 x42 x9).bind fun x44 =>
 (load PP 102 x44 σ).bind fun x45 =>
 (pureFn CC x41 [x45] σ).bind fun x46 =>
 (len PP 138 x46 σ).bind fun x47 =>
 f85_L2 G lo x1 x2 x4 x5 x6 x9 x46 x47 I0 σ
 )
 (
 (load PP 134 x5 σ).bind fun x57 =>
 (plainFn CC lo (DV.fn 111 []) [x57, (DV.fn 112 [])] σ).bind fun r58_6 =>
 (load PP 134 x5 r58_6.2).bind fun x59 =>
 (len PP 134 x59 r58_6.2).bind fun x60 =>
 f85_L3 G lo x1 x2 x4 x5 x59 x60 I0 r58_6.2
 ) := (loopF_eq G hG).trans (by kernel_rfl)
theorem f85_L2_eq (G : GuardT) (hG : GuardOk G) (lo : Nat) (x1 x2 x4 x5 x6 x9 x46 x47 x48 : DV) (σ : Store) : f85_L2 G lo x1 x2 x4 x5 x6 x9 x46 x47 x48 σ =
 (binOp PP .lss 3 x48 x47).bind fun x49 =>
 condK x49
 (
 (indexAddr PP 138 x46 x48).bind fun x50 =>
 (load PP 141 x50 σ).bind fun x51 =>
 (zeroOf PP 141).bind fun z11 =>
 (store PP lo 141 (DV.ptr (List.length σ) 0) x51 (σ ++ [Row.mix z11])).bind fun σ4 =>
 (fieldAddr PP 141 (DV.ptr (List.length σ) 0) 0).bind fun x53 =>
 (load PP 102 x53 σ4).bind fun x54 =>
 (plainFn CC lo x6 [x54] σ4).bind fun r55_5 =>
 (binOp PP .add 3 x48 I1).bind fun x56 =>
 f85_L2 G lo x1 x2 x4 x5 x6 x9 x46 x47 x56 r55_5.2
 )
 (
 (binOp PP .add 3 x9 I1).bind fun x39 =>
 f85_L1 G lo x1 x2 x4 x5 x6 x39 σ
 ) := (loopF_eq G hG).trans (by kernel_rfl)
theorem f85_L3_eq (G : GuardT) (hG : GuardOk G) (lo : Nat) (x1 x2 x4 x5 x59 x60 x61 : DV) (σ : Store) : f85_L3 G lo x1 x2 x4 x5 x59 x60 x61 σ =
 (binOp PP .lss 3 x61 x60).bind fun x62 =>
 condK x62
 (
 (indexAddr PP 134 x59 x61).bind fun x64 =>
 (load PP 102 x64 σ).bind fun x65 =>
 (zeroOf PP 102).bind fun z13 =>
 (store PP lo 102 (DV.ptr (List.length σ) 0) x65 (σ ++ [Row.mix z13])).bind fun σ7 =>
 (fieldAddr PP 95 x4 1).bind fun x66 =>
 (load PP 93 x66 σ7).bind fun x67 =>
 (load PP 102 (DV.ptr (List.length σ) 0) σ7).bind fun x68 =>
 (mapUpdate PP lo 93 x67 x68 x61 σ7).bind fun σ8 =>
 (fieldAddr PP 95 x4 0).bind fun x70 =>
 (fieldAddr PP 33 x70 1).bind fun x71 =>
 (load PP 22 x71 σ8).bind fun x72 =>
 (fieldAddr PP 102 (DV.ptr (List.length σ) 0) 0).bind fun x73 =>
 (load PP 3 x73 σ8).bind fun x74 =>
 (buildSlice PP none 22 1 [(0, x74)] σ8).bind fun r75_9 =>
 (append PP lo false 22 22 x72 r75_9.1 r75_9.2).bind fun r76_10 =>
 (fieldAddr PP 95 x4 0).bind fun x77 =>
 (fieldAddr PP 33 x77 2).bind fun x78 =>
 (load PP 22 x78 r76_10.2).bind fun x79 =>
 (fieldAddr PP 102 (DV.ptr (List.length σ) 0) 1).bind fun x80 =>
 (load PP 3 x80 r76_10.2).bind fun x81 =>
 (buildSlice PP none 22 1 [(0, x81)] r76_10.2).bind fun r82_11 =>
 (append PP lo false 22 22 x79 r82_11.1 r82_11.2).bind fun r83_12 =>
 (fieldAddr PP 95 x4 0).bind fun x84 =>
 (fieldAddr PP 33 x84 1).bind fun x85 =>
 (store PP lo 22 x85 r76_10.1 r83_12.2).bind fun σ13 =>
 (fieldAddr PP 95 x4 0).bind fun x86 =>
 (fieldAddr PP 33 x86 2).bind fun x87 =>
 (store PP lo 22 x87 r83_12.1 σ13).bind fun σ14 =>
 bif (((List.all [σ8, σ8, σ8, σ8, σ8, σ8, r75_9.2, r76_10.2, r76_10.2, r76_10.2, r76_10.2, r76_10.2, r76_10.2, r82_11.2, r83_12.2, r83_12.2, r83_12.2, σ13, σ13, σ13, σ14] fun s => sameInt (load PP 3 x80 r76_10.2) (load PP 3 x80 s)) && true) && ((List.all [σ8, σ8, σ8, σ8, σ8, σ8, r75_9.2, r76_10.2, r76_10.2, r76_10.2, r76_10.2, r76_10.2, r76_10.2, r82_11.2] fun s => sameV (load PP 22 x78 r76_10.2) (load PP 22 x78 s)) && true)) then
 (binOp PP .add 3 x61 I1).bind fun x88 =>
 f85_L3 G lo x1 x2 x4 x5 x59 x60 x88 σ14
 else none
 )
 (
 (load PP 134 x5 σ).bind fun x89 =>
 (len PP 134 x89 σ).bind fun x90 =>
 (fieldAddr PP 95 x4 0).bind fun x91 =>
 (fieldAddr PP 33 x91 0).bind fun x92 =>
 (fieldAddr PP 25 x92 0).bind fun x93 =>
 (store PP lo 3 x93 x90 σ).bind fun σ15 =>
 (fieldAddr PP 137 x1 0).bind fun x94 =>
 (load PP 134 x94 σ15).bind fun x95 =>
 (len PP 134 x95 σ15).bind fun x96 =>
 f85_L4 G lo x1 x2 x4 x5 x95 x96 I0 σ15
 ) := (loopF_eq G hG).trans (by kernel_rfl)
theorem f85_L4_eq (G : GuardT) (hG : GuardOk G) (lo : Nat) (x1 x2 x4 x5 x95 x96 x97 : DV) (σ : Store) : f85_L4 G lo x1 x2 x4 x5 x95 x96 x97 σ =
 (binOp PP .lss 3 x97 x96).bind fun x98 =>
 condK x98
 (
 (indexAddr PP 134 x95 x97).bind fun x99 =>
 (load PP 102 x99 σ).bind fun x100 =>
 (zeroOf PP 102).bind fun z15 =>
 (store PP lo 102 (DV.ptr (List.length σ) 0) x100 (σ ++ [Row.mix z15])).bind fun σ16 =>
 (fieldAddr PP 95 x4 0).bind fun x101 =>
 (fieldAddr PP 33 x101 0).bind fun x102 =>
 (fieldAddr PP 25 x102 1).bind fun x103 =>
 (load PP 22 x103 σ16).bind fun x104 =>
 (fieldAddr PP 95 x4 1).bind fun x105 =>
 (load PP 93 x105 σ16).bind fun x106 =>
 (load PP 102 (DV.ptr (List.length σ) 0) σ16).bind fun x107 =>
 (lookup PP 93 x106 x107 false σ16).bind fun x108 =>
 (buildSlice PP none 22 1 [(0, x108)] σ16).bind fun r109_17 =>
 (append PP lo true 22 22 x104 r109_17.1 r109_17.2).bind fun r110_18 =>
 (fieldAddr PP 95 x4 0).bind fun x111 =>
 (fieldAddr PP 33 x111 0).bind fun x112 =>
 (fieldAddr PP 25 x112 1).bind fun x113 =>
 (store PP lo 22 x113 r110_18.1 r110_18.2).bind fun σ19 =>
 (binOp PP .add 3 x97 I1).bind fun x114 =>
 f85_L4 G lo x1 x2 x4 x5 x95 x96 x114 σ19
 )
 (
 (fieldAddr PP 95 x4 0).bind fun x115 =>
 (fieldAddr PP 33 x115 0).bind fun x116 =>
 (fieldAddr PP 25 x116 1).bind fun x117 =>
 (load PP 22 x117 σ).bind fun x118 =>
 (plainFn CC lo (DV.fn 113 []) [x118] σ).bind fun r119_20 =>
 (fieldAddr PP 95 x4 0).bind fun x120 =>
 (fieldAddr PP 33 x120 0).bind fun x121 =>
 (fieldAddr PP 25 x121 1).bind fun x122 =>
 (load PP 22 x122 r119_20.2).bind fun x123 =>
 (plainFn CC lo (DV.fn 114 []) [x123] r119_20.2).bind fun r124_21 =>
 (fieldAddr PP 95 x4 0).bind fun x125 =>
 (fieldAddr PP 33 x125 0).bind fun x126 =>
 (fieldAddr PP 25 x126 1).bind fun x127 =>
 (store PP lo 22 x127 r124_21.1 r124_21.2).bind fun σ22 =>
 (load PP 134 x5 σ22).bind fun x128 =>
 (len PP 134 x128 σ22).bind fun x129 =>
 f85_L5 G lo x1 x2 x4 x5 x128 x129 I0 σ22
 ) := (loopF_eq G hG).trans (by kernel_rfl)
theorem f85_L5_eq (G : GuardT) (hG : GuardOk G) (lo : Nat) (x1 x2 x4 x5 x128 x129 x130 : DV) (σ : Store) : f85_L5 G lo x1 x2 x4 x5 x128 x129 x130 σ =
 (binOp PP .lss 3 x130 x129).bind fun x131 =>
 condK x131
 (
 (indexAddr PP 134 x128 x130).bind fun x133 =>
 (load PP 102 x133 σ).bind fun x134 =>
 (zeroOf PP 102).bind fun z17 =>
 (store PP lo 102 (DV.ptr (List.length σ) 0) x134 (σ ++ [Row.mix z17])).bind fun σ23 =>
 (fieldAddr PP 137 x1 1).bind fun x135 =>
 (load PP 135 x135 σ23).bind fun x136 =>
 (load PP 102 (DV.ptr (List.length σ) 0) σ23).bind fun x137 =>
 (pureFn CC x136 [x137] σ23).bind fun x138 =>
 (len PP 138 x138 σ23).bind fun x139 =>
 f85_L6 G lo x1 x2 x4 x5 x130 x128 x129 x130 x138 x139 I0 σ23
 )
 (
 (fieldAddr PP 95 x4 0).bind fun x164 =>
 (fieldAddr PP 33 x164 0).bind fun x165 =>
 (fieldAddr PP 25 x165 2).bind fun x166 =>
 (load PP 23 x166 σ).bind fun x167 =>
 (plainFn CC lo (DV.fn 115 []) [x167] σ).bind fun r168_28 =>
 (fieldAddr PP 95 x4 0).bind fun x169 =>
 (fieldAddr PP 33 x169 0).bind fun x170 =>
 (fieldAddr PP 25 x170 2).bind fun x171 =>
 (store PP lo 23 x171 r168_28.1 r168_28.2).bind fun σ29 =>
 (load PP 134 x5 σ29).bind fun x172 =>
 (len PP 134 x172 σ29).bind fun x173 =>
 (binOp PP .gtr 3 x173 (DV.p (PV.int IntKind.i64 (400)))).bind fun x174 =>
 G _ x174 false ((fieldAddr PP 95 x4 0).bind fun v => some (v, σ29)) σ29 fun x176 σ30 =>
 G _ x174 false ((fieldAddr PP 33 x176 0).bind fun v => some (v, σ30)) σ30 fun x177 σ31 =>
 G _ x174 false ((fieldAddr PP 25 x177 2).bind fun v => some (v, σ31)) σ31 fun x178 σ32 =>
 G _ x174 false ((load PP 23 x178 σ32).bind fun v => some (v, σ32)) σ32 fun x179 σ33 =>
 G _ x174 false ((len PP 23 x179 σ33).bind fun v => some (v, σ33)) σ33 fun x180 σ34 =>
 G _ x174 false ((binOp PP .gtr 3 x180 (DV.p (PV.int IntKind.i64 (2000)))).bind fun v => some (v, σ34)) σ34 fun x181 σ35 =>
 (pickV x174 (DV.p (PV.bool true)) x181).bind fun x182 =>
 condK x182
 (
 (build PP 95 []).bind fun x183 =>
 (store PP lo 95 x2 x183 σ35).bind fun σ36 =>
 (cellV PP 95 x2 σ36).bind fun v0 =>
 some ((DV.tuple [v0, (DV.p (PV.int IntKind.i64 (2)))]), σ36)
 )
 (
 (load PP 95 x4 σ35).bind fun x184 =>
 (store PP lo 95 x2 x184 σ35).bind fun σ37 =>
 (cellV PP 95 x2 σ37).bind fun v0 =>
 some ((DV.tuple [v0, I0]), σ37)
 )
 ) := (loopF_eq G hG).trans (by kernel_rfl)
theorem f85_L6_eq (G : GuardT) (hG : GuardOk G) (lo : Nat) (x1 x2 x4 x5 x16 x128 x129 x130 x138 x139 x140 : DV) (σ : Store) : f85_L6 G lo x1 x2 x4 x5 x16 x128 x129 x130 x138 x139 x140 σ =
 (binOp PP .lss 3 x140 x139).bind fun x141 =>
 condK x141
 (
 (indexAddr PP 138 x138 x140).bind fun x142 =>
 (load PP 141 x142 σ).bind fun x143 =>
 (zeroOf PP 141).bind fun z19 =>
 (store PP lo 141 (DV.ptr (List.length σ) 0) x143 (σ ++ [Row.mix z19])).bind fun σ24 =>
 (fieldAddr PP 95 x4 0).bind fun x144 =>
 (fieldAddr PP 33 x144 0).bind fun x145 =>
 (fieldAddr PP 25 x145 2).bind fun x146 =>
 (load PP 23 x146 σ24).bind fun x147 =>
 (fieldAddr PP 95 x4 1).bind fun x149 =>
 (load PP 93 x149 σ24).bind fun x150 =>
 (fieldAddr PP 141 (DV.ptr (List.length σ) 0) 0).bind fun x151 =>
 (load PP 102 x151 σ24).bind fun x152 =>
 (lookup PP 93 x150 x152 false σ24).bind fun x153 =>
 (fieldAddr PP 141 (DV.ptr (List.length σ) 0) 1).bind fun x154 =>
 (load PP 3 x154 σ24).bind fun x155 =>
 (build PP 69 [(0, x16), (1, x153), (2, x155)]).bind fun x156 =>
 (buildSlice PP none 23 1 [(0, x156)] σ24).bind fun r157_25 =>
 (append PP lo true 23 23 x147 r157_25.1 r157_25.2).bind fun r158_26 =>
 (fieldAddr PP 95 x4 0).bind fun x159 =>
 (fieldAddr PP 33 x159 0).bind fun x160 =>
 (fieldAddr PP 25 x160 2).bind fun x161 =>
 (store PP lo 23 x161 r158_26.1 r158_26.2).bind fun σ27 =>
 (binOp PP .add 3 x140 I1).bind fun x162 =>
 f85_L6 G lo x1 x2 x4 x5 x16 x128 x129 x130 x138 x139 x162 σ27
 )
 (
 (binOp PP .add 3 x130 I1).bind fun x163 =>
 f85_L5 G lo x1 x2 x4 x5 x128 x129 x163 σ
 ) := (loopF_eq G hG).trans (by kernel_rfl)
theorem F85_eq (G : GuardT) (lo : Nat) (x0 : DV) (σ : Store) : F85 G lo x0 σ =
 (boxV x0).bind fun z1 =>
 (zeroOf PP 95).bind fun z2 =>
 (build PP 95 [(1, (DV.map (List.length ((σ ++ [Row.mix z1]) ++ [Row.mix z2]))))]).bind fun x21 =>
 (zeroOf PP 95).bind fun z4 =>
 (store PP lo 95 (DV.ptr (List.length (((σ ++ [Row.mix z1]) ++ [Row.mix z2]) ++ [Row.map []])) 0) x21 ((((σ ++ [Row.mix z1]) ++ [Row.mix z2]) ++ [Row.map []]) ++ [Row.mix z4])).bind fun σ1 =>
 (zeroOf PP 134).bind fun z5 =>
 (fieldAddr PP 137 (DV.ptr (List.length σ) 0) 0).bind fun x23 =>
 (load PP 134 x23 (σ1 ++ [Row.mix z5])).bind fun x24 =>
 (len PP 134 x24 (σ1 ++ [Row.mix z5])).bind fun x25 =>
 f85_L0 G lo (DV.ptr (List.length σ) 0) (DV.ptr (List.length (σ ++ [Row.mix z1])) 0) (DV.ptr (List.length (((σ ++ [Row.mix z1]) ++ [Row.mix z2]) ++ [Row.map []])) 0) (DV.ptr (List.length σ1) 0) (DV.fn 110 [(DV.ptr (List.length (((σ ++ [Row.mix z1]) ++ [Row.mix z2]) ++ [Row.map []])) 0), (DV.ptr (List.length σ1) 0)]) x24 x25 I0 (σ1 ++ [Row.mix z5]) := by kernel_rfl
theorem F85_call {lo : Nat} {x0 : DV} (h : F85 guardT lo x0 σ = some r) : CC lo 85 [x0] σ = some r :=
 callL_run Tryz.func85 (by decide +kernel) rfl (by decide +kernel) h
end
end Go.D
end
/- Chapter 22: the map of numbers, and a state that is added to those that are found. -/
section
set_option linter.unusedVariables false
set_option linter.unusedSimpArgs false
namespace Go.D.StS
open Go.D.Srt
theorem uM93 : PP.underlying 93 = some (.map 102 3) := Eq.trans (by kernel_rfl) rfl
theorem zv3 : zeroVal PP 3 = some (.p (pI 0)) := Eq.trans (by kernel_rfl) rfl
theorem keyS' (a b : Int) : keyOk PP 40 102 (val (a, b)) = true := Eq.trans (by kernel_rfl) rfl
theorem keyS (e : E) : keyOk PP 40 102 (val e) = true := keyS' e.1 e.2
theorem eqS' (a b a' b' : Int) : eqAt PP 40 102 (val (a, b)) (val (a', b')) = (match some (a == a') with | some true => (match some (b == b') with | some true => some true | r => r) | r => r) := by kernel_rfl
theorem eqS (x y : E) : eqAt PP 40 102 (val x) (val y) = some (decide (y = x)) := by
  obtain ⟨a, b⟩ := x
  obtain ⟨a', b'⟩ := y
  rw [eqS']
  by_cases h1 : a' = a <;> by_cases h2 : b' = b
  · subst h1; subst h2; simp
  · have : ¬ b = b' := fun e => h2 e.symm
    simp [h1, h2, this]
  · have : ¬ a = a' := fun e => h1 e.symm
    simp [h1, this]
  · have : ¬ a = a' := fun e => h1 e.symm
    simp [h1, this]
def entZ (l : List (E × Int)) : List (DV × DV) := l.map fun p => (val p.1, .p (pI p.2))
def findZ : List (E × Int) → E → Option Int
  | [], _ => none
  | p :: l, e => if p.1 = e then some p.2 else findZ l e
def setZ : List (E × Int) → E → Int → List (E × Int)
  | [], e, v => [(e, v)]
  | p :: l, e, v => if p.1 = e then (e, v) :: l else p :: setZ l e v
theorem findKeyZ (e : E) : ∀ l, findKey PP 102 (val e) (entZ l) = some ((findZ l e).map fun v => .p (pI v))
  | [] => rfl
  | p :: l => by
    have h : entZ (p :: l) = (val p.1, .p (pI p.2)) :: entZ l := rfl
    rw [h, findKey, eqS, findZ]
    by_cases hp : p.1 = e
    · rw [decide_eq_true hp, if_pos hp]
      rfl
    · rw [decide_eq_false hp, if_neg hp]
      exact findKeyZ e l
theorem sameS (e : E) : sameKey (val e) (val e) = true := by
  simp [sameKey, val, cel, sameCells, sameScalar]
theorem updKeyZ (e : E) (v : Int) : ∀ l, updKey PP 102 (val e) (.p (pI v)) (entZ l) = some (entZ (setZ l e v))
  | [] => rfl
  | p :: l => by
    have h : entZ (p :: l) = (val p.1, .p (pI p.2)) :: entZ l := rfl
    rw [h, updKey, eqS, setZ]
    by_cases hp : p.1 = e
    · rw [decide_eq_true hp, if_pos hp]
      subst hp
      simp only [sameS, if_true]
      rfl
    · rw [decide_eq_false hp, if_neg hp]
      simp only [updKeyZ e v l, Option.map_some]
      rfl
theorem lookZ {σ : Store} {m : Nat} {l : List (E × Int)} (h : σ[m]? = some (.map (entZ l))) (e : E) : lookup PP 93 (.map m) (val e) true σ = some (.tuple [.p (pI ((findZ l e).getD 0)), .p (.bool (findZ l e).isSome)]) := by
  simp only [lookup, uM93, keyS, if_true, h, findKeyZ, zv3]
  cases findZ l e <;> rfl
theorem lookZ0 {σ : Store} {m : Nat} {l : List (E × Int)} (h : σ[m]? = some (.map (entZ l))) (e : E) : lookup PP 93 (.map m) (val e) false σ = some (.p (pI ((findZ l e).getD 0))) := by
  simp only [lookup, uM93, keyS, if_true, h, findKeyZ, zv3]
  cases findZ l e <;> rfl
theorem updZ {σ : Store} {m : Nat} {l : List (E × Int)} (h : σ[m]? = some (.map (entZ l))) (e : E) (v : Int) : mapUpdate PP 0 93 (.map m) (val e) (.p (.int .i64 v)) σ = some (σ.set m (.map (entZ (setZ l e v)))) := by
  have h1 : ((.p (.int .i64 v)) : DV).isUndef = false := rfl
  simp only [mapUpdate, uM93, keyS, h1, Nat.zero_le, and_self, if_true, h, updKeyZ, Option.map_some]
theorem fa95_0 (x : DV) : fieldAddr PP 95 x 0 = shiftPtr x 0 := Eq.trans (by kernel_rfl) rfl
theorem fa95_1 (x : DV) : fieldAddr PP 95 x 1 = shiftPtr x 5 := Eq.trans (by kernel_rfl) rfl
theorem fa137_0 (x : DV) : fieldAddr PP 137 x 0 = shiftPtr x 0 := Eq.trans (by kernel_rfl) rfl
theorem fa137_1 (x : DV) : fieldAddr PP 137 x 1 = shiftPtr x 1 := Eq.trans (by kernel_rfl) rfl
theorem load93 (x : DV) (σ : Store) : load PP 93 x σ = load1 x σ := Eq.trans (by kernel_rfl) rfl
theorem load134 (x : DV) (σ : Store) : load PP 134 x σ = load1 x σ := Eq.trans (by kernel_rfl) rfl
theorem load135 (x : DV) (σ : Store) : load PP 135 x σ = load1 x σ := Eq.trans (by kernel_rfl) rfl
structure GS (σ0 : Store) (ext : List DV) (l : List (E × Int)) (A : List E) (o : List DV) (σ : Store) : Prop where
  low : ∀ j, j < σ0.length → σ[j]? = σ0[j]?
  ex : σ[σ0.length]? = some (.mix ext)
  z2 : ∃ z, σ[σ0.length + 1]? = some (.mix z) ∧ z.length = 6
  mp : σ[σ0.length + 2]? = some (.map (entZ l))
  ot : σ[σ0.length + 3]? = some (.mix (o ++ [.map (σ0.length + 2)]))
  ol : o.length = 5
  al : ∃ y, σ[σ0.length + 4]? = some (.mix [y]) ∧ RowL σ (σ0.length + 5) A y
variable {σ0 : Store} {ext : List DV} {l : List (E × Int)} {A : List E} {o : List DV} {σ : Store}
theorem GS.len (h : GS σ0 ext l A o σ) : σ0.length + 5 ≤ σ.length := by
  obtain ⟨y, h1, _⟩ := h.al
  have := get_lt h1; omega
theorem GS.snoc (h : GS σ0 ext l A o σ) (row : Row) : GS σ0 ext l A o (σ ++ [row]) := by
  have hl := h.len
  obtain ⟨z, z1, z2⟩ := h.z2
  obtain ⟨y, y1, y2⟩ := h.al
  refine ⟨fun j hj => ?_, get_old h.ex, ⟨z, get_old z1, z2⟩, get_old h.mp, get_old h.ot, h.ol, y, get_old y1, y2.snoc row⟩
  rw [List.getElem?_append_left (by omega)]
  exact h.low j hj
theorem GS.omap (h : GS σ0 ext l A o σ) : load1 (.ptr (σ0.length + 3) 5) σ = some (.map (σ0.length + 2)) := by
  refine load1_ptr h.ot ?_
  rw [List.getElem?_append_right (by rw [h.ol]; exact Nat.le_refl _), h.ol]
  rfl
theorem GS.setM (h : GS σ0 ext l A o σ) (l' : List (E × Int)) : GS σ0 ext l' A o (σ.set (σ0.length + 2) (.map (entZ l'))) := by
  have hl := h.len
  obtain ⟨z, z1, z2⟩ := h.z2
  obtain ⟨y, y1, y2⟩ := h.al
  refine ⟨fun j hj => ?_, get_set_ne h.ex (by omega), ⟨z, get_set_ne z1 (by omega), z2⟩, by rw [List.getElem?_set_self (by omega)], get_set_ne h.ot (by omega), h.ol, y, get_set_ne y1 (by omega), ?_⟩
  · rw [List.getElem?_set_ne (by omega)]
    exact h.low j hj
  · rcases y2 with e | ⟨r, e1, e2, e3, e4⟩
    · exact .inl e
    · exact .inr ⟨r, e1, get_set_ne e2 (by omega), e3, e4⟩
def addA (A : List E) (e : E) : List E := if A.contains e = true then A else A ++ [e]
def zer (A : List E) : List (E × Int) := A.map fun e => (e, 0)
theorem find_zer (A : List E) (e : E) : (findZ (zer A) e).isSome = A.contains e := by
  induction A with
  | nil => rfl
  | cons a A ih =>
    have h : zer (a :: A) = (a, 0) :: zer A := rfl
    rw [h, findZ, List.contains_cons]
    by_cases e1 : a = e
    · subst e1; simp
    · have e2 : (e == a) = false := by simpa using fun h => e1 h.symm
      simp only [e1, if_false, ih, e2, Bool.false_or]
theorem set_zer (A : List E) (e : E) (h : A.contains e = false) : setZ (zer A) e 0 = zer (A ++ [e]) := by
  induction A with
  | nil => rfl
  | cons a A ih =>
    have h1 : zer (a :: A) = (a, 0) :: zer A := rfl
    rw [List.contains_cons, Bool.or_eq_false_iff] at h
    have e1 : ¬ a = e := fun e1 => by simp [e1] at h
    rw [h1, setZ, if_neg e1, ih h.2]
    rfl
theorem add_ok (h : GS σ0 ext (zer A) A o σ) (hA : A.length ≤ 100000) (e : E) :
    ∃ σ', CC 0 110 [val e, .ptr (σ0.length + 3) 0, .ptr (σ0.length + 4) 0] σ = some (.tuple [], σ') ∧ GS σ0 ext (zer (addA A e)) (addA A e) o σ' := by
  have h1 := h.snoc (.mix (cel e))
  have hB : (σ ++ [Row.mix (cel e)])[σ.length]? = some (.mix (cel e)) := get_snoc
  have hlen := h.len
  unfold addA
  cases hc : A.contains e with
  | true =>
    refine ⟨σ ++ [.mix (cel e)], F110_call ?_, by simpa using h1⟩
    rw [F110_eq]
    simp only [box_val, obind, fa95_1, shift_ptr, shift_pptr, Nat.zero_add, Nat.add_zero, pureFn_fn, List.append_nil, List.singleton_append, List.cons_append, List.nil_append, load93, h1.omap, ldBox hB, lookZ h1.mp, find_zer, hc, ex0, ex1, not_bool, Bool.not_true, condK_false]
  | false =>
    have h2 := h1.setM (zer (A ++ [e]))
    rw [← set_zer A e hc] at h2
    have hB2 : ((σ ++ [Row.mix (cel e)]).set (σ0.length + 2) (.map (entZ (setZ (zer A) e 0))))[σ.length]? = some (.mix (cel e)) := get_set_ne hB (by omega)
    have hup := updZ h1.mp e 0
    generalize hρ : (σ ++ [Row.mix (cel e)]).set (σ0.length + 2) (.map (entZ (setZ (zer A) e 0))) = ρ at *
    obtain ⟨y, y1, y2⟩ := h2.al
    obtain ⟨σ', p1, p2, p3, p4⟩ := RowL.push (lo := 0) y2 (by omega) (Nat.zero_le _) h2.len true (fun _ => rfl) e
    have hne : ∀ j, j < σ0.length + 5 → ∀ r, y = .rsl r 2 0 A.length → j ≠ r := by
      intro j hj r hr
      rcases y2 with ⟨_, e1⟩ | ⟨r2, e1, _, e2, _⟩
      · rw [e1] at hr; exact absurd hr (by simp)
      · rw [e1] at hr; injection hr with hr; omega
    have y1' := p3 _ _ (hne _ (by omega)) y1
    have hst := st134 (v := .rsl ρ.length 2 0 (A.length + 1)) y1' rfl rfl
    have hrl := h2.len
    have hl' : σ0.length + 5 ≤ σ'.length := by omega
    refine ⟨σ'.set (σ0.length + 4) (.mix [.rsl ρ.length 2 0 (A.length + 1)]), F110_call ?_, ?_⟩
    · rw [F110_eq]
      simp only [box_val, obind, fa95_1, shift_ptr, shift_pptr, Nat.zero_add, Nat.add_zero, pureFn_fn, List.append_nil, List.singleton_append, List.cons_append, List.nil_append, load93, h1.omap, ldBox hB, lookZ h1.mp, find_zer, hc, ex0, ex1, not_bool, Bool.not_false, condK_true, hup, load134, load1_ptr (off := 0) y1 rfl, ldBox hB2, bs134, p1, hst]
    · obtain ⟨z, z1, z2⟩ := h2.z2
      simp only [Bool.false_eq_true, if_false]
      rw [set_zer A e hc] at h2
      refine ⟨fun j hj => ?_, get_set_ne (p3 _ _ (hne _ (by omega)) h2.ex) (by omega), ⟨z, get_set_ne (p3 _ _ (hne _ (by omega)) z1) (by omega), z2⟩, get_set_ne (p3 _ _ (hne _ (by omega)) h2.mp) (by omega), get_set_ne (p3 _ _ (hne _ (by omega)) h2.ot) (by omega), h2.ol, _, by rw [List.getElem?_set_self (by omega)], ?_⟩
      · rw [List.getElem?_set_ne (by omega)]
        have hj2 := h2.low j hj
        cases hx : σ0[j]? with
        | none => have := List.getElem?_eq_none_iff.1 hx; omega
        | some row =>
          rw [hx] at hj2
          exact p3 _ _ (hne _ (by omega)) hj2
      · rcases p2 with ⟨e1, _⟩ | ⟨r, e1, e2, e3, e4⟩
        · simp at e1
        · refine .inr ⟨r, ?_, get_set_ne e2 (by omega), e3, e4⟩
          rw [e1]
end Go.D.StS
end
/- Chapter 22: graph, first part: first states, the search, sorting of the states. -/
section
set_option linter.unusedVariables false
set_option linter.unusedSimpArgs false
namespace Go.D.StS
open Go.D.Srt
abbrev OE := Option (List Edg)
def toE (e : Edg) : E := (e.f, e.t)
theorem u138 : PP.underlying 138 = some (.slice 141) := Eq.trans (by kernel_rfl) rfl
theorem s141 : size? PP 141 = some 3 := Eq.trans (by kernel_rfl) rfl
theorem zero141 : zeroOf PP 141 = some [.p (pI 0), .p (pI 0), .p (pI 0)] := Eq.trans (by kernel_rfl) rfl
theorem load141 (x : DV) (σ : Store) : load PP 141 x σ = (loadN σ 3 x).map .agg := Eq.trans (by kernel_rfl) rfl
theorem fa141_0 (x : DV) : fieldAddr PP 141 x 0 = shiftPtr x 0 := Eq.trans (by kernel_rfl) rfl
theorem fa141_1 (x : DV) : fieldAddr PP 141 x 1 = shiftPtr x 2 := Eq.trans (by kernel_rfl) rfl
theorem len138 (q : OE) (σ : Store) : len PP 138 (.p (eEs q)) σ = some (N (L q).length) := by cases q <;> simp [len, u138, eEs]
theorem idx138 {q : OE} {i : Nat} (h : i < (L q).length) : indexAddr PP 138 (.p (eEs q)) (.p (.int .i64 (i : Nat))) = some (.pptr (eEdgs (L q)) (i * 3)) := by
  cases q with
  | none => exact absurd h (by simp [L])
  | some l =>
    have h2 : (0 : Int) ≤ (i : Int) ∧ (i : Int) < (l.length : Nat) := by
      simp only [L, Option.getD_some] at h; omega
    simp [indexAddr, u138, s141, eEs, h2, L]
def gE (l : List Edg) (k : Nat) : Edg := l.getD k default
theorem gE_at {l : List Edg} {k : Nat} (h : k < l.length) : gE l k = l[k] := by unfold gE; rw [List.getD_eq_getElem?_getD, List.getElem?_eq_getElem h]; rfl
theorem ld141 {l : List Edg} {i : Nat} (h : i < l.length) (σ : Store) : (loadN σ 3 (.pptr (eEdgs l) (i * 3))).map DV.agg = some (.agg (edgD (gE l i))) := by
  rw [load69_edgs h, gE_at h]; rfl
theorem stN141 {σ : Store} (e : Edg) {lo : Nat} (hlo : lo ≤ σ.length) : store PP lo 141 (.ptr σ.length 0) (.agg (edgD e)) (σ ++ [.mix [.p (pI 0), .p (pI 0), .p (pI 0)]]) = some (σ ++ [.mix (edgD e)]) := by
  have e1 : (DV.agg (edgD e)).cells = edgD e := rfl
  have e2 : (σ ++ [Row.mix [.p (pI 0), .p (pI 0), .p (pI 0)]])[σ.length]? = some (.mix [.p (pI 0), .p (pI 0), .p (pI 0)]) := get_snoc
  have e3 : splice [DV.p (pI 0), .p (pI 0), .p (pI 0)] 0 (edgD e) = edgD e := rfl
  have e4 : (edgD e).length = 3 := rfl
  have e5 : (edgD e).all DV.one = true := rfl
  simp only [store, s141, e1, e4, if_true, storeN, hlo, e2, e5, e3]
  rw [List.set_append_right _ _ (Nat.le_refl _), Nat.sub_self]
  rfl
theorem ldTo {σ : Store} {s : Nat} {e : Edg} (h : σ[s]? = some (.mix (edgD e))) : load PP 102 (.ptr s 0) σ = some (val (toE e)) := by
  rw [loadE, loadN_ptr (vs := cel (toE e)) h rfl (by simp [edgD])]; rfl
theorem ldAct {σ : Store} {s : Nat} {e : Edg} (h : σ[s]? = some (.mix (edgD e))) : load1 (.ptr s 2) σ = some (.p (.int .i64 e.a)) := load1_ptr h rfl
def x6 (C : Nat) : DV := .fn 110 [.ptr (C + 3) 0, .ptr (C + 4) 0]
theorem addAll_ge (A l : List E) : A.length ≤ (addAll A l).length := by
  induction l generalizing A with
  | nil => exact Nat.le_refl _
  | cons y l ih =>
    unfold addAll
    split
    · exact ih A
    · exact Nat.le_trans (by simp) (ih _)
theorem addA_ge (A : List E) (y : E) : A.length ≤ (addA A y).length := by unfold addA; split <;> simp
section
variable {σ0 : Store} {ext o : List DV}
theorem gr_L0 {l : List E} {x24 : DV} (hx : ∀ k, k < l.length → indexAddr PP 134 x24 (.p (.int .i64 (k : Nat))) = some (.pptr (celsP l) (k * 2))) (hl : l.length ≤ 10000) :
    ∀ (d k : Nat) (A : List E) (σ : Store), l.length - k = d → k ≤ l.length → GS σ0 ext (zer A) A o σ → (addAll A (l.drop k)).length ≤ 100000 →
    ∃ σ', f85_L0 guardT 0 (.ptr σ0.length 0) (.ptr (σ0.length + 1) 0) (.ptr (σ0.length + 3) 0) (.ptr (σ0.length + 4) 0) (x6 σ0.length) x24 (N l.length) (N k) σ = f85_L1 guardT 0 (.ptr σ0.length 0) (.ptr (σ0.length + 1) 0) (.ptr (σ0.length + 3) 0) (.ptr (σ0.length + 4) 0) (x6 σ0.length) (N 0) σ' ∧
      GS σ0 ext (zer (addAll A (l.drop k))) (addAll A (l.drop k)) o σ'
  | 0, k, A, σ, hd, hk, h, hb => by
    refine ⟨σ, ?_, by rw [List.drop_of_length_le (by omega)]; exact h⟩
    rw [f85_L0_eq guardT rfl]
    simp (disch := omega) only [N, b_lss, ltF, gG]
    rfl
  | d + 1, k, A, σ, hd, hk, h, hb => by
    have hkl : k < l.length := by omega
    have e0 : l.drop k = ge l k :: l.drop (k + 1) := by
      rw [ge_at hkl]; exact List.drop_eq_getElem_cons hkl
    rw [e0] at hb ⊢
    have e1 : addAll A (ge l k :: l.drop (k + 1)) = addAll (addA A (ge l k)) (l.drop (k + 1)) := rfl
    rw [e1] at hb ⊢
    have h1 := h.snoc (.mix (cel (ge l k)))
    have hB : (σ ++ [Row.mix (cel (ge l k))])[σ.length]? = some (.mix (cel (ge l k))) := get_snoc
    have hsn := stNew (lo := 0) (σ := σ) (ge l k) (Nat.zero_le _)
    have hAl : A.length ≤ 100000 := Nat.le_trans (Nat.le_trans (addA_ge A _) (addAll_ge _ _)) hb
    obtain ⟨σ2, p1, p2⟩ := add_ok h1 hAl (ge l k)
    obtain ⟨σ', r1, r2⟩ := gr_L0 hx hl d (k + 1) _ σ2 (by omega) (by omega) p2 hb
    refine ⟨σ', ?_, r2⟩
    have hix := hx k hkl
    have hld := ldB hkl σ
    rw [← r1, f85_L0_eq guardT rfl]
    simp (disch := omega) only [N, x6, b_lss, ltT, gG, hix, hld, zeroB, hsn, ldBox hB, plainFn_fn, List.singleton_append, p1, add1]
theorem gr_L2 {i : Nat} (hi : i ≤ 100000) {q : OE} (hl : (L q).length ≤ 10000) : ∀ (d k : Nat) (A : List E) (σ : Store), (L q).length - k = d → k ≤ (L q).length → GS σ0 ext (zer A) A o σ → (addAll A (((L q).drop k).map toE)).length ≤ 100000 →
    ∃ σ', f85_L2 guardT 0 (.ptr σ0.length 0) (.ptr (σ0.length + 1) 0) (.ptr (σ0.length + 3) 0) (.ptr (σ0.length + 4) 0) (x6 σ0.length) (N i) (.p (eEs q)) (N (L q).length) (N k) σ = f85_L1 guardT 0 (.ptr σ0.length 0) (.ptr (σ0.length + 1) 0) (.ptr (σ0.length + 3) 0) (.ptr (σ0.length + 4) 0) (x6 σ0.length) (N (i + 1)) σ' ∧
      GS σ0 ext (zer (addAll A (((L q).drop k).map toE))) (addAll A (((L q).drop k).map toE)) o σ'
  | 0, k, A, σ, hd, hk, h, hb => by
    refine ⟨σ, ?_, by rw [List.drop_of_length_le (by omega)]; exact h⟩
    rw [f85_L2_eq guardT rfl]
    simp (disch := omega) only [N, b_lss, ltF, gG, add1]
  | d + 1, k, A, σ, hd, hk, h, hb => by
    have hkl : k < (L q).length := by omega
    have e0 : (L q).drop k = gE (L q) k :: (L q).drop (k + 1) := by
      rw [gE_at hkl]; exact List.drop_eq_getElem_cons hkl
    rw [e0] at hb ⊢
    have e1 : addAll A ((gE (L q) k :: (L q).drop (k + 1)).map toE) = addAll (addA A (toE (gE (L q) k))) (((L q).drop (k + 1)).map toE) := rfl
    rw [e1] at hb ⊢
    have h1 := h.snoc (.mix (edgD (gE (L q) k)))
    have hB : (σ ++ [Row.mix (edgD (gE (L q) k))])[σ.length]? = some (.mix (edgD (gE (L q) k))) := get_snoc
    have hsn := stN141 (lo := 0) (σ := σ) (gE (L q) k) (Nat.zero_le _)
    have hAl : A.length ≤ 100000 := Nat.le_trans (Nat.le_trans (addA_ge A _) (addAll_ge _ _)) hb
    obtain ⟨σ2, p1, p2⟩ := add_ok h1 hAl (toE (gE (L q) k))
    obtain ⟨σ', r1, r2⟩ := gr_L2 hi hl d (k + 1) _ σ2 (by omega) (by omega) p2 hb
    refine ⟨σ', ?_, r2⟩
    rw [← r1, f85_L2_eq guardT rfl]
    simp (disch := omega) only [N, x6, b_lss, ltT, gG, idx138, load141, ld141, zero141, hsn, fa141_0, shift_ptr, shift_pptr, Nat.zero_add, Nat.add_zero, pureFn_fn, List.append_nil, List.singleton_append, List.cons_append, List.nil_append, ldTo hB, plainFn_fn, List.singleton_append, p1, add1]
noncomputable def tail1 (C : Nat) (σ : Store) : Option (DV × Store) :=
  (load PP 134 (.ptr (C + 4) 0) σ).bind fun x57 =>
 (plainFn CC 0 (DV.fn 111 []) [x57, (DV.fn 112 [])] σ).bind fun r58_6 =>
 (load PP 134 (.ptr (C + 4) 0) r58_6.2).bind fun x59 =>
 (len PP 134 x59 r58_6.2).bind fun x60 =>
 f85_L3 guardT 0 (.ptr C 0) (.ptr (C + 1) 0) (.ptr (C + 3) 0) (.ptr (C + 4) 0) x59 x60 (DV.p (PV.int IntKind.i64 (0))) r58_6.2
def groM (M : E → OE) : Nat → Nat → List E → List E
  | 0, _, A => A
  | k + 1, i, A => if i < A.length then groM M k (i + 1) (addAll A ((L (M (ge A i))).map toE)) else A
theorem gr_L1 {mv : FuncId} {caps : List DV} (hext : ∃ y0, ext = [y0, .fn mv caps]) (M : E → OE) (Pn : E → Prop) (K : Nat)
    (hM : ∀ x, Pn x → ∀ σ : Store, (∀ j, j < σ0.length → σ[j]? = σ0[j]?) → pureV CC mv (val x :: caps) σ = some (.p (eEs (M x)))) (hl : ∀ x, Pn x → (L (M x)).length ≤ 10000) (hK : K ≤ 100000)
    (I : List E → Prop) (hP : ∀ A, I A → ∀ x ∈ A, Pn x) (hN : ∀ A, I A → A.length ≤ K) (hI : ∀ A x, I A → x ∈ A → I (addAll A ((L (M x)).map toE))) : ∀ (d i : Nat) (A : List E) (σ : Store), K - i = d → i ≤ A.length → GS σ0 ext (zer A) A o σ → I A →
    ∃ σ', GS σ0 ext (zer (groM M d i A)) (groM M d i A) o σ' ∧ I (groM M d i A) ∧
      f85_L1 guardT 0 (.ptr σ0.length 0) (.ptr (σ0.length + 1) 0) (.ptr (σ0.length + 3) 0) (.ptr (σ0.length + 4) 0) (x6 σ0.length) (N i) σ = tail1 σ0.length σ' := by
  intro d
  induction d with
  | zero =>
    intro i A σ hd hi h hA
    have hn := hN A hA
    obtain ⟨y, g1, g2⟩ := h.al
    refine ⟨σ, h, hA, ?_⟩
    have hl1 : load1 (.ptr (σ0.length + 4) 0) σ = some y := load1_ptr g1 rfl
    rw [f85_L1_eq guardT rfl]
    simp (disch := omega) only [N, load134, hl1, gG, lenR g2, b_lss, ltF, tail1]
  | succ d ih =>
    intro i A σ hd hi h hA
    have hn := hN A hA
    obtain ⟨y, g1, g2⟩ := h.al
    have hl1 : load1 (.ptr (σ0.length + 4) 0) σ = some y := load1_ptr g1 rfl
    unfold groM
    by_cases hlt : i < A.length
    · rw [if_pos hlt]
      have hx : ge A i ∈ A := by rw [ge_at hlt]; exact List.getElem_mem hlt
      have hPx := hP A hA _ hx
      have hI2 := hI A _ hA hx
      obtain ⟨σ2, p1, p2⟩ := gr_L2 (i := i) (by omega) (hl _ hPx) _ 0 A σ rfl (Nat.zero_le _) h (by rw [List.drop_zero]; exact Nat.le_trans (hN _ hI2) hK)
      rw [List.drop_zero] at p2
      obtain ⟨σ', r1, r2, r3⟩ := ih (i + 1) _ σ2 (by omega) (by have := addAll_ge A ((L (M (ge A i))).map toE); omega) p2 hI2
      refine ⟨σ', r1, r2, ?_⟩
      rcases g2 with ⟨e1, _⟩ | ⟨r, rfl, w1, w2, w3⟩
      · rw [e1] at hlt; exact absurd hlt (by simp)
      · obtain ⟨y0, he⟩ := hext
        have hex := h.ex
        rw [he] at hex
        have hr := get_lt w1
        have hld : load PP 102 (.ptr r (i * 2)) σ = some (val (ge A i)) := by
          have := ldW (A := A) hr hlt
          rwa [W_eq w1] at this
        have hlen : ∀ σ' : Store, len PP 134 (.rsl r 2 0 A.length) σ' = some (.p (.int .i64 (A.length : Nat))) := fun σ' => by simp [len, uL]
        have hmv := hM _ hPx σ h.low
        rw [← r3, ← p1, f85_L1_eq guardT rfl]
        simp (disch := omega) only [N, load134, hl1, gG, hlen, b_lss, ltT, fa137_1, shift_ptr, shift_pptr, Nat.zero_add, Nat.add_zero, pureFn_fn, List.append_nil, List.singleton_append, List.cons_append, List.nil_append, load135, load1_ptr (off := 1) hex rfl, idxL, hld, hmv, len138]
        rfl
    · rw [if_neg hlt]
      refine ⟨σ, h, hA, ?_⟩
      rw [f85_L1_eq guardT rfl]
      simp (disch := omega) only [N, load134, hl1, gG, lenR g2, b_lss, ltF, tail1]
theorem S111n (σ : Store) : CC 0 111 [.p .nilsl, .fn 112 []] σ = some (.tuple [], σ) := by
  obtain ⟨b, e1, h2, h3⟩ := bl_ok (n := 0) (by omega)
  have c0 : CC 0 126 [.p .nilsl, .p (.int .i64 0), .p (.int .i64 ((0 : Nat) : Int)), .fn 112 []] σ = some (.tuple [], σ) := by
    refine F126_call ?_
    have a1 : binOp PP .add 3 (.p (.int .i64 0)) (.p (.int .i64 1)) = some (.p (.int .i64 ((1 : Nat) : Int))) := add1 (a := 0) (by omega)
    rw [F126_eq]
    simp only [a1, gG]
    rw [f126_L0_eq guardT rfl]
    simp (disch := omega) only [b_lss, ltF, gG]
  have c1 : CC 0 121 [.p .nilsl, .p (.int .i64 0), .p (.int .i64 ((0 : Nat) : Int)), I b, .fn 112 []] σ = some (.tuple [], σ) := by
    refine F121_call ?_
    have a2 : binOp PP .sub 3 (.p (.int .i64 ((0 : Nat) : Int))) (.p (.int .i64 0)) = some (.p (.int .i64 ((0 - 0 : Nat) : Int))) := subN (a := 0) (b := 0) (Nat.le_refl 0) (by omega)
    rw [F121_eq, f121_L0_eq guardT rfl]
    simp (disch := omega) only [a2, b_leq, leT, gG, plainFn_fn, List.append_nil, c0]
  have hl : len PP 134 (.p .nilsl) σ = some (.p (.int .i64 ((0 : Nat) : Int))) := by simp [len, uL]
  refine F111_call ?_
  simp only [I, U] at c1 e1
  rw [F111_eq]
  simp (disch := omega) only [hl, gG, cv_iu, pureFn_fn, plainFn_fn, List.append_nil, e1, c1]
theorem gr_sort {l : List (E × Int)} {A : List E} {σ : Store} (h : GS σ0 ext l A o σ) (hn : A.length ≤ 100000) :
    ∃ B σ' y, B.Perm A ∧ B.Pairwise leB ∧ GS σ0 ext l B o σ' ∧ σ'[σ0.length + 4]? = some (.mix [y]) ∧ RowL σ' (σ0.length + 5) B y ∧
      tail1 σ0.length σ = f85_L3 guardT 0 (.ptr σ0.length 0) (.ptr (σ0.length + 1) 0) (.ptr (σ0.length + 3) 0) (.ptr (σ0.length + 4) 0) y (N B.length) (N 0) σ' := by
  obtain ⟨y, g1, g2⟩ := h.al
  have hl1 : load1 (.ptr (σ0.length + 4) 0) σ = some y := load1_ptr g1 rfl
  have hlen := fun σ' : Store => lenR (σ' := σ') g2
  have g2' := g2
  rcases g2' with ⟨e1, rfl⟩ | ⟨r, rfl, w1, w2, w3⟩
  · subst e1
    refine ⟨[], σ, .p .nilsl, List.Perm.refl _, List.Pairwise.nil, h, g1, g2, ?_⟩
    simp only [tail1, load134, hl1, gG, plainFn_fn, List.append_nil, S111n, hlen]
    rfl
  · obtain ⟨B, e, s1, s2, s3⟩ := sort_ok (lo := 0) S112 ordB (Nat.zero_le _) hn w1
    have hBl : B.length = A.length := s2.length_eq
    have hr := get_lt w1
    have km : ∀ j row, j ≠ r → σ[j]? = some row → (W (σ ++ e) r B)[j]? = some row := fun j row hj hh => get_set_ne (by rw [List.getElem?_append_left (get_lt hh)]; exact hh) hj
    have gr : (W (σ ++ e) r B)[r]? = some (.mix (cels B)) := W_get (by rw [List.length_append]; omega) B
    obtain ⟨z, z1, z2⟩ := h.z2
    have hgs : GS σ0 ext l B o (W (σ ++ e) r B) := by
      refine ⟨fun j hj => ?_, km _ _ (by omega) h.ex, ⟨z, km _ _ (by omega) z1, z2⟩, km _ _ (by omega) h.mp, km _ _ (by omega) h.ot, h.ol, _, km _ _ (by omega) g1, ?_⟩
      · have hj2 := h.low j hj
        cases hx : σ0[j]? with
        | none => have := List.getElem?_eq_none_iff.1 hx; omega
        | some row =>
          rw [hx] at hj2
          exact km _ _ (by omega) hj2
      · exact .inr ⟨r, by rw [hBl], gr, w2, fun e => w3 (by rw [e] at hBl; exact List.length_eq_zero_iff.1 hBl.symm)⟩
    have g4 := km _ _ (by omega) g1
    refine ⟨B, _, _, s2, sd_pair (by rw [hBl]; exact s3), hgs, g4, .inr ⟨r, by rw [hBl], gr, w2, fun e => w3 (by rw [e] at hBl; exact List.length_eq_zero_iff.1 hBl.symm)⟩, ?_⟩
    simp only [tail1, load134, hl1, gG, plainFn_fn, List.append_nil, s1, load1_ptr (off := 0) g4 rfl, hlen, hBl]
    rfl
end
end Go.D.StS
end
/- Chapter 22: graph, second part: the numbers of the states. -/
section
set_option linter.unusedVariables false
set_option linter.unusedSimpArgs false
namespace Go.D.StS
open Go.D.Srt
theorem find_set (l : List (E × Int)) (e e' : E) (v : Int) : findZ (setZ l e v) e' = if e = e' then some v else findZ l e' := by
  induction l with
  | nil => rfl
  | cons p l ih =>
    rw [setZ, findZ]
    by_cases h1 : p.1 = e
    · rw [if_pos h1, findZ]
      by_cases h2 : e = e'
      · simp only [h2, if_true]
      · have h3 : ¬ p.1 = e' := fun h => h2 (h1.symm.trans h)
        simp only [h2, h3, if_false]
    · rw [if_neg h1, findZ, ih]
      by_cases h2 : p.1 = e'
      · have h3 : ¬ e = e' := fun h => h1 (h2.trans h.symm)
        simp only [h2, h3, if_true, if_false]
      · simp only [h2, if_false]
theorem Out.pushG {σ : Store} {t e lo B sz b n : Nat} {z : List DV} {cs vs : List PV} {x : DV} (hs : srcType PP t = true) (hu : PP.underlying t = some (.slice e)) (h1 : size? PP e = some sz) (h2 : bytes? PP e = some b) (h3 : zeroOf PP e = some z)
    (h4 : z.length = sz) (hz : 0 < sz) (hb : 0 < b) (hb2 : b ≤ 1000) (hv : vs.length = sz) (ho : Out σ B sz n cs x) (hn : n ≤ 10000000) (hB : B ≤ σ.length) (hlo : lo ≤ B) :
    ∃ x' σ', append PP lo false t t x (.p (.sl true 1 vs)) σ = some (x', σ') ∧ Out σ' B sz (n + 1) (cs ++ vs) x' ∧ Others σ σ' x ∧ Fresh σ x x' := by
  have hsrc : source σ sz (.p (.sl true 1 vs)) = some (1, vs.map DV.p) := by simp [source, hv]
  have hz0 : ¬ (z.length ≠ sz ∨ sz = 0) := by omega
  obtain ⟨hc, ho⟩ := ho
  rcases ho with ⟨rfl, rfl⟩ | ⟨hn0, r, ver, rfl, hr, hl⟩
  · refine ⟨.osl σ.length 0 sz 1 vs, σ ++ [.tok 0], ?_, ⟨by simp [hc, hv], .inr ⟨by simp, σ.length, 0, ?_, get_snoc, hB⟩⟩, ?_, ?_⟩
    · have : b ≤ 140737488355328 := by omega
      simp only [append, hs, hu, h1, h2, h3, hz0, hsrc, appNil]
      simp [this, hb, pures_map, h4, hz, Nat.ne_of_gt hz]
    · have : cs = [] := List.length_eq_zero_iff.1 (by simpa using hc)
      rw [this]; simp
    · intro i row hi _
      exact get_old hi
    · intro r h; right; simpa [rowOf] using h.symm
  · refine ⟨.osl r (ver + 1) sz (n + 1) (cs ++ vs), σ.set r (.tok (ver + 1)), ?_, ⟨by simp [hc, hv, Nat.add_mul], .inr ⟨by simp, r, ver + 1, rfl, ?_, hl⟩⟩, ?_, ?_⟩
    · have e1 : (n + 1) * b ≤ 140737488355328 := Nat.le_trans (Nat.mul_le_mul (show n + 1 ≤ 10000001 by omega) hb2) (by decide)
      have e2 : n + 1 ≤ 140737488355328 := by omega
      have e3 : lo ≤ r := by omega
      simp only [append, hs, hu, h1, h2, h3, hz0, hsrc, appTok]
      simp [e1, e2, hb, hc, e3, hr, pures_map, h4, Nat.ne_of_gt hz]
    · rw [List.getElem?_set_self (get_lt hr)]
    · intro i row hi hne
      rw [List.getElem?_set_ne (fun e => hne _ _ _ _ _ rfl e.symm)]
      exact hi
    · intro r' h; left; exact h
structure GY (σ0 : Store) (ext : List DV) (l : List (E × Int)) (A : List E) (o : List DV) (y : DV) (σ : Store) : Prop where
  g : GS σ0 ext l A o σ
  ay : σ[σ0.length + 4]? = some (.mix [y])
  ry : RowL σ (σ0.length + 5) A y
section
variable {σ0 : Store} {ext o : List DV} {l : List (E × Int)} {A : List E} {y : DV} {σ : Store}
theorem GY.snoc (h : GY σ0 ext l A o y σ) (row : Row) : GY σ0 ext l A o y (σ ++ [row]) := ⟨h.g.snoc row, get_old h.ay, h.ry.snoc row⟩
theorem RowL.setNe {σ : Store} {B q : Nat} {A : List E} {x : DV} {row : Row} (h : RowL σ B A x) (hq : q < B) : RowL (σ.set q row) B A x := by
  rcases h with h | ⟨r, e1, e2, e3, e4⟩
  · exact .inl h
  · exact .inr ⟨r, e1, get_set_ne e2 (by omega), e3, e4⟩
theorem GY.setM (h : GY σ0 ext l A o y σ) (l' : List (E × Int)) : GY σ0 ext l' A o y (σ.set (σ0.length + 2) (.map (entZ l'))) :=
  ⟨h.g.setM l', get_set_ne h.ay (by omega), h.ry.setNe (by omega)⟩
theorem GS.setO (h : GS σ0 ext l A o σ) {o' : List DV} (ho : o'.length = 5) : GS σ0 ext l A o' (σ.set (σ0.length + 3) (.mix (o' ++ [.map (σ0.length + 2)]))) := by
  have hl := h.len
  obtain ⟨z, z1, z2⟩ := h.z2
  obtain ⟨y, y1, y2⟩ := h.al
  refine ⟨fun j hj => ?_, get_set_ne h.ex (by omega), ⟨z, get_set_ne z1 (by omega), z2⟩, get_set_ne h.mp (by omega), by rw [List.getElem?_set_self (by omega)], ho, y, get_set_ne y1 (by omega), y2.setNe (by omega)⟩
  rw [List.getElem?_set_ne (by omega)]
  exact h.low j hj
theorem GY.setO (h : GY σ0 ext l A o y σ) {o' : List DV} (ho : o'.length = 5) : GY σ0 ext l A o' y (σ.set (σ0.length + 3) (.mix (o' ++ [.map (σ0.length + 2)]))) :=
  ⟨h.g.setO ho, get_set_ne h.ay (by omega), h.ry.setNe (by omega)⟩
theorem RowL.oth {σ σ' : Store} {B lo sz n : Nat} {cs : List PV} {A : List E} {x z : DV} (h : RowL σ B A x) (hz : Out σ lo sz n cs z) (ho : Others σ σ' z) : RowL σ' B A x := by
  rcases h with h | ⟨r, e1, e2, e3, e4⟩
  · exact .inl h
  · exact .inr ⟨r, e1, Others.mix ho hz e2 (fun v e => by cases e), e3, e4⟩
theorem GY.oth {σ' : Store} {sz n : Nat} {cs : List PV} {z : DV} (h : GY σ0 ext l A o y σ) (hz : Out σ (σ0.length + 5) sz n cs z) (ho : Others σ σ' z) : GY σ0 ext l A o y σ' := by
  have hl := h.g.len
  obtain ⟨c, z1, z2⟩ := h.g.z2
  obtain ⟨y', y1, y2⟩ := h.g.al
  have km : ∀ (j : Nat) (cs : List DV), σ[j]? = some (Row.mix cs) → σ'[j]? = some (Row.mix cs) := fun j cs e => Others.mix ho hz e (fun v e => by cases e)
  refine ⟨⟨fun j hj => ?_, km _ _ h.g.ex, ⟨c, km _ _ z1, z2⟩, Others.mix ho hz h.g.mp (fun v e => by cases e), km _ _ h.g.ot, h.g.ol, y', km _ _ y1, y2.oth hz ho⟩, km _ _ h.ay, h.ry.oth hz ho⟩
  have hj2 := h.g.low j hj
  cases hx : σ0[j]? with
  | none => have := List.getElem?_eq_none_iff.1 hx; omega
  | some row =>
    rw [hx] at hj2
    refine ho j row hj2 ?_
    rintro r ver sz' n' cs' rfl rfl
    rcases hz.2 with ⟨_, e⟩ | ⟨_, r', ver', e, _, e3⟩
    · cases e
    · injection e with e; omega
theorem GY.at (h : GY σ0 ext l A o y σ) {k : Nat} (hk : k < A.length) : ∃ p, indexAddr PP 134 y (.p (.int .i64 (k : Nat))) = some p ∧ load PP 102 p σ = some (val (ge A k)) := by
  rcases h.ry with ⟨e, _⟩ | ⟨r, rfl, e2, _, _⟩
  · rw [e] at hk; exact absurd hk (by simp)
  · refine ⟨_, idxL hk, ?_⟩
    have := ldW (A := A) (get_lt e2) hk
    rwa [W_eq e2] at this
theorem eqCs_ints (l : List Int) : eqCs (eInts l) (eInts l) = true := by
  induction l with
  | nil => rfl
  | cons a l ih =>
    have e : eInts (a :: l) = .int .i64 a :: eInts l := rfl
    simp [e, eqCs, ih]
theorem sameV_out {σ : Store} {lo n : Nat} {l : List Int} {x : DV} (h : Out σ lo 1 n (eInts l) x) : sameV (some x) (some x) = true := by
  rcases h.2 with ⟨_, rfl⟩ | ⟨_, r, ver, rfl, _, _⟩
  · rfl
  · simp [sameV, eqCs_ints]
theorem sameInt_i (v : Int) : sameInt (some (.p (.int .i64 v))) (some (.p (.int .i64 v))) = true := by simp [sameInt]
theorem s22' : size? PP 22 = some 1 := Eq.trans (by kernel_rfl) rfl
theorem s23' : size? PP 23 = some 1 := Eq.trans (by kernel_rfl) rfl
theorem st22_3 {σ : Store} {t : Nat} {c0 c1 c2 c3 c4 c5 v : DV} (h : σ[t]? = some (.mix [c0, c1, c2, c3, c4, c5])) (hv : v.one = true) (hc : v.cells = [v]) : store PP 0 22 (.ptr t 3) v σ = some (σ.set t (.mix [c0, c1, c2, v, c4, c5])) := by
  have e3 : splice [c0, c1, c2, c3, c4, c5] 3 [v] = [c0, c1, c2, v, c4, c5] := rfl
  simp [store, s22', hc, storeN, h, hv, e3]
theorem st22_4 {σ : Store} {t : Nat} {c0 c1 c2 c3 c4 c5 v : DV} (h : σ[t]? = some (.mix [c0, c1, c2, c3, c4, c5])) (hv : v.one = true) (hc : v.cells = [v]) : store PP 0 22 (.ptr t 4) v σ = some (σ.set t (.mix [c0, c1, c2, c3, v, c5])) := by
  have e3 : splice [c0, c1, c2, c3, c4, c5] 4 [v] = [c0, c1, c2, c3, v, c5] := rfl
  simp [store, s22', hc, storeN, h, hv, e3]
theorem st22_1 {σ : Store} {t : Nat} {c0 c1 c2 c3 c4 c5 v : DV} (h : σ[t]? = some (.mix [c0, c1, c2, c3, c4, c5])) (hv : v.one = true) (hc : v.cells = [v]) : store PP 0 22 (.ptr t 1) v σ = some (σ.set t (.mix [c0, v, c2, c3, c4, c5])) := by
  have e3 : splice [c0, c1, c2, c3, c4, c5] 1 [v] = [c0, v, c2, c3, c4, c5] := rfl
  simp [store, s22', hc, storeN, h, hv, e3]
theorem st23_2 {σ : Store} {t : Nat} {c0 c1 c2 c3 c4 c5 v : DV} (h : σ[t]? = some (.mix [c0, c1, c2, c3, c4, c5])) (hv : v.one = true) (hc : v.cells = [v]) : store PP 0 23 (.ptr t 2) v σ = some (σ.set t (.mix [c0, c1, v, c3, c4, c5])) := by
  have e3 : splice [c0, c1, c2, c3, c4, c5] 2 [v] = [c0, c1, v, c3, c4, c5] := rfl
  simp [store, s23', hc, storeN, h, hv, e3]
theorem st3_0 {σ : Store} {t : Nat} {c0 c1 c2 c3 c4 c5 : DV} {v : Int} (h : σ[t]? = some (.mix [c0, c1, c2, c3, c4, c5])) : store PP 0 3 (.ptr t 0) (.p (.int .i64 v)) σ = some (σ.set t (.mix [.p (.int .i64 v), c1, c2, c3, c4, c5])) := by
  have e3 : splice [c0, c1, c2, c3, c4, c5] 0 [.p (.int .i64 v)] = [.p (.int .i64 v), c1, c2, c3, c4, c5] := rfl
  have e4 : (DV.p (.int .i64 v)).one = true := rfl
  have e5 : (DV.p (.int .i64 v)).cells = [.p (.int .i64 v)] := rfl
  simp [store, s3, e5, storeN, h, e4, e3]
theorem Out.setM {σ : Store} {lo sz n : Nat} {cs : List PV} {x : DV} (ho : Out σ lo sz n cs x) {q : Nat} {c : List DV} (hq : σ[q]? = some (.mix c)) (row : Row) : Out (σ.set q row) lo sz n cs x := by
  refine ⟨ho.1, ?_⟩
  rcases ho.2 with h | ⟨h0, r, ver, e1, e2, e3⟩
  · exact .inl h
  · refine .inr ⟨h0, r, ver, e1, get_set_ne e2 ?_, e3⟩
    rintro rfl
    rw [hq] at e2; exact absurd e2 (by simp)
theorem Out.setLow {σ : Store} {lo sz n : Nat} {cs : List PV} {x : DV} (ho : Out σ lo sz n cs x) {q : Nat} (hq : q < lo) (row : Row) : Out (σ.set q row) lo sz n cs x := by
  refine ⟨ho.1, ?_⟩
  rcases ho.2 with h | ⟨h0, r, ver, e1, e2, e3⟩
  · exact .inl h
  · exact .inr ⟨h0, r, ver, e1, get_set_ne e2 (by omega), e3⟩
theorem Out.snocM {σ : Store} {lo sz n : Nat} {cs : List PV} {x : DV} (ho : Out σ lo sz n cs x) (row : Row) : Out (σ ++ [row]) lo sz n cs x := by
  refine ⟨ho.1, ?_⟩
  rcases ho.2 with h | ⟨h0, r, ver, e1, e2, e3⟩
  · exact .inl h
  · exact .inr ⟨h0, r, ver, e1, get_old e2, e3⟩
theorem out_one' {σ : Store} {lo sz n : Nat} {cs : List PV} {x : DV} (ho : Out σ lo sz n cs x) : x.one = true ∧ x.cells = [x] := by
  rcases ho.2 with ⟨_, rfl⟩ | ⟨_, q, ver, rfl, _⟩ <;> exact ⟨rfl, rfl⟩
end
section
variable {σ0 : Store} {B : List E} {y y0 f : DV} {n0 i0 e0 : DV}
theorem gr_L3 (hB : B.Nodup) (hn : B.length ≤ 1000) : ∀ (d k : Nat) (l : List (E × Int)) (bx ax : DV) (σ : Store), B.length - k = d → k ≤ B.length → GY σ0 [y0, f] l B [n0, i0, e0, bx, ax] y σ →
    Out σ (σ0.length + 5) 1 k (eInts ((B.take k).map Prod.fst)) bx → Out σ (σ0.length + 5) 1 k (eInts ((B.take k).map Prod.snd)) ax → Apart bx ax → (∀ j, j < k → findZ l (ge B j) = some (j : Int)) →
    ∃ l' bx' ax' σ', f85_L3 guardT 0 (.ptr σ0.length 0) (.ptr (σ0.length + 1) 0) (.ptr (σ0.length + 3) 0) (.ptr (σ0.length + 4) 0) y (N B.length) (N k) σ =
      ((len PP 134 y0 σ').bind fun x96 => f85_L4 guardT 0 (.ptr σ0.length 0) (.ptr (σ0.length + 1) 0) (.ptr (σ0.length + 3) 0) (.ptr (σ0.length + 4) 0) y0 x96 (N 0) σ') ∧
      GY σ0 [y0, f] l' B [.p (pI B.length), i0, e0, bx', ax'] y σ' ∧ Out σ' (σ0.length + 5) 1 B.length (eInts (B.map Prod.fst)) bx' ∧ Out σ' (σ0.length + 5) 1 B.length (eInts (B.map Prod.snd)) ax' ∧ Apart bx' ax' ∧ (∀ j, j < B.length → findZ l' (ge B j) = some (j : Int))
  | 0, k, l, bx, ax, σ, hd, hk, h, hb, ha, hap, hf => by
    have e : k = B.length := by omega
    subst e
    have hot := h.g.ot
    have h2 := h.setO (o' := [.p (pI B.length), i0, e0, bx, ax]) rfl
    have hl := h.g.len
    refine ⟨l, bx, ax, _, ?_, h2, by have := Out.setLow hb (q := σ0.length + 3) (by omega) (.mix ([.p (pI B.length), i0, e0, bx, ax] ++ [.map (σ0.length + 2)])); rwa [List.take_length] at this,
      by have := Out.setLow ha (q := σ0.length + 3) (by omega) (.mix ([.p (pI B.length), i0, e0, bx, ax] ++ [.map (σ0.length + 2)])); rwa [List.take_length] at this, hap, hf⟩
    have hex := h2.g.ex
    have hst := st3_0 (v := ((B.length : Nat) : Int)) hot
    rw [f85_L3_eq guardT rfl]
    simp (disch := omega) only [N, b_lss, ltF, gG, load134, load1_ptr (off := 0) h.ay rfl, lenR h.ry, fa95_0, fa33_0, fa25_0, fa137_0, shift_ptr, shift_pptr, Nat.zero_add, Nat.add_zero, pureFn_fn, List.append_nil, List.singleton_append, List.cons_append, List.nil_append, hst]
    simp only [shift_ptr, shift_pptr, Nat.zero_add, Nat.add_zero, pureFn_fn, List.append_nil, List.singleton_append, List.cons_append, List.nil_append] at hex
    simp only [load1_ptr (off := 0) hex rfl, gG, shift_ptr, shift_pptr, Nat.zero_add, Nat.add_zero, pureFn_fn, List.append_nil, List.singleton_append, List.cons_append, List.nil_append]
    rfl
  | d + 1, k, l, bx, ax, σ, hd, hk, h, hb, ha, hap, hf => by
    have hkl : k < B.length := by omega
    obtain ⟨p, hp1, hp2⟩ := h.at hkl
    have hl := h.g.len
    have hsn := stNew (lo := 0) (σ := σ) (ge B k) (Nat.zero_le _)
    have h1 := (h.snoc (.mix (cel (ge B k)))).setM (setZ l (ge B k) (k : Int))
    have hup := updZ (h.snoc (.mix (cel (ge B k)))).g.mp (ge B k) (k : Int)
    have hom := (h.snoc (.mix (cel (ge B k)))).g.omap
    have hB7 : (σ ++ [Row.mix (cel (ge B k))])[σ.length]? = some (.mix (cel (ge B k))) := get_snoc
    have hB8 := get_set_ne (r := .map (entZ (setZ l (ge B k) (k : Int)))) hB7 (show σ.length ≠ σ0.length + 2 by omega)
    have hb8 := Out.setLow (Out.snocM hb (.mix (cel (ge B k)))) (q := σ0.length + 2) (by omega) (.map (entZ (setZ l (ge B k) (k : Int))))
    have ha8 := Out.setLow (Out.snocM ha (.mix (cel (ge B k)))) (q := σ0.length + 2) (by omega) (.map (entZ (setZ l (ge B k) (k : Int))))
    generalize hσ8 : (σ ++ [Row.mix (cel (ge B k))]).set (σ0.length + 2) (.map (entZ (setZ l (ge B k) (k : Int)))) = σ8 at *
    have hl8 := h1.g.len
    obtain ⟨bx2, σ9, p1, p2, p3, p4⟩ := Out.pushG (lo := 0) (vs := [pI (ge B k).1]) src22 u22 s3 bytes3 zero3 rfl (by decide) (by decide) (by decide) rfl hb8 (by omega) hl8 (Nat.zero_le _)
    have h9 := h1.oth hb8 p3
    have ha9 := Out.other ha8 p3 hap
    have hap9 : Apart bx2 ax := Apart.fresh hap p4 ha8
    have hB9 : σ9[σ.length]? = some (.mix (cel (ge B k))) := Others.mix p3 hb8 hB8 (fun v e => by cases e)
    have hl9 := h9.g.len
    obtain ⟨ax2, σ10, q1, q2, q3, q4⟩ := Out.pushG (lo := 0) (vs := [pI (ge B k).2]) src22 u22 s3 bytes3 zero3 rfl (by decide) (by decide) (by decide) rfl ha9 (by omega) hl9 (Nat.zero_le _)
    have h10 := h9.oth ha9 q3
    have hb10 := Out.other p2 q3 hap9.symm
    have hap10 : Apart bx2 ax2 := (Apart.fresh hap9.symm q4 p2).symm
    have hB10 : σ10[σ.length]? = some (.mix (cel (ge B k))) := Others.mix q3 ha9 hB9 (fun v e => by cases e)
    have o8 := h1.g.ot
    have o9 := h9.g.ot
    have o10 := h10.g.ot
    have hs1 := st22_3 o10 (out_one' p2).1 (out_one' p2).2
    have h13 := h10.setO (o' := [n0, i0, e0, bx2, ax]) rfl
    have hb13 := Out.setLow hb10 (q := σ0.length + 3) (by omega) (.mix ([n0, i0, e0, bx2, ax] ++ [.map (σ0.length + 2)]))
    have ha13 := Out.setLow q2 (q := σ0.length + 3) (by omega) (.mix ([n0, i0, e0, bx2, ax] ++ [.map (σ0.length + 2)]))
    have hB13 := get_set_ne (r := .mix ([n0, i0, e0, bx2, ax] ++ [.map (σ0.length + 2)])) hB10 (show σ.length ≠ σ0.length + 3 by omega)
    simp only [shift_ptr, shift_pptr, Nat.zero_add, Nat.add_zero, pureFn_fn, List.append_nil, List.singleton_append, List.cons_append, List.nil_append] at h13 hb13 ha13 hB13 hs1
    generalize hσ13 : σ10.set (σ0.length + 3) (.mix [n0, i0, e0, bx2, ax, .map (σ0.length + 2)]) = σ13 at *
    have o13 := h13.g.ot
    have hs2 := st22_4 o13 (out_one' q2).1 (out_one' q2).2
    have h14 := h13.setO (o' := [n0, i0, e0, bx2, ax2]) rfl
    have hb14 := Out.setLow hb13 (q := σ0.length + 3) (by omega) (.mix ([n0, i0, e0, bx2, ax2] ++ [.map (σ0.length + 2)]))
    have ha14 := Out.setLow ha13 (q := σ0.length + 3) (by omega) (.mix ([n0, i0, e0, bx2, ax2] ++ [.map (σ0.length + 2)]))
    have hB14 := get_set_ne (r := .mix ([n0, i0, e0, bx2, ax2] ++ [.map (σ0.length + 2)])) hB13 (show σ.length ≠ σ0.length + 3 by omega)
    simp only [shift_ptr, shift_pptr, Nat.zero_add, Nat.add_zero, pureFn_fn, List.append_nil, List.singleton_append, List.cons_append, List.nil_append] at h14 hb14 ha14 hB14 hs2
    generalize hσ14 : σ13.set (σ0.length + 3) (.mix [n0, i0, e0, bx2, ax2, .map (σ0.length + 2)]) = σ14 at *
    have e1 : eInts ((B.take k).map Prod.fst) ++ [pI (ge B k).1] = eInts ((B.take (k + 1)).map Prod.fst) := by
      rw [List.take_succ_eq_append_getElem hkl, ge_at hkl]; unfold eInts; rw [List.map_append, List.map_append]; rfl
    have e2 : eInts ((B.take k).map Prod.snd) ++ [pI (ge B k).2] = eInts ((B.take (k + 1)).map Prod.snd) := by
      rw [List.take_succ_eq_append_getElem hkl, ge_at hkl]; unfold eInts; rw [List.map_append, List.map_append]; rfl
    rw [e1] at hb14
    rw [e2] at ha14
    obtain ⟨l', bx', ax', σ', r1, r2⟩ := gr_L3 hB hn d (k + 1) (setZ l (ge B k) (k : Int)) bx2 ax2 σ14 (by omega) (by omega) h14 hb14 ha14 hap10 (fun j hj => by
      rw [find_set]
      by_cases e : ge B k = ge B j
      · rw [ge_at hkl, ge_at (show j < B.length by omega)] at e
        have := (List.getElem_inj hB).1 e
        rw [if_pos (by rw [ge_at hkl, ge_at (show j < B.length by omega)]; exact e), this]
      · rw [if_neg e]
        refine hf j ?_
        by_cases e3 : j = k
        · subst e3; exact absurd rfl e
        · omega)
    refine ⟨l', bx', ax', σ', ?_, r2⟩
    simp only [shift_ptr, shift_pptr, Nat.zero_add, Nat.add_zero, pureFn_fn, List.append_nil, List.singleton_append, List.cons_append, List.nil_append] at o8 o9
    have i8 := load1_ptr (off := 1) hB8 (v := .p (.int .i64 (ge B k).2)) rfl
    have i9 := load1_ptr (off := 1) hB9 (v := .p (.int .i64 (ge B k).2)) rfl
    have i10 := load1_ptr (off := 1) hB10 (v := .p (.int .i64 (ge B k).2)) rfl
    have i13 := load1_ptr (off := 1) hB13 (v := .p (.int .i64 (ge B k).2)) rfl
    have i14 := load1_ptr (off := 1) hB14 (v := .p (.int .i64 (ge B k).2)) rfl
    have v8 := load1_ptr (off := 4) o8 (v := ax) rfl
    have v9 := load1_ptr (off := 4) o9 (v := ax) rfl
    have w8 := load1_ptr (off := 3) o8 (v := bx) rfl
    have hsv := sameV_out ha8
    rw [← r1, f85_L3_eq guardT rfl]
    simp (disch := omega) only [N, b_lss, ltT, gG, hp1, hp2, zeroB, hsn, fa95_0, fa95_1, fa33_0, fa33_1, fa33_2, fa102_0, fa102_1, shift_ptr, shift_pptr, Nat.zero_add, Nat.add_zero, pureFn_fn, List.append_nil, List.singleton_append, List.cons_append, List.nil_append, load93, hom, ldBox hB7, hup, load22, load3, w8, load1_ptr (off := 0) hB8 (v := .p (.int .i64 (ge B k).1)) rfl, bs22_1, p1, v9, i9, q1, hs1, hs2,
      i8, i10, i13, i14, v8, hsv, sameInt_i, List.all_cons, List.all_nil, Bool.and_true, cond_true, add1]
end
end Go.D.StS
end
/- Equations of functions 113, 123, 136, 139, 141, 142, 153, 163, 152, 114, printed by gen.py. -/
section
set_option linter.unusedVariables false
set_option maxRecDepth 10000
namespace Go.D
open Go.Proofs
noncomputable section
variable (G : GuardT) (lo : Nat) {σ : Store} {r : DV × Store}
open _root_.Go.D.Code (fstC sndC)
open _root_.Go.D.Ann (left right)
def c113_0 : Code := bodyOf Tryz.f113
def a113_0 : Ann := (pol 113).ann
def F113 (x0 : DV) (σ : Store) : RS :=
 codeF G PP (pol 113) CC lo c113_0 a113_0 (x0 :: zn 10 []) σ (finR PP Tryz.f113.results.toList)
theorem F113_eq (G : GuardT) (lo : Nat) (x0 : DV) (σ : Store) : F113 G lo x0 σ =
 (len PP 22 x0 σ).bind fun x4 =>
 (convert PP 3 165 x4).bind fun x8 =>
 (pureFn CC (DV.fn 122 []) [x8] σ).bind fun x9 =>
 (plainFn CC lo (DV.fn 123 []) [x0, I0, x4, x9] σ).bind fun r10_1 =>
 some ((DV.tuple []), r10_1.2) := by kernel_rfl
theorem F113_call {lo : Nat} {x0 : DV} (h : F113 guardT lo x0 σ = some r) : CC lo 113 [x0] σ = some r :=
 callL_run Tryz.func113 (by decide +kernel) rfl (by decide +kernel) h
def c123_0 : Code := bodyOf Tryz.f123
def a123_0 : Ann := (pol 123).ann
def a123_4 : Ann := right (right a123_0)
def a123_5 : Ann := left a123_4
def c123_6 : Code := fstC (fstC (sndC (sndC c123_0)))
def a123_6 : Ann := left a123_5
def c123_33 : Code := sndC (sndC (sndC (sndC (fstC c123_6))))
def a123_33 : Ann := right (right (right (right (left a123_6))))
def c123_45 : Code := sndC (sndC c123_33)
def a123_45 : Ann := right (right a123_33)
def c123_55 : Code := sndC c123_45
def a123_55 : Ann := right a123_45
def f123_L0 (x0 x1 x2 x3 x8 x9 : DV) (σ : Store) : RS :=
 codeF G PP (pol 123) CC lo (.loop c123_6) a123_5 (x0 :: x1 :: x2 :: x3 :: Z :: Z :: Z :: Z :: x8 :: x9 :: zn 124 []) σ
 (blockC 0 a123_4 (finR PP Tryz.f123.results.toList))
def f123_J0_fr (x0 x1 x2 x3 x8 x9 x10 x19 x20 x21 x22 x23 x28 x29 x34 x35 x36 x37 x38 x39 x40 x41 : DV) : Frame := (x0 :: x1 :: x2 :: x3 :: Z :: Z :: Z :: Z :: x8 :: x9 :: x10 :: zn 8 (x19 :: x20 :: x21 :: x22 :: x23 :: Z :: Z :: Z :: Z :: x28 :: x29 :: Z :: Z :: Z :: Z :: x34 :: x35 :: x36 :: x37 :: x38 :: x39 :: x40 :: x41 :: zn 92 []))
def f123_J0 (x0 x1 x2 x3 x8 x9 x10 x19 x20 x21 x22 x23 x28 x29 x34 x35 x36 x37 x38 x39 x40 x41 : DV) (σ : Store) : RS :=
 (seqC G PP (pol 123) CC lo c123_33 a123_33 (blockC 1 a123_6 (loopC G PP (pol 123) CC lo c123_6 a123_5 (blockC 0 a123_4 (finR PP Tryz.f123.results.toList))))) .normal (f123_J0_fr x0 x1 x2 x3 x8 x9 x10 x19 x20 x21 x22 x23 x28 x29 x34 x35 x36 x37 x38 x39 x40 x41) σ
def f123_J1_fr (x0 x1 x2 x3 x8 x9 x10 x11 x12 x19 x20 x21 x22 x23 x28 x29 x34 x35 x36 x37 x38 x39 x40 x41 x42 x43 x44 x45 x46 x47 x48 x49 x50 x51 x52 x53 x54 x55 x56 x57 x58 x59 x60 : DV) : Frame := (x0 :: x1 :: x2 :: x3 :: Z :: Z :: Z :: Z :: x8 :: x9 :: x10 :: x11 :: x12 :: zn 6 (x19 :: x20 :: x21 :: x22 :: x23 :: Z :: Z :: Z :: Z :: x28 :: x29 :: Z :: Z :: Z :: Z :: x34 :: x35 :: x36 :: x37 :: x38 :: x39 :: x40 :: x41 :: x42 :: x43 :: x44 :: x45 :: x46 :: x47 :: x48 :: x49 :: x50 :: x51 :: x52 :: x53 :: x54 :: x55 :: x56 :: x57 :: x58 :: x59 :: x60 :: zn 73 []))
def f123_J1 (x0 x1 x2 x3 x8 x9 x10 x11 x12 x19 x20 x21 x22 x23 x28 x29 x34 x35 x36 x37 x38 x39 x40 x41 x42 x43 x44 x45 x46 x47 x48 x49 x50 x51 x52 x53 x54 x55 x56 x57 x58 x59 x60 : DV) (σ : Store) : RS :=
 (seqC G PP (pol 123) CC lo c123_45 a123_45 (blockC 1 a123_6 (loopC G PP (pol 123) CC lo c123_6 a123_5 (blockC 0 a123_4 (finR PP Tryz.f123.results.toList))))) .normal (f123_J1_fr x0 x1 x2 x3 x8 x9 x10 x11 x12 x19 x20 x21 x22 x23 x28 x29 x34 x35 x36 x37 x38 x39 x40 x41 x42 x43 x44 x45 x46 x47 x48 x49 x50 x51 x52 x53 x54 x55 x56 x57 x58 x59 x60) σ
def f123_J2_fr (x0 x1 x2 x3 x8 x9 x10 x11 x12 x19 x20 x21 x22 x23 x28 x29 x34 x35 x36 x37 x38 x39 x40 x41 x42 x43 x44 x45 x46 x47 x48 x49 x50 x51 x52 x53 x54 x55 x56 x57 x58 x59 x60 x61 x62 x63 x64 x65 x66 x67 x68 x69 x70 x71 x72 : DV) : Frame := (x0 :: x1 :: x2 :: x3 :: Z :: Z :: Z :: Z :: x8 :: x9 :: x10 :: x11 :: x12 :: zn 6 (x19 :: x20 :: x21 :: x22 :: x23 :: Z :: Z :: Z :: Z :: x28 :: x29 :: Z :: Z :: Z :: Z :: x34 :: x35 :: x36 :: x37 :: x38 :: x39 :: x40 :: x41 :: x42 :: x43 :: x44 :: x45 :: x46 :: x47 :: x48 :: x49 :: x50 :: x51 :: x52 :: x53 :: x54 :: x55 :: x56 :: x57 :: x58 :: x59 :: x60 :: x61 :: x62 :: x63 :: x64 :: x65 :: x66 :: x67 :: x68 :: x69 :: x70 :: x71 :: x72 :: zn 61 []))
def f123_J2 (x0 x1 x2 x3 x8 x9 x10 x11 x12 x19 x20 x21 x22 x23 x28 x29 x34 x35 x36 x37 x38 x39 x40 x41 x42 x43 x44 x45 x46 x47 x48 x49 x50 x51 x52 x53 x54 x55 x56 x57 x58 x59 x60 x61 x62 x63 x64 x65 x66 x67 x68 x69 x70 x71 x72 : DV) (σ : Store) : RS :=
 (seqC G PP (pol 123) CC lo c123_55 a123_55 (blockC 1 a123_6 (loopC G PP (pol 123) CC lo c123_6 a123_5 (blockC 0 a123_4 (finR PP Tryz.f123.results.toList))))) .normal (f123_J2_fr x0 x1 x2 x3 x8 x9 x10 x11 x12 x19 x20 x21 x22 x23 x28 x29 x34 x35 x36 x37 x38 x39 x40 x41 x42 x43 x44 x45 x46 x47 x48 x49 x50 x51 x52 x53 x54 x55 x56 x57 x58 x59 x60 x61 x62 x63 x64 x65 x66 x67 x68 x69 x70 x71 x72) σ
def F123 (x0 x1 x2 x3 : DV) (σ : Store) : RS :=
 codeF G PP (pol 123) CC lo c123_0 a123_0 (x0 :: x1 :: x2 :: x3 :: zn 130 []) σ (finR PP Tryz.f123.results.toList)
theorem f123_J0_eq (G : GuardT) (lo : Nat) (x0 x1 x2 x3 x8 x9 x10 x19 x20 x21 x22 x23 x28 x29 x34 x35 x36 x37 x38 x39 x40 x41 : DV) (σ : Store) : f123_J0 G lo x0 x1 x2 x3 x8 x9 x10 x19 x20 x21 x22 x23 x28 x29 x34 x35 x36 x37 x38 x39 x40 x41 σ =
 (plainFn CC lo (DV.fn 139 []) [x0, x1, x2] σ).bind fun r46_4 =>
 (extractV r46_4.1 0).bind fun x47 =>
 (extractV r46_4.1 1).bind fun x48 =>
 (binOp PP .eql 169 x48 (DV.p (PV.int IntKind.i64 (2)))).bind fun x50 =>
 condK x50
 (
 (plainFn CC lo (DV.fn 140 []) [x0, x1, x2] r46_4.2).bind fun r54_5 =>
 (binOp PP .sub 3 x2 I1).bind fun x56 =>
 (binOp PP .sub 3 x47 x1).bind fun x59 =>
 (binOp PP .sub 3 x56 x59).bind fun x60 =>
 f123_J1 G lo x0 x1 x2 x3 x8 x9 x10 x60 I1 x19 x20 x21 x22 x23 x28 x29 x34 x35 x36 x37 x38 x39 x40 x41 r46_4.1 x0 x1 x2 r46_4.1 x47 x48 x48 x50 x0 x1 x2 r54_5.1 x2 x56 x47 x1 x59 x60 r54_5.2
 )
 (
 f123_J1 G lo x0 x1 x2 x3 x8 x9 x10 x47 x48 x19 x20 x21 x22 x23 x28 x29 x34 x35 x36 x37 x38 x39 x40 x41 r46_4.1 x0 x1 x2 r46_4.1 x47 x48 x48 x50 Z Z Z Z Z Z Z Z Z Z r46_4.2
 ) := by kernel_rfl
theorem f123_J1_eq (G : GuardT) (lo : Nat) (x0 x1 x2 x3 x8 x9 x10 x11 x12 x19 x20 x21 x22 x23 x28 x29 x34 x35 x36 x37 x38 x39 x40 x41 x42 x43 x44 x45 x46 x47 x48 x49 x50 x51 x52 x53 x54 x55 x56 x57 x58 x59 x60 : DV) (σ : Store) : f123_J1 G lo x0 x1 x2 x3 x8 x9 x10 x11 x12 x19 x20 x21 x22 x23 x28 x29 x34 x35 x36 x37 x38 x39 x40 x41 x42 x43 x44 x45 x46 x47 x48 x49 x50 x51 x52 x53 x54 x55 x56 x57 x58 x59 x60 σ =
 G _ x8 true (some (x9, σ)) σ fun x63 σ6 =>
 (pickV x8 x63 (DV.p (PV.bool false))).bind fun x64 =>
 G _ x64 true (some (x12, σ6)) σ6 fun x66 σ7 =>
 G _ x64 true ((binOp PP .eql 169 x66 I1).bind fun v => some (v, σ7)) σ7 fun x67 σ8 =>
 (pickV x64 x67 (DV.p (PV.bool false))).bind fun x68 =>
 condK x68
 (
 (plainFn CC lo (DV.fn 141 []) [x0, x1, x2] σ8).bind fun r72_9 =>
 condK r72_9.1
 (
 some ((DV.tuple []), r72_9.2)
 )
 (
 f123_J2 G lo x0 x1 x2 x3 x8 x9 x10 x11 x12 x19 x20 x21 x22 x23 x28 x29 x34 x35 x36 x37 x38 x39 x40 x41 x42 x43 x44 x45 x46 x47 x48 x49 x50 x51 x52 x53 x54 x55 x56 x57 x58 x59 x60 x8 x8 x63 x64 x64 x66 x67 x68 x0 x1 x2 r72_9.1 r72_9.2
 )
 )
 (
 f123_J2 G lo x0 x1 x2 x3 x8 x9 x10 x11 x12 x19 x20 x21 x22 x23 x28 x29 x34 x35 x36 x37 x38 x39 x40 x41 x42 x43 x44 x45 x46 x47 x48 x49 x50 x51 x52 x53 x54 x55 x56 x57 x58 x59 x60 x8 x8 x63 x64 x64 x66 x67 x68 Z Z Z Z σ8
 ) := by kernel_rfl
theorem f123_J2_eq (G : GuardT) (lo : Nat) (x0 x1 x2 x3 x8 x9 x10 x11 x12 x19 x20 x21 x22 x23 x28 x29 x34 x35 x36 x37 x38 x39 x40 x41 x42 x43 x44 x45 x46 x47 x48 x49 x50 x51 x52 x53 x54 x55 x56 x57 x58 x59 x60 x61 x62 x63 x64 x65 x66 x67 x68 x69 x70 x71 x72 : DV) (σ : Store) : f123_J2 G lo x0 x1 x2 x3 x8 x9 x10 x11 x12 x19 x20 x21 x22 x23 x28 x29 x34 x35 x36 x37 x38 x39 x40 x41 x42 x43 x44 x45 x46 x47 x48 x49 x50 x51 x52 x53 x54 x55 x56 x57 x58 x59 x60 x61 x62 x63 x64 x65 x66 x67 x68 x69 x70 x71 x72 σ =
 (binOp PP .gtr 3 x1 I0).bind fun x74 =>
 G _ x74 true (some (x0, σ)) σ fun x76 σ10 =>
 G _ x74 true (some (x1, σ10)) σ10 fun x77 σ11 =>
 G _ x74 true ((binOp PP .sub 3 x77 I1).bind fun v => some (v, σ11)) σ11 fun x78 σ12 =>
 G _ x74 true ((indexAddr PP 22 x76 x78).bind fun v => some (v, σ12)) σ12 fun x79 σ13 =>
 G _ x74 true ((load PP 3 x79 σ13).bind fun v => some (v, σ13)) σ13 fun x80 σ14 =>
 G _ x74 true (some (x0, σ14)) σ14 fun x81 σ15 =>
 G _ x74 true (some (x11, σ15)) σ15 fun x82 σ16 =>
 G _ x74 true ((indexAddr PP 22 x81 x82).bind fun v => some (v, σ16)) σ16 fun x83 σ17 =>
 G _ x74 true ((load PP 3 x83 σ17).bind fun v => some (v, σ17)) σ17 fun x84 σ18 =>
 G _ x74 true ((pureFn CC (DV.fn 142 []) [x80, x84] σ18).bind fun v => some (v, σ18)) σ18 fun x85 σ19 =>
 G _ x74 true ((unOp .not x85).bind fun v => some (v, σ19)) σ19 fun x86 σ20 =>
 (pickV x74 x86 (DV.p (PV.bool false))).bind fun x87 =>
 condK x87
 (
 (plainFn CC lo (DV.fn 143 []) [x0, x1, x2, x11] σ20).bind fun r92_21 =>
 f123_L0 G lo x0 r92_21.1 x2 x3 x8 x9 r92_21.2
 )
 (
 (plainFn CC lo (DV.fn 144 []) [x0, x1, x2, x11] σ20).bind fun r99_22 =>
 (extractV r99_22.1 0).bind fun x100 =>
 (extractV r99_22.1 1).bind fun x101 =>
 (binOp PP .sub 3 x100 x1).bind fun x105 =>
 (binOp PP .sub 3 x2 x100).bind fun x108 =>
 (binOp PP .quo 3 x10 (DV.p (PV.int IntKind.i64 (8)))).bind fun x110 =>
 (binOp PP .lss 3 x105 x108).bind fun x113 =>
 condK x113
 (
 (binOp PP .geq 3 x105 x110).bind fun x116 =>
 (plainFn CC lo (DV.fn 123 []) [x0, x1, x100, x3] r99_22.2).bind fun r121_23 =>
 (binOp PP .add 3 x100 I1).bind fun x123 =>
 f123_L0 G lo x0 x123 x2 x3 x116 x101 r121_23.2
 )
 (
 (binOp PP .geq 3 x108 x110).bind fun x126 =>
 (binOp PP .add 3 x100 I1).bind fun x129 =>
 (plainFn CC lo (DV.fn 123 []) [x0, x129, x2, x3] r99_22.2).bind fun r132_24 =>
 f123_L0 G lo x0 x1 x100 x3 x126 x101 r132_24.2
 )
 ) := by kernel_rfl
theorem f123_L0_eqN (G : GuardT) (hG : GuardOk G) (lo : Nat) (x0 x1 x2 x3 x8 x9 : DV) (σ : Store) : f123_L0 G lo x0 x1 x2 x3 x8 x9 σ =
 (binOp PP .sub 3 x2 x1).bind fun x21 =>
 (binOp PP .leq 3 x21 (DV.p (PV.int IntKind.i64 (12)))).bind fun x23 =>
 condK x23
 (
 (plainFn CC lo (DV.fn 136 []) [x0, x1, x2] σ).bind fun r27_1 =>
 some ((DV.tuple []), r27_1.2)
 )
 (
 (binOp PP .eql 3 x3 I0).bind fun x29 =>
 condK x29
 (
 (plainFn CC lo (DV.fn 137 []) [x0, x1, x2] σ).bind fun r33_2 =>
 some ((DV.tuple []), r33_2.2)
 )
 (
 (unOp .not x8).bind fun x35 =>
 condK x35
 (
 (plainFn CC lo (DV.fn 138 []) [x0, x1, x2] σ).bind fun r39_3 =>
 (binOp PP .sub 3 x3 I1).bind fun x41 =>
 (plainFn CC lo (DV.fn 139 []) [x0, x1, x2] r39_3.2).bind fun r46_4 =>
 (extractV r46_4.1 0).bind fun x47 =>
 (extractV r46_4.1 1).bind fun x48 =>
 (binOp PP .eql 169 x48 (DV.p (PV.int IntKind.i64 (2)))).bind fun x50 =>
 condK x50
 (
 (plainFn CC lo (DV.fn 140 []) [x0, x1, x2] r46_4.2).bind fun r54_5 =>
 (binOp PP .sub 3 x2 I1).bind fun x56 =>
 (binOp PP .sub 3 x47 x1).bind fun x59 =>
 (binOp PP .sub 3 x56 x59).bind fun x60 =>
 G _ x8 true (some (x9, r54_5.2)) r54_5.2 fun x63 σ6 =>
 (pickV x8 x63 (DV.p (PV.bool false))).bind fun x64 =>
 G _ x64 true (some (I1, σ6)) σ6 fun x66 σ7 =>
 G _ x64 true ((binOp PP .eql 169 x66 I1).bind fun v => some (v, σ7)) σ7 fun x67 σ8 =>
 (pickV x64 x67 (DV.p (PV.bool false))).bind fun x68 =>
 condK x68
 (
 (plainFn CC lo (DV.fn 141 []) [x0, x1, x2] σ8).bind fun r72_9 =>
 condK r72_9.1
 (
 some ((DV.tuple []), r72_9.2)
 )
 (
 (binOp PP .gtr 3 x1 I0).bind fun x74 =>
 G _ x74 true (some (x0, r72_9.2)) r72_9.2 fun x76 σ10 =>
 G _ x74 true (some (x1, σ10)) σ10 fun x77 σ11 =>
 G _ x74 true ((binOp PP .sub 3 x77 I1).bind fun v => some (v, σ11)) σ11 fun x78 σ12 =>
 G _ x74 true ((indexAddr PP 22 x76 x78).bind fun v => some (v, σ12)) σ12 fun x79 σ13 =>
 G _ x74 true ((load PP 3 x79 σ13).bind fun v => some (v, σ13)) σ13 fun x80 σ14 =>
 G _ x74 true (some (x0, σ14)) σ14 fun x81 σ15 =>
 G _ x74 true (some (x60, σ15)) σ15 fun x82 σ16 =>
 G _ x74 true ((indexAddr PP 22 x81 x82).bind fun v => some (v, σ16)) σ16 fun x83 σ17 =>
 G _ x74 true ((load PP 3 x83 σ17).bind fun v => some (v, σ17)) σ17 fun x84 σ18 =>
 G _ x74 true ((pureFn CC (DV.fn 142 []) [x80, x84] σ18).bind fun v => some (v, σ18)) σ18 fun x85 σ19 =>
 G _ x74 true ((unOp .not x85).bind fun v => some (v, σ19)) σ19 fun x86 σ20 =>
 (pickV x74 x86 (DV.p (PV.bool false))).bind fun x87 =>
 condK x87
 (
 (plainFn CC lo (DV.fn 143 []) [x0, x1, x2, x60] σ20).bind fun r92_21 =>
 f123_L0 G lo x0 r92_21.1 x2 x41 x8 x9 r92_21.2
 )
 (
 (plainFn CC lo (DV.fn 144 []) [x0, x1, x2, x60] σ20).bind fun r99_22 =>
 (extractV r99_22.1 0).bind fun x100 =>
 (extractV r99_22.1 1).bind fun x101 =>
 (binOp PP .sub 3 x100 x1).bind fun x105 =>
 (binOp PP .sub 3 x2 x100).bind fun x108 =>
 (binOp PP .quo 3 x21 (DV.p (PV.int IntKind.i64 (8)))).bind fun x110 =>
 (binOp PP .lss 3 x105 x108).bind fun x113 =>
 condK x113
 (
 (binOp PP .geq 3 x105 x110).bind fun x116 =>
 (plainFn CC lo (DV.fn 123 []) [x0, x1, x100, x41] r99_22.2).bind fun r121_23 =>
 (binOp PP .add 3 x100 I1).bind fun x123 =>
 f123_L0 G lo x0 x123 x2 x41 x116 x101 r121_23.2
 )
 (
 (binOp PP .geq 3 x108 x110).bind fun x126 =>
 (binOp PP .add 3 x100 I1).bind fun x129 =>
 (plainFn CC lo (DV.fn 123 []) [x0, x129, x2, x41] r99_22.2).bind fun r132_24 =>
 f123_L0 G lo x0 x1 x100 x41 x126 x101 r132_24.2
 )
 )
 )
 )
 (
 (binOp PP .gtr 3 x1 I0).bind fun x74 =>
 G _ x74 true (some (x0, σ8)) σ8 fun x76 σ25 =>
 G _ x74 true (some (x1, σ25)) σ25 fun x77 σ26 =>
 G _ x74 true ((binOp PP .sub 3 x77 I1).bind fun v => some (v, σ26)) σ26 fun x78 σ27 =>
 G _ x74 true ((indexAddr PP 22 x76 x78).bind fun v => some (v, σ27)) σ27 fun x79 σ28 =>
 G _ x74 true ((load PP 3 x79 σ28).bind fun v => some (v, σ28)) σ28 fun x80 σ29 =>
 G _ x74 true (some (x0, σ29)) σ29 fun x81 σ30 =>
 G _ x74 true (some (x60, σ30)) σ30 fun x82 σ31 =>
 G _ x74 true ((indexAddr PP 22 x81 x82).bind fun v => some (v, σ31)) σ31 fun x83 σ32 =>
 G _ x74 true ((load PP 3 x83 σ32).bind fun v => some (v, σ32)) σ32 fun x84 σ33 =>
 G _ x74 true ((pureFn CC (DV.fn 142 []) [x80, x84] σ33).bind fun v => some (v, σ33)) σ33 fun x85 σ34 =>
 G _ x74 true ((unOp .not x85).bind fun v => some (v, σ34)) σ34 fun x86 σ35 =>
 (pickV x74 x86 (DV.p (PV.bool false))).bind fun x87 =>
 condK x87
 (
 (plainFn CC lo (DV.fn 143 []) [x0, x1, x2, x60] σ35).bind fun r92_36 =>
 f123_L0 G lo x0 r92_36.1 x2 x41 x8 x9 r92_36.2
 )
 (
 (plainFn CC lo (DV.fn 144 []) [x0, x1, x2, x60] σ35).bind fun r99_37 =>
 (extractV r99_37.1 0).bind fun x100 =>
 (extractV r99_37.1 1).bind fun x101 =>
 (binOp PP .sub 3 x100 x1).bind fun x105 =>
 (binOp PP .sub 3 x2 x100).bind fun x108 =>
 (binOp PP .quo 3 x21 (DV.p (PV.int IntKind.i64 (8)))).bind fun x110 =>
 (binOp PP .lss 3 x105 x108).bind fun x113 =>
 condK x113
 (
 (binOp PP .geq 3 x105 x110).bind fun x116 =>
 (plainFn CC lo (DV.fn 123 []) [x0, x1, x100, x41] r99_37.2).bind fun r121_38 =>
 (binOp PP .add 3 x100 I1).bind fun x123 =>
 f123_L0 G lo x0 x123 x2 x41 x116 x101 r121_38.2
 )
 (
 (binOp PP .geq 3 x108 x110).bind fun x126 =>
 (binOp PP .add 3 x100 I1).bind fun x129 =>
 (plainFn CC lo (DV.fn 123 []) [x0, x129, x2, x41] r99_37.2).bind fun r132_39 =>
 f123_L0 G lo x0 x1 x100 x41 x126 x101 r132_39.2
 )
 )
 )
 )
 (
 G _ x8 true (some (x9, r46_4.2)) r46_4.2 fun x63 σ40 =>
 (pickV x8 x63 (DV.p (PV.bool false))).bind fun x64 =>
 G _ x64 true (some (x48, σ40)) σ40 fun x66 σ41 =>
 G _ x64 true ((binOp PP .eql 169 x66 I1).bind fun v => some (v, σ41)) σ41 fun x67 σ42 =>
 (pickV x64 x67 (DV.p (PV.bool false))).bind fun x68 =>
 condK x68
 (
 (plainFn CC lo (DV.fn 141 []) [x0, x1, x2] σ42).bind fun r72_43 =>
 condK r72_43.1
 (
 some ((DV.tuple []), r72_43.2)
 )
 (
 (binOp PP .gtr 3 x1 I0).bind fun x74 =>
 G _ x74 true (some (x0, r72_43.2)) r72_43.2 fun x76 σ44 =>
 G _ x74 true (some (x1, σ44)) σ44 fun x77 σ45 =>
 G _ x74 true ((binOp PP .sub 3 x77 I1).bind fun v => some (v, σ45)) σ45 fun x78 σ46 =>
 G _ x74 true ((indexAddr PP 22 x76 x78).bind fun v => some (v, σ46)) σ46 fun x79 σ47 =>
 G _ x74 true ((load PP 3 x79 σ47).bind fun v => some (v, σ47)) σ47 fun x80 σ48 =>
 G _ x74 true (some (x0, σ48)) σ48 fun x81 σ49 =>
 G _ x74 true (some (x47, σ49)) σ49 fun x82 σ50 =>
 G _ x74 true ((indexAddr PP 22 x81 x82).bind fun v => some (v, σ50)) σ50 fun x83 σ51 =>
 G _ x74 true ((load PP 3 x83 σ51).bind fun v => some (v, σ51)) σ51 fun x84 σ52 =>
 G _ x74 true ((pureFn CC (DV.fn 142 []) [x80, x84] σ52).bind fun v => some (v, σ52)) σ52 fun x85 σ53 =>
 G _ x74 true ((unOp .not x85).bind fun v => some (v, σ53)) σ53 fun x86 σ54 =>
 (pickV x74 x86 (DV.p (PV.bool false))).bind fun x87 =>
 condK x87
 (
 (plainFn CC lo (DV.fn 143 []) [x0, x1, x2, x47] σ54).bind fun r92_55 =>
 f123_L0 G lo x0 r92_55.1 x2 x41 x8 x9 r92_55.2
 )
 (
 (plainFn CC lo (DV.fn 144 []) [x0, x1, x2, x47] σ54).bind fun r99_56 =>
 (extractV r99_56.1 0).bind fun x100 =>
 (extractV r99_56.1 1).bind fun x101 =>
 (binOp PP .sub 3 x100 x1).bind fun x105 =>
 (binOp PP .sub 3 x2 x100).bind fun x108 =>
 (binOp PP .quo 3 x21 (DV.p (PV.int IntKind.i64 (8)))).bind fun x110 =>
 (binOp PP .lss 3 x105 x108).bind fun x113 =>
 condK x113
 (
 (binOp PP .geq 3 x105 x110).bind fun x116 =>
 (plainFn CC lo (DV.fn 123 []) [x0, x1, x100, x41] r99_56.2).bind fun r121_57 =>
 (binOp PP .add 3 x100 I1).bind fun x123 =>
 f123_L0 G lo x0 x123 x2 x41 x116 x101 r121_57.2
 )
 (
 (binOp PP .geq 3 x108 x110).bind fun x126 =>
 (binOp PP .add 3 x100 I1).bind fun x129 =>
 (plainFn CC lo (DV.fn 123 []) [x0, x129, x2, x41] r99_56.2).bind fun r132_58 =>
 f123_L0 G lo x0 x1 x100 x41 x126 x101 r132_58.2
 )
 )
 )
 )
 (
 (binOp PP .gtr 3 x1 I0).bind fun x74 =>
 G _ x74 true (some (x0, σ42)) σ42 fun x76 σ59 =>
 G _ x74 true (some (x1, σ59)) σ59 fun x77 σ60 =>
 G _ x74 true ((binOp PP .sub 3 x77 I1).bind fun v => some (v, σ60)) σ60 fun x78 σ61 =>
 G _ x74 true ((indexAddr PP 22 x76 x78).bind fun v => some (v, σ61)) σ61 fun x79 σ62 =>
 G _ x74 true ((load PP 3 x79 σ62).bind fun v => some (v, σ62)) σ62 fun x80 σ63 =>
 G _ x74 true (some (x0, σ63)) σ63 fun x81 σ64 =>
 G _ x74 true (some (x47, σ64)) σ64 fun x82 σ65 =>
 G _ x74 true ((indexAddr PP 22 x81 x82).bind fun v => some (v, σ65)) σ65 fun x83 σ66 =>
 G _ x74 true ((load PP 3 x83 σ66).bind fun v => some (v, σ66)) σ66 fun x84 σ67 =>
 G _ x74 true ((pureFn CC (DV.fn 142 []) [x80, x84] σ67).bind fun v => some (v, σ67)) σ67 fun x85 σ68 =>
 G _ x74 true ((unOp .not x85).bind fun v => some (v, σ68)) σ68 fun x86 σ69 =>
 (pickV x74 x86 (DV.p (PV.bool false))).bind fun x87 =>
 condK x87
 (
 (plainFn CC lo (DV.fn 143 []) [x0, x1, x2, x47] σ69).bind fun r92_70 =>
 f123_L0 G lo x0 r92_70.1 x2 x41 x8 x9 r92_70.2
 )
 (
 (plainFn CC lo (DV.fn 144 []) [x0, x1, x2, x47] σ69).bind fun r99_71 =>
 (extractV r99_71.1 0).bind fun x100 =>
 (extractV r99_71.1 1).bind fun x101 =>
 (binOp PP .sub 3 x100 x1).bind fun x105 =>
 (binOp PP .sub 3 x2 x100).bind fun x108 =>
 (binOp PP .quo 3 x21 (DV.p (PV.int IntKind.i64 (8)))).bind fun x110 =>
 (binOp PP .lss 3 x105 x108).bind fun x113 =>
 condK x113
 (
 (binOp PP .geq 3 x105 x110).bind fun x116 =>
 (plainFn CC lo (DV.fn 123 []) [x0, x1, x100, x41] r99_71.2).bind fun r121_72 =>
 (binOp PP .add 3 x100 I1).bind fun x123 =>
 f123_L0 G lo x0 x123 x2 x41 x116 x101 r121_72.2
 )
 (
 (binOp PP .geq 3 x108 x110).bind fun x126 =>
 (binOp PP .add 3 x100 I1).bind fun x129 =>
 (plainFn CC lo (DV.fn 123 []) [x0, x129, x2, x41] r99_71.2).bind fun r132_73 =>
 f123_L0 G lo x0 x1 x100 x41 x126 x101 r132_73.2
 )
 )
 )
 )
 )
 (
 (plainFn CC lo (DV.fn 139 []) [x0, x1, x2] σ).bind fun r46_74 =>
 (extractV r46_74.1 0).bind fun x47 =>
 (extractV r46_74.1 1).bind fun x48 =>
 (binOp PP .eql 169 x48 (DV.p (PV.int IntKind.i64 (2)))).bind fun x50 =>
 condK x50
 (
 (plainFn CC lo (DV.fn 140 []) [x0, x1, x2] r46_74.2).bind fun r54_75 =>
 (binOp PP .sub 3 x2 I1).bind fun x56 =>
 (binOp PP .sub 3 x47 x1).bind fun x59 =>
 (binOp PP .sub 3 x56 x59).bind fun x60 =>
 G _ x8 true (some (x9, r54_75.2)) r54_75.2 fun x63 σ76 =>
 (pickV x8 x63 (DV.p (PV.bool false))).bind fun x64 =>
 G _ x64 true (some (I1, σ76)) σ76 fun x66 σ77 =>
 G _ x64 true ((binOp PP .eql 169 x66 I1).bind fun v => some (v, σ77)) σ77 fun x67 σ78 =>
 (pickV x64 x67 (DV.p (PV.bool false))).bind fun x68 =>
 condK x68
 (
 (plainFn CC lo (DV.fn 141 []) [x0, x1, x2] σ78).bind fun r72_79 =>
 condK r72_79.1
 (
 some ((DV.tuple []), r72_79.2)
 )
 (
 (binOp PP .gtr 3 x1 I0).bind fun x74 =>
 G _ x74 true (some (x0, r72_79.2)) r72_79.2 fun x76 σ80 =>
 G _ x74 true (some (x1, σ80)) σ80 fun x77 σ81 =>
 G _ x74 true ((binOp PP .sub 3 x77 I1).bind fun v => some (v, σ81)) σ81 fun x78 σ82 =>
 G _ x74 true ((indexAddr PP 22 x76 x78).bind fun v => some (v, σ82)) σ82 fun x79 σ83 =>
 G _ x74 true ((load PP 3 x79 σ83).bind fun v => some (v, σ83)) σ83 fun x80 σ84 =>
 G _ x74 true (some (x0, σ84)) σ84 fun x81 σ85 =>
 G _ x74 true (some (x60, σ85)) σ85 fun x82 σ86 =>
 G _ x74 true ((indexAddr PP 22 x81 x82).bind fun v => some (v, σ86)) σ86 fun x83 σ87 =>
 G _ x74 true ((load PP 3 x83 σ87).bind fun v => some (v, σ87)) σ87 fun x84 σ88 =>
 G _ x74 true ((pureFn CC (DV.fn 142 []) [x80, x84] σ88).bind fun v => some (v, σ88)) σ88 fun x85 σ89 =>
 G _ x74 true ((unOp .not x85).bind fun v => some (v, σ89)) σ89 fun x86 σ90 =>
 (pickV x74 x86 (DV.p (PV.bool false))).bind fun x87 =>
 condK x87
 (
 (plainFn CC lo (DV.fn 143 []) [x0, x1, x2, x60] σ90).bind fun r92_91 =>
 f123_L0 G lo x0 r92_91.1 x2 x3 x8 x9 r92_91.2
 )
 (
 (plainFn CC lo (DV.fn 144 []) [x0, x1, x2, x60] σ90).bind fun r99_92 =>
 (extractV r99_92.1 0).bind fun x100 =>
 (extractV r99_92.1 1).bind fun x101 =>
 (binOp PP .sub 3 x100 x1).bind fun x105 =>
 (binOp PP .sub 3 x2 x100).bind fun x108 =>
 (binOp PP .quo 3 x21 (DV.p (PV.int IntKind.i64 (8)))).bind fun x110 =>
 (binOp PP .lss 3 x105 x108).bind fun x113 =>
 condK x113
 (
 (binOp PP .geq 3 x105 x110).bind fun x116 =>
 (plainFn CC lo (DV.fn 123 []) [x0, x1, x100, x3] r99_92.2).bind fun r121_93 =>
 (binOp PP .add 3 x100 I1).bind fun x123 =>
 f123_L0 G lo x0 x123 x2 x3 x116 x101 r121_93.2
 )
 (
 (binOp PP .geq 3 x108 x110).bind fun x126 =>
 (binOp PP .add 3 x100 I1).bind fun x129 =>
 (plainFn CC lo (DV.fn 123 []) [x0, x129, x2, x3] r99_92.2).bind fun r132_94 =>
 f123_L0 G lo x0 x1 x100 x3 x126 x101 r132_94.2
 )
 )
 )
 )
 (
 (binOp PP .gtr 3 x1 I0).bind fun x74 =>
 G _ x74 true (some (x0, σ78)) σ78 fun x76 σ95 =>
 G _ x74 true (some (x1, σ95)) σ95 fun x77 σ96 =>
 G _ x74 true ((binOp PP .sub 3 x77 I1).bind fun v => some (v, σ96)) σ96 fun x78 σ97 =>
 G _ x74 true ((indexAddr PP 22 x76 x78).bind fun v => some (v, σ97)) σ97 fun x79 σ98 =>
 G _ x74 true ((load PP 3 x79 σ98).bind fun v => some (v, σ98)) σ98 fun x80 σ99 =>
 G _ x74 true (some (x0, σ99)) σ99 fun x81 σ100 =>
 G _ x74 true (some (x60, σ100)) σ100 fun x82 σ101 =>
 G _ x74 true ((indexAddr PP 22 x81 x82).bind fun v => some (v, σ101)) σ101 fun x83 σ102 =>
 G _ x74 true ((load PP 3 x83 σ102).bind fun v => some (v, σ102)) σ102 fun x84 σ103 =>
 G _ x74 true ((pureFn CC (DV.fn 142 []) [x80, x84] σ103).bind fun v => some (v, σ103)) σ103 fun x85 σ104 =>
 G _ x74 true ((unOp .not x85).bind fun v => some (v, σ104)) σ104 fun x86 σ105 =>
 (pickV x74 x86 (DV.p (PV.bool false))).bind fun x87 =>
 condK x87
 (
 (plainFn CC lo (DV.fn 143 []) [x0, x1, x2, x60] σ105).bind fun r92_106 =>
 f123_L0 G lo x0 r92_106.1 x2 x3 x8 x9 r92_106.2
 )
 (
 (plainFn CC lo (DV.fn 144 []) [x0, x1, x2, x60] σ105).bind fun r99_107 =>
 (extractV r99_107.1 0).bind fun x100 =>
 (extractV r99_107.1 1).bind fun x101 =>
 (binOp PP .sub 3 x100 x1).bind fun x105 =>
 (binOp PP .sub 3 x2 x100).bind fun x108 =>
 (binOp PP .quo 3 x21 (DV.p (PV.int IntKind.i64 (8)))).bind fun x110 =>
 (binOp PP .lss 3 x105 x108).bind fun x113 =>
 condK x113
 (
 (binOp PP .geq 3 x105 x110).bind fun x116 =>
 (plainFn CC lo (DV.fn 123 []) [x0, x1, x100, x3] r99_107.2).bind fun r121_108 =>
 (binOp PP .add 3 x100 I1).bind fun x123 =>
 f123_L0 G lo x0 x123 x2 x3 x116 x101 r121_108.2
 )
 (
 (binOp PP .geq 3 x108 x110).bind fun x126 =>
 (binOp PP .add 3 x100 I1).bind fun x129 =>
 (plainFn CC lo (DV.fn 123 []) [x0, x129, x2, x3] r99_107.2).bind fun r132_109 =>
 f123_L0 G lo x0 x1 x100 x3 x126 x101 r132_109.2
 )
 )
 )
 )
 (
 G _ x8 true (some (x9, r46_74.2)) r46_74.2 fun x63 σ110 =>
 (pickV x8 x63 (DV.p (PV.bool false))).bind fun x64 =>
 G _ x64 true (some (x48, σ110)) σ110 fun x66 σ111 =>
 G _ x64 true ((binOp PP .eql 169 x66 I1).bind fun v => some (v, σ111)) σ111 fun x67 σ112 =>
 (pickV x64 x67 (DV.p (PV.bool false))).bind fun x68 =>
 condK x68
 (
 (plainFn CC lo (DV.fn 141 []) [x0, x1, x2] σ112).bind fun r72_113 =>
 condK r72_113.1
 (
 some ((DV.tuple []), r72_113.2)
 )
 (
 (binOp PP .gtr 3 x1 I0).bind fun x74 =>
 G _ x74 true (some (x0, r72_113.2)) r72_113.2 fun x76 σ114 =>
 G _ x74 true (some (x1, σ114)) σ114 fun x77 σ115 =>
 G _ x74 true ((binOp PP .sub 3 x77 I1).bind fun v => some (v, σ115)) σ115 fun x78 σ116 =>
 G _ x74 true ((indexAddr PP 22 x76 x78).bind fun v => some (v, σ116)) σ116 fun x79 σ117 =>
 G _ x74 true ((load PP 3 x79 σ117).bind fun v => some (v, σ117)) σ117 fun x80 σ118 =>
 G _ x74 true (some (x0, σ118)) σ118 fun x81 σ119 =>
 G _ x74 true (some (x47, σ119)) σ119 fun x82 σ120 =>
 G _ x74 true ((indexAddr PP 22 x81 x82).bind fun v => some (v, σ120)) σ120 fun x83 σ121 =>
 G _ x74 true ((load PP 3 x83 σ121).bind fun v => some (v, σ121)) σ121 fun x84 σ122 =>
 G _ x74 true ((pureFn CC (DV.fn 142 []) [x80, x84] σ122).bind fun v => some (v, σ122)) σ122 fun x85 σ123 =>
 G _ x74 true ((unOp .not x85).bind fun v => some (v, σ123)) σ123 fun x86 σ124 =>
 (pickV x74 x86 (DV.p (PV.bool false))).bind fun x87 =>
 condK x87
 (
 (plainFn CC lo (DV.fn 143 []) [x0, x1, x2, x47] σ124).bind fun r92_125 =>
 f123_L0 G lo x0 r92_125.1 x2 x3 x8 x9 r92_125.2
 )
 (
 (plainFn CC lo (DV.fn 144 []) [x0, x1, x2, x47] σ124).bind fun r99_126 =>
 (extractV r99_126.1 0).bind fun x100 =>
 (extractV r99_126.1 1).bind fun x101 =>
 (binOp PP .sub 3 x100 x1).bind fun x105 =>
 (binOp PP .sub 3 x2 x100).bind fun x108 =>
 (binOp PP .quo 3 x21 (DV.p (PV.int IntKind.i64 (8)))).bind fun x110 =>
 (binOp PP .lss 3 x105 x108).bind fun x113 =>
 condK x113
 (
 (binOp PP .geq 3 x105 x110).bind fun x116 =>
 (plainFn CC lo (DV.fn 123 []) [x0, x1, x100, x3] r99_126.2).bind fun r121_127 =>
 (binOp PP .add 3 x100 I1).bind fun x123 =>
 f123_L0 G lo x0 x123 x2 x3 x116 x101 r121_127.2
 )
 (
 (binOp PP .geq 3 x108 x110).bind fun x126 =>
 (binOp PP .add 3 x100 I1).bind fun x129 =>
 (plainFn CC lo (DV.fn 123 []) [x0, x129, x2, x3] r99_126.2).bind fun r132_128 =>
 f123_L0 G lo x0 x1 x100 x3 x126 x101 r132_128.2
 )
 )
 )
 )
 (
 (binOp PP .gtr 3 x1 I0).bind fun x74 =>
 G _ x74 true (some (x0, σ112)) σ112 fun x76 σ129 =>
 G _ x74 true (some (x1, σ129)) σ129 fun x77 σ130 =>
 G _ x74 true ((binOp PP .sub 3 x77 I1).bind fun v => some (v, σ130)) σ130 fun x78 σ131 =>
 G _ x74 true ((indexAddr PP 22 x76 x78).bind fun v => some (v, σ131)) σ131 fun x79 σ132 =>
 G _ x74 true ((load PP 3 x79 σ132).bind fun v => some (v, σ132)) σ132 fun x80 σ133 =>
 G _ x74 true (some (x0, σ133)) σ133 fun x81 σ134 =>
 G _ x74 true (some (x47, σ134)) σ134 fun x82 σ135 =>
 G _ x74 true ((indexAddr PP 22 x81 x82).bind fun v => some (v, σ135)) σ135 fun x83 σ136 =>
 G _ x74 true ((load PP 3 x83 σ136).bind fun v => some (v, σ136)) σ136 fun x84 σ137 =>
 G _ x74 true ((pureFn CC (DV.fn 142 []) [x80, x84] σ137).bind fun v => some (v, σ137)) σ137 fun x85 σ138 =>
 G _ x74 true ((unOp .not x85).bind fun v => some (v, σ138)) σ138 fun x86 σ139 =>
 (pickV x74 x86 (DV.p (PV.bool false))).bind fun x87 =>
 condK x87
 (
 (plainFn CC lo (DV.fn 143 []) [x0, x1, x2, x47] σ139).bind fun r92_140 =>
 f123_L0 G lo x0 r92_140.1 x2 x3 x8 x9 r92_140.2
 )
 (
 (plainFn CC lo (DV.fn 144 []) [x0, x1, x2, x47] σ139).bind fun r99_141 =>
 (extractV r99_141.1 0).bind fun x100 =>
 (extractV r99_141.1 1).bind fun x101 =>
 (binOp PP .sub 3 x100 x1).bind fun x105 =>
 (binOp PP .sub 3 x2 x100).bind fun x108 =>
 (binOp PP .quo 3 x21 (DV.p (PV.int IntKind.i64 (8)))).bind fun x110 =>
 (binOp PP .lss 3 x105 x108).bind fun x113 =>
 condK x113
 (
 (binOp PP .geq 3 x105 x110).bind fun x116 =>
 (plainFn CC lo (DV.fn 123 []) [x0, x1, x100, x3] r99_141.2).bind fun r121_142 =>
 (binOp PP .add 3 x100 I1).bind fun x123 =>
 f123_L0 G lo x0 x123 x2 x3 x116 x101 r121_142.2
 )
 (
 (binOp PP .geq 3 x108 x110).bind fun x126 =>
 (binOp PP .add 3 x100 I1).bind fun x129 =>
 (plainFn CC lo (DV.fn 123 []) [x0, x129, x2, x3] r99_141.2).bind fun r132_143 =>
 f123_L0 G lo x0 x1 x100 x3 x126 x101 r132_143.2
 )
 )
 )
 )
 )
 )
 ) := (loopF_eq G hG).trans (by kernel_rfl)
theorem f123_L0_eq (G : GuardT) (hG : GuardOk G) (lo : Nat) (x0 x1 x2 x3 x8 x9 : DV) (σ : Store) : f123_L0 G lo x0 x1 x2 x3 x8 x9 σ =
 (binOp PP .sub 3 x2 x1).bind fun x21 =>
 (binOp PP .leq 3 x21 (DV.p (PV.int IntKind.i64 (12)))).bind fun x23 =>
 condK x23
 (
 (plainFn CC lo (DV.fn 136 []) [x0, x1, x2] σ).bind fun r27_1 =>
 some ((DV.tuple []), r27_1.2)
 )
 (
 (binOp PP .eql 3 x3 I0).bind fun x29 =>
 condK x29
 (
 (plainFn CC lo (DV.fn 137 []) [x0, x1, x2] σ).bind fun r33_2 =>
 some ((DV.tuple []), r33_2.2)
 )
 (
 (unOp .not x8).bind fun x35 =>
 condK x35
 (
 (plainFn CC lo (DV.fn 138 []) [x0, x1, x2] σ).bind fun r39_3 =>
 (binOp PP .sub 3 x3 I1).bind fun x41 =>
 f123_J0 G lo x0 x1 x2 x41 x8 x9 x21 x2 x1 x21 x21 x23 x3 x29 x8 x35 x0 x1 x2 r39_3.1 x3 x41 r39_3.2
 )
 (
 f123_J0 G lo x0 x1 x2 x3 x8 x9 x21 x2 x1 x21 x21 x23 x3 x29 x8 x35 Z Z Z Z Z Z σ
 )
 )
 ) := (f123_L0_eqN G hG lo x0 x1 x2 x3 x8 x9 σ).trans (by simp only [f123_J0_eq, f123_J1_eq, f123_J2_eq])
theorem F123_eq (G : GuardT) (lo : Nat) (x0 x1 x2 x3 : DV) (σ : Store) : F123 G lo x0 x1 x2 x3 σ =
 f123_L0 G lo x0 x1 x2 x3 (DV.p (PV.bool true)) (DV.p (PV.bool true)) σ := by kernel_rfl
theorem F123_call {lo : Nat} {x0 x1 x2 x3 : DV} (h : F123 guardT lo x0 x1 x2 x3 σ = some r) : CC lo 123 [x0, x1, x2, x3] σ = some r :=
 callL_run Tryz.func123 (by decide +kernel) rfl (by decide +kernel) h
def c136_0 : Code := bodyOf Tryz.f136
def a136_0 : Ann := (pol 136).ann
def a136_2 : Ann := right a136_0
def a136_3 : Ann := left a136_2
def c136_4 : Code := fstC (fstC (sndC c136_0))
def a136_11 : Ann := left (right (left a136_3))
def a136_14 : Ann := right (left a136_11)
def a136_15 : Ann := left a136_14
def c136_16 : Code := fstC (fstC (sndC (fstC (fstC (sndC c136_4)))))
def c136_26 : Code := sndC (sndC c136_4)
def a136_26 : Ann := right (right (left a136_3))
def f136_L0 (x0 x1 x2 x6 : DV) (σ : Store) : RS :=
 codeF G PP (pol 136) CC lo (.loop c136_4) a136_3 (x0 :: x1 :: x2 :: Z :: Z :: Z :: x6 :: zn 42 []) σ
 (blockC 0 a136_2 (finR PP Tryz.f136.results.toList))
def f136_L1 (x0 x1 x2 x6 x7 : DV) (σ : Store) : RS :=
 codeF G PP (pol 136) CC lo (.loop c136_16) a136_15 (x0 :: x1 :: x2 :: Z :: Z :: Z :: x6 :: x7 :: zn 41 []) σ
 (blockC 2 a136_14 (blockC 1 a136_11 (seqC G PP (pol 136) CC lo c136_26 a136_26 (loopC G PP (pol 136) CC lo c136_4 a136_3 (blockC 0 a136_2 (finR PP Tryz.f136.results.toList))))))
def F136 (x0 x1 x2 : DV) (σ : Store) : RS :=
 codeF G PP (pol 136) CC lo c136_0 a136_0 (x0 :: x1 :: x2 :: zn 46 []) σ (finR PP Tryz.f136.results.toList)
theorem f136_L0_eq (G : GuardT) (hG : GuardOk G) (lo : Nat) (x0 x1 x2 x6 : DV) (σ : Store) : f136_L0 G lo x0 x1 x2 x6 σ =
 (binOp PP .lss 3 x6 x2).bind fun x12 =>
 condK x12
 (
 f136_L1 G lo x0 x1 x2 x6 x6 σ
 )
 (
 some ((DV.tuple []), σ)
 ) := (loopF_eq G hG).trans (by kernel_rfl)
theorem f136_L1_eq (G : GuardT) (hG : GuardOk G) (lo : Nat) (x0 x1 x2 x6 x7 : DV) (σ : Store) : f136_L1 G lo x0 x1 x2 x6 x7 σ =
 (binOp PP .gtr 3 x7 x1).bind fun x18 =>
 G _ x18 true (some (x0, σ)) σ fun x20 σ1 =>
 G _ x18 true (some (x7, σ1)) σ1 fun x21 σ2 =>
 G _ x18 true ((indexAddr PP 22 x20 x21).bind fun v => some (v, σ2)) σ2 fun x22 σ3 =>
 G _ x18 true ((load PP 3 x22 σ3).bind fun v => some (v, σ3)) σ3 fun x23 σ4 =>
 G _ x18 true (some (x0, σ4)) σ4 fun x24 σ5 =>
 G _ x18 true (some (x7, σ5)) σ5 fun x25 σ6 =>
 G _ x18 true ((binOp PP .sub 3 x25 I1).bind fun v => some (v, σ6)) σ6 fun x26 σ7 =>
 G _ x18 true ((indexAddr PP 22 x24 x26).bind fun v => some (v, σ7)) σ7 fun x27 σ8 =>
 G _ x18 true ((load PP 3 x27 σ8).bind fun v => some (v, σ8)) σ8 fun x28 σ9 =>
 G _ x18 true ((pureFn CC (DV.fn 142 []) [x23, x28] σ9).bind fun v => some (v, σ9)) σ9 fun x29 σ10 =>
 (pickV x18 x29 (DV.p (PV.bool false))).bind fun x30 =>
 condK x30
 (
 (binOp PP .sub 3 x7 I1).bind fun x37 =>
 (binOp PP .sub 3 x7 I1).bind fun x40 =>
 (indexAddr PP 22 x0 x40).bind fun x41 =>
 (load PP 3 x41 σ10).bind fun x42 =>
 (indexAddr PP 22 x0 x7).bind fun x45 =>
 (load PP 3 x45 σ10).bind fun x46 =>
 (indexAddr PP 22 x0 x7).bind fun x47 =>
 (store PP lo 3 x47 x42 σ10).bind fun σ11 =>
 (indexAddr PP 22 x0 x37).bind fun x48 =>
 (store PP lo 3 x48 x46 σ11).bind fun σ12 =>
 (binOp PP .sub 3 x7 I1).bind fun x32 =>
 f136_L1 G lo x0 x1 x2 x6 x32 σ12
 )
 (
 (binOp PP .add 3 x6 I1).bind fun x14 =>
 f136_L0 G lo x0 x1 x2 x14 σ10
 ) := (loopF_eq G hG).trans (by kernel_rfl)
theorem F136_eq (G : GuardT) (lo : Nat) (x0 x1 x2 : DV) (σ : Store) : F136 G lo x0 x1 x2 σ =
 (binOp PP .add 3 x1 I1).bind fun x9 =>
 f136_L0 G lo x0 x1 x2 x9 σ := by kernel_rfl
theorem F136_call {lo : Nat} {x0 x1 x2 : DV} (h : F136 guardT lo x0 x1 x2 σ = some r) : CC lo 136 [x0, x1, x2] σ = some r :=
 callL_run Tryz.func136 (by decide +kernel) rfl (by decide +kernel) h
def c142_0 : Code := bodyOf Tryz.f142
def a142_0 : Ann := (pol 142).ann
def F142 (x0 x1 : DV) (σ : Store) : RS :=
 codeF G PP (pol 142) CC lo c142_0 a142_0 (x0 :: x1 :: zn 15 []) σ (finR PP Tryz.f142.results.toList)
theorem F142_eq (G : GuardT) (lo : Nat) (x0 x1 : DV) (σ : Store) : F142 G lo x0 x1 σ =
 (pureFn CC (DV.fn 120 []) [x0] σ).bind fun x6 =>
 G _ x6 true (some (x1, σ)) σ fun x8 σ1 =>
 G _ x6 true ((pureFn CC (DV.fn 120 []) [x8] σ1).bind fun v => some (v, σ1)) σ1 fun x9 σ2 =>
 G _ x6 true ((unOp .not x9).bind fun v => some (v, σ2)) σ2 fun x10 σ3 =>
 (pickV x6 x10 (DV.p (PV.bool false))).bind fun x11 =>
 G _ x11 false (some (x0, σ3)) σ3 fun x13 σ4 =>
 G _ x11 false (some (x1, σ4)) σ4 fun x14 σ5 =>
 G _ x11 false ((binOp PP .lss 3 x13 x14).bind fun v => some (v, σ5)) σ5 fun x15 σ6 =>
 (pickV x11 (DV.p (PV.bool true)) x15).bind fun x16 =>
 some (x16, σ6) := by kernel_rfl
theorem F142_call {lo : Nat} {x0 x1 : DV} (h : F142 guardT lo x0 x1 σ = some r) : CC lo 142 [x0, x1] σ = some r :=
 callL_run Tryz.func142 (by decide +kernel) rfl (by decide +kernel) h
def c114_0 : Code := bodyOf Tryz.f114
def a114_0 : Ann := (pol 114).ann
def a114_13 : Ann := right (left (right (right a114_0)))
def a114_14 : Ann := left a114_13
def c114_15 : Code := fstC (fstC (sndC (fstC (sndC (sndC c114_0)))))
def a114_22 : Ann := left (right (left a114_14))
def a114_31 : Ann := right (left (right (left (right (left a114_22)))))
def a114_32 : Ann := left a114_31
def c114_33 : Code := fstC (fstC (sndC (fstC (sndC (fstC (sndC (fstC (fstC (sndC c114_15)))))))))
def c114_49 : Code := sndC (sndC (fstC (sndC (fstC (fstC (sndC c114_15))))))
def a114_49 : Ann := right (right (left (right (left a114_22))))
def c114_55 : Code := sndC (sndC c114_15)
def a114_55 : Ann := right (right (left a114_14))
def c114_56 : Code := sndC (sndC (sndC c114_0))
def a114_56 : Ann := right (right (right a114_0))
def f114_L0 (x0 x3 : DV) (σ : Store) : RS :=
 codeF G PP (pol 114) CC lo (.loop c114_15) a114_14 (x0 :: Z :: Z :: x3 :: zn 57 []) σ
 (blockC 0 a114_13 (seqC G PP (pol 114) CC lo c114_56 a114_56 (finR PP Tryz.f114.results.toList)))
def f114_L1 (x0 x3 x4 x5 : DV) (σ : Store) : RS :=
 codeF G PP (pol 114) CC lo (.loop c114_33) a114_32 (x0 :: Z :: Z :: x3 :: x4 :: x5 :: zn 55 []) σ
 (blockC 2 a114_31 (seqC G PP (pol 114) CC lo c114_49 a114_49 (blockC 1 a114_22 (seqC G PP (pol 114) CC lo c114_55 a114_55 (loopC G PP (pol 114) CC lo c114_15 a114_14 (blockC 0 a114_13 (seqC G PP (pol 114) CC lo c114_56 a114_56 (finR PP Tryz.f114.results.toList))))))))
def F114 (x0 : DV) (σ : Store) : RS :=
 codeF G PP (pol 114) CC lo c114_0 a114_0 (x0 :: zn 60 []) σ (finR PP Tryz.f114.results.toList)
theorem f114_L0_eq (G : GuardT) (hG : GuardOk G) (lo : Nat) (x0 x3 : DV) (σ : Store) : f114_L0 G lo x0 x3 σ =
 (len PP 22 x0 σ).bind fun x12 =>
 (binOp PP .lss 3 x3 x12).bind fun x13 =>
 condK x13
 (
 (indexAddr PP 22 x0 x3).bind fun x18 =>
 (load PP 3 x18 σ).bind fun x19 =>
 (binOp PP .sub 3 x3 I1).bind fun x22 =>
 (indexAddr PP 22 x0 x22).bind fun x23 =>
 (load PP 3 x23 σ).bind fun x24 =>
 (binOp PP .eql 3 x19 x24).bind fun x25 =>
 condK x25
 (
 (sliceOp PP 22 x0 (some x3) none none).bind fun x28 =>
 f114_L1 G lo x0 x3 x28 I1 σ
 )
 (
 (binOp PP .add 3 x3 I1).bind fun x15 =>
 f114_L0 G lo x0 x15 σ
 )
 )
 (
 some (x0, σ)
 ) := (loopF_eq G hG).trans (by kernel_rfl)
theorem F114_eq (G : GuardT) (lo : Nat) (x0 : DV) (σ : Store) : F114 G lo x0 σ =
 (len PP 22 x0 σ).bind fun x7 =>
 (binOp PP .lss 3 x7 (DV.p (PV.int IntKind.i64 (2)))).bind fun x8 =>
 condK x8
 (
 some (x0, σ)
 )
 (
 f114_L0 G lo x0 I1 σ
 ) := by kernel_rfl
theorem F114_call {lo : Nat} {x0 : DV} (h : F114 guardT lo x0 σ = some r) : CC lo 114 [x0] σ = some r :=
 callL_run Tryz.func114 (by decide +kernel) rfl (by decide +kernel) h
end
end Go.D
end
/- Chapter 22: graph, third part: the numbers of the first states; ascending numbers are sorted. -/
section
set_option linter.unusedVariables false
set_option linter.unusedSimpArgs false
namespace Go.D.StS
open Go.D.Srt
def RowG (σ : Store) (B sz n : Nat) (cs : List PV) (x : DV) : Prop := cs.length = n * sz ∧ ((n = 0 ∧ x = .p .nilsl) ∨ (n ≠ 0 ∧ ∃ r, x = .rsl r sz 0 n ∧ σ[r]? = some (.mix (cs.map DV.p)) ∧ B ≤ r))
def rowR : DV → Option Nat
  | .rsl r _ _ _ => some r
  | _ => none
def KeepBut (x : DV) (σ σ' : Store) : Prop := ∀ (j : Nat) (row : Row), (∀ r, rowR x = some r → j ≠ r) → σ[j]? = some row → σ'[j]? = some row
theorem RowG.zero {σ : Store} {B sz : Nat} : RowG σ B sz 0 [] (.p .nilsl) := ⟨by simp, .inl ⟨rfl, rfl⟩⟩
theorem RowG.push {σ : Store} {t e lo B sz b n : Nat} {z : List DV} {cs vs : List PV} {x : DV} (hs : srcType PP t = true) (hu : PP.underlying t = some (.slice e)) (h1 : size? PP e = some sz) (h2 : bytes? PP e = some b) (h3 : zeroOf PP e = some z)
    (h4 : z.length = sz) (hz : 0 < sz) (hb : 0 < b) (hb2 : b ≤ 1000) (hv : vs.length = sz) (ho : RowG σ B sz n cs x) (hn : n ≤ 10000000) (hB : B ≤ σ.length) (hlo : lo ≤ B) :
    ∃ σ', append PP lo true t t x (.p (.sl true 1 vs)) σ = some (.rsl σ.length sz 0 (n + 1), σ') ∧ RowG σ' B sz (n + 1) (cs ++ vs) (.rsl σ.length sz 0 (n + 1)) ∧ KeepBut x σ σ' ∧ σ'.length = σ.length + 1 := by
  have hsrc : source σ sz (.p (.sl true 1 vs)) = some (1, vs.map DV.p) := by simp [source, hv]
  have hz0 : ¬ (z.length ≠ sz ∨ sz = 0) := by omega
  obtain ⟨hc, ho⟩ := ho
  rcases ho with ⟨rfl, rfl⟩ | ⟨hn0, r, rfl, hr, hl⟩
  · have : cs = [] := List.length_eq_zero_iff.1 (by simpa using hc)
    subst this
    refine ⟨σ ++ [.mix (vs.map DV.p)], ?_, ⟨by simp [hv], .inr ⟨by simp, σ.length, rfl, ?_, hB⟩⟩, fun j row _ g => get_old g, by simp⟩
    · have : b ≤ 140737488355328 := by omega
      simp only [append, hs, hu, h1, h2, h3, hz0, hsrc, appNil]
      simp [this, hb, h4, hz, Nat.ne_of_gt hz]
    · rw [List.nil_append]; exact get_snoc
  · have hrl := get_lt hr
    refine ⟨σ.set r .dead ++ [.mix ((cs ++ vs).map DV.p)], ?_, ⟨by simp [hc, hv, Nat.add_mul], .inr ⟨by simp, σ.length, rfl, ?_, hB⟩⟩, fun j row hj g => get_old (get_set_ne g (hj r rfl)), by simp⟩
    · have e1 : (n + 1) * b ≤ 140737488355328 := Nat.le_trans (Nat.mul_le_mul (show n + 1 ≤ 10000001 by omega) hb2) (by decide)
      have e2 : n + 1 ≤ 140737488355328 := by omega
      have e3 : lo ≤ r := by omega
      have e4 : ¬ (0 + (n + 1) * sz ≤ (cs.map DV.p).length) := by rw [List.length_map, hc, Nat.add_mul]; omega
      have e5 : 0 + n * sz = (cs.map DV.p).length := by rw [List.length_map, hc]; omega
      have e6 : (vs.map DV.p).all DV.one = true := by simp [DV.one]
      have e7 : (List.map DV.p cs).take (n * sz) = List.map DV.p cs := List.take_of_length_le (by rw [List.length_map, hc]; exact Nat.le_refl _)
      simp only [append, hs, hu, h1, h2, h3, hz0, hsrc, appRow]
      have e8 : ¬ (n * sz + sz ≤ n * sz) := by omega
      have e9 : n * b + b ≤ 140737488355328 := by rw [Nat.add_mul] at e1; omega
      simp [e9, e8, e2, e3, hr, e6, hc, hb, h4, Nat.add_mul, hv, Nat.ne_of_gt hz]
    · have : (σ.set r .dead).length = σ.length := by simp
      rw [← this]; exact get_snoc
theorem RowG.snoc {σ : Store} {B sz n : Nat} {cs : List PV} {x : DV} (h : RowG σ B sz n cs x) (row : Row) : RowG (σ ++ [row]) B sz n cs x := by
  refine ⟨h.1, ?_⟩
  rcases h.2 with h1 | ⟨h0, r, e1, e2, e3⟩
  · exact .inl h1
  · exact .inr ⟨h0, r, e1, get_old e2, e3⟩
theorem RowG.setNe {σ : Store} {B sz n q : Nat} {cs : List PV} {x : DV} {row : Row} (h : RowG σ B sz n cs x) (hq : q < B) : RowG (σ.set q row) B sz n cs x := by
  refine ⟨h.1, ?_⟩
  rcases h.2 with h1 | ⟨h0, r, e1, e2, e3⟩
  · exact .inl h1
  · exact .inr ⟨h0, r, e1, get_set_ne e2 (by omega), e3⟩
theorem RowG.keep {σ σ' : Store} {B sz n : Nat} {cs : List PV} {x z : DV} (h : RowG σ B sz n cs x) (hk : KeepBut z σ σ') (ha : ∀ r, rowR z = some r → rowR x ≠ some r) : RowG σ' B sz n cs x := by
  refine ⟨h.1, ?_⟩
  rcases h.2 with h1 | ⟨h0, r, e1, e2, e3⟩
  · exact .inl h1
  · exact .inr ⟨h0, r, e1, hk r _ (fun q hq e => ha q hq (by rw [e1, e]; rfl)) e2, e3⟩
theorem RowL.keep {σ σ' : Store} {B : Nat} {A : List E} {x z : DV} (h : RowL σ B A x) (hk : KeepBut z σ σ') (ha : ∀ r, rowR z = some r → rowR x ≠ some r) : RowL σ' B A x := by
  rcases h with h1 | ⟨r, e1, e2, e3, e4⟩
  · exact .inl h1
  · exact .inr ⟨r, e1, hk r _ (fun q hq e => ha q hq (by rw [e1, e]; rfl)) e2, e3, e4⟩
theorem RowG.row_ge {σ : Store} {B sz n : Nat} {cs : List PV} {x : DV} (h : RowG σ B sz n cs x) {r : Nat} (hr : rowR x = some r) : B ≤ r ∧ r < σ.length ∧ σ[r]? = some (.mix (cs.map DV.p)) := by
  rcases h.2 with ⟨_, rfl⟩ | ⟨h0, r', rfl, e2, e3⟩
  · simp [rowR] at hr
  · have : r' = r := by simpa [rowR] using hr
    subst this
    exact ⟨e3, get_lt e2, e2⟩
theorem Out.keep {σ σ' : Store} {lo B sz n sz' n' : Nat} {cs cs' : List PV} {x z : DV} (h : Out σ lo sz n cs x) (hz : RowG σ B sz' n' cs' z) (hk : KeepBut z σ σ') : Out σ' lo sz n cs x := by
  refine ⟨h.1, ?_⟩
  rcases h.2 with h1 | ⟨h0, r, ver, e1, e2, e3⟩
  · exact .inl h1
  · refine .inr ⟨h0, r, ver, e1, hk r _ (fun q hq e => ?_) e2, e3⟩
    subst e
    have := (hz.row_ge hq).2.2
    rw [e2] at this
    cases this
theorem GY.keep {σ0 : Store} {ext o : List DV} {l : List (E × Int)} {A : List E} {y z : DV} {σ σ' : Store} {sz n : Nat} {cs : List PV} (h : GY σ0 ext l A o y σ) (hz : RowG σ (σ0.length + 5) sz n cs z) (hk : KeepBut z σ σ') (ha : ∀ r, rowR z = some r → rowR y ≠ some r) : GY σ0 ext l A o y σ' := by
  have hl := h.g.len
  obtain ⟨c, z1, z2⟩ := h.g.z2
  have km : ∀ (j : Nat) (row : Row), j < σ0.length + 5 → σ[j]? = some row → σ'[j]? = some row := fun j row hj e => hk j row (fun r hr => by have := (hz.row_ge hr).1; omega) e
  have hr := h.ry.keep hk ha
  refine ⟨⟨fun j hj => ?_, km _ _ (by omega) h.g.ex, ⟨c, km _ _ (by omega) z1, z2⟩, km _ _ (by omega) h.g.mp, km _ _ (by omega) h.g.ot, h.g.ol, y, km _ _ (by omega) h.ay, hr⟩, km _ _ (by omega) h.ay, hr⟩
  have hj2 := h.g.low j hj
  cases hx : σ0[j]? with
  | none => have := List.getElem?_eq_none_iff.1 hx; omega
  | some row =>
    rw [hx] at hj2
    exact km j row (by omega) hj2
theorem S142 (a b : Int) (σ : Store) : pureV CC 142 [.p (.int .i64 a), .p (.int .i64 b)] σ = some (.p (.bool (decide (a < b)))) := by
  refine pureV_free rfl rfl (F142_call (r := (.p (.bool (decide (a < b))), [])) ?_) rfl
  rw [F142_eq]
  have h := S120 a []
  simp only [pI] at h
  simp only [pureFn_fn, List.append_nil, h, gG, b_lss]
theorem idx22r {r n i : Nat} (h : i < n) : indexAddr PP 22 (.rsl r 1 0 n) (.p (.int .i64 (i : Nat))) = some (.ptr r i) := by
  have h2 : (0 : Int) ≤ (i : Int) ∧ (i : Int) < (n : Nat) := by omega
  simp [indexAddr, u22, s3, h2]
theorem ldI {σ : Store} {r i : Nat} {ds : List Int} (h : σ[r]? = some (.mix ((eInts ds).map DV.p))) (hi : i < ds.length) : load1 (.ptr r i) σ = some (.p (.int .i64 (ds.getD i 0))) := by
  refine load1_ptr h ?_
  rw [List.getElem?_map, eInts, List.getElem?_map, List.getD_eq_getElem?_getD, List.getElem?_eq_getElem hi]
  rfl
theorem len22r (r n : Nat) (σ : Store) : len PP 22 (.rsl r 1 0 n) σ = some (.p (.int .i64 (n : Nat))) := by simp [len, u22]
section
variable {σ : Store} {r : Nat} {ds : List Int} (h : σ[r]? = some (.mix ((eInts ds).map DV.p))) (hasc : ∀ i, i + 1 < ds.length → ds.getD i 0 ≤ ds.getD (i + 1) 0) (hn : ds.length ≤ 100000)
include h hasc hn
theorem asc_ins : ∀ (d i : Nat), ds.length - i = d → 1 ≤ i → f136_L0 guardT 0 (.rsl r 1 0 ds.length) (N 0) (N ds.length) (N i) σ = some (.tuple [], σ)
  | 0, i, hd, hi => by
    rw [f136_L0_eq guardT rfl]
    simp (disch := omega) only [N, b_lss, ltF, gG]
  | d + 1, i, hd, hi => by
    have ih := asc_ins d (i + 1) (by omega) (by omega)
    have hle := hasc (i - 1) (by omega)
    rw [show i - 1 + 1 = i by omega] at hle
    rw [← ih, f136_L0_eq guardT rfl]
    simp (disch := omega) only [N, b_lss, ltT, gG]
    rw [f136_L1_eq guardT rfl]
    simp (disch := omega) only [N, b_gtr, gtT, gG, idx22r, load3, ldI h, sub1, pureFn_fn, List.append_nil, S142, ltF, add1]
end
theorem S113 {σ : Store} {B : Nat} {ds : List Int} {x : DV} (hx : RowG σ B 1 ds.length (eInts ds) x) (hasc : ∀ i, i + 1 < ds.length → ds.getD i 0 ≤ ds.getD (i + 1) 0) (hn : ds.length ≤ 12) : CC 0 113 [x] σ = some (.tuple [], σ) := by
  obtain ⟨b, e1, h2, h3⟩ := bl_ok (n := ds.length) (by omega)
  have hl : len PP 22 x σ = some (.p (.int .i64 ((ds.length : Nat) : Int))) := by
    rcases hx.2 with ⟨e, rfl⟩ | ⟨h0, r, rfl, _, _⟩
    · rw [e, len22_nil]; rfl
    · exact len22r _ _ _
  have a1 : binOp PP .add 3 (.p (.int .i64 0)) (.p (.int .i64 1)) = some (.p (.int .i64 ((1 : Nat) : Int))) := add1 (a := 0) (by omega)
  have c0 : CC 0 136 [x, .p (.int .i64 0), .p (.int .i64 ((ds.length : Nat) : Int))] σ = some (.tuple [], σ) := by
    refine F136_call ?_
    rw [F136_eq]
    simp only [a1, gG]
    rcases hx.2 with ⟨e, rfl⟩ | ⟨h0, r, rfl, e2, _⟩
    · rw [e, f136_L0_eq guardT rfl]
      simp (disch := omega) only [b_lss, ltF, gG]
    · exact asc_ins e2 hasc (by omega) _ 1 rfl (Nat.le_refl 1)
  have c1 : CC 0 123 [x, .p (.int .i64 0), .p (.int .i64 ((ds.length : Nat) : Int)), I b] σ = some (.tuple [], σ) := by
    refine F123_call ?_
    have a2 : binOp PP .sub 3 (.p (.int .i64 ((ds.length : Nat) : Int))) (.p (.int .i64 0)) = some (.p (.int .i64 ((ds.length - 0 : Nat) : Int))) := subN (a := ds.length) (b := 0) (Nat.zero_le _) (by omega)
    rw [F123_eq, f123_L0_eq guardT rfl]
    simp (disch := omega) only [a2, b_leq, leT, gG, plainFn_fn, List.append_nil, c0]
  refine F113_call ?_
  simp only [I, U] at c1 e1
  rw [F113_eq]
  simp (disch := omega) only [hl, gG, cv_iu, pureFn_fn, plainFn_fn, List.append_nil, e1, c1]
section
variable {σ : Store} {r : Nat} {ds : List Int} (h : σ[r]? = some (.mix ((eInts ds).map DV.p))) (hasc : ∀ i, i + 1 < ds.length → ds.getD i 0 < ds.getD (i + 1) 0) (hn : ds.length ≤ 100000)
include h hasc hn
theorem asc_cmp : ∀ (d i : Nat), ds.length - i = d → 1 ≤ i → f114_L0 guardT 0 (.rsl r 1 0 ds.length) (N i) σ = some (.rsl r 1 0 ds.length, σ)
  | 0, i, hd, hi => by
    rw [f114_L0_eq guardT rfl]
    simp (disch := omega) only [N, len22r, b_lss, ltF, gG]
  | d + 1, i, hd, hi => by
    have ih := asc_cmp d (i + 1) (by omega) (by omega)
    have hle := hasc (i - 1) (by omega)
    rw [show i - 1 + 1 = i by omega] at hle
    rw [← ih, f114_L0_eq guardT rfl]
    simp (disch := omega) only [N, len22r, b_lss, ltT, gG, idx22r, load3, ldI h, sub1, b_eql, eqF, add1]
end
theorem S114 {σ : Store} {B : Nat} {ds : List Int} {x : DV} (hx : RowG σ B 1 ds.length (eInts ds) x) (hasc : ∀ i, i + 1 < ds.length → ds.getD i 0 < ds.getD (i + 1) 0) (hn : ds.length ≤ 100000) : CC 0 114 [x] σ = some (x, σ) := by
  refine F114_call ?_
  rw [F114_eq]
  rcases hx.2 with ⟨e, rfl⟩ | ⟨h0, r, rfl, e2, _⟩
  · simp (disch := omega) only [len22_nil, b_lss, ltT, gG]
  · by_cases h1 : ds.length < 2
    · simp (disch := omega) only [len22r, b_lss, ltT, gG]
    · simp (disch := omega) only [len22r, b_lss, ltF, gG]
      exact asc_cmp e2 hasc hn _ 1 rfl (Nat.le_refl 1)
end Go.D.StS
end
/- Chapter 22: graph, fourth part: the numbers of the first states. -/
section
set_option linter.unusedVariables false
set_option linter.unusedSimpArgs false
namespace Go.D.StS
open Go.D.Srt
def nums (B : List E) (l : List E) : List Int := l.map fun e => ((B.idxOf e : Nat) : Int)
theorem idx_mem {B : List E} {e : E} (h : e ∈ B) : B.idxOf e < B.length ∧ ge B (B.idxOf e) = e := by
  have h1 := List.idxOf_lt_length_of_mem h
  exact ⟨h1, by rw [ge_at h1]; exact List.getElem_idxOf h1⟩
structure GZ (σ0 : Store) (ext : List DV) (m : List (E × Int)) (B : List E) (n : DV) (is : List Int) (ix : DV) (es : List Edg) (ex bx ax y : DV) (σ : Store) : Prop where
  gy : GY σ0 ext m B [n, ix, ex, bx, ax] y σ
  gm : ∀ j, j < B.length → findZ m (ge B j) = some (j : Int)
  ob : Out σ (σ0.length + 5) 1 B.length (eInts (B.map Prod.fst)) bx
  oa : Out σ (σ0.length + 5) 1 B.length (eInts (B.map Prod.snd)) ax
  ap : Apart bx ax
  ri : RowG σ (σ0.length + 5) 1 is.length (eInts is) ix
  re : RowG σ (σ0.length + 5) 3 es.length (eEdgs es) ex
  iy : ∀ r, rowR ix = some r → rowR y ≠ some r
  ey : ∀ r, rowR ex = some r → rowR y ≠ some r
  ie : ∀ r, rowR ix = some r → rowR ex ≠ some r
section
variable {σ0 : Store} {ext : List DV} {m : List (E × Int)} {B : List E} {n : DV} {is : List Int} {ix ex : DV} {es : List Edg} {bx ax y : DV} {σ : Store}
theorem GZ.snoc (h : GZ σ0 ext m B n is ix es ex bx ax y σ) (row : Row) : GZ σ0 ext m B n is ix es ex bx ax y (σ ++ [row]) :=
  ⟨h.gy.snoc row, h.gm, Out.snocM h.ob row, Out.snocM h.oa row, h.ap, h.ri.snoc row, h.re.snoc row, h.iy, h.ey, h.ie⟩
theorem GZ.num (h : GZ σ0 ext m B n is ix es ex bx ax y σ) {e : E} (he : e ∈ B) : (findZ m e).getD 0 = ((B.idxOf e : Nat) : Int) := by
  obtain ⟨h1, h2⟩ := idx_mem he
  have := h.gm _ h1
  rw [h2] at this
  rw [this]; rfl
theorem row_new {y : DV} {σ : Store} {B : Nat} {A : List E} (h : RowL σ B A y) {r : Nat} (hr : σ.length ≤ r) : rowR y ≠ some r := by
  rcases h with ⟨_, rfl⟩ | ⟨r', rfl, e, _⟩
  · simp [rowR]
  · have := get_lt e
    simp [rowR]; omega
theorem rowG_new {y : DV} {σ : Store} {B sz n : Nat} {cs : List PV} (h : RowG σ B sz n cs y) {r : Nat} (hr : σ.length ≤ r) : rowR y ≠ some r := fun e => by
  have := (h.row_ge e).2.1
  omega
theorem GZ.pushI (h : GZ σ0 ext m B n is ix es ex bx ax y σ) (hn : is.length ≤ 100000) (v : Int) :
    ∃ ix' σ1, append PP 0 true 22 22 ix (.p (.sl true 1 [pI v])) σ = some (ix', σ1) ∧ store PP 0 22 (.ptr (σ0.length + 3) 1) ix' σ1 = some (σ1.set (σ0.length + 3) (.mix [n, ix', ex, bx, ax, .map (σ0.length + 2)])) ∧
      GZ σ0 ext m B n (is ++ [v]) ix' es ex bx ax y (σ1.set (σ0.length + 3) (.mix [n, ix', ex, bx, ax, .map (σ0.length + 2)])) := by
  have hl := h.gy.g.len
  obtain ⟨σ1, p1, p2, p3, p4⟩ := h.ri.push (lo := 0) (vs := [pI v]) src22 u22 s3 bytes3 zero3 rfl (by decide) (by decide) (by decide) rfl (by omega) hl (Nat.zero_le _)
  have hy := h.gy.keep h.ri p3 h.iy
  have hot := hy.g.ot
  have hst := st22_1 (v := .rsl σ.length 1 0 (is.length + 1)) hot rfl rfl
  refine ⟨_, σ1, p1, hst, ?_⟩
  have e1 : eInts is ++ [pI v] = eInts (is ++ [v]) := by simp [eInts]
  have e2 : (is ++ [v]).length = is.length + 1 := by simp
  rw [e1] at p2
  have hrow : ∀ r, rowR (.rsl σ.length 1 0 (is.length + 1)) = some r → σ.length ≤ r := fun r hr => by
    have : σ.length = r := by simpa [rowR] using hr
    omega
  refine ⟨hy.setO (o' := [n, .rsl σ.length 1 0 (is.length + 1), ex, bx, ax]) rfl, h.gm, Out.setLow (Out.keep h.ob h.ri p3) (by omega) _, Out.setLow (Out.keep h.oa h.ri p3) (by omega) _, h.ap, ?_, (h.re.keep p3 h.ie).setNe (by omega), ?_, h.ey, ?_⟩
  · rw [e2]; exact p2.setNe (by omega)
  · exact fun r hr => row_new h.gy.ry (hrow r hr)
  · exact fun r hr => rowG_new h.re (hrow r hr)
theorem GZ.pushE (h : GZ σ0 ext m B n is ix es ex bx ax y σ) (hn : es.length ≤ 1000000) (v : Edg) :
    ∃ ex' σ1, append PP 0 true 23 23 ex (.p (.sl true 1 (eEdg v))) σ = some (ex', σ1) ∧ store PP 0 23 (.ptr (σ0.length + 3) 2) ex' σ1 = some (σ1.set (σ0.length + 3) (.mix [n, ix, ex', bx, ax, .map (σ0.length + 2)])) ∧
      GZ σ0 ext m B n is ix (es ++ [v]) ex' bx ax y (σ1.set (σ0.length + 3) (.mix [n, ix, ex', bx, ax, .map (σ0.length + 2)])) := by
  have hl := h.gy.g.len
  obtain ⟨σ1, p1, p2, p3, p4⟩ := h.re.push (lo := 0) (vs := eEdg v) src23 u23 s69 bytes69 zero69 rfl (by decide) (by decide) (by decide) rfl (by omega) hl (Nat.zero_le _)
  have hy := h.gy.keep h.re p3 h.ey
  have hot := hy.g.ot
  have hst := st23_2 (v := .rsl σ.length 3 0 (es.length + 1)) hot rfl rfl
  refine ⟨_, σ1, p1, hst, ?_⟩
  have e1 : ∀ l : List Edg, eEdgs l ++ eEdg v = eEdgs (l ++ [v]) := fun l => by
    induction l with
    | nil => simp [eEdgs, eEdg]
    | cons a l ih => simp only [List.cons_append, eEdgs, List.append_assoc, ih]
  have e2 : (es ++ [v]).length = es.length + 1 := by simp
  rw [e1] at p2
  have hrow : ∀ r, rowR (.rsl σ.length 3 0 (es.length + 1)) = some r → σ.length ≤ r := fun r hr => by
    have : σ.length = r := by simpa [rowR] using hr
    omega
  refine ⟨hy.setO (o' := [n, ix, .rsl σ.length 3 0 (es.length + 1), bx, ax]) rfl, h.gm, Out.setLow (Out.keep h.ob h.re p3) (by omega) _, Out.setLow (Out.keep h.oa h.re p3) (by omega) _, h.ap, (h.ri.keep p3 (fun r hr he => h.ie r he hr)).setNe (by omega), ?_, h.iy, ?_, ?_⟩
  · rw [e2]; exact p2.setNe (by omega)
  · exact fun r hr => row_new h.gy.ry (hrow r hr)
  · exact fun r hr => fun he => rowG_new h.ri (r := r) (hrow r he) hr
end
section
variable {σ0 : Store} {ext : List DV} {m : List (E × Int)} {B : List E} {n : DV} {ex : DV} {es : List Edg} {bx ax y y0 : DV}
theorem gr_L4 {l : List E} (hx : ∀ k, k < l.length → indexAddr PP 134 y0 (.p (.int .i64 (k : Nat))) = some (.pptr (celsP l) (k * 2))) (hmem : ∀ e ∈ l, e ∈ B) (hl : l.length ≤ 12) (hasc : ∀ i, i + 1 < (nums B l).length → (nums B l).getD i 0 < (nums B l).getD (i + 1) 0) :
    ∀ (d k : Nat) (ix : DV) (σ : Store), l.length - k = d → k ≤ l.length → GZ σ0 ext m B n (nums B (l.take k)) ix es ex bx ax y σ →
    ∃ ix' σ', f85_L4 guardT 0 (.ptr σ0.length 0) (.ptr (σ0.length + 1) 0) (.ptr (σ0.length + 3) 0) (.ptr (σ0.length + 4) 0) y0 (N l.length) (N k) σ = f85_L5 guardT 0 (.ptr σ0.length 0) (.ptr (σ0.length + 1) 0) (.ptr (σ0.length + 3) 0) (.ptr (σ0.length + 4) 0) y (N B.length) (N 0) σ' ∧
      GZ σ0 ext m B n (nums B l) ix' es ex bx ax y σ'
  | 0, k, ix, σ, hd, hk, h => by
    have e : l.take k = l := List.take_of_length_le (by omega)
    rw [e] at h
    have hot := h.gy.g.ot
    simp only [shift_ptr, shift_pptr, Nat.zero_add, Nat.add_zero, pureFn_fn, List.append_nil, List.singleton_append, List.cons_append, List.nil_append] at hot
    have hln : (nums B l).length = l.length := by simp [nums]
    have h113 := S113 h.ri (fun i hi => Int.le_of_lt (hasc i hi)) (by omega)
    have h114 := S114 h.ri hasc (by omega)
    have hone : ix.one = true ∧ ix.cells = [ix] := by
      rcases h.ri.2 with ⟨_, rfl⟩ | ⟨_, q, rfl, _⟩ <;> exact ⟨rfl, rfl⟩
    have hst := st22_1 (v := ix) hot hone.1 hone.2
    have hsame : σ.set (σ0.length + 3) (.mix [n, ix, ex, bx, ax, .map (σ0.length + 2)]) = σ := by
      apply List.ext_getElem?
      intro i
      by_cases hi : i = σ0.length + 3
      · subst hi; rw [List.getElem?_set_self (get_lt hot), hot]
      · rw [List.getElem?_set_ne (by omega)]
    rw [hsame] at hst
    refine ⟨ix, σ, ?_, h⟩
    rw [f85_L4_eq guardT rfl]
    simp (disch := omega) only [N, b_lss, ltF, gG, fa95_0, fa33_0, fa25_1, shift_ptr, shift_pptr, Nat.zero_add, Nat.add_zero, pureFn_fn, List.append_nil, List.singleton_append, List.cons_append, List.nil_append, load22, load1_ptr (off := 1) hot rfl, plainFn_fn, h113, h114, hst, load134, load1_ptr (off := 0) h.gy.ay rfl, lenR h.gy.ry]
    rfl
  | d + 1, k, ix, σ, hd, hk, h => by
    have hkl : k < l.length := by omega
    have he : ge l k ∈ B := hmem _ (by rw [ge_at hkl]; exact List.getElem_mem hkl)
    have hsn := stNew (lo := 0) (σ := σ) (ge l k) (Nat.zero_le _)
    have h1 := h.snoc (.mix (cel (ge l k)))
    have hB : (σ ++ [Row.mix (cel (ge l k))])[σ.length]? = some (.mix (cel (ge l k))) := get_snoc
    have hlk := lookZ0 h1.gy.g.mp (ge l k)
    rw [h.num he] at hlk
    have hom := h1.gy.g.omap
    have hot := h1.gy.g.ot
    simp only [shift_ptr, shift_pptr, Nat.zero_add, Nat.add_zero, pureFn_fn, List.append_nil, List.singleton_append, List.cons_append, List.nil_append] at hot
    have hnl : (nums B (l.take k)).length ≤ 100000 := by simp [nums]; omega
    obtain ⟨ix2, σ1, p1, p2, p3⟩ := h1.pushI hnl ((B.idxOf (ge l k) : Nat) : Int)
    have e1 : nums B (l.take k) ++ [((B.idxOf (ge l k) : Nat) : Int)] = nums B (l.take (k + 1)) := by
      rw [List.take_succ_eq_append_getElem hkl, ge_at hkl]; unfold nums; rw [List.map_append]; rfl
    rw [e1] at p3
    obtain ⟨ix', σ', r1, r2⟩ := gr_L4 hx hmem hl hasc d (k + 1) ix2 _ (by omega) (by omega) p3
    refine ⟨ix', σ', ?_, r2⟩
    have hix := hx k hkl
    have hld := ldB hkl σ
    rw [← r1, f85_L4_eq guardT rfl]
    simp (disch := omega) only [N, b_lss, ltT, gG, hix, hld, zeroB, hsn, fa95_0, fa95_1, fa33_0, fa25_1, shift_ptr, shift_pptr, Nat.zero_add, Nat.add_zero, pureFn_fn, List.append_nil, List.singleton_append, List.cons_append, List.nil_append, load22, load1_ptr (off := 1) hot rfl, load93, hom, ldBox hB, hlk, bs22_1, p1, p2, add1]
end
end Go.D.StS
end
/- Chapter 22: graph, fifth part: the steps. -/
section
set_option linter.unusedVariables false
set_option linter.unusedSimpArgs false
namespace Go.D.StS
open Go.D.Srt
theorem bld69 (x y z : Int) : build PP 69 [(0, .p (.int .i64 x)), (1, .p (.int .i64 y)), (2, .p (.int .i64 z))] = some (.agg (edgD ⟨x, y, z⟩)) := Eq.trans (by kernel_rfl) rfl
theorem bs23_1 (e : Edg) (σ : Store) : buildSlice PP none 23 1 [(0, .agg (edgD e))] σ = some (.p (.sl true 1 (eEdg e)), σ) := Eq.trans (by kernel_rfl) rfl
def rowE (B : List E) (i : Nat) (l : List Edg) : List Edg := l.map fun e => ⟨(i : Int), ((B.idxOf (toE e) : Nat) : Int), e.a⟩
def rawE (M : E → OE) (B : List E) : Nat → List E → List Edg
  | _, [] => []
  | i, x :: l => rowE B i (L (M x)) ++ rawE M B (i + 1) l
theorem rowE_len (B : List E) (i : Nat) (l : List Edg) : (rowE B i l).length = l.length := by simp [rowE]
section
variable {σ0 : Store} {ext : List DV} {m : List (E × Int)} {B : List E} {n : DV} {is : List Int} {ix : DV} {bx ax y : DV}
theorem gr_L6 {i : Nat} (hi : i ≤ 100000) {q : OE} (hl : (L q).length ≤ 10000) (hmem : ∀ e ∈ L q, toE e ∈ B) :
    ∀ (d k : Nat) (es : List Edg) (ex : DV) (σ : Store), (L q).length - k = d → k ≤ (L q).length → es.length + (L q).length ≤ 1000000 + k → GZ σ0 ext m B n is ix es ex bx ax y σ →
    ∃ ex' σ', f85_L6 guardT 0 (.ptr σ0.length 0) (.ptr (σ0.length + 1) 0) (.ptr (σ0.length + 3) 0) (.ptr (σ0.length + 4) 0) (N i) y (N B.length) (N i) (.p (eEs q)) (N (L q).length) (N k) σ =
      f85_L5 guardT 0 (.ptr σ0.length 0) (.ptr (σ0.length + 1) 0) (.ptr (σ0.length + 3) 0) (.ptr (σ0.length + 4) 0) y (N B.length) (N (i + 1)) σ' ∧
      GZ σ0 ext m B n is ix (es ++ rowE B i ((L q).drop k)) ex' bx ax y σ'
  | 0, k, es, ex, σ, hd, hk, hs, h => by
    refine ⟨ex, σ, ?_, by rw [List.drop_of_length_le (by omega)]; simpa [rowE] using h⟩
    rw [f85_L6_eq guardT rfl]
    simp (disch := omega) only [N, b_lss, ltF, gG, add1]
  | d + 1, k, es, ex, σ, hd, hk, hs, h => by
    have hkl : k < (L q).length := by omega
    have e0 : (L q).drop k = gE (L q) k :: (L q).drop (k + 1) := by
      rw [gE_at hkl]; exact List.drop_eq_getElem_cons hkl
    have he : toE (gE (L q) k) ∈ B := hmem _ (by rw [gE_at hkl]; exact List.getElem_mem hkl)
    have h1 := h.snoc (.mix (edgD (gE (L q) k)))
    have hB : (σ ++ [Row.mix (edgD (gE (L q) k))])[σ.length]? = some (.mix (edgD (gE (L q) k))) := get_snoc
    have hsn := stN141 (lo := 0) (σ := σ) (gE (L q) k) (Nat.zero_le _)
    have hlk := lookZ0 h1.gy.g.mp (toE (gE (L q) k))
    rw [h.num he] at hlk
    have hom := h1.gy.g.omap
    have hot := h1.gy.g.ot
    simp only [shift_ptr, shift_pptr, Nat.zero_add, Nat.add_zero, pureFn_fn, List.append_nil, List.singleton_append, List.cons_append, List.nil_append] at hot
    obtain ⟨ex2, σ1, p1, p2, p3⟩ := h1.pushE (by omega) ⟨(i : Int), ((B.idxOf (toE (gE (L q) k)) : Nat) : Int), (gE (L q) k).a⟩
    obtain ⟨ex', σ', r1, r2⟩ := gr_L6 hi hl hmem d (k + 1) _ ex2 _ (by omega) (by omega) (by simp; omega) p3
    refine ⟨ex', σ', ?_, ?_⟩
    · rw [← r1, f85_L6_eq guardT rfl]
      simp (disch := omega) only [N, b_lss, ltT, gG, idx138, load141, ld141, zero141, hsn, fa95_0, fa95_1, fa33_0, fa25_2, fa141_0, fa141_1, shift_ptr, shift_pptr, Nat.zero_add, Nat.add_zero, pureFn_fn, List.append_nil, List.singleton_append, List.cons_append, List.nil_append, load23, load1_ptr (off := 2) hot rfl, load93, hom, ldTo hB, hlk, load3, ldAct hB, bld69, bs23_1, p1, p2, add1]
    · rw [e0]
      have e3 : es ++ rowE B i (gE (L q) k :: (L q).drop (k + 1)) = es ++ [(⟨(i : Int), ((B.idxOf (toE (gE (L q) k)) : Nat) : Int), (gE (L q) k).a⟩ : Edg)] ++ rowE B i ((L q).drop (k + 1)) := by simp [rowE]
      rw [e3]; exact r2
end
section
variable {σ0 : Store} {y0 : DV} {m : List (E × Int)} {B : List E} {n : DV} {is : List Int} {ix : DV} {bx ax y : DV}
theorem gr_L5 {mv : FuncId} {caps : List DV} (M : E → OE) (hB : B.length ≤ 1000) (hM : ∀ x ∈ B, ∀ σ : Store, (∀ j, j < σ0.length → σ[j]? = σ0[j]?) → pureV CC mv (val x :: caps) σ = some (.p (eEs (M x)))) (hl : ∀ x ∈ B, (L (M x)).length ≤ 200)
    (hmem : ∀ x ∈ B, ∀ e ∈ L (M x), toE e ∈ B) :
    ∀ (d i : Nat) (es : List Edg) (ex : DV) (σ : Store), B.length - i = d → i ≤ B.length → es.length ≤ 200 * i → GZ σ0 [y0, .fn mv caps] m B n is ix es ex bx ax y σ →
    ∃ ex' σ', f85_L5 guardT 0 (.ptr σ0.length 0) (.ptr (σ0.length + 1) 0) (.ptr (σ0.length + 3) 0) (.ptr (σ0.length + 4) 0) y (N B.length) (N i) σ =
      f85_L5 guardT 0 (.ptr σ0.length 0) (.ptr (σ0.length + 1) 0) (.ptr (σ0.length + 3) 0) (.ptr (σ0.length + 4) 0) y (N B.length) (N B.length) σ' ∧
      GZ σ0 [y0, .fn mv caps] m B n is ix (es ++ rawE M B i (B.drop i)) ex' bx ax y σ'
  | 0, i, es, ex, σ, hd, hi, hs, h => by
    have e : i = B.length := by omega
    subst e
    exact ⟨ex, σ, rfl, by rw [List.drop_length]; simpa [rawE] using h⟩
  | d + 1, i, es, ex, σ, hd, hi, hs, h => by
    have hil : i < B.length := by omega
    have hx : ge B i ∈ B := by rw [ge_at hil]; exact List.getElem_mem hil
    have e0 : B.drop i = ge B i :: B.drop (i + 1) := by rw [ge_at hil]; exact List.drop_eq_getElem_cons hil
    obtain ⟨p, hp1, hp2⟩ := h.gy.at hil
    have hsn := stNew (lo := 0) (σ := σ) (ge B i) (Nat.zero_le _)
    have h1 := h.snoc (.mix (cel (ge B i)))
    have hB7 : (σ ++ [Row.mix (cel (ge B i))])[σ.length]? = some (.mix (cel (ge B i))) := get_snoc
    have hex := h1.gy.g.ex
    have hmv := hM _ hx _ h1.gy.g.low
    have hln := hl _ hx
    obtain ⟨ex2, σ2, r1, r2⟩ := gr_L6 (i := i) (by omega) (by omega) (hmem _ hx) _ 0 es ex _ rfl (Nat.zero_le _) (by omega) h1
    rw [List.drop_zero] at r2
    obtain ⟨ex', σ', w1, w2⟩ := gr_L5 M hB hM hl hmem d (i + 1) _ ex2 σ2 (by omega) (by omega) (by rw [List.length_append, rowE_len]; omega) r2
    refine ⟨ex', σ', ?_, ?_⟩
    · rw [← w1, ← r1, f85_L5_eq guardT rfl]
      simp (disch := omega) only [N, b_lss, ltT, gG, hp1, hp2, zeroB, hsn, fa137_1, shift_ptr, shift_pptr, Nat.zero_add, Nat.add_zero, pureFn_fn, List.append_nil, List.singleton_append, List.cons_append, List.nil_append, load135, load1_ptr (off := 1) hex rfl, ldBox hB7, hmv, len138]
      rfl
    · rw [e0, rawE, ← List.append_assoc]; exact w2
end
end Go.D.StS
end
