/- AuxiliaryDetermined: for every graph and every history variable the law answers true and leaves its arguments as they were: the given statement, without conditions. -/
import Derived.Test.YtkpdgafinpedgaaGreatQi
import Derived.Test.YtkpdgafinpedgaaGreatQj
import Derived.Test.YtkpdgafinpedgaaGreatQk
import Derived.Test.YtkpdgafinpedgaaGreatQf
import Derived.Test.YtkpdgafinpedgaaGreatQg
import Derived.Test.YtkpdgafinpedgaaGreatQc
/- The examples of chapter 22: awake answers true. -/
section
set_option linter.unusedVariables false
set_option linter.unusedSimpArgs false
set_option maxRecDepth 100000
namespace Go.D
def runAt (P : Program) (pol : FuncId → FPol) (k : Nat) (f : FuncId) (args : List DV) (r : DV) (σ : Store) : Bool :=
  match callK P pol k σ.length f args σ with
  | some (v, σ') => match thawAll σ.length σ' v with
    | some v' => eqD v' r
    | none => false
  | none => false
theorem pureV_runAt {k : Nat} {f : FuncId} {args : List DV} {r : DV} {σ : Store} (h : runAt PP pol k f args r σ = true) (h1 : args.map view = args) (h2 : args.all rowFree = false) : pureV CC f args σ = some r := by
  unfold runAt at h
  split at h
  · rename_i v σ' hc
    split at h
    · rename_i v' ht
      exact (pureV_rows h1 h2 (callL_at hc) ht).trans (by rw [eqD_eq h])
    · exact absurd h (by simp)
  · exact absurd h (by simp)
def pv2 (a b : Int) : PV := .sl true 2 (eInts [a, b])
def z33 : List DV := [.p (pI 0), .p .nilsl, .p .nilsl, .p .nilsl, .p .nilsl]
def gVc : List DV := [.p (pI 2), .rsl 2 1 0 2]
def gB : PV := .sl true 4 [pv2 0 0, pv2 0 1, pv2 1 0, pv2 1 1]
def s1 : Store := [.mix exA]
def s3' : Store := [.mix exA, .mix gVc, .mix [.p (.sl true 2 [pv2 0 0, pv2 1 1]), .p gB]]
def s4' : Store := [.mix exA, .mix gVc, .mix [.p (.sl true 2 [pv2 0 0, pv2 1 1]), .p gB], .mix gVc]
def s5' : Store := [.mix exA, .mix gVc, .mix [.p (.sl false 1 [pv2 0 0]), .p gB], .mix gVc]
def s6' : Store := [.mix exA, .mix gVc, .mix [.p (.sl false 1 [pv2 0 0]), .p gB], .mix gVc, .mix exY]
theorem run39 : runAt PP pol 40 39 [.agg (eGr exG), .agg gVc] (.tuple [.p (pI 0), .p (pI 1), .p (pI 31)]) s5' = true := by decide +kernel
theorem E46 (σ : Store) : pureV CC 46 [] σ = some (.agg (eGr exG)) := pureV_run run46 rfl rfl
theorem E47 (σ : Store) : pureV CC 47 [] σ = some (.agg exH) := pureV_run run47 rfl rfl
theorem E49 (σ : Store) : pureV CC 49 [] σ = some (.agg exS) := pureV_run run49 rfl rfl
theorem E12 (σ : Store) : pureV CC 12 [.agg (eGr exG), .agg exH] σ = some (.tuple [.agg exA, .p (pI 0)]) := pureV_run run12 rfl rfl
theorem E25 (σ : Store) : pureV CC 25 [.agg (eGr exG), .agg exS] σ = some (.tuple [.agg exY, .p (pI 0)]) := pureV_run run25 rfl rfl
theorem E15 (σ : Store) : pureV CC 15 [.agg (eGr exG), .agg exH, .p (.sl true 4 (eInts [0, 1, 0, 1]))] σ = some (.tuple [.p (eSl (some [0, 3, 1, 4])), .p (pI 0)]) := by
  rw [pureV_view (args' := [.agg (eGr exG), .agg exH, .p (eSl (some [0, 1, 0, 1]))]) rfl rfl]
  exact pureV_run run15 rfl rfl
theorem E27 (σ : Store) : pureV CC 27 [.agg (eGr exG), .agg exS, .p (.sl true 2 (eInts [0, 1]))] σ = some (.tuple [.p (eSl (some [0, 2, 1, 3])), .p (pI 0)]) := by
  rw [pureV_view (args' := [.agg (eGr exG), .agg exS, .p (eSl (some [0, 1]))]) rfl rfl]
  exact pureV_run run27 rfl rfl
theorem E31 (σ : Store) : pureV CC 31 [.agg exY, .p (.sl true 3 (eInts [0, 2, 1]))] σ = some (.tuple [.p (eSl (some [0])), .p (pI 0)]) := by
  rw [pureV_view (args' := [.agg exY, .p (eSl (some [0, 2, 1]))]) rfl rfl]
  exact pureV_run run31 rfl rfl
theorem E34 (l : List Int) (n : Nat) (hn : n = l.length) (hl : l.length ≤ 1000) (σ : Store) : pureV CC 34 [.p (eSl (some l)), .p (.sl true n (eInts l))] σ = some (.p (.bool true)) := by
  rw [pureV_view (args' := [.p (eSl (some l)), .p (eSl (some l))]) (by subst hn; simp [view, viewCell, loosen, loosens_ints, eSl]) (by simp [sl_view])]
  exact S34 (a := some l) (b := some l) rfl hl
theorem E39 : pureV CC 39 [.agg (eGr exG), .agg gVc] s5' = some (.tuple [.p (pI 0), .p (pI 1), .p (pI 31)]) := pureV_runAt run39 rfl rfl
theorem E48 : plainFn CC 0 (.fn 48 []) [] s1 = some (.agg gVc, s3') := by
  have h : callK PP pol 40 0 48 [] s1 = some (.agg gVc, s3') := by kernel_rfl
  exact callL_at h
theorem g33 : zeroOf PP 33 = some z33 := Eq.trans (by kernel_rfl) rfl
theorem g74 : zeroOf PP 74 = some [.p (pI 0), .p .nilsl] := Eq.trans (by kernel_rfl) rfl
theorem h1 : store PP 0 33 (.ptr 0 0) (.agg exA) [.mix z33] = some s1 := Eq.trans (by kernel_rfl) rfl
theorem h4 : store PP 0 74 (.ptr 3 0) (.agg gVc) (s3' ++ [.mix [.p (pI 0), .p .nilsl]]) = some s4' := Eq.trans (by kernel_rfl) rfl
theorem l3 : s3'.length = 3 := rfl
theorem l5 : s5'.length = 4 := rfl
theorem h5 : fieldAddr PP 74 (.ptr 3 0) 1 = some (.ptr 3 1) := Eq.trans (by kernel_rfl) rfl
theorem h6 : load PP 72 (.ptr 3 1) s4' = some (.rsl 2 1 0 2) := Eq.trans (by kernel_rfl) rfl
theorem h7 : indexAddr PP 72 (.rsl 2 1 0 2) (.p (.int .i64 0)) = some (.ptr 2 0) := Eq.trans (by kernel_rfl) rfl
theorem h8 : load PP 26 (.ptr 2 0) s4' = some (.p (.sl true 2 [pv2 0 0, pv2 1 1])) := Eq.trans (by kernel_rfl) rfl
theorem h9 : sliceOp PP 26 (.p (.sl true 2 [pv2 0 0, pv2 1 1])) none (some (.p (.int .i64 1))) none = some (.p (.sl false 1 [pv2 0 0])) := Eq.trans (by kernel_rfl) rfl
theorem h10 : store PP 0 26 (.ptr 2 0) (.p (.sl false 1 [pv2 0 0])) s4' = some s5' := Eq.trans (by kernel_rfl) rfl
theorem h11 : load PP 74 (.ptr 3 0) s5' = some (.agg gVc) := Eq.trans (by kernel_rfl) rfl
theorem h13 : store PP 0 33 (.ptr 4 0) (.agg exY) (s5' ++ [.mix z33]) = some s6' := Eq.trans (by kernel_rfl) rfl
theorem h14 : load PP 33 (.ptr 4 0) s6' = some (.agg exY) := Eq.trans (by kernel_rfl) rfl
theorem h15 : load PP 22 (.ptr 0 3) s6' = some (.p (eSl (some [0, 0, 0, 1, 1]))) := Eq.trans (by kernel_rfl) rfl
theorem h16 : load PP 22 (.ptr 0 4) s6' = some (.p (eSl (some [0, 1, 2, 1, 2]))) := Eq.trans (by kernel_rfl) rfl
theorem bs22_4 (a b c d : Int) (σ : Store) : buildSlice PP none 22 4 [(0, .p (.int .i64 a)), (1, .p (.int .i64 b)), (2, .p (.int .i64 c)), (3, .p (.int .i64 d))] σ = some (.p (.sl true 4 (eInts [a, b, c, d])), σ) := Eq.trans (by kernel_rfl) rfl
theorem bs22_5 (a b c d e : Int) (σ : Store) : buildSlice PP none 22 5 [(0, .p (.int .i64 a)), (1, .p (.int .i64 b)), (2, .p (.int .i64 c)), (3, .p (.int .i64 d)), (4, .p (.int .i64 e))] σ = some (.p (.sl true 5 (eInts [a, b, c, d, e])), σ) := Eq.trans (by kernel_rfl) rfl
theorem bs22_3' (a b c : Int) (σ : Store) : buildSlice PP none 22 3 [(0, .p (.int .i64 a)), (1, .p (.int .i64 b)), (2, .p (.int .i64 c))] σ = some (.p (.sl true 3 (eInts [a, b, c])), σ) := Eq.trans (by kernel_rfl) rfl
theorem bs22_1' (a : Int) (σ : Store) : buildSlice PP none 22 1 [(0, .p (.int .i64 a))] σ = some (.p (.sl true 1 (eInts [a])), σ) := Eq.trans (by kernel_rfl) rfl
theorem e3_0 (a b c : DV) : extractV (.tuple [a, b, c]) 0 = some a := Eq.trans rfl rfl
theorem e3_1 (a b c : DV) : extractV (.tuple [a, b, c]) 1 = some b := Eq.trans rfl rfl
theorem e3_2 (a b c : DV) : extractV (.tuple [a, b, c]) 2 = some c := Eq.trans rfl rfl
theorem awake_F9 : F9 guardT 0 [] = some (.p (.bool true), s6') := by
  rw [F9_eq]
  simp only [pureFn_fn, List.append_nil, E46, E47, E12, obind, ex0, ex1, g33, List.length_nil, List.nil_append, h1, bs22_4, E15, E48, g74, l3, h4, h5, h6, h7, h8, h9, h10, h11, E39, e3_0, e3_1, e3_2, E49, bs22_2, E27, E25, l5, h13,
    b_neq, b_eql, eqT (rfl : (0 : Int) = 0), eqT (rfl : (1 : Int) = 1), eqT (rfl : (31 : Int) = 31), Bool.not_true, guard_tt, guard_ff, guard_tf, guard_ft, guard_sk, pickV_true, pickV_false, condK_true, condK_false, h14, bs22_3', E31, fa33_1, fa33_2, shift_ptr, Nat.zero_add, Nat.add_zero, h15, h16, bs22_5, bs22_1', E34 [0, 0, 0, 1, 1] 5 rfl (by decide), E34 [0, 1, 2, 1, 2] 5 rfl (by decide), E34 [0, 3, 1, 4] 4 rfl (by decide), E34 [0, 2, 1, 3] 4 rfl (by decide), E34 [0] 1 rfl (by decide), decide_true]
theorem awake_true : ∀ σ, pureV CC 9 [] σ = some (.p (.bool true)) := fun σ => pureV_free rfl rfl (F9_call awake_F9) rfl
end Go.D
end
/- Chapter 22: right graphs, what is reached, and the raw steps, in plain terms. -/
section
set_option linter.unusedVariables false
set_option linter.unusedSimpArgs false
namespace Go.D.StS
open Go.D.Srt
theorem adj_pair {α : Type} {R : α → α → Prop} (ht : ∀ x y z, R x y → R y z → R x z) : ∀ {l : List α}, (∀ i (h : i + 1 < l.length), R l[i] l[i + 1]) → l.Pairwise R
  | [], _ => List.Pairwise.nil
  | [x], _ => by simp
  | x :: y :: l, h => by
    have ih : (y :: l).Pairwise R := adj_pair ht fun i hi => h (i + 1) (by simpa using hi)
    have h0 : R x y := h 0 (by simp)
    rw [List.pairwise_cons]
    refine ⟨fun z hz => ?_, ih⟩
    rcases List.mem_cons.1 hz with rfl | hz
    · exact h0
    · rw [List.pairwise_cons] at ih
      exact ht _ _ _ h0 (ih.1 z hz)
structure GOk (g : Gr) : Prop where
  n0 : 0 ≤ g.n ∧ g.n ≤ 400
  e0 : (L g.edges).length ≤ 2000
  il : ∀ s ∈ L g.init, 0 ≤ s ∧ s < g.n
  ip : (L g.init).Pairwise (· < ·)
  el : ∀ e ∈ L g.edges, (0 ≤ e.f ∧ e.f < g.n) ∧ (0 ≤ e.t ∧ e.t < g.n) ∧ (0 ≤ e.a ∧ e.a ≤ 11)
  ep : (L g.edges).Pairwise fun x y => ordE x y < 0
theorem inR_iff (n a b : Int) : inR n a b = true ↔ a ≤ n ∧ n ≤ b := by
  unfold inR
  rw [Bool.and_eq_true, decide_eq_true_iff, decide_eq_true_iff]
theorem ordE_trans (x y z : Edg) (h1 : ordE x y < 0) (h2 : ordE y z < 0) : ordE x z < 0 := by
  rw [StT.ordE_lt] at *; omega
theorem isG_iff (g : Gr) : isG g = true ↔ GOk g := by
  have hp : inR g.n 0 400 = true → pred g.n = g.n - 1 := fun h => by
    rw [inR_iff] at h
    exact wrap_ok (by omega) (by omega)
  unfold isG
  simp only [Bool.and_eq_true, decide_eq_true_iff, allFrom_iff]
  constructor
  · rintro ⟨⟨⟨h1, h2⟩, h3⟩, h4⟩
    have hpn := hp h1
    rw [inR_iff] at h1
    have qi : ∀ i (h : i < (L g.init).length), (L g.init).getD i 0 = (L g.init)[i] := fun i h => getD_at 0 h
    have qe : ∀ i (h : i < (L g.edges).length), (L g.edges).getD i default = (L g.edges)[i] := fun i h => getD_at default h
    refine ⟨h1, h2, fun s hs => ?_, ?_, fun e he => ?_, ?_⟩
    · obtain ⟨i, hi, rfl⟩ := List.getElem_of_mem hs
      have := h3 i (Nat.zero_le _) (by omega)
      unfold okI at this
      rw [Bool.and_eq_true, inR_iff, hpn, qi i hi] at this
      omega
    · refine adj_pair (fun x y z h1 h2 => by omega) fun i hi => ?_
      have := h3 (i + 1) (Nat.zero_le _) (by omega)
      unfold okI at this
      simp only [Bool.and_eq_true, Bool.or_eq_true, decide_eq_true_iff, Nat.add_sub_cancel] at this
      rw [qi (i + 1) hi, qi i (by omega)] at this
      rcases this.2 with h | h
      · omega
      · exact h
    · obtain ⟨i, hi, rfl⟩ := List.getElem_of_mem he
      have := h4 i (Nat.zero_le _) (by omega)
      unfold okE at this
      simp only [Bool.and_eq_true, inR_iff, hpn] at this
      rw [qe i hi] at this
      obtain ⟨w1, w2, w3, _⟩ := this
      exact ⟨⟨w1.1, by omega⟩, ⟨w2.1, by omega⟩, w3⟩
    · refine adj_pair ordE_trans fun i hi => ?_
      have := h4 (i + 1) (Nat.zero_le _) (by omega)
      unfold okE at this
      simp only [Bool.and_eq_true, Bool.or_eq_true, decide_eq_true_iff, Nat.add_sub_cancel] at this
      rw [qe (i + 1) hi, qe i (by omega)] at this
      rcases this.2.2.2 with h | h
      · omega
      · exact h
  · intro h
    have h1 := (inR_iff g.n 0 400).2 h.n0
    have hpn := hp h1
    refine ⟨⟨⟨h1, h.e0⟩, fun j _ hj => ?_⟩, fun j _ hj => ?_⟩
    · have hj' : j < (L g.init).length := by omega
      unfold okI
      rw [Bool.and_eq_true, inR_iff, hpn, getD_at 0 hj']
      have := h.il _ (List.getElem_mem hj')
      refine ⟨by omega, ?_⟩
      rw [Bool.or_eq_true, decide_eq_true_iff, decide_eq_true_iff]
      by_cases e : j = 0
      · exact .inl e
      · refine .inr ?_
        rw [getD_at 0 (show j - 1 < (L g.init).length by omega)]
        exact List.pairwise_iff_getElem.1 h.ip (j - 1) j (by omega) hj' (by omega)
    · have hj' : j < (L g.edges).length := by omega
      unfold okE
      simp only [Bool.and_eq_true, inR_iff, hpn, getD_at default hj']
      have := h.el _ (List.getElem_mem hj')
      refine ⟨by omega, by omega, by omega, ?_⟩
      rw [Bool.or_eq_true, decide_eq_true_iff, decide_eq_true_iff]
      by_cases e : j = 0
      · exact .inl e
      · refine .inr ?_
        rw [getD_at default (show j - 1 < (L g.edges).length by omega)]
        exact List.pairwise_iff_getElem.1 h.ep (j - 1) j (by omega) hj' (by omega)
theorem addAll_mem (A l : List E) (x : E) : x ∈ addAll A l ↔ x ∈ A ∨ x ∈ l := by
  induction l generalizing A with
  | nil => simp [addAll]
  | cons y l ih =>
    unfold addAll
    rw [ih]
    by_cases h : A.contains y = true
    · rw [if_pos h, List.mem_cons]
      constructor
      · rintro (h | h)
        · exact .inl h
        · exact .inr (.inr h)
      · rintro (h2 | rfl | h2)
        · exact .inl h2
        · exact .inl (List.contains_iff_mem.1 h)
        · exact .inr h2
    · rw [if_neg h, List.mem_append, List.mem_singleton, List.mem_cons, or_assoc]
theorem addAll_nodup (A l : List E) (h : A.Nodup) : (addAll A l).Nodup := by
  induction l generalizing A with
  | nil => exact h
  | cons y l ih =>
    unfold addAll
    by_cases hc : A.contains y = true
    · rw [if_pos hc]; exact ih A h
    · rw [if_neg hc]
      refine ih _ ?_
      rw [List.nodup_append]
      refine ⟨h, by simp, fun u hu v hv e => hc ?_⟩
      rw [List.mem_singleton] at hv
      subst hv
      subst e
      exact List.contains_iff_mem.2 hu
theorem addAll_pre (A l : List E) : A <+: addAll A l := by
  induction l generalizing A with
  | nil => exact List.prefix_refl A
  | cons y l ih =>
    unfold addAll
    split
    · exact ih A
    · exact (List.prefix_append A _).trans (ih _)
def InS (n : Int) (x : E) : Prop := (0 ≤ x.1 ∧ x.1 < n) ∧ (0 ≤ x.2 ∧ x.2 ≤ 7)
structure IG (n : Int) (A : List E) : Prop where
  nd : A.Nodup
  ir : ∀ x ∈ A, InS n x
theorem nodup_le {α : Type} [DecidableEq α] : ∀ {l u : List α}, l.Nodup → (∀ x ∈ l, x ∈ u) → l.length ≤ u.length
  | [], u, _, _ => Nat.zero_le _
  | a :: l, u, hn, h => by
    have ha := h a (by simp)
    rw [List.nodup_cons] at hn
    have ih := nodup_le (l := l) (u := u.erase a) hn.2 fun x hx => by
      have hne : x ≠ a := fun e => hn.1 (e ▸ hx)
      exact (List.mem_erase_of_ne hne).2 (h x (by simp [hx]))
    have h1 := List.length_erase_of_mem ha
    have h2 : 0 < u.length := List.length_pos_of_mem ha
    simp only [List.length_cons]
    omega
theorem IG.len {n : Int} {A : List E} (h : IG n A) (hn : n ≤ 8) : A.length ≤ 64 := by
  have h1 : (A.map fun x : E => x.1 * 8 + x.2).Nodup := by
    rw [List.nodup_iff_pairwise_ne, List.pairwise_map]
    have h0 := h.nd
    rw [List.nodup_iff_pairwise_ne] at h0
    refine List.Pairwise.imp_of_mem (fun {x y} hx hy h1 e => h1 ?_) h0
    have a := h.ir x hx
    have b := h.ir y hy
    unfold InS at a b
    exact Prod.ext (by omega) (by omega)
  have h2 := nodup_le (u := (List.range 64).map fun (k : Nat) => (k : Int)) h1 fun v hv => by
    rw [List.mem_map] at hv
    obtain ⟨x, hx, rfl⟩ := hv
    have a := h.ir x hx
    unfold InS at a
    rw [List.mem_map]
    exact ⟨(x.1 * 8 + x.2).toNat, by rw [List.mem_range]; omega, by omega⟩
  simpa using h2
theorem ge_pre {A C : List E} (hp : A <+: C) {j : Nat} (hj : j < A.length) : ge C j = ge A j := by
  obtain ⟨t, ht⟩ := hp
  rw [← ht]
  unfold ge
  rw [List.getD_eq_getElem?_getD, List.getElem?_append_left hj, ← List.getD_eq_getElem?_getD]
theorem groM_closed {M : E → OE} {K : Nat} {I : List E → Prop} (hN : ∀ A, I A → A.length ≤ K) (hI : ∀ A x, I A → x ∈ A → I (addAll A ((L (M x)).map toE))) : ∀ (d i : Nat) (A : List E), I A → K - i ≤ d → (∀ j, j < i → j < A.length → ∀ e ∈ L (M (ge A j)), toE e ∈ A) →
    I (groM M d i A) ∧ A <+: groM M d i A ∧ ∀ x ∈ groM M d i A, ∀ e ∈ L (M x), toE e ∈ groM M d i A
  | 0, i, A, h, hd, hj => by
    have h1 := hN A h
    refine ⟨h, List.prefix_refl _, fun x (hx : x ∈ A) e he => ?_⟩
    obtain ⟨k, hk, rfl⟩ := List.getElem_of_mem hx
    have := hj k (by omega) hk e
    rw [ge_at hk] at this
    exact this he
  | d + 1, i, A, h, hd, hj => by
    unfold groM
    by_cases hlt : i < A.length
    · rw [if_pos hlt]
      have hp := addAll_pre A ((L (M (ge A i))).map toE)
      obtain ⟨r1, r2, r3⟩ := groM_closed hN hI d (i + 1) _ (hI A (ge A i) h (by rw [ge_at hlt]; exact List.getElem_mem hlt)) (by omega) fun j hji hjl e he => by
        have hjA : j < A.length := by omega
        rw [ge_pre hp hjA] at he
        rw [addAll_mem]
        by_cases e1 : j = i
        · subst e1; exact .inr (List.mem_map.2 ⟨e, he, rfl⟩)
        · exact .inl (hj j (by omega) hjA e he)
      exact ⟨r1, hp.trans r2, r3⟩
    · rw [if_neg hlt]
      refine ⟨h, List.prefix_refl _, fun x hx e he => ?_⟩
      obtain ⟨k, hk, rfl⟩ := List.getElem_of_mem hx
      have := hj k (by omega) hk e
      rw [ge_at hk] at this
      exact this he
theorem mem_rawE (M : E → OE) (B : List E) (e : Edg) : ∀ (l : List E) (i : Nat), e ∈ rawE M B i l ↔ ∃ k, k < l.length ∧ ∃ m ∈ L (M (ge l k)), e = ⟨((i + k : Nat) : Int), ((B.idxOf (toE m) : Nat) : Int), m.a⟩
  | [], i => by simp [rawE]
  | x :: l, i => by
    rw [rawE, List.mem_append, mem_rawE M B e l (i + 1)]
    constructor
    · rintro (h | ⟨k, hk, m, hm, rfl⟩)
      · unfold rowE at h
        rw [List.mem_map] at h
        obtain ⟨m, hm, rfl⟩ := h
        exact ⟨0, by simp, m, hm, rfl⟩
      · exact ⟨k + 1, by simpa using hk, m, hm, by rw [show i + 1 + k = i + (k + 1) by omega]⟩
    · rintro ⟨k, hk, m, hm, rfl⟩
      cases k with
      | zero => exact .inl (by unfold rowE; rw [List.mem_map]; exact ⟨m, hm, rfl⟩)
      | succ k => exact .inr ⟨k, by simpa using hk, m, hm, by rw [show i + 1 + k = i + (k + 1) by omega]⟩
theorem idx_inj {B : List E} {x y : E} (hx : x ∈ B) (hy : y ∈ B) (h : B.idxOf x = B.idxOf y) : x = y := by
  have a := (idx_mem hx).2
  have b := (idx_mem hy).2
  rw [h] at a
  exact a.symm.trans b
theorem toE_inj {m m' : Edg} (h1 : toE m = toE m') (h2 : m.a = m'.a) : m = m' := by
  obtain ⟨a, b, c⟩ := m
  obtain ⟨a', b', c'⟩ := m'
  simp only [toE, Prod.mk.injEq] at h1
  simp only at h2
  rw [h1.1, h1.2, h2]
theorem rawE_nodup {M : E → OE} {B : List E} : ∀ (l : List E) (i : Nat), (∀ x ∈ l, (L (M x)).Nodup) → (∀ x ∈ l, ∀ e ∈ L (M x), toE e ∈ B) → (rawE M B i l).Nodup
  | [], i, _, _ => List.nodup_nil
  | x :: l, i, h1, h2 => by
    rw [rawE, List.nodup_append]
    refine ⟨?_, rawE_nodup l (i + 1) (fun y hy => h1 y (by simp [hy])) (fun y hy => h2 y (by simp [hy])), fun a ha b hb e => ?_⟩
    · unfold rowE
      rw [List.nodup_iff_pairwise_ne, List.pairwise_map]
      have h0 := h1 x (by simp)
      rw [List.nodup_iff_pairwise_ne] at h0
      refine List.Pairwise.imp_of_mem (fun {m m'} hm hm' h3 e => h3 ?_) h0
      simp only [Edg.mk.injEq, true_and] at e
      exact toE_inj (idx_inj (h2 x (by simp) m hm) (h2 x (by simp) m' hm') (by omega)) e.2
    · subst e
      unfold rowE at ha
      rw [List.mem_map] at ha
      obtain ⟨m, hm, rfl⟩ := ha
      rw [mem_rawE] at hb
      obtain ⟨k, hk, m', hm', e⟩ := hb
      simp only [Edg.mk.injEq] at e
      omega
theorem rawE_len {M : E → OE} {B : List E} {c : Nat} : ∀ (l : List E) (i : Nat), (∀ x ∈ l, (L (M x)).length ≤ c) → (rawE M B i l).length ≤ c * l.length
  | [], i, _ => by simp [rawE]
  | x :: l, i, h => by
    rw [rawE, List.length_append, rowE_len, List.length_cons, Nat.mul_add, Nat.mul_one]
    have h1 := h x (by simp)
    have h2 := rawE_len (M := M) (B := B) l (i + 1) (fun y hy => h y (by simp [hy]))
    omega
end Go.D.StS
end
/- Chapter 22: the graph extended by a history variable. -/
section
set_option linter.unusedVariables false
set_option linter.unusedSimpArgs false
namespace Go.D.StS
open Go.D.Srt
structure HOk (g : Gr) (h : Hs) : Prop where
  sl : ((L h.s).length : Int) = g.n
  sv : ∀ i, i < (L h.s).length → 0 ≤ (L h.s).getD i 0 ∧ (L h.s).getD i 0 ≤ 7
  xl : (L h.x).length = (L g.edges).length
  xr : ∀ j, j < (L h.x).length → (L ((L h.x).getD j none)).length = 8
  xv : ∀ j, j < (L h.x).length → ∀ i, i < 8 → 0 ≤ (L ((L h.x).getD j none)).getD i 0 ∧ (L ((L h.x).getD j none)).getD i 0 ≤ 7
theorem mem_frN {l : List Edg} {s : Int} {n j : Nat} : j ∈ frN l s n ↔ j < n ∧ (gE l j).f = s := by
  unfold frN
  rw [List.mem_filter, List.mem_range, decide_eq_true_iff]
theorem mv_in {g : Gr} {h : Hs} (hg : GOk g) (hh : HOk g h) {x : E} (hx : InS g.n x) {e : Edg} (he : e ∈ mvH g h x) : InS g.n (toE e) := by
  unfold mvH at he
  rw [List.mem_map] at he
  obtain ⟨j, hj, rfl⟩ := he
  rw [mem_frN] at hj
  have h1 := hg.el _ (List.getElem_mem hj.1)
  rw [← gE_at hj.1] at h1
  have h2 := hh.xv j (by rw [hh.xl]; exact hj.1) x.2.toNat (by have := hx.2; omega)
  exact ⟨h1.2.1, h2⟩
theorem mvH_nodup {g : Gr} {h : Hs} (hg : GOk g) (x : E) : (mvH g h x).Nodup := by
  unfold mvH
  rw [List.nodup_iff_pairwise_ne, List.pairwise_map]
  have h0 : (frN (L g.edges) x.1 (L g.edges).length).Pairwise (· < ·) := List.pairwise_lt_range.filter _
  refine List.Pairwise.imp_of_mem (fun {j j'} hj hj' hlt e => ?_) h0
  rw [mem_frN] at hj hj'
  have hp := List.pairwise_iff_getElem.1 hg.ep j j' hj.1 hj'.1 hlt
  rw [← gE_at hj.1, ← gE_at hj'.1] at hp
  unfold mvE at e
  simp only [Edg.mk.injEq] at e
  rw [StT.ordE_lt] at hp
  have := hj.2.trans hj'.2.symm
  omega
theorem mvH_len (g : Gr) (h : Hs) (x : E) : (mvH g h x).length ≤ (L g.edges).length := by
  unfold mvH
  rw [List.length_map]
  exact frN_len _ _ _
def iniH (g : Gr) (h : Hs) : List E := (L g.init).map fun s => (s, (L h.s).getD s.toNat 0)
theorem ini_in {g : Gr} {h : Hs} (hg : GOk g) (hh : HOk g h) : ∀ x ∈ iniH g h, InS g.n x := fun x hx => by
  unfold iniH at hx
  rw [List.mem_map] at hx
  obtain ⟨s, hs, rfl⟩ := hx
  have h1 := hg.il s hs
  exact ⟨h1, hh.sv _ (by have := hh.sl; omega)⟩
theorem ini_asc {g : Gr} {h : Hs} (hg : GOk g) : Asc (iniH g h) := by
  unfold Asc iniH
  rw [List.pairwise_map]
  exact hg.ip.imp fun {a b} hlt => .inl hlt
theorem asc_nodup {A : List E} (h : Asc A) : A.Nodup := by
  refine List.Pairwise.imp (fun {x y} h e => ?_) h
  subst e
  unfold ltB at h
  omega
theorem init_len {g : Gr} (hg : GOk g) : ((L g.init).length : Int) ≤ g.n := by
  have h1 : (L g.init).Nodup := hg.ip.imp fun {a b} h e => by omega
  have h2 := nodup_le (u := (List.range g.n.toNat).map fun (k : Nat) => (k : Int)) h1 fun v hv => by
    have a := hg.il v hv
    rw [List.mem_map]
    exact ⟨v.toNat, by rw [List.mem_range]; omega, by omega⟩
  simp at h2
  have := hg.n0
  omega
structure ExtG (n : Int) (M : E → OE) (l B : List E) (E' : List Edg) : Prop where
  asc : Asc B
  ins : ∀ x ∈ B, InS n x
  beg : ∀ x ∈ l, x ∈ B
  cl : ∀ x ∈ B, ∀ e ∈ L (M x), toE e ∈ B
  pb : B.Perm (groM M 64 0 (addAll [] l))
  pe : E'.Perm (rawE M B 0 B)
  po : E'.Pairwise fun a b => ordE a b < 0
theorem GR.mono {lo lo' : Nat} {B : List E} {is : List Int} {E' : List Edg} {ix ex bx ax : DV} {σ : Store} (h : GR lo B is E' ix ex bx ax σ) (hl : lo' ≤ lo) : GR lo' B is E' ix ex bx ax σ := by
  have o : ∀ {n : Nat} {cs : List PV} {x : DV}, Out σ lo 1 n cs x → Out σ lo' 1 n cs x := fun {n cs x} h => by
    refine ⟨h.1, ?_⟩
    rcases h.2 with h1 | ⟨h0, r, ver, e1, e2, e3⟩
    · exact .inl h1
    · exact .inr ⟨h0, r, ver, e1, e2, by omega⟩
  have q : ∀ {sz n : Nat} {cs : List PV} {x : DV}, RowG σ lo sz n cs x → RowG σ lo' sz n cs x := fun {sz n cs x} h => by
    refine ⟨h.1, ?_⟩
    rcases h.2 with h1 | ⟨h0, r, e1, e2, e3⟩
    · exact .inl h1
    · exact .inr ⟨h0, r, e1, e2, by omega⟩
  exact ⟨o h.ob, o h.oa, q h.ri, q h.re⟩
theorem GR.setLow {lo q : Nat} {B : List E} {is : List Int} {E' : List Edg} {ix ex bx ax : DV} {σ : Store} (h : GR lo B is E' ix ex bx ax σ) (hq : q < lo) (row : Row) : GR lo B is E' ix ex bx ax (σ.set q row) :=
  ⟨Out.setLow h.ob hq row, Out.setLow h.oa hq row, h.ri.setNe hq, h.re.setNe hq⟩
theorem GR.snoc {lo : Nat} {B : List E} {is : List Int} {E' : List Edg} {ix ex bx ax : DV} {σ : Store} (h : GR lo B is E' ix ex bx ax σ) (row : Row) : GR lo B is E' ix ex bx ax (σ ++ [row]) :=
  ⟨Out.snocM h.ob row, Out.snocM h.oa row, h.ri.snoc row, h.re.snoc row⟩
theorem out_idx {σ : Store} {lo : Nat} {l : List E} {y : DV} (h : Out σ lo 2 l.length (celsP l) y) : y.one = true ∧ (∀ σ, len PP 134 y σ = some (N l.length)) ∧ ∀ k, k < l.length → indexAddr PP 134 y (.p (.int .i64 (k : Nat))) = some (.pptr (celsP l) (k * 2)) := by
  rcases h.2 with ⟨e, rfl⟩ | ⟨h0, r, ver, rfl, _, _⟩
  · refine ⟨rfl, fun σ => ?_, fun k hk => by omega⟩
    rw [e]; simp [len, uL]
  · refine ⟨rfl, fun σ => by simp [len, uL], fun k hk => ?_⟩
    have h2 : (0 : Int) ≤ (k : Int) ∧ (k : Int) < (l.length : Nat) := by omega
    simp [indexAddr, uL, sE, h2]
    try omega
theorem zero137 : zeroOf PP 137 = some [.p .nilsl, .p .nilfn] := Eq.trans (by kernel_rfl) rfl
theorem load137 (x : DV) (σ : Store) : load PP 137 x σ = (loadN σ 2 x).map .agg := Eq.trans (by kernel_rfl) rfl
theorem s135 : size? PP 135 = some 1 := Eq.trans (by kernel_rfl) rfl
theorem st134_0 {σ : Store} {q : Nat} {y c v : DV} (h : σ[q]? = some (.mix [y, c])) (hv : v.one = true) (hc : v.cells = [v]) : store PP 0 134 (.ptr q 0) v σ = some (σ.set q (.mix [v, c])) := by
  have e3 : splice [y, c] 0 [v] = [v, c] := rfl
  simp [store, s134, hc, storeN, h, hv, e3]
theorem st135_1 {σ : Store} {q : Nat} {y c v : DV} (h : σ[q]? = some (.mix [y, c])) (hv : v.one = true) (hc : v.cells = [v]) : store PP 0 135 (.ptr q 1) v σ = some (σ.set q (.mix [y, v])) := by
  have e3 : splice [y, c] 1 [v] = [y, v] := rfl
  simp [store, s135, hc, storeN, h, hv, e3]
theorem Out.pushE' {σ : Store} {B n : Nat} {A : List E} {x : DV} (ho : Out σ B 2 n (celsP A) x) (hn : n ≤ 10000000) (hB : B ≤ σ.length) (e : E) :
    ∃ x' σ', append PP 0 false 134 134 x (.p (.sl true 1 (celP e))) σ = some (x', σ') ∧ Out σ' B 2 (n + 1) (celsP (A ++ [e])) x' ∧ Others σ σ' x := by
  obtain ⟨x', σ', h1, h2, h3, h4⟩ := Out.pushG (lo := 0) (vs := celP e) srcB u134 sE bytesB zeroB rfl (by decide) (by decide) (by decide) rfl ho hn hB (Nat.zero_le _)
  exact ⟨x', σ', h1, by rw [celsP_app]; exact h2, h3⟩
section
variable {g : Gr} {h : Hs} (hg : GOk g) (hh : HOk g h)
include hg hh
theorem L51 {C : Nat} {σ3 : Store} (w1 : σ3[C]? = some (.mix (eGr g))) (w2 : σ3[C + 1]? = some (.mix (eHs h))) : ∀ (d k : Nat) (y : DV) (ρ : Store), (L g.init).length - k = d → k ≤ (L g.init).length → (∀ j, j < C + 3 → ρ[j]? = σ3[j]?) → ρ[C + 3]? = some (.mix [y, .p .nilfn]) → Out ρ (C + 4) 2 k (celsP ((iniH g h).take k)) y →
    ∃ y' ρ', f51_L0 guardT 0 (.ptr C 0) (.ptr (C + 1) 0) (.ptr (C + 2) 0) (.ptr (C + 3) 0) (.p (eSl g.init)) (N (L g.init).length) (N k) ρ = f51_L0 guardT 0 (.ptr C 0) (.ptr (C + 1) 0) (.ptr (C + 2) 0) (.ptr (C + 3) 0) (.p (eSl g.init)) (N (L g.init).length) (N (L g.init).length) ρ' ∧
      (∀ j, j < C + 3 → ρ'[j]? = σ3[j]?) ∧ ρ'[C + 3]? = some (.mix [y', .p .nilfn]) ∧ Out ρ' (C + 4) 2 (iniH g h).length (celsP (iniH g h)) y'
  | 0, k, y, ρ, hd, hk, hlow, hex, ho => by
    have e : k = (L g.init).length := by omega
    subst e
    have e2 : (iniH g h).length = (L g.init).length := by simp [iniH]
    refine ⟨y, ρ, rfl, hlow, hex, ?_⟩
    rw [e2]
    rwa [List.take_of_length_le (by omega)] at ho
  | d + 1, k, y, ρ, hd, hk, hlow, hex, ho => by
    have hkl : k < (L g.init).length := by omega
    have e2 : (iniH g h).length = (L g.init).length := by simp [iniH]
    have hil := hg.il _ (List.getElem_mem hkl)
    have hn := init_len hg
    have hn2 := hg.n0
    have hlenC := get_lt hex
    generalize hs : (L g.init)[k] = s at *
    have hsl := hh.sl
    have ix := idx22 (o := g.init) (i := k) hkl
    have ldk : load1 (.pptr (eInts (L g.init)) k) ρ = some (.p (.int .i64 s)) := by rw [load1_ints hkl, hs]
    have ixs := idx22i (o := h.s) (i := s) hil.1 (by omega)
    have lds := load1_getD (l := L h.s) (i := s.toNat) (by omega) ρ
    simp only [pI] at lds
    have g1 : ρ[C + 1]? = some (.mix (eHs h)) := by rw [hlow _ (by omega)]; exact w2
    obtain ⟨y1, ρ1, p1, p2, p3⟩ := Out.pushE' ho (by omega) (by omega) (s, (L h.s).getD s.toNat 0)
    have e1 : (iniH g h).take k ++ [(s, (L h.s).getD s.toNat 0)] = (iniH g h).take (k + 1) := by
      rw [List.take_succ_eq_append_getElem (by omega)]
      simp only [iniH, List.getElem_map, hs]
    rw [e1] at p2
    have km : ∀ (j : Nat) (row : Row), j < C + 4 → ρ[j]? = some row → ρ1[j]? = some row := fun j row hj e => p3 j row e (by
      rintro r ver sz n cs rfl rfl
      rcases ho.2 with ⟨_, e⟩ | ⟨_, r', ver', e, _, e3⟩
      · cases e
      · injection e with e; omega)
    have hex1 := km _ _ (by omega) hex
    have hst := st134_0 hex1 (out_one' p2).1 (out_one' p2).2
    obtain ⟨y', ρ', r1, r2⟩ := L51 w1 w2 d (k + 1) y1 (ρ1.set (C + 3) (.mix [y1, .p .nilfn])) (by omega) (by omega) (fun j hj => by
      rw [List.getElem?_set_ne (by omega)]
      have := hlow j hj
      cases hx : σ3[j]? with
      | none => have h1 := List.getElem?_eq_none_iff.1 hx; have h2 := get_lt w2; rw [hx] at this; have h3 := List.getElem?_eq_none_iff.1 this; omega
      | some row => rw [hx] at this; exact km _ _ (by omega) this) (by rw [List.getElem?_set_self (get_lt hex1)]) (Out.setLow p2 (by omega) _)
    refine ⟨y', ρ', ?_, r2⟩
    rw [← r1, f51_L0_eq guardT rfl]
    simp (disch := omega) only [N, b_lss, ltT, gG, ix, load3, ldk, fa137_0, shift_ptr, shift_pptr, Nat.zero_add, Nat.add_zero, pureFn_fn, List.append_nil, List.singleton_append, List.cons_append, List.nil_append, load134, load1_ptr (off := 0) hex (v := y) rfl, fa28_0, load22, load1_ptr (off := 0) g1 (v := .p (eSl h.s)) rfl, ixs, lds, bld102, bs134, p1, hst, add1]
theorem S51 (hn : g.n ≤ 8) (he : (L g.edges).length ≤ 16) (σ : Store) :
    ∃ B E' ix ex bx ax σ' r m, CC 0 51 [.agg (eGr g), .agg (eHs h)] σ = some (.tuple [.agg [.p (pI B.length), ix, ex, bx, ax, .map r], .p (pI 0)], σ') ∧ ExtG g.n (fun x => oE (mvH g h x)) (iniH g h) B E' ∧
      GR (σ.length + 4) B (nums B (iniH g h)) E' ix ex bx ax σ' ∧ (∀ j, j < σ.length → σ'[j]? = σ[j]?) ∧ σ'[r]? = some (.map (entZ m)) ∧ (∀ j, j < B.length → findZ m (ge B j) = some (j : Int)) ∧ σ.length + 4 ≤ σ'.length := by
  obtain ⟨z4, hz4, hz4l⟩ := zero95
  have w : ∀ k, (σ ++ [Row.mix (eGr g), .mix (eHs h), .mix z4, .mix [.p .nilsl, .p .nilfn]])[σ.length + k]? = ([Row.mix (eGr g), .mix (eHs h), .mix z4, .mix [.p .nilsl, .p .nilfn]] : Store)[k]? := fun k => by
    rw [List.getElem?_append_right (by omega), Nat.add_sub_cancel_left]
  obtain ⟨y, ρ, a1, a2, a3, a4⟩ := L51 hg hh (C := σ.length) (σ3 := σ ++ [Row.mix (eGr g), .mix (eHs h), .mix z4, .mix [.p .nilsl, .p .nilfn]]) (w 0) (w 1) _ 0 (.p .nilsl) _ rfl (Nat.zero_le _) (fun j _ => rfl) (w 3) Out.zero
  obtain ⟨o1, o2, o3⟩ := out_idx a4
  have hst := st135_1 (v := .fn 83 [.ptr σ.length 0, .ptr (σ.length + 1) 0]) a3 rfl rfl
  have hlr := get_lt a3
  have b1 : ∀ j, j < σ.length + 3 → (ρ.set (σ.length + 3) (.mix [y, .fn 83 [.ptr σ.length 0, .ptr (σ.length + 1) 0]]))[j]? = (σ ++ [Row.mix (eGr g), .mix (eHs h), .mix z4, .mix [.p .nilsl, .p .nilfn]])[j]? := fun j hj => by
    rw [List.getElem?_set_ne (by omega)]; exact a2 j hj
  have b2 : (ρ.set (σ.length + 3) (.mix [y, .fn 83 [.ptr σ.length 0, .ptr (σ.length + 1) 0]]))[σ.length + 3]? = some (.mix [y, .fn 83 [.ptr σ.length 0, .ptr (σ.length + 1) 0]]) := by rw [List.getElem?_set_self hlr]
  have hlρ : (ρ.set (σ.length + 3) (.mix [y, .fn 83 [.ptr σ.length 0, .ptr (σ.length + 1) 0]])).length = ρ.length := by simp
  generalize hτ : ρ.set (σ.length + 3) (.mix [y, .fn 83 [.ptr σ.length 0, .ptr (σ.length + 1) 0]]) = τ at *
  have c0 : τ[σ.length]? = some (.mix (eGr g)) := (b1 _ (by omega)).trans (w 0)
  have c1 : τ[σ.length + 1]? = some (.mix (eHs h)) := (b1 _ (by omega)).trans (w 1)
  have c2 : τ[σ.length + 2]? = some (.mix z4) := (b1 _ (by omega)).trans (w 2)
  have hI0 : IG g.n (addAll [] (iniH g h)) := ⟨addAll_nodup _ _ List.nodup_nil, fun x hx => by
    rcases (addAll_mem _ _ _).1 hx with h1 | h1
    · exact absurd h1 (by simp)
    · exact ini_in hg hh x h1⟩
  have hIM : ∀ A x, IG g.n A → x ∈ A → IG g.n (addAll A ((L (oE (mvH g h x))).map toE)) := fun A x hA hx => ⟨addAll_nodup _ _ hA.nd, fun v hv => by
    rcases (addAll_mem _ _ _).1 hv with h1 | h1
    · exact hA.ir v h1
    · rw [L_oE, List.mem_map] at h1
      obtain ⟨e, he, rfl⟩ := h1
      exact mv_in hg hh (hA.ir x hx) he⟩
  obtain ⟨k1, k2, k3⟩ := groM_closed (M := fun x => oE (mvH g h x)) (K := 64) (fun A hA => IG.len hA hn) hIM 64 0 _ hI0 (by omega) (fun j hj => by omega)
  have hil := init_len hg
  have e2 : (iniH g h).length = (L g.init).length := by simp [iniH]
  obtain ⟨B, E', ix, ex, bx, ax, σ', m, d1, d2, d3, d4, d5, d6, d7, d8, d9, d10⟩ := gr_main (σ0 := τ) (mv := 83) (caps := [.ptr σ.length 0, .ptr (σ.length + 1) 0]) o1 o2 o3 (fun x => oE (mvH g h x)) (InS g.n) 64 (by decide)
    (fun x hx ρ hρ => S83 ((hρ _ (get_lt c0)).trans c0) ((hρ _ (get_lt c1)).trans c1) (by omega) hh.xl hh.xr hx.2) (fun x _ => by rw [L_oE]; have := mvH_len g h x; omega)
    (IG g.n) (fun A hA => hA.ir) (fun A hA => ⟨IG.len hA hn, hA.nd⟩) hIM hI0 (by omega) (ini_asc hg) k3 (fun x hx => k2.subset ((addAll_mem _ _ _).2 (.inr hx)))
    (fun B hB hB2 => by
      refine ⟨rawE_nodup B 0 (fun x _ => by rw [L_oE]; exact mvH_nodup hg x) (fun x hx e he => hB.mem_iff.2 (k3 x (hB.mem_iff.1 hx) e he)), ?_⟩
      have h1 := rawE_len (M := fun x => oE (mvH g h x)) (B := B) (c := 16) B 0 (fun x _ => by rw [L_oE]; have := mvH_len g h x; omega)
      have h2 := hB.length_eq
      have h3 := IG.len k1 hn
      omega)
  have hBm : ∀ x, x ∈ B ↔ x ∈ groM (fun x => oE (mvH g h x)) 64 0 (addAll [] (iniH g h)) := fun x => d2.mem_iff
  have hz : σ'[σ.length + 2]? = some (.mix z4) := (d7 _ (get_lt c2)).trans c2
  have hone : ([.p (pI B.length), ix, ex, bx, ax, .map (τ.length + 2)] : List DV).all DV.one = true := by
    simp [(rowG_one d6.re).1, (rowG_one d6.ri).1, (out_one' d6.ob).1, (out_one' d6.oa).1]
    exact ⟨rfl, rfl⟩
  have hst2 := st95 (c := [.p (pI B.length), ix, ex, bx, ax, .map (τ.length + 2)]) hz hz4l rfl hone
  have hcv : cellV PP 95 (.ptr (σ.length + 2) 0) (σ'.set (σ.length + 2) (.mix [.p (pI B.length), ix, ex, bx, ax, .map (τ.length + 2)])) = some (.agg [.p (pI B.length), ix, ex, bx, ax, .map (τ.length + 2)]) := by
    have hg : (σ'.set (σ.length + 2) (.mix [.p (pI B.length), ix, ex, bx, ax, .map (τ.length + 2)]))[σ.length + 2]? = some (.mix [.p (pI B.length), ix, ex, bx, ax, .map (τ.length + 2)]) := by rw [List.getElem?_set_self (get_lt hz)]
    rw [cellV_ptr, load95, loadN_ptr (vs := [.p (pI B.length), ix, ex, bx, ax, .map (τ.length + 2)]) hg rfl (by simp)]; rfl
  refine ⟨B, E', ix, ex, bx, ax, σ'.set (σ.length + 2) (.mix [.p (pI B.length), ix, ex, bx, ax, .map (τ.length + 2)]), τ.length + 2, m, F51_call ?_,
    ⟨d3, fun x hx => k1.ir x ((hBm x).1 hx), fun x hx => (hBm x).2 (k2.subset ((addAll_mem _ _ _).2 (.inr hx))), fun x hx e he => (hBm _).2 (k3 x ((hBm x).1 hx) e he), d2, d4, d5⟩,
    (d6.mono (by omega)).setLow (by omega) _, fun j hj => ?_, get_set_ne d8 (by omega), d9, by rw [List.length_set]; omega⟩
  · have hb1 : boxV (.agg (eGr g)) = some (eGr g) := rfl
    have hb2 : boxV (.agg (eHs h)) = some (eHs h) := rfl
    have hl1 : (σ ++ [Row.mix (eGr g)]).length = σ.length + 1 := by simp
    have hl2 : ((σ ++ [Row.mix (eGr g)]) ++ [Row.mix (eHs h)]).length = σ.length + 2 := by simp
    have hl3 : (((σ ++ [Row.mix (eGr g)]) ++ [Row.mix (eHs h)]) ++ [Row.mix z4]).length = σ.length + 3 := by simp
    have hsσ : ((((σ ++ [Row.mix (eGr g)]) ++ [Row.mix (eHs h)]) ++ [Row.mix z4]) ++ [Row.mix [.p .nilsl, .p .nilfn]]) = σ ++ [Row.mix (eGr g), .mix (eHs h), .mix z4, .mix [.p .nilsl, .p .nilfn]] := by simp
    have hld : load PP 137 (.ptr (σ.length + 3) 0) τ = some (.agg [y, .fn 83 [.ptr σ.length 0, .ptr (σ.length + 1) 0]]) := by
      rw [load137, loadN_ptr (vs := [y, .fn 83 [.ptr σ.length 0, .ptr (σ.length + 1) 0]]) b2 rfl (by simp)]; rfl
    have w0 : (σ ++ [Row.mix (eGr g), .mix (eHs h), .mix z4, .mix [.p .nilsl, .p .nilfn]])[σ.length]? = some (.mix (eGr g)) := w 0
    rw [F51_eq]
    simp only [hb1, hb2, hz4, zero137, gG, hl1, hl2, hl3, hsσ, fa25_1, shift_ptr, shift_pptr, Nat.zero_add, Nat.add_zero, pureFn_fn, List.append_nil, List.singleton_append, List.cons_append, List.nil_append, load22, load1_ptr (off := 1) w0 (v := .p (eSl g.init)) rfl, len22]
    refine a1.trans ?_
    rw [f51_L0_eq guardT rfl]
    simp (disch := omega) only [N, b_lss, ltF, gG, fa137_1, shift_ptr, shift_pptr, Nat.zero_add, Nat.add_zero, pureFn_fn, List.append_nil, List.singleton_append, List.cons_append, List.nil_append, hst, hld, plainFn_fn, d1, ex0, ex1, hst2, hcv]
  · rw [List.getElem?_set_ne (by omega), d7 j (by have := get_lt c0; omega), b1 j (by omega), List.getElem?_append_left hj]
end
end Go.D.StS
end
/- Equations of functions 6, 10, 11, 14, 17, 18, 52, printed by gen.py. -/
section
set_option linter.unusedVariables false
set_option maxRecDepth 10000
namespace Go.D
open Go.Proofs
noncomputable section
variable (G : GuardT) (lo : Nat) {σ : Store} {r : DV × Store}
open _root_.Go.D.Code (fstC sndC)
open _root_.Go.D.Ann (left right)
def c6_0 : Code := bodyOf Tryz.f6
def a6_0 : Ann := (pol 6).ann
def a6_21 : Ann := right (left (right (right (right a6_0))))
def a6_22 : Ann := left a6_21
def c6_23 : Code := fstC (fstC (sndC (fstC (sndC (sndC (sndC c6_0))))))
def c6_39 : Code := sndC (sndC (sndC (sndC c6_0)))
def a6_39 : Ann := right (right (right (right a6_0)))
def a6_60 : Ann := right (left (right (right (right a6_39))))
def a6_61 : Ann := left a6_60
def c6_62 : Code := fstC (fstC (sndC (fstC (sndC (sndC (sndC c6_39))))))
def a6_69 : Ann := left (right (left a6_61))
def a6_72 : Ann := right (left a6_69)
def a6_73 : Ann := left a6_72
def c6_74 : Code := fstC (fstC (sndC (fstC (fstC (sndC c6_62)))))
def a6_81 : Ann := left (right (left a6_73))
def a6_87 : Ann := right (left (right (left a6_81)))
def a6_88 : Ann := left a6_87
def c6_89 : Code := fstC (fstC (sndC (fstC (sndC (fstC (fstC (sndC c6_74)))))))
def a6_96 : Ann := left (right (left a6_88))
def c6_104 : Code := sndC (sndC c6_89)
def a6_104 : Ann := right (right (left a6_88))
def c6_105 : Code := sndC (sndC (fstC (fstC (sndC c6_74))))
def a6_105 : Ann := right (right (left a6_81))
def c6_112 : Code := sndC (sndC c6_74)
def a6_112 : Ann := right (right (left a6_73))
def c6_113 : Code := sndC (sndC c6_62)
def a6_113 : Ann := right (right (left a6_61))
def c6_114 : Code := sndC (sndC (sndC (sndC c6_39)))
def a6_114 : Ann := right (right (right (right a6_39)))
def f6_L0 (x2 x3 x5 : DV) (σ : Store) : RS :=
 codeF G PP (pol 6) CC lo (.loop c6_23) a6_22 (Z :: Z :: x2 :: x3 :: Z :: x5 :: zn 188 []) σ
 (blockC 0 a6_21 (seqC G PP (pol 6) CC lo c6_39 a6_39 (finR PP Tryz.f6.results.toList)))
def f6_L1 (x2 x6 x8 : DV) (σ : Store) : RS :=
 codeF G PP (pol 6) CC lo (.loop c6_62) a6_61 (Z :: Z :: x2 :: Z :: Z :: Z :: x6 :: Z :: x8 :: zn 185 []) σ
 (blockC 2 a6_60 (seqC G PP (pol 6) CC lo c6_114 a6_114 (finR PP Tryz.f6.results.toList)))
def f6_L2 (x2 x6 x8 x9 : DV) (σ : Store) : RS :=
 codeF G PP (pol 6) CC lo (.loop c6_74) a6_73 (Z :: Z :: x2 :: Z :: Z :: Z :: x6 :: Z :: x8 :: x9 :: zn 184 []) σ
 (blockC 4 a6_72 (blockC 3 a6_69 (seqC G PP (pol 6) CC lo c6_113 a6_113 (loopC G PP (pol 6) CC lo c6_62 a6_61 (blockC 2 a6_60 (seqC G PP (pol 6) CC lo c6_114 a6_114 (finR PP Tryz.f6.results.toList)))))))
def f6_L3 (x2 x6 x8 x9 x10 x11 : DV) (σ : Store) : RS :=
 codeF G PP (pol 6) CC lo (.loop c6_89) a6_88 (Z :: Z :: x2 :: Z :: Z :: Z :: x6 :: Z :: x8 :: x9 :: x10 :: x11 :: zn 182 []) σ
 (blockC 6 a6_87 (seqC G PP (pol 6) CC lo c6_105 a6_105 (blockC 5 a6_81 (seqC G PP (pol 6) CC lo c6_112 a6_112 (loopC G PP (pol 6) CC lo c6_74 a6_73 (blockC 4 a6_72 (blockC 3 a6_69 (seqC G PP (pol 6) CC lo c6_113 a6_113 (loopC G PP (pol 6) CC lo c6_62 a6_61 (blockC 2 a6_60 (seqC G PP (pol 6) CC lo c6_114 a6_114 (finR PP Tryz.f6.results.toList))))))))))))
def f6_J0_fr (x2 x6 x8 x9 x10 x11 x12 x119 x120 x121 x122 x123 x124 x127 x128 x129 x130 x131 x132 x133 x134 x135 x136 x137 x138 x139 x140 x141 x142 x143 x144 x145 x146 x147 x148 x149 x150 x151 x152 x153 x154 x155 x156 x157 x158 x159 x160 x161 x162 x163 x164 x165 x166 x167 x168 x169 x170 x171 x172 x173 x174 x175 x176 x177 x178 : DV) : Frame := (Z :: Z :: x2 :: Z :: Z :: Z :: x6 :: Z :: x8 :: x9 :: x10 :: x11 :: x12 :: zn 106 (x119 :: x120 :: x121 :: x122 :: x123 :: x124 :: Z :: Z :: x127 :: x128 :: x129 :: x130 :: x131 :: x132 :: x133 :: x134 :: x135 :: x136 :: x137 :: x138 :: x139 :: x140 :: x141 :: x142 :: x143 :: x144 :: x145 :: x146 :: x147 :: x148 :: x149 :: x150 :: x151 :: x152 :: x153 :: x154 :: x155 :: x156 :: x157 :: x158 :: x159 :: x160 :: x161 :: x162 :: x163 :: x164 :: x165 :: x166 :: x167 :: x168 :: x169 :: x170 :: x171 :: x172 :: x173 :: x174 :: x175 :: x176 :: x177 :: x178 :: zn 15 []))
def f6_J0 (x2 x6 x8 x9 x10 x11 x12 x119 x120 x121 x122 x123 x124 x127 x128 x129 x130 x131 x132 x133 x134 x135 x136 x137 x138 x139 x140 x141 x142 x143 x144 x145 x146 x147 x148 x149 x150 x151 x152 x153 x154 x155 x156 x157 x158 x159 x160 x161 x162 x163 x164 x165 x166 x167 x168 x169 x170 x171 x172 x173 x174 x175 x176 x177 x178 : DV) (σ : Store) : RS :=
 (blockC 7 a6_96 (seqC G PP (pol 6) CC lo c6_104 a6_104 (loopC G PP (pol 6) CC lo c6_89 a6_88 (blockC 6 a6_87 (seqC G PP (pol 6) CC lo c6_105 a6_105 (blockC 5 a6_81 (seqC G PP (pol 6) CC lo c6_112 a6_112 (loopC G PP (pol 6) CC lo c6_74 a6_73 (blockC 4 a6_72 (blockC 3 a6_69 (seqC G PP (pol 6) CC lo c6_113 a6_113 (loopC G PP (pol 6) CC lo c6_62 a6_61 (blockC 2 a6_60 (seqC G PP (pol 6) CC lo c6_114 a6_114 (finR PP Tryz.f6.results.toList))))))))))))))) .normal (f6_J0_fr x2 x6 x8 x9 x10 x11 x12 x119 x120 x121 x122 x123 x124 x127 x128 x129 x130 x131 x132 x133 x134 x135 x136 x137 x138 x139 x140 x141 x142 x143 x144 x145 x146 x147 x148 x149 x150 x151 x152 x153 x154 x155 x156 x157 x158 x159 x160 x161 x162 x163 x164 x165 x166 x167 x168 x169 x170 x171 x172 x173 x174 x175 x176 x177 x178) σ
def F6 (x0 x1 : DV) (σ : Store) : RS :=
 codeF G PP (pol 6) CC lo c6_0 a6_0 (x0 :: x1 :: zn 192 []) σ (finR PP Tryz.f6.results.toList)
theorem f6_L0_eq (G : GuardT) (hG : GuardOk G) (lo : Nat) (x2 x3 x5 : DV) (σ : Store) : f6_L0 G lo x2 x3 x5 σ =
 (fieldAddr PP 25 x2 2).bind fun x42 =>
 (load PP 23 x42 σ).bind fun x43 =>
 (len PP 23 x43 σ).bind fun x44 =>
 (binOp PP .lss 3 x5 x44).bind fun x45 =>
 condK x45
 (
 (fieldAddr PP 25 x2 2).bind fun x48 =>
 (load PP 23 x48 σ).bind fun x49 =>
 (indexAddr PP 23 x49 x5).bind fun x51 =>
 (fieldAddr PP 69 x51 0).bind fun x52 =>
 (load PP 3 x52 σ).bind fun x53 =>
 (fieldAddr PP 25 x2 2).bind fun x54 =>
 (load PP 23 x54 σ).bind fun x55 =>
 (binOp PP .sub 3 x5 I1).bind fun x57 =>
 (indexAddr PP 23 x55 x57).bind fun x58 =>
 (fieldAddr PP 69 x58 0).bind fun x59 =>
 (load PP 3 x59 σ).bind fun x60 =>
 (binOp PP .eql 3 x53 x60).bind fun x61 =>
 G _ x61 true ((fieldAddr PP 25 x2 2).bind fun v => some (v, σ)) σ fun x63 σ16 =>
 G _ x61 true ((load PP 23 x63 σ16).bind fun v => some (v, σ16)) σ16 fun x64 σ17 =>
 G _ x61 true (some (x5, σ17)) σ17 fun x65 σ18 =>
 G _ x61 true ((indexAddr PP 23 x64 x65).bind fun v => some (v, σ18)) σ18 fun x66 σ19 =>
 G _ x61 true ((fieldAddr PP 69 x66 1).bind fun v => some (v, σ19)) σ19 fun x67 σ20 =>
 G _ x61 true ((load PP 3 x67 σ20).bind fun v => some (v, σ20)) σ20 fun x68 σ21 =>
 G _ x61 true ((fieldAddr PP 25 x2 2).bind fun v => some (v, σ21)) σ21 fun x69 σ22 =>
 G _ x61 true ((load PP 23 x69 σ22).bind fun v => some (v, σ22)) σ22 fun x70 σ23 =>
 G _ x61 true (some (x5, σ23)) σ23 fun x71 σ24 =>
 G _ x61 true ((binOp PP .sub 3 x71 I1).bind fun v => some (v, σ24)) σ24 fun x72 σ25 =>
 G _ x61 true ((indexAddr PP 23 x70 x72).bind fun v => some (v, σ25)) σ25 fun x73 σ26 =>
 G _ x61 true ((fieldAddr PP 69 x73 1).bind fun v => some (v, σ26)) σ26 fun x74 σ27 =>
 G _ x61 true ((load PP 3 x74 σ27).bind fun v => some (v, σ27)) σ27 fun x75 σ28 =>
 G _ x61 true ((binOp PP .eql 3 x68 x75).bind fun v => some (v, σ28)) σ28 fun x76 σ29 =>
 (pickV x61 x76 (DV.p (PV.bool false))).bind fun x77 =>
 condK x77
 (
 some ((DV.p (PV.bool true)), σ29)
 )
 (
 (binOp PP .add 3 x5 I1).bind fun x47 =>
 f6_L0 G lo x2 x3 x47 σ29
 )
 )
 (
 (load PP 25 x2 σ).bind fun x79 =>
 (pureFn CC (DV.fn 13 []) [x79] σ).bind fun x80 =>
 (load PP 28 x3 σ).bind fun x81 =>
 (pureFn CC (DV.fn 14 []) [x81] σ).bind fun x82 =>
 (pureFn CC (DV.fn 12 []) [x80, x82] σ).bind fun x83 =>
 (extractV x83 0).bind fun x84 =>
 (extractV x83 1).bind fun x85 =>
 (zeroOf PP 33).bind fun z6 =>
 (store PP lo 33 (DV.ptr (List.length σ) 0) x84 (σ ++ [Row.mix z6])).bind fun σ30 =>
 (binOp PP .eql 34 x85 (DV.p (PV.int IntKind.i64 (2)))).bind fun x87 =>
 condK x87
 (
 some ((DV.p (PV.bool true)), σ30)
 )
 (
 (binOp PP .neq 34 x85 I0).bind fun x89 =>
 G _ x89 false ((load PP 33 (DV.ptr (List.length σ) 0) σ30).bind fun v => some (v, σ30)) σ30 fun x91 σ31 =>
 G _ x89 false ((pureFn CC (DV.fn 33 []) [x91] σ31).bind fun v => some (v, σ31)) σ31 fun x92 σ32 =>
 G _ x89 false ((binOp PP .neq 3 x92 I0).bind fun v => some (v, σ32)) σ32 fun x93 σ33 =>
 (pickV x89 (DV.p (PV.bool true)) x93).bind fun x94 =>
 G _ x94 false ((fieldAddr PP 33 (DV.ptr (List.length σ) 0) 0).bind fun v => some (v, σ33)) σ33 fun x96 σ34 =>
 G _ x94 false ((fieldAddr PP 25 x96 1).bind fun v => some (v, σ34)) σ34 fun x97 σ35 =>
 G _ x94 false ((load PP 22 x97 σ35).bind fun v => some (v, σ35)) σ35 fun x98 σ36 =>
 G _ x94 false ((len PP 22 x98 σ36).bind fun v => some (v, σ36)) σ36 fun x99 σ37 =>
 G _ x94 false ((fieldAddr PP 25 x2 1).bind fun v => some (v, σ37)) σ37 fun x100 σ38 =>
 G _ x94 false ((load PP 22 x100 σ38).bind fun v => some (v, σ38)) σ38 fun x101 σ39 =>
 G _ x94 false ((len PP 22 x101 σ39).bind fun v => some (v, σ39)) σ39 fun x102 σ40 =>
 G _ x94 false ((binOp PP .neq 3 x99 x102).bind fun v => some (v, σ40)) σ40 fun x103 σ41 =>
 (pickV x94 (DV.p (PV.bool true)) x103).bind fun x104 =>
 condK x104
 (
 some ((DV.p (PV.bool false)), σ41)
 )
 (
 f6_L1 G lo x2 (DV.ptr (List.length σ) 0) I0 σ41
 )
 )
 ) := (loopF_eq G hG).trans (by kernel_rfl)
theorem f6_L1_eq (G : GuardT) (hG : GuardOk G) (lo : Nat) (x2 x6 x8 : DV) (σ : Store) : f6_L1 G lo x2 x6 x8 σ =
 (fieldAddr PP 33 x6 0).bind fun x106 =>
 (fieldAddr PP 25 x106 0).bind fun x107 =>
 (load PP 3 x107 σ).bind fun x108 =>
 (binOp PP .lss 3 x8 x108).bind fun x109 =>
 condK x109
 (
 f6_L2 G lo x2 x6 x8 I0 σ
 )
 (
 some ((DV.p (PV.bool true)), σ)
 ) := (loopF_eq G hG).trans (by kernel_rfl)
theorem f6_L2_eq (G : GuardT) (hG : GuardOk G) (lo : Nat) (x2 x6 x8 x9 : DV) (σ : Store) : f6_L2 G lo x2 x6 x8 x9 σ =
 (fieldAddr PP 25 x2 2).bind fun x113 =>
 (load PP 23 x113 σ).bind fun x114 =>
 (len PP 23 x114 σ).bind fun x115 =>
 (binOp PP .lss 3 x9 x115).bind fun x116 =>
 condK x116
 (
 f6_L3 G lo x2 x6 x8 x9 I0 I0 σ
 )
 (
 (binOp PP .add 3 x8 I1).bind fun x111 =>
 f6_L1 G lo x2 x6 x111 σ
 ) := (loopF_eq G hG).trans (by kernel_rfl)
theorem f6_L3_eq (G : GuardT) (hG : GuardOk G) (lo : Nat) (x2 x6 x8 x9 x10 x11 : DV) (σ : Store) : f6_L3 G lo x2 x6 x8 x9 x10 x11 σ =
 (fieldAddr PP 33 x6 0).bind fun x120 =>
 (fieldAddr PP 25 x120 2).bind fun x121 =>
 (load PP 23 x121 σ).bind fun x122 =>
 (len PP 23 x122 σ).bind fun x123 =>
 (binOp PP .lss 3 x11 x123).bind fun x124 =>
 condK x124
 (
 (fieldAddr PP 33 x6 0).bind fun x127 =>
 (fieldAddr PP 25 x127 2).bind fun x128 =>
 (load PP 23 x128 σ).bind fun x129 =>
 (indexAddr PP 23 x129 x11).bind fun x131 =>
 (load PP 69 x131 σ).bind fun x132 =>
 (zeroOf PP 69).bind fun z12 =>
 (store PP lo 69 (DV.ptr (List.length σ) 0) x132 (σ ++ [Row.mix z12])).bind fun σ42 =>
 (fieldAddr PP 69 (DV.ptr (List.length σ) 0) 0).bind fun x133 =>
 (load PP 3 x133 σ42).bind fun x134 =>
 (binOp PP .eql 3 x134 x8).bind fun x136 =>
 G _ x136 true ((fieldAddr PP 33 x6 1).bind fun v => some (v, σ42)) σ42 fun x138 σ43 =>
 G _ x136 true ((load PP 22 x138 σ43).bind fun v => some (v, σ43)) σ43 fun x139 σ44 =>
 G _ x136 true (some (x8, σ44)) σ44 fun x140 σ45 =>
 G _ x136 true ((indexAddr PP 22 x139 x140).bind fun v => some (v, σ45)) σ45 fun x141 σ46 =>
 G _ x136 true ((load PP 3 x141 σ46).bind fun v => some (v, σ46)) σ46 fun x142 σ47 =>
 G _ x136 true ((fieldAddr PP 25 x2 2).bind fun v => some (v, σ47)) σ47 fun x143 σ48 =>
 G _ x136 true ((load PP 23 x143 σ48).bind fun v => some (v, σ48)) σ48 fun x144 σ49 =>
 G _ x136 true (some (x9, σ49)) σ49 fun x145 σ50 =>
 G _ x136 true ((indexAddr PP 23 x144 x145).bind fun v => some (v, σ50)) σ50 fun x146 σ51 =>
 G _ x136 true ((fieldAddr PP 69 x146 0).bind fun v => some (v, σ51)) σ51 fun x147 σ52 =>
 G _ x136 true ((load PP 3 x147 σ52).bind fun v => some (v, σ52)) σ52 fun x148 σ53 =>
 G _ x136 true ((binOp PP .eql 3 x142 x148).bind fun v => some (v, σ53)) σ53 fun x149 σ54 =>
 (pickV x136 x149 (DV.p (PV.bool false))).bind fun x150 =>
 G _ x150 true ((fieldAddr PP 33 x6 1).bind fun v => some (v, σ54)) σ54 fun x152 σ55 =>
 G _ x150 true ((load PP 22 x152 σ55).bind fun v => some (v, σ55)) σ55 fun x153 σ56 =>
 G _ x150 true ((fieldAddr PP 69 (DV.ptr (List.length σ) 0) 1).bind fun v => some (v, σ56)) σ56 fun x154 σ57 =>
 G _ x150 true ((load PP 3 x154 σ57).bind fun v => some (v, σ57)) σ57 fun x155 σ58 =>
 G _ x150 true ((indexAddr PP 22 x153 x155).bind fun v => some (v, σ58)) σ58 fun x156 σ59 =>
 G _ x150 true ((load PP 3 x156 σ59).bind fun v => some (v, σ59)) σ59 fun x157 σ60 =>
 G _ x150 true ((fieldAddr PP 25 x2 2).bind fun v => some (v, σ60)) σ60 fun x158 σ61 =>
 G _ x150 true ((load PP 23 x158 σ61).bind fun v => some (v, σ61)) σ61 fun x159 σ62 =>
 G _ x150 true (some (x9, σ62)) σ62 fun x160 σ63 =>
 G _ x150 true ((indexAddr PP 23 x159 x160).bind fun v => some (v, σ63)) σ63 fun x161 σ64 =>
 G _ x150 true ((fieldAddr PP 69 x161 1).bind fun v => some (v, σ64)) σ64 fun x162 σ65 =>
 G _ x150 true ((load PP 3 x162 σ65).bind fun v => some (v, σ65)) σ65 fun x163 σ66 =>
 G _ x150 true ((binOp PP .eql 3 x157 x163).bind fun v => some (v, σ66)) σ66 fun x164 σ67 =>
 (pickV x150 x164 (DV.p (PV.bool false))).bind fun x165 =>
 G _ x165 true ((fieldAddr PP 69 (DV.ptr (List.length σ) 0) 2).bind fun v => some (v, σ67)) σ67 fun x167 σ68 =>
 G _ x165 true ((load PP 3 x167 σ68).bind fun v => some (v, σ68)) σ68 fun x168 σ69 =>
 G _ x165 true ((fieldAddr PP 25 x2 2).bind fun v => some (v, σ69)) σ69 fun x169 σ70 =>
 G _ x165 true ((load PP 23 x169 σ70).bind fun v => some (v, σ70)) σ70 fun x170 σ71 =>
 G _ x165 true (some (x9, σ71)) σ71 fun x171 σ72 =>
 G _ x165 true ((indexAddr PP 23 x170 x171).bind fun v => some (v, σ72)) σ72 fun x172 σ73 =>
 G _ x165 true ((fieldAddr PP 69 x172 2).bind fun v => some (v, σ73)) σ73 fun x173 σ74 =>
 G _ x165 true ((load PP 3 x173 σ74).bind fun v => some (v, σ74)) σ74 fun x174 σ75 =>
 G _ x165 true ((binOp PP .eql 3 x168 x174).bind fun v => some (v, σ75)) σ75 fun x175 σ76 =>
 (pickV x165 x175 (DV.p (PV.bool false))).bind fun x176 =>
 condK x176
 (
 (binOp PP .add 3 x10 I1).bind fun x178 =>
 f6_J0 G lo x2 x6 x8 x9 x178 x11 (DV.ptr (List.length σ) 0) x11 x120 x121 x122 x123 x124 x127 x128 x129 x11 x131 x132 x133 x134 x8 x136 x136 x138 x139 x140 x141 x142 x143 x144 x145 x146 x147 x148 x149 x150 x150 x152 x153 x154 x155 x156 x157 x158 x159 x160 x161 x162 x163 x164 x165 x165 x167 x168 x169 x170 x171 x172 x173 x174 x175 x176 x10 x178 σ76
 )
 (
 f6_J0 G lo x2 x6 x8 x9 x10 x11 (DV.ptr (List.length σ) 0) x11 x120 x121 x122 x123 x124 x127 x128 x129 x11 x131 x132 x133 x134 x8 x136 x136 x138 x139 x140 x141 x142 x143 x144 x145 x146 x147 x148 x149 x150 x150 x152 x153 x154 x155 x156 x157 x158 x159 x160 x161 x162 x163 x164 x165 x165 x167 x168 x169 x170 x171 x172 x173 x174 x175 x176 Z Z σ76
 )
 )
 (
 (fieldAddr PP 33 x6 1).bind fun x180 =>
 (load PP 22 x180 σ).bind fun x181 =>
 (indexAddr PP 22 x181 x8).bind fun x183 =>
 (load PP 3 x183 σ).bind fun x184 =>
 (fieldAddr PP 25 x2 2).bind fun x185 =>
 (load PP 23 x185 σ).bind fun x186 =>
 (indexAddr PP 23 x186 x9).bind fun x188 =>
 (fieldAddr PP 69 x188 0).bind fun x189 =>
 (load PP 3 x189 σ).bind fun x190 =>
 (binOp PP .eql 3 x184 x190).bind fun x191 =>
 (pureFn CC (DV.fn 36 []) [x191] σ).bind fun x192 =>
 (binOp PP .neq 3 x10 x192).bind fun x193 =>
 condK x193
 (
 some ((DV.p (PV.bool false)), σ)
 )
 (
 (binOp PP .add 3 x9 I1).bind fun x118 =>
 f6_L2 G lo x2 x6 x8 x118 σ
 )
 ) := (loopF_eq G hG).trans (by kernel_rfl)
theorem f6_J0_eq (G : GuardT) (lo : Nat) (x2 x6 x8 x9 x10 x11 x12 x119 x120 x121 x122 x123 x124 x127 x128 x129 x130 x131 x132 x133 x134 x135 x136 x137 x138 x139 x140 x141 x142 x143 x144 x145 x146 x147 x148 x149 x150 x151 x152 x153 x154 x155 x156 x157 x158 x159 x160 x161 x162 x163 x164 x165 x166 x167 x168 x169 x170 x171 x172 x173 x174 x175 x176 x177 x178 : DV) (σ : Store) : f6_J0 G lo x2 x6 x8 x9 x10 x11 x12 x119 x120 x121 x122 x123 x124 x127 x128 x129 x130 x131 x132 x133 x134 x135 x136 x137 x138 x139 x140 x141 x142 x143 x144 x145 x146 x147 x148 x149 x150 x151 x152 x153 x154 x155 x156 x157 x158 x159 x160 x161 x162 x163 x164 x165 x166 x167 x168 x169 x170 x171 x172 x173 x174 x175 x176 x177 x178 σ =
 (binOp PP .add 3 x11 I1).bind fun x126 =>
 f6_L3 G lo x2 x6 x8 x9 x10 x126 σ := by kernel_rfl
theorem F6_eq (G : GuardT) (lo : Nat) (x0 x1 : DV) (σ : Store) : F6 G lo x0 x1 σ =
 (boxV x0).bind fun z2 =>
 (boxV x1).bind fun z3 =>
 (pureFn CC (DV.fn 9 []) [] ((σ ++ [Row.mix z2]) ++ [Row.mix z3])).bind fun x13 =>
 (unOp .not x13).bind fun x14 =>
 condK x14
 (
 some ((DV.p (PV.bool false)), ((σ ++ [Row.mix z2]) ++ [Row.mix z3]))
 )
 (
 (load PP 25 (DV.ptr (List.length σ) 0) ((σ ++ [Row.mix z2]) ++ [Row.mix z3])).bind fun x15 =>
 (pureFn CC (DV.fn 10 []) [x15] ((σ ++ [Row.mix z2]) ++ [Row.mix z3])).bind fun x16 =>
 (unOp .not x16).bind fun x17 =>
 G _ x17 false ((fieldAddr PP 28 (DV.ptr (List.length (σ ++ [Row.mix z2])) 0) 0).bind fun v => some (v, ((σ ++ [Row.mix z2]) ++ [Row.mix z3]))) ((σ ++ [Row.mix z2]) ++ [Row.mix z3]) fun x19 σ1 =>
 G _ x17 false ((load PP 22 x19 σ1).bind fun v => some (v, σ1)) σ1 fun x20 σ2 =>
 G _ x17 false ((len PP 22 x20 σ2).bind fun v => some (v, σ2)) σ2 fun x21 σ3 =>
 G _ x17 false ((binOp PP .gtr 3 x21 (DV.p (PV.int IntKind.i64 (40)))).bind fun v => some (v, σ3)) σ3 fun x22 σ4 =>
 (pickV x17 (DV.p (PV.bool true)) x22).bind fun x23 =>
 G _ x23 false ((fieldAddr PP 28 (DV.ptr (List.length (σ ++ [Row.mix z2])) 0) 1).bind fun v => some (v, σ4)) σ4 fun x25 σ5 =>
 G _ x23 false ((load PP 26 x25 σ5).bind fun v => some (v, σ5)) σ5 fun x26 σ6 =>
 G _ x23 false ((pureFn CC (DV.fn 11 []) [x26] σ6).bind fun v => some (v, σ6)) σ6 fun x27 σ7 =>
 G _ x23 false ((unOp .not x27).bind fun v => some (v, σ7)) σ7 fun x28 σ8 =>
 (pickV x23 (DV.p (PV.bool true)) x28).bind fun x29 =>
 G _ x29 false ((load PP 25 (DV.ptr (List.length σ) 0) σ8).bind fun v => some (v, σ8)) σ8 fun x31 σ9 =>
 G _ x29 false ((pureFn CC (DV.fn 17 []) [x31] σ9).bind fun v => some (v, σ9)) σ9 fun x32 σ10 =>
 G _ x29 false ((binOp PP .neq 3 x32 I0).bind fun v => some (v, σ10)) σ10 fun x33 σ11 =>
 (pickV x29 (DV.p (PV.bool true)) x33).bind fun x34 =>
 G _ x34 false ((load PP 25 (DV.ptr (List.length σ) 0) σ11).bind fun v => some (v, σ11)) σ11 fun x36 σ12 =>
 G _ x34 false ((load PP 28 (DV.ptr (List.length (σ ++ [Row.mix z2])) 0) σ12).bind fun v => some (v, σ12)) σ12 fun x37 σ13 =>
 G _ x34 false ((pureFn CC (DV.fn 18 []) [x36, x37] σ13).bind fun v => some (v, σ13)) σ13 fun x38 σ14 =>
 G _ x34 false ((binOp PP .neq 3 x38 I0).bind fun v => some (v, σ14)) σ14 fun x39 σ15 =>
 (pickV x34 (DV.p (PV.bool true)) x39).bind fun x40 =>
 condK x40
 (
 some ((DV.p (PV.bool true)), σ15)
 )
 (
 f6_L0 G lo (DV.ptr (List.length σ) 0) (DV.ptr (List.length (σ ++ [Row.mix z2])) 0) I1 σ15
 )
 ) := by kernel_rfl
theorem F6_call {lo : Nat} {x0 x1 : DV} (h : F6 guardT lo x0 x1 σ = some r) : CC lo 6 [x0, x1] σ = some r :=
 callL_run Tryz.func6 (by decide +kernel) rfl (by decide +kernel) h
def c10_0 : Code := bodyOf Tryz.f10
def a10_0 : Ann := (pol 10).ann
def F10 (x0 : DV) (σ : Store) : RS :=
 codeF G PP (pol 10) CC lo c10_0 a10_0 (x0 :: zn 34 []) σ (finR PP Tryz.f10.results.toList)
theorem F10_eq (G : GuardT) (lo : Nat) (x0 : DV) (σ : Store) : F10 G lo x0 σ =
 (boxV x0).bind fun z1 =>
 (fieldAddr PP 25 (DV.ptr (List.length σ) 0) 0).bind fun x3 =>
 (load PP 3 x3 (σ ++ [Row.mix z1])).bind fun x4 =>
 (binOp PP .leq 3 x4 (DV.p (PV.int IntKind.i64 (8)))).bind fun x5 =>
 G _ x5 false ((fieldAddr PP 25 (DV.ptr (List.length σ) 0) 0).bind fun v => some (v, (σ ++ [Row.mix z1]))) (σ ++ [Row.mix z1]) fun x7 σ1 =>
 G _ x5 false ((load PP 3 x7 σ1).bind fun v => some (v, σ1)) σ1 fun x8 σ2 =>
 G _ x5 false ((binOp PP .gtr 3 x8 (DV.p (PV.int IntKind.i64 (30)))).bind fun v => some (v, σ2)) σ2 fun x9 σ3 =>
 (pickV x5 (DV.p (PV.bool true)) x9).bind fun x10 =>
 G _ x10 true ((fieldAddr PP 25 (DV.ptr (List.length σ) 0) 1).bind fun v => some (v, σ3)) σ3 fun x12 σ4 =>
 G _ x10 true ((load PP 22 x12 σ4).bind fun v => some (v, σ4)) σ4 fun x13 σ5 =>
 G _ x10 true ((len PP 22 x13 σ5).bind fun v => some (v, σ5)) σ5 fun x14 σ6 =>
 G _ x10 true ((binOp PP .leq 3 x14 (DV.p (PV.int IntKind.i64 (40)))).bind fun v => some (v, σ6)) σ6 fun x15 σ7 =>
 (pickV x10 x15 (DV.p (PV.bool false))).bind fun x16 =>
 G _ x16 true ((fieldAddr PP 25 (DV.ptr (List.length σ) 0) 2).bind fun v => some (v, σ7)) σ7 fun x18 σ8 =>
 G _ x16 true ((load PP 23 x18 σ8).bind fun v => some (v, σ8)) σ8 fun x19 σ9 =>
 G _ x16 true ((len PP 23 x19 σ9).bind fun v => some (v, σ9)) σ9 fun x20 σ10 =>
 G _ x16 true ((binOp PP .leq 3 x20 (DV.p (PV.int IntKind.i64 (16)))).bind fun v => some (v, σ10)) σ10 fun x21 σ11 =>
 G _ x16 true (some (x21, σ11)) σ11 fun x22 σ12 =>
 G _ x22 false ((fieldAddr PP 25 (DV.ptr (List.length σ) 0) 2).bind fun v => some (v, σ12)) σ12 fun x23 σ13 =>
 G _ x22 false ((load PP 23 x23 σ13).bind fun v => some (v, σ13)) σ13 fun x24 σ14 =>
 G _ x22 false ((len PP 23 x24 σ14).bind fun v => some (v, σ14)) σ14 fun x25 σ15 =>
 G _ x22 false ((binOp PP .gtr 3 x25 (DV.p (PV.int IntKind.i64 (120)))).bind fun v => some (v, σ15)) σ15 fun x26 σ16 =>
 G _ x22 false (some (x26, σ16)) σ16 fun x27 σ17 =>
 G _ x27 true ((fieldAddr PP 25 (DV.ptr (List.length σ) 0) 2).bind fun v => some (v, σ17)) σ17 fun x28 σ18 =>
 G _ x27 true ((load PP 23 x28 σ18).bind fun v => some (v, σ18)) σ18 fun x29 σ19 =>
 G _ x27 true ((len PP 23 x29 σ19).bind fun v => some (v, σ19)) σ19 fun x30 σ20 =>
 G _ x27 true ((binOp PP .leq 3 x30 (DV.p (PV.int IntKind.i64 (122)))).bind fun v => some (v, σ20)) σ20 fun x31 σ21 =>
 G _ x22 false ((pickV x27 x31 (DV.p (PV.bool false))).bind fun v => some (v, σ21)) σ21 fun x32 σ22 =>
 G _ x16 true ((pickV x22 (DV.p (PV.bool true)) x32).bind fun v => some (v, σ22)) σ22 fun x33 σ23 =>
 (pickV x16 x33 (DV.p (PV.bool false))).bind fun x34 =>
 some (x34, σ23) := by kernel_rfl
theorem F10_call {lo : Nat} {x0 : DV} (h : F10 guardT lo x0 σ = some r) : CC lo 10 [x0] σ = some r :=
 callL_run Tryz.func10 (by decide +kernel) rfl (by decide +kernel) h
def c11_0 : Code := bodyOf Tryz.f11
def a11_0 : Ann := (pol 11).ann
def a11_13 : Ann := right (left (right (right a11_0)))
def a11_14 : Ann := left a11_13
def c11_15 : Code := fstC (fstC (sndC (fstC (sndC (sndC c11_0)))))
def c11_31 : Code := sndC (sndC (sndC c11_0))
def a11_31 : Ann := right (right (right a11_0))
def f11_L0 (x0 x3 : DV) (σ : Store) : RS :=
 codeF G PP (pol 11) CC lo (.loop c11_15) a11_14 (x0 :: Z :: Z :: x3 :: zn 15 []) σ
 (blockC 0 a11_13 (seqC G PP (pol 11) CC lo c11_31 a11_31 (finR PP Tryz.f11.results.toList)))
def F11 (x0 : DV) (σ : Store) : RS :=
 codeF G PP (pol 11) CC lo c11_0 a11_0 (x0 :: zn 18 []) σ (finR PP Tryz.f11.results.toList)
theorem f11_L0_eq (G : GuardT) (hG : GuardOk G) (lo : Nat) (x0 x3 : DV) (σ : Store) : f11_L0 G lo x0 x3 σ =
 (len PP 26 x0 σ).bind fun x9 =>
 (binOp PP .lss 3 x3 x9).bind fun x10 =>
 condK x10
 (
 (indexAddr PP 26 x0 x3).bind fun x15 =>
 (load PP 22 x15 σ).bind fun x16 =>
 (len PP 22 x16 σ).bind fun x17 =>
 (binOp PP .gtr 3 x17 (DV.p (PV.int IntKind.i64 (10)))).bind fun x18 =>
 condK x18
 (
 some ((DV.p (PV.bool false)), σ)
 )
 (
 (binOp PP .add 3 x3 I1).bind fun x12 =>
 f11_L0 G lo x0 x12 σ
 )
 )
 (
 some ((DV.p (PV.bool true)), σ)
 ) := (loopF_eq G hG).trans (by kernel_rfl)
theorem F11_eq (G : GuardT) (lo : Nat) (x0 : DV) (σ : Store) : F11 G lo x0 σ =
 (len PP 26 x0 σ).bind fun x5 =>
 (binOp PP .gtr 3 x5 (DV.p (PV.int IntKind.i64 (130)))).bind fun x6 =>
 condK x6
 (
 some ((DV.p (PV.bool false)), σ)
 )
 (
 f11_L0 G lo x0 I0 σ
 ) := by kernel_rfl
theorem F11_call {lo : Nat} {x0 : DV} (h : F11 guardT lo x0 σ = some r) : CC lo 11 [x0] σ = some r :=
 callL_run Tryz.func11 (by decide +kernel) rfl (by decide +kernel) h
def c14_0 : Code := bodyOf Tryz.f14
def a14_0 : Ann := (pol 14).ann
def F14 (x0 : DV) (σ : Store) : RS :=
 codeF G PP (pol 14) CC lo c14_0 a14_0 (x0 :: zn 9 []) σ (finR PP Tryz.f14.results.toList)
theorem F14_eq (G : GuardT) (lo : Nat) (x0 : DV) (σ : Store) : F14 G lo x0 σ =
 (boxV x0).bind fun z1 =>
 (zeroOf PP 28).bind fun z2 =>
 (fieldAddr PP 28 (DV.ptr (List.length σ) 0) 0).bind fun x3 =>
 (load PP 22 x3 ((σ ++ [Row.mix z1]) ++ [Row.mix z2])).bind fun x4 =>
 (pureFn CC (DV.fn 16 []) [x4] ((σ ++ [Row.mix z1]) ++ [Row.mix z2])).bind fun x5 =>
 (fieldAddr PP 28 (DV.ptr (List.length σ) 0) 1).bind fun x6 =>
 (load PP 26 x6 ((σ ++ [Row.mix z1]) ++ [Row.mix z2])).bind fun x7 =>
 (pureFn CC (DV.fn 52 []) [x7] ((σ ++ [Row.mix z1]) ++ [Row.mix z2])).bind fun x8 =>
 (build PP 28 [(0, x5), (1, x8)]).bind fun x9 =>
 (store PP lo 28 (DV.ptr (List.length (σ ++ [Row.mix z1])) 0) x9 ((σ ++ [Row.mix z1]) ++ [Row.mix z2])).bind fun σ1 =>
 (cellV PP 28 (DV.ptr (List.length (σ ++ [Row.mix z1])) 0) σ1).bind fun v0 =>
 some (v0, σ1) := by kernel_rfl
theorem F14_call {lo : Nat} {x0 : DV} (h : F14 guardT lo x0 σ = some r) : CC lo 14 [x0] σ = some r :=
 callL_run Tryz.func14 (by decide +kernel) rfl (by decide +kernel) h
def c17_0 : Code := bodyOf Tryz.f17
def a17_0 : Ann := (pol 17).ann
def a17_21 : Ann := right (left (right (right (right a17_0))))
def a17_22 : Ann := left a17_21
def c17_23 : Code := fstC (fstC (sndC (fstC (sndC (sndC (sndC c17_0))))))
def c17_39 : Code := sndC (sndC (sndC (sndC c17_0)))
def a17_39 : Ann := right (right (right (right a17_0)))
def f17_L0 (x1 x3 : DV) (σ : Store) : RS :=
 codeF G PP (pol 17) CC lo (.loop c17_23) a17_22 (Z :: x1 :: Z :: x3 :: zn 26 []) σ
 (blockC 0 a17_21 (seqC G PP (pol 17) CC lo c17_39 a17_39 (finR PP Tryz.f17.results.toList)))
def F17 (x0 : DV) (σ : Store) : RS :=
 codeF G PP (pol 17) CC lo c17_0 a17_0 (x0 :: zn 29 []) σ (finR PP Tryz.f17.results.toList)
theorem f17_L0_eq (G : GuardT) (hG : GuardOk G) (lo : Nat) (x1 x3 : DV) (σ : Store) : f17_L0 G lo x1 x3 σ =
 (fieldAddr PP 25 x1 2).bind fun x17 =>
 (load PP 23 x17 σ).bind fun x18 =>
 (len PP 23 x18 σ).bind fun x19 =>
 (binOp PP .lss 3 x3 x19).bind fun x20 =>
 condK x20
 (
 (fieldAddr PP 25 x1 2).bind fun x23 =>
 (load PP 23 x23 σ).bind fun x24 =>
 (indexAddr PP 23 x24 x3).bind fun x26 =>
 (fieldAddr PP 69 x26 2).bind fun x27 =>
 (load PP 3 x27 σ).bind fun x28 =>
 (binOp PP .eql 3 x28 (DV.p (PV.int IntKind.i64 (11)))).bind fun x29 =>
 condK x29
 (
 some ((DV.p (PV.int IntKind.i64 (3))), σ)
 )
 (
 (binOp PP .add 3 x3 I1).bind fun x22 =>
 f17_L0 G lo x1 x22 σ
 )
 )
 (
 some (I0, σ)
 ) := (loopF_eq G hG).trans (by kernel_rfl)
theorem F17_eq (G : GuardT) (lo : Nat) (x0 : DV) (σ : Store) : F17 G lo x0 σ =
 (boxV x0).bind fun z1 =>
 (load PP 25 (DV.ptr (List.length σ) 0) (σ ++ [Row.mix z1])).bind fun x4 =>
 (pureFn CC (DV.fn 56 []) [x4] (σ ++ [Row.mix z1])).bind fun x5 =>
 (unOp .not x5).bind fun x6 =>
 condK x6
 (
 some ((DV.p (PV.int IntKind.i64 (5))), (σ ++ [Row.mix z1]))
 )
 (
 (fieldAddr PP 25 (DV.ptr (List.length σ) 0) 0).bind fun x7 =>
 (load PP 3 x7 (σ ++ [Row.mix z1])).bind fun x8 =>
 (binOp PP .gtr 3 x8 (DV.p (PV.int IntKind.i64 (30)))).bind fun x9 =>
 G _ x9 false ((fieldAddr PP 25 (DV.ptr (List.length σ) 0) 2).bind fun v => some (v, (σ ++ [Row.mix z1]))) (σ ++ [Row.mix z1]) fun x11 σ1 =>
 G _ x9 false ((load PP 23 x11 σ1).bind fun v => some (v, σ1)) σ1 fun x12 σ2 =>
 G _ x9 false ((len PP 23 x12 σ2).bind fun v => some (v, σ2)) σ2 fun x13 σ3 =>
 G _ x9 false ((binOp PP .gtr 3 x13 (DV.p (PV.int IntKind.i64 (120)))).bind fun v => some (v, σ3)) σ3 fun x14 σ4 =>
 (pickV x9 (DV.p (PV.bool true)) x14).bind fun x15 =>
 condK x15
 (
 some ((DV.p (PV.int IntKind.i64 (2))), σ4)
 )
 (
 f17_L0 G lo (DV.ptr (List.length σ) 0) I0 σ4
 )
 ) := by kernel_rfl
theorem F17_call {lo : Nat} {x0 : DV} (h : F17 guardT lo x0 σ = some r) : CC lo 17 [x0] σ = some r :=
 callL_run Tryz.func17 (by decide +kernel) rfl (by decide +kernel) h
def c18_0 : Code := bodyOf Tryz.f18
def a18_0 : Ann := (pol 18).ann
def a18_13 : Ann := right (left (right (right a18_0)))
def a18_14 : Ann := left a18_13
def c18_15 : Code := fstC (fstC (sndC (fstC (sndC (sndC c18_0)))))
def c18_31 : Code := sndC (sndC (sndC c18_0))
def a18_31 : Ann := right (right (right a18_0))
def a18_42 : Ann := right (left (right a18_31))
def a18_43 : Ann := left a18_42
def c18_44 : Code := fstC (fstC (sndC (fstC (sndC c18_31))))
def a18_51 : Ann := left (right (left a18_43))
def a18_62 : Ann := right (right (left a18_51))
def a18_63 : Ann := left a18_62
def c18_64 : Code := fstC (fstC (sndC (sndC (fstC (fstC (sndC c18_44))))))
def c18_80 : Code := sndC (sndC c18_44)
def a18_80 : Ann := right (right (left a18_43))
def c18_81 : Code := sndC (sndC c18_31)
def a18_81 : Ann := right (right a18_31)
def f18_L0 (x2 x3 x5 : DV) (σ : Store) : RS :=
 codeF G PP (pol 18) CC lo (.loop c18_15) a18_14 (Z :: Z :: x2 :: x3 :: Z :: x5 :: zn 63 []) σ
 (blockC 0 a18_13 (seqC G PP (pol 18) CC lo c18_31 a18_31 (finR PP Tryz.f18.results.toList)))
def f18_L1 (x3 x6 : DV) (σ : Store) : RS :=
 codeF G PP (pol 18) CC lo (.loop c18_44) a18_43 (Z :: Z :: Z :: x3 :: Z :: Z :: x6 :: zn 62 []) σ
 (blockC 2 a18_42 (seqC G PP (pol 18) CC lo c18_81 a18_81 (finR PP Tryz.f18.results.toList)))
def f18_L2 (x3 x6 x7 : DV) (σ : Store) : RS :=
 codeF G PP (pol 18) CC lo (.loop c18_64) a18_63 (Z :: Z :: Z :: x3 :: Z :: Z :: x6 :: x7 :: zn 61 []) σ
 (blockC 4 a18_62 (blockC 3 a18_51 (seqC G PP (pol 18) CC lo c18_80 a18_80 (loopC G PP (pol 18) CC lo c18_44 a18_43 (blockC 2 a18_42 (seqC G PP (pol 18) CC lo c18_81 a18_81 (finR PP Tryz.f18.results.toList)))))))
def F18 (x0 x1 : DV) (σ : Store) : RS :=
 codeF G PP (pol 18) CC lo c18_0 a18_0 (x0 :: x1 :: zn 67 []) σ (finR PP Tryz.f18.results.toList)
theorem f18_L0_eq (G : GuardT) (hG : GuardOk G) (lo : Nat) (x2 x3 x5 : DV) (σ : Store) : f18_L0 G lo x2 x3 x5 σ =
 (fieldAddr PP 28 x3 0).bind fun x15 =>
 (load PP 22 x15 σ).bind fun x16 =>
 (len PP 22 x16 σ).bind fun x17 =>
 (binOp PP .lss 3 x5 x17).bind fun x18 =>
 condK x18
 (
 (fieldAddr PP 28 x3 0).bind fun x21 =>
 (load PP 22 x21 σ).bind fun x22 =>
 (indexAddr PP 22 x22 x5).bind fun x24 =>
 (load PP 3 x24 σ).bind fun x25 =>
 (pureFn CC (DV.fn 57 []) [x25] σ).bind fun x26 =>
 (unOp .not x26).bind fun x27 =>
 condK x27
 (
 some ((DV.p (PV.int IntKind.i64 (3))), σ)
 )
 (
 (binOp PP .add 3 x5 I1).bind fun x20 =>
 f18_L0 G lo x2 x3 x20 σ
 )
 )
 (
 (fieldAddr PP 28 x3 1).bind fun x28 =>
 (load PP 26 x28 σ).bind fun x29 =>
 (len PP 26 x29 σ).bind fun x30 =>
 (fieldAddr PP 25 x2 2).bind fun x31 =>
 (load PP 23 x31 σ).bind fun x32 =>
 (len PP 23 x32 σ).bind fun x33 =>
 (binOp PP .neq 3 x30 x33).bind fun x34 =>
 condK x34
 (
 some ((DV.p (PV.int IntKind.i64 (6))), σ)
 )
 (
 f18_L1 G lo x3 I0 σ
 )
 ) := (loopF_eq G hG).trans (by kernel_rfl)
theorem f18_L1_eq (G : GuardT) (hG : GuardOk G) (lo : Nat) (x3 x6 : DV) (σ : Store) : f18_L1 G lo x3 x6 σ =
 (fieldAddr PP 28 x3 1).bind fun x36 =>
 (load PP 26 x36 σ).bind fun x37 =>
 (len PP 26 x37 σ).bind fun x38 =>
 (binOp PP .lss 3 x6 x38).bind fun x39 =>
 condK x39
 (
 (fieldAddr PP 28 x3 1).bind fun x42 =>
 (load PP 26 x42 σ).bind fun x43 =>
 (indexAddr PP 26 x43 x6).bind fun x45 =>
 (load PP 22 x45 σ).bind fun x46 =>
 (len PP 22 x46 σ).bind fun x47 =>
 (binOp PP .neq 3 x47 (DV.p (PV.int IntKind.i64 (8)))).bind fun x48 =>
 condK x48
 (
 some ((DV.p (PV.int IntKind.i64 (6))), σ)
 )
 (
 f18_L2 G lo x3 x6 I0 σ
 )
 )
 (
 some (I0, σ)
 ) := (loopF_eq G hG).trans (by kernel_rfl)
theorem f18_L2_eq (G : GuardT) (hG : GuardOk G) (lo : Nat) (x3 x6 x7 : DV) (σ : Store) : f18_L2 G lo x3 x6 x7 σ =
 (fieldAddr PP 28 x3 1).bind fun x50 =>
 (load PP 26 x50 σ).bind fun x51 =>
 (indexAddr PP 26 x51 x6).bind fun x53 =>
 (load PP 22 x53 σ).bind fun x54 =>
 (len PP 22 x54 σ).bind fun x55 =>
 (binOp PP .lss 3 x7 x55).bind fun x56 =>
 condK x56
 (
 (fieldAddr PP 28 x3 1).bind fun x59 =>
 (load PP 26 x59 σ).bind fun x60 =>
 (indexAddr PP 26 x60 x6).bind fun x62 =>
 (load PP 22 x62 σ).bind fun x63 =>
 (indexAddr PP 22 x63 x7).bind fun x65 =>
 (load PP 3 x65 σ).bind fun x66 =>
 (pureFn CC (DV.fn 57 []) [x66] σ).bind fun x67 =>
 (unOp .not x67).bind fun x68 =>
 condK x68
 (
 some ((DV.p (PV.int IntKind.i64 (3))), σ)
 )
 (
 (binOp PP .add 3 x7 I1).bind fun x58 =>
 f18_L2 G lo x3 x6 x58 σ
 )
 )
 (
 (binOp PP .add 3 x6 I1).bind fun x41 =>
 f18_L1 G lo x3 x41 σ
 ) := (loopF_eq G hG).trans (by kernel_rfl)
theorem F18_eq (G : GuardT) (lo : Nat) (x0 x1 : DV) (σ : Store) : F18 G lo x0 x1 σ =
 (boxV x0).bind fun z2 =>
 (boxV x1).bind fun z3 =>
 (fieldAddr PP 28 (DV.ptr (List.length (σ ++ [Row.mix z2])) 0) 0).bind fun x8 =>
 (load PP 22 x8 ((σ ++ [Row.mix z2]) ++ [Row.mix z3])).bind fun x9 =>
 (len PP 22 x9 ((σ ++ [Row.mix z2]) ++ [Row.mix z3])).bind fun x10 =>
 (fieldAddr PP 25 (DV.ptr (List.length σ) 0) 0).bind fun x11 =>
 (load PP 3 x11 ((σ ++ [Row.mix z2]) ++ [Row.mix z3])).bind fun x12 =>
 (binOp PP .neq 3 x10 x12).bind fun x13 =>
 condK x13
 (
 some ((DV.p (PV.int IntKind.i64 (6))), ((σ ++ [Row.mix z2]) ++ [Row.mix z3]))
 )
 (
 f18_L0 G lo (DV.ptr (List.length σ) 0) (DV.ptr (List.length (σ ++ [Row.mix z2])) 0) I0 ((σ ++ [Row.mix z2]) ++ [Row.mix z3])
 ) := by kernel_rfl
theorem F18_call {lo : Nat} {x0 x1 : DV} (h : F18 guardT lo x0 x1 σ = some r) : CC lo 18 [x0, x1] σ = some r :=
 callL_run Tryz.func18 (by decide +kernel) rfl (by decide +kernel) h
def c52_0 : Code := bodyOf Tryz.f52
def a52_0 : Ann := (pol 52).ann
def a52_7 : Ann := right (left (right (right a52_0)))
def a52_8 : Ann := left a52_7
def c52_9 : Code := fstC (fstC (sndC (fstC (sndC (sndC c52_0)))))
def c52_19 : Code := sndC (sndC (sndC c52_0))
def a52_19 : Ann := right (right (right a52_0))
def f52_L0 (x0 x3 x4 : DV) (σ : Store) : RS :=
 codeF G PP (pol 52) CC lo (.loop c52_9) a52_8 (x0 :: Z :: Z :: x3 :: x4 :: zn 15 []) σ
 (blockC 0 a52_7 (seqC G PP (pol 52) CC lo c52_19 a52_19 (finR PP Tryz.f52.results.toList)))
def F52 (x0 : DV) (σ : Store) : RS :=
 codeF G PP (pol 52) CC lo c52_0 a52_0 (x0 :: zn 19 []) σ (finR PP Tryz.f52.results.toList)
theorem f52_L0_eq (G : GuardT) (hG : GuardOk G) (lo : Nat) (x0 x3 x4 : DV) (σ : Store) : f52_L0 G lo x0 x3 x4 σ =
 (len PP 26 x0 σ).bind fun x7 =>
 (binOp PP .lss 3 x4 x7).bind fun x8 =>
 condK x8
 (
 (indexAddr PP 26 x0 x4).bind fun x14 =>
 (load PP 22 x14 σ).bind fun x15 =>
 (pureFn CC (DV.fn 16 []) [x15] σ).bind fun x16 =>
 (buildSlice PP none 26 1 [(0, x16)] σ).bind fun r17_1 =>
 (append PP lo false 26 26 x3 r17_1.1 r17_1.2).bind fun r18_2 =>
 (binOp PP .add 3 x4 I1).bind fun x10 =>
 f52_L0 G lo x0 r18_2.1 x10 r18_2.2
 )
 (
 some (x3, σ)
 ) := (loopF_eq G hG).trans (by kernel_rfl)
theorem F52_eq (G : GuardT) (lo : Nat) (x0 : DV) (σ : Store) : F52 G lo x0 σ =
 f52_L0 G lo x0 (DV.p PV.nilsl) I0 σ := by kernel_rfl
theorem F52_call {lo : Nat} {x0 : DV} (h : F52 guardT lo x0 σ = some r) : CC lo 52 [x0] σ = some r :=
 callL_run Tryz.func52 (by decide +kernel) rfl (by decide +kernel) h
end
end Go.D
end
/- Chapter 22: the errors of graphs and history variables, in the program and in its reference. -/
section
set_option linter.unusedVariables false
set_option linter.unusedSimpArgs false
namespace Go.D.StS
open Go.D.Srt
def tk (e : Edg) : Bool := decide (e.a = 11)
def errG (g : Gr) : Int := if isG g = true then (if g.n ≤ 30 ∧ (L g.edges).length ≤ 120 then (if (L g.edges).any tk = true then 3 else 0) else 2) else 5
def rowErr (l : OI) : Int := if (L l).length = 8 then (if (L l).any bA = true then 3 else 0) else 6
def rowsErr : List OI → Int
  | [] => 0
  | a :: l => if rowErr a = 0 then rowsErr l else rowErr a
def errHR (g : Gr) (h : Hs) : Int := if ((L h.s).length : Int) = g.n then (if (L h.s).any bA = true then 3 else if (L h.x).length = (L g.edges).length then rowsErr (L h.x) else 6) else 6
def fewB (g : Gr) : Bool := (decide (g.n ≤ 8) || decide (g.n > 30)) && (decide ((L g.init).length ≤ 40) && (decide ((L g.edges).length ≤ 16) || (decide ((L g.edges).length > 120) && decide ((L g.edges).length ≤ 122))))
def briB (l : List OI) : Bool := decide (l.length ≤ 130) && l.all fun o => decide ((L o).length ≤ 10)
theorem gr_view (g : Gr) : view (.agg (eGr g)) = .agg (eGr g) := by simp [view, viewCell, eGr, loosen_sl, loosen_es, loosen]
theorem loosens_sls (l : List OI) : loosens (l.map eSl) = l.map eSl := by
  induction l with
  | nil => rfl
  | cons a l ih => simp only [List.map_cons, loosens, ih, loosen_sl]
theorem loosen_ls (o : Option (List OI)) : loosen (eLs o) = eLs o := by
  cases o with
  | none => rfl
  | some l => simp [eLs, loosen, loosens_sls]
theorem ls_view (o : Option (List OI)) : view (.p (eLs o)) = .p (eLs o) := by simp [view, viewCell, loosen_ls]
theorem hs_view (h : Hs) : view (.agg (eHs h)) = .agg (eHs h) := by simp [view, viewCell, eHs, loosen_sl, loosen_ls]
theorem box_gr (g : Gr) : boxV (.agg (eGr g)) = some (eGr g) := rfl
theorem box_hs (h : Hs) : boxV (.agg (eHs h)) = some (eHs h) := rfl
theorem S10 {g : Gr} {σ : Store} : pureV CC 10 [.agg (eGr g)] σ = some (.p (.bool (fewB g))) := by
  have g0 : ([Row.mix (eGr g)] : Store)[0]? = some (.mix (eGr g)) := rfl
  refine pureV_free (by simp [gr_view]) rfl (F10_call (r := (.p (.bool (fewB g)), [.mix (eGr g)])) ?_) rfl
  rw [F10_eq]
  have q0 : decide (((L g.init).length : Int) ≤ 40) = decide ((L g.init).length ≤ 40) := by rw [decide_eq_decide]; omega
  have q1 : decide (((L g.edges).length : Int) ≤ 16) = decide ((L g.edges).length ≤ 16) := by rw [decide_eq_decide]; omega
  have q2 : decide (((L g.edges).length : Int) > 120) = decide ((L g.edges).length > 120) := by rw [decide_eq_decide]; omega
  have q3 : decide (((L g.edges).length : Int) ≤ 122) = decide ((L g.edges).length ≤ 122) := by rw [decide_eq_decide]; omega
  unfold fewB
  cases e1 : decide (g.n ≤ 8) <;> cases e2 : decide (g.n > 30) <;> cases e3 : decide ((L g.init).length ≤ 40) <;> cases e4 : decide ((L g.edges).length ≤ 16) <;> cases e5 : decide ((L g.edges).length > 120) <;> cases e6 : decide ((L g.edges).length ≤ 122) <;>
    simp only [box_gr, gG, List.length_nil, List.nil_append, fa25_0, fa25_1, fa25_2, shift_ptr, shift_pptr, Nat.zero_add, Nat.add_zero, pureFn_fn, List.append_nil, List.singleton_append, List.cons_append, List.nil_append, load3, load22, load23, load1_ptr (off := 0) g0 (v := .p (.int .i64 g.n)) rfl, load1_ptr (off := 1) g0 (v := .p (eSl g.init)) rfl, load1_ptr (off := 2) g0 (v := .p (eEs g.edges)) rfl, len22, len23, b_leq, b_gtr, q0, q1, q2, q3, e1, e2, e3, e4, e5, e6,
      Bool.or_true, Bool.or_false, Bool.true_or, Bool.false_or, Bool.and_true, Bool.and_false, Bool.true_and, Bool.false_and]
theorem L11 {o : Option (List OI)} {σ : Store} (lo : Nat) (hl : (L o).length ≤ 1000) : ∀ (d i : Nat), (L o).length - i = d → i ≤ (L o).length →
    f11_L0 guardT lo (.p (eLs o)) (N i) σ = some (.p (.bool (((L o).drop i).all fun q => decide ((L q).length ≤ 10))), σ)
  | 0, i, hd, hi => by
    rw [f11_L0_eq guardT rfl, List.drop_of_length_le (by omega)]
    simp (disch := omega) only [N, len26, b_lss, ltF, gG]
    rfl
  | d + 1, i, hd, hi => by
    have hil : i < (L o).length := by omega
    have ih := L11 (σ := σ) lo hl d (i + 1) (by omega) (by omega)
    have e0 : (L o).drop i = (L o).getD i none :: (L o).drop (i + 1) := by rw [getD_at none hil]; exact List.drop_eq_getElem_cons hil
    rw [f11_L0_eq guardT rfl, e0, List.all_cons]
    by_cases h10 : (L ((L o).getD i none)).length ≤ 10
    · have q : ¬ (((L ((L o).getD i none)).length : Int) > 10) := by omega
      simp (disch := omega) only [N, len26, b_lss, ltT, gG, idx26, load22, ldLs hil, len22, b_gtr, gtF q, add1, decide_eq_true h10, Bool.true_and]
      exact ih
    · have q : (((L ((L o).getD i none)).length : Int) > 10) := by omega
      simp (disch := omega) only [N, len26, b_lss, ltT, gG, idx26, load22, ldLs hil, len22, b_gtr, gtT q, decide_eq_false h10, Bool.false_and]
theorem S11 {o : Option (List OI)} {σ : Store} : pureV CC 11 [.p (eLs o)] σ = some (.p (.bool (briB (L o)))) := by
  refine pureV_free (by simp [ls_view]) rfl (F11_call (r := (.p (.bool (briB (L o))), [])) ?_) rfl
  rw [F11_eq]
  unfold briB
  by_cases h : (L o).length ≤ 130
  · have q : ¬ (((L o).length : Int) > 130) := by omega
    simp only [len26, b_gtr, gtF q, gG, decide_eq_true h, Bool.true_and]
    have := L11 (σ := []) 0 (show (L o).length ≤ 1000 by omega) _ 0 rfl (Nat.zero_le _)
    rwa [List.drop_zero] at this
  · have q : (((L o).length : Int) > 130) := by omega
    simp only [len26, b_gtr, gtT q, gG, decide_eq_false h, Bool.false_and]
theorem S107 (e : Edg) (σ : Store) : pureV CC 107 [.agg (edgD e)] σ = some (.p (.bool (tk e))) := by
  have g0 : ([Row.mix (edgD e)] : Store)[0]? = some (.mix (edgD e)) := rfl
  have hb : boxV (.agg (edgD e)) = some (edgD e) := rfl
  refine pureV_free rfl rfl (F107_call (r := (.p (.bool (tk e)), [.mix (edgD e)])) ?_) rfl
  rw [F107_eq]
  simp only [hb, gG, List.length_nil, List.nil_append, fa69_2, shift_ptr, shift_pptr, Nat.zero_add, Nat.add_zero, pureFn_fn, List.append_nil, List.singleton_append, List.cons_append, List.nil_append, load3, load1_ptr (off := 2) g0 (v := .p (.int .i64 e.a)) rfl, b_eql]
  rfl
section
variable {g : Gr} (hi : (L g.init).length ≤ 1000) (he : (L g.edges).length ≤ 10000)
include hi he
theorem S81 (σ : Store) : pureV CC 81 [.agg (eGr g)] σ = some (.p (pI (errG g))) := by
  have g0 : ([Row.mix (eGr g)] : Store)[0]? = some (.mix (eGr g)) := rfl
  refine pureV_free (by simp [gr_view]) rfl (F81_call (r := (.p (pI (errG g)), [.mix (eGr g)])) ?_) rfl
  have q1 : decide (((L g.edges).length : Int) ≤ 120) = decide ((L g.edges).length ≤ 120) := by rw [decide_eq_decide]; omega
  have S73' := fun (b : Bool) (e : Int) (σ : Store) => S73 b e σ
  simp only [pI] at S73'
  have bs := fun (x y z : Int) (σ : Store) => bs143_3 x y z σ
  simp only [pI] at bs
  rw [F81_eq]
  simp only [box_gr, gG, List.length_nil, List.nil_append, fa25_0, fa25_2, shift_ptr, shift_pptr, Nat.zero_add, Nat.add_zero, pureFn_fn, List.append_nil, List.singleton_append, List.cons_append, List.nil_append, load3, load23, load1_ptr (off := 0) g0 (v := .p (.int .i64 g.n)) rfl, load1_ptr (off := 2) g0 (v := .p (eEs g.edges)) rfl, S100 (q := tk) he (fun σ0 _ e => S107 e σ0), gr_all g0, S96 hi he, S73', b_leq]
  have fin : ∀ b2 : Bool, b2 = (decide (g.n ≤ 30) && decide ((L g.edges).length ≤ 120)) → orL [if isG g = true then 0 else 5, if b2 = true then 0 else 2, if (!(L g.edges).any tk) = true then 0 else 3] = errG g := by
    rintro _ rfl
    unfold errG
    cases isG g <;> by_cases h1 : g.n ≤ 30 <;> by_cases h2 : (L g.edges).length ≤ 120 <;> cases (L g.edges).any tk <;> simp [orL, h1, h2]
  have h53 : ∀ (a b c : Int) (σ : Store), pureV CC 53 [.p (.sl true 3 (eInts [a, b, c]))] σ = some (.p (.int .i64 (orL [a, b, c]))) := fun a b c σ => S53t rfl (by simp)
  by_cases h1 : g.n ≤ 30
  · simp only [decide_eq_true h1, gG, load1_ptr (off := 2) g0 (v := .p (eEs g.edges)) rfl, len23, b_leq, q1, S73', bs, h53]
    rw [fin _ (by rw [decide_eq_true h1, Bool.true_and])]
  · simp only [decide_eq_false h1, gG, len23, b_leq, q1, S73', bs, h53]
    rw [fin _ (by rw [decide_eq_false h1, Bool.false_and])]
omit hi in
theorem L17 {σ : Store} (g0 : σ[0]? = some (.mix (eGr g))) : ∀ (d i : Nat), (L g.edges).length - i = d → i ≤ (L g.edges).length →
    f17_L0 guardT 0 (.ptr 0 0) (N i) σ = some (.p (pI (if ((L g.edges).drop i).any tk = true then 3 else 0)), σ)
  | 0, i, hd, hj => by
    rw [f17_L0_eq guardT rfl, List.drop_of_length_le (by omega)]
    simp (disch := omega) only [N, fa25_2, shift_ptr, shift_pptr, Nat.zero_add, Nat.add_zero, pureFn_fn, List.append_nil, List.singleton_append, List.cons_append, List.nil_append, load23, load1_ptr (off := 2) g0 (v := .p (eEs g.edges)) rfl, len23, b_lss, ltF, gG]
    rfl
  | d + 1, i, hd, hj => by
    have hil : i < (L g.edges).length := by omega
    have ih := L17 g0 d (i + 1) (by omega) (by omega)
    have e0 : (L g.edges).drop i = gE (L g.edges) i :: (L g.edges).drop (i + 1) := by rw [gE_at hil]; exact List.drop_eq_getElem_cons hil
    rw [f17_L0_eq guardT rfl, e0, List.any_cons]
    by_cases h11 : (gE (L g.edges) i).a = 11
    · simp (disch := omega) only [N, fa25_2, shift_ptr, shift_pptr, Nat.zero_add, Nat.add_zero, pureFn_fn, List.append_nil, List.singleton_append, List.cons_append, List.nil_append, load23, load1_ptr (off := 2) g0 (v := .p (eEs g.edges)) rfl, len23, b_lss, ltT, gG, idx23, fa69_2, load3, ldEa hil, b_eql, eqT h11, tk, Bool.true_or, if_true]
    · simp (disch := omega) only [N, fa25_2, shift_ptr, shift_pptr, Nat.zero_add, Nat.add_zero, pureFn_fn, List.append_nil, List.singleton_append, List.cons_append, List.nil_append, load23, load1_ptr (off := 2) g0 (v := .p (eEs g.edges)) rfl, len23, b_lss, ltT, gG, idx23, fa69_2, load3, ldEa hil, b_eql, eqF h11, add1, tk, Bool.false_or]
      exact ih
theorem S17 (σ : Store) : pureV CC 17 [.agg (eGr g)] σ = some (.p (pI (errG g))) := by
  have g0 : ([Row.mix (eGr g)] : Store)[0]? = some (.mix (eGr g)) := rfl
  refine pureV_free (by simp [gr_view]) rfl (F17_call (r := (.p (pI (errG g)), [.mix (eGr g)])) ?_) rfl
  rw [F17_eq]
  unfold errG
  cases hG : isG g with
  | false =>
    simp only [box_gr, gG, List.length_nil, List.nil_append, gr_all g0, pureFn_fn, List.append_nil, S56 hi he, hG]
    rfl
  | true =>
    have hL := L17 he g0 _ 0 rfl (Nat.zero_le _)
    rw [List.drop_zero] at hL
    by_cases h1 : g.n ≤ 30
    · have p1 : ¬ (g.n > 30) := by omega
      by_cases h2 : (L g.edges).length ≤ 120
      · have p2 : ¬ (((L g.edges).length : Int) > 120) := by omega
        simp only [box_gr, gG, List.length_nil, List.nil_append, gr_all g0, S56 hi he, hG, fa25_0, fa25_2, shift_ptr, shift_pptr, Nat.zero_add, Nat.add_zero, pureFn_fn, List.append_nil, List.singleton_append, List.cons_append, List.nil_append, load3, load23, load1_ptr (off := 0) g0 (v := .p (.int .i64 g.n)) rfl, load1_ptr (off := 2) g0 (v := .p (eEs g.edges)) rfl, len23, b_gtr, gtF p1, gtF p2, if_true, if_pos (And.intro h1 h2)]
        exact hL
      · have p2 : (((L g.edges).length : Int) > 120) := by omega
        have p3 : ¬ (g.n ≤ 30 ∧ (L g.edges).length ≤ 120) := fun h => h2 h.2
        simp only [box_gr, gG, List.length_nil, List.nil_append, gr_all g0, S56 hi he, hG, fa25_0, fa25_2, shift_ptr, shift_pptr, Nat.zero_add, Nat.add_zero, pureFn_fn, List.append_nil, List.singleton_append, List.cons_append, List.nil_append, load3, load23, load1_ptr (off := 0) g0 (v := .p (.int .i64 g.n)) rfl, load1_ptr (off := 2) g0 (v := .p (eEs g.edges)) rfl, len23, b_gtr, gtF p1, gtT p2, if_true, if_neg p3]
    · have p1 : g.n > 30 := by omega
      have p3 : ¬ (g.n ≤ 30 ∧ (L g.edges).length ≤ 120) := fun h => h1 h.1
      simp only [box_gr, gG, List.length_nil, List.nil_append, gr_all g0, S56 hi he, hG, fa25_0, fa25_2, shift_ptr, shift_pptr, Nat.zero_add, Nat.add_zero, pureFn_fn, List.append_nil, List.singleton_append, List.cons_append, List.nil_append, load3, load23, load1_ptr (off := 0) g0 (v := .p (.int .i64 g.n)) rfl, load1_ptr (off := 2) g0 (v := .p (eEs g.edges)) rfl, len23, b_gtr, gtT p1, if_true, if_neg p3]
end
end Go.D.StS
end
/- Chapter 22: the errors of history variables; own copies; AddHistory. -/
section
set_option linter.unusedVariables false
set_option linter.unusedSimpArgs false
namespace Go.D.StS
open Go.D.Srt
theorem S82' {o : OI} {σ : Store} (hl : (L o).length ≤ 1000) : pureV CC 82 [.p (eSl o)] σ = some (.p (.bool (!(L o).any bA))) := S82 hl
theorem h53_2 (a b : Int) (σ : Store) : pureV CC 53 [.p (.sl true 2 (eInts [a, b]))] σ = some (.p (.int .i64 (orL [a, b]))) := S53t rfl (by simp)
theorem h53_4 (a b c d : Int) (σ : Store) : pureV CC 53 [.p (.sl true 4 (eInts [a, b, c, d]))] σ = some (.p (.int .i64 (orL [a, b, c, d]))) := S53t rfl (by simp)
theorem bs143_4 (x y z w : Int) (σ : Store) : buildSlice PP none 143 4 [(0, .p (.int .i64 x)), (1, .p (.int .i64 y)), (2, .p (.int .i64 z)), (3, .p (.int .i64 w))] σ = some (.p (.sl true 4 (eInts [x, y, z, w])), σ) := Eq.trans (by kernel_rfl) rfl
theorem bs143_2' (x y : Int) (σ : Store) : buildSlice PP none 143 2 [(0, .p (.int .i64 x)), (1, .p (.int .i64 y))] σ = some (.p (.sl true 2 (eInts [x, y])), σ) := Eq.trans (by kernel_rfl) rfl
theorem S73i (b : Bool) (e : Int) (σ : Store) : pureV CC 73 [.p (.bool b), .p (.int .i64 e)] σ = some (.p (.int .i64 (if b = true then 0 else e))) := S73 b e σ
theorem S57i (n : Int) (σ : Store) : pureV CC 57 [.p (.int .i64 n)] σ = some (.p (.bool (inR n 0 7))) := S57 n σ
section
variable {h : Hs} {σ : Store}
theorem L50 (hr : ∀ j, j < (L h.x).length → (L ((L h.x).getD j none)).length ≤ 1000) (hl : (L h.x).length ≤ 1000) : ∀ (d i : Nat), (L h.x).length - i = d → i ≤ (L h.x).length →
    f50_L0 guardT 0 (.p (eLs h.x)) (N (L h.x).length) (N i) σ = some (.p (pI (rowsErr ((L h.x).drop i))), σ)
  | 0, i, hd, hi => by
    rw [f50_L0_eq guardT rfl, List.drop_of_length_le (by omega)]
    simp (disch := omega) only [N, b_lss, ltF, gG]
    rfl
  | d + 1, i, hd, hi => by
    have hil : i < (L h.x).length := by omega
    have ih := L50 hr hl d (i + 1) (by omega) (by omega)
    have e0 : (L h.x).drop i = (L h.x).getD i none :: (L h.x).drop (i + 1) := by rw [getD_at none hil]; exact List.drop_eq_getElem_cons hil
    have h82 := S82' (σ := σ) (hr i hil)
    have q : decide (((L ((L h.x).getD i none)).length : Int) = 8) = decide ((L ((L h.x).getD i none)).length = 8) := by rw [decide_eq_decide]; omega
    have e1 : orL [if decide ((L ((L h.x).getD i none)).length = 8) = true then 0 else 6, if (!(L ((L h.x).getD i none)).any bA) = true then 0 else 3] = rowErr ((L h.x).getD i none) := by
      generalize (L h.x).getD i none = w
      unfold rowErr
      by_cases h1 : (L w).length = 8 <;> cases (L w).any bA <;> simp [orL, h1]
    rw [f50_L0_eq guardT rfl, e0, rowsErr]
    simp (disch := omega) only [N, b_lss, ltT, gG, idx26, load22, ldLs hil, len22, b_eql, q, pureFn_fn, List.append_nil, S73i, h82, bs143_2', h53_2, e1, b_neq]
    by_cases h0 : rowErr ((L h.x).getD i none) = 0
    · simp (disch := omega) only [eqT h0, gG, if_pos h0, add1]
      exact ih
    · simp only [eqF h0, gG, if_neg h0]
theorem L18_2 {g : Gr} (g1 : σ[1]? = some (.mix (eHs h))) {i : Nat} (hil : i < (L h.x).length) (hl : (L ((L h.x).getD i none)).length ≤ 1000) (hl2 : (L h.x).length ≤ 1000) : ∀ (d k : Nat), (L ((L h.x).getD i none)).length - k = d → k ≤ (L ((L h.x).getD i none)).length →
    f18_L2 guardT 0 (.ptr 1 0) (N i) (N k) σ = if ((L ((L h.x).getD i none)).drop k).any bA = true then some (.p (pI 3), σ) else f18_L1 guardT 0 (.ptr 1 0) (N (i + 1)) σ
  | 0, k, hd, hk => by
    rw [f18_L2_eq guardT rfl, List.drop_of_length_le (by omega)]
    simp (disch := omega) only [N, fa28_1, shift_ptr, shift_pptr, Nat.zero_add, Nat.add_zero, pureFn_fn, List.append_nil, List.singleton_append, List.cons_append, List.nil_append, load26, load1_ptr (off := 1) g1 (v := .p (eLs h.x)) rfl, idx26, load22, ldLs hil, len22, b_lss, ltF, gG, add1, List.any_nil, Bool.false_eq_true, if_false]
  | d + 1, k, hd, hk => by
    have hkl : k < (L ((L h.x).getD i none)).length := by omega
    have ih := L18_2 (g := g) g1 hil hl hl2 d (k + 1) (by omega) (by omega)
    have e0 : (L ((L h.x).getD i none)).drop k = (L ((L h.x).getD i none)).getD k 0 :: (L ((L h.x).getD i none)).drop (k + 1) := by rw [getD_at 0 hkl]; exact List.drop_eq_getElem_cons hkl
    have ix := idx22 (o := (L h.x).getD i none) hkl
    have ld := load1_getD (l := L ((L h.x).getD i none)) hkl σ
    simp only [pI] at ld
    rw [f18_L2_eq guardT rfl, e0, List.any_cons]
    have eb : (!inR ((L ((L h.x).getD i none)).getD k 0) 0 7) = bA ((L ((L h.x).getD i none)).getD k 0) := rfl
    cases hb : bA ((L ((L h.x).getD i none)).getD k 0) with
    | true =>
      simp (disch := omega) only [N, fa28_1, shift_ptr, shift_pptr, Nat.zero_add, Nat.add_zero, pureFn_fn, List.append_nil, List.singleton_append, List.cons_append, List.nil_append, load26, load1_ptr (off := 1) g1 (v := .p (eLs h.x)) rfl, idx26, load22, ldLs hil, len22, b_lss, ltT, gG, ix, load3, ld, S57i, eb, hb, Bool.true_or, if_true]
    | false =>
      simp (disch := omega) only [N, fa28_1, shift_ptr, shift_pptr, Nat.zero_add, Nat.add_zero, pureFn_fn, List.append_nil, List.singleton_append, List.cons_append, List.nil_append, load26, load1_ptr (off := 1) g1 (v := .p (eLs h.x)) rfl, idx26, load22, ldLs hil, len22, b_lss, ltT, gG, ix, load3, ld, S57i, eb, hb, Bool.false_or, add1]
      exact ih
theorem L18_1 {g : Gr} (g1 : σ[1]? = some (.mix (eHs h))) (hr : ∀ j, j < (L h.x).length → (L ((L h.x).getD j none)).length ≤ 1000) (hl : (L h.x).length ≤ 1000) : ∀ (d i : Nat), (L h.x).length - i = d → i ≤ (L h.x).length →
    f18_L1 guardT 0 (.ptr 1 0) (N i) σ = some (.p (pI (rowsErr ((L h.x).drop i))), σ)
  | 0, i, hd, hi => by
    rw [f18_L1_eq guardT rfl, List.drop_of_length_le (by omega)]
    simp (disch := omega) only [N, fa28_1, shift_ptr, shift_pptr, Nat.zero_add, Nat.add_zero, pureFn_fn, List.append_nil, List.singleton_append, List.cons_append, List.nil_append, load26, load1_ptr (off := 1) g1 (v := .p (eLs h.x)) rfl, len26, b_lss, ltF, gG]
    rfl
  | d + 1, i, hd, hi => by
    have hil : i < (L h.x).length := by omega
    have ih := L18_1 (g := g) g1 hr hl d (i + 1) (by omega) (by omega)
    have e0 : (L h.x).drop i = (L h.x).getD i none :: (L h.x).drop (i + 1) := by rw [getD_at none hil]; exact List.drop_eq_getElem_cons hil
    have h2 := L18_2 (g := g) (σ := σ) g1 hil (hr i hil) hl _ 0 rfl (Nat.zero_le _)
    rw [List.drop_zero] at h2
    rw [f18_L1_eq guardT rfl, e0, rowsErr]
    by_cases h8 : (L ((L h.x).getD i none)).length = 8
    · have q : (((L ((L h.x).getD i none)).length : Nat) : Int) = 8 := by omega
      simp (disch := omega) only [N, fa28_1, shift_ptr, shift_pptr, Nat.zero_add, Nat.add_zero, pureFn_fn, List.append_nil, List.singleton_append, List.cons_append, List.nil_append, load26, load1_ptr (off := 1) g1 (v := .p (eLs h.x)) rfl, len26, b_lss, ltT, gG, idx26, load22, ldLs hil, len22, b_neq, eqT q]
      refine h2.trans ?_
      unfold rowErr
      rw [if_pos h8]
      cases (L ((L h.x).getD i none)).any bA with
      | true => simp
      | false => simpa using ih
    · have q : ¬ (((L ((L h.x).getD i none)).length : Nat) : Int) = 8 := by omega
      simp (disch := omega) only [N, fa28_1, shift_ptr, shift_pptr, Nat.zero_add, Nat.add_zero, pureFn_fn, List.append_nil, List.singleton_append, List.cons_append, List.nil_append, load26, load1_ptr (off := 1) g1 (v := .p (eLs h.x)) rfl, len26, b_lss, ltT, gG, idx26, load22, ldLs hil, len22, b_neq, eqF q]
      unfold rowErr
      rw [if_neg h8]
      rfl
theorem L18_0 {g : Gr} (g0 : σ[0]? = some (.mix (eGr g))) (g1 : σ[1]? = some (.mix (eHs h))) (hr : ∀ j, j < (L h.x).length → (L ((L h.x).getD j none)).length ≤ 1000) (hl : (L h.x).length ≤ 1000) (hs : (L h.s).length ≤ 1000) : ∀ (d i : Nat), (L h.s).length - i = d → i ≤ (L h.s).length →
    f18_L0 guardT 0 (.ptr 0 0) (.ptr 1 0) (N i) σ = some (.p (pI (if ((L h.s).drop i).any bA = true then 3 else if (L h.x).length = (L g.edges).length then rowsErr (L h.x) else 6)), σ)
  | 0, i, hd, hi => by
    have h1 := L18_1 (g := g) g1 hr hl _ 0 rfl (Nat.zero_le _)
    rw [List.drop_zero] at h1
    rw [f18_L0_eq guardT rfl, List.drop_of_length_le (by omega)]
    by_cases q0 : (L h.x).length = (L g.edges).length
    · have q : (((L h.x).length : Nat) : Int) = (((L g.edges).length : Nat) : Int) := by omega
      simp (disch := omega) only [N, fa28_0, fa28_1, fa25_2, shift_ptr, shift_pptr, Nat.zero_add, Nat.add_zero, pureFn_fn, List.append_nil, List.singleton_append, List.cons_append, List.nil_append, load22, load1_ptr (off := 0) g1 (v := .p (eSl h.s)) rfl, len22, b_lss, ltF, gG, load26, load1_ptr (off := 1) g1 (v := .p (eLs h.x)) rfl, len26, load23, load1_ptr (off := 2) g0 (v := .p (eEs g.edges)) rfl, len23, b_neq, eqT q, List.any_nil, Bool.false_eq_true, if_false, if_pos q0]
      exact h1
    · have q : ¬ (((L h.x).length : Nat) : Int) = (((L g.edges).length : Nat) : Int) := by omega
      simp (disch := omega) only [N, fa28_0, fa28_1, fa25_2, shift_ptr, shift_pptr, Nat.zero_add, Nat.add_zero, pureFn_fn, List.append_nil, List.singleton_append, List.cons_append, List.nil_append, load22, load1_ptr (off := 0) g1 (v := .p (eSl h.s)) rfl, len22, b_lss, ltF, gG, load26, load1_ptr (off := 1) g1 (v := .p (eLs h.x)) rfl, len26, load23, load1_ptr (off := 2) g0 (v := .p (eEs g.edges)) rfl, len23, b_neq, eqF q, List.any_nil, Bool.false_eq_true, if_false, if_neg q0]
  | d + 1, i, hd, hi => by
    have hil : i < (L h.s).length := by omega
    have ih := L18_0 g0 g1 hr hl hs d (i + 1) (by omega) (by omega)
    have e0 : (L h.s).drop i = (L h.s).getD i 0 :: (L h.s).drop (i + 1) := by rw [getD_at 0 hil]; exact List.drop_eq_getElem_cons hil
    have ix := idx22 (o := h.s) hil
    have ld := load1_getD (l := L h.s) hil σ
    simp only [pI] at ld
    rw [f18_L0_eq guardT rfl, e0, List.any_cons]
    have eb : (!inR ((L h.s).getD i 0) 0 7) = bA ((L h.s).getD i 0) := rfl
    cases hb : bA ((L h.s).getD i 0) with
    | true =>
      simp (disch := omega) only [N, fa28_0, shift_ptr, shift_pptr, Nat.zero_add, Nat.add_zero, pureFn_fn, List.append_nil, List.singleton_append, List.cons_append, List.nil_append, load22, load1_ptr (off := 0) g1 (v := .p (eSl h.s)) rfl, len22, b_lss, ltT, gG, ix, load3, ld, S57i, eb, hb, Bool.true_or, if_true]
    | false =>
      simp (disch := omega) only [N, fa28_0, shift_ptr, shift_pptr, Nat.zero_add, Nat.add_zero, pureFn_fn, List.append_nil, List.singleton_append, List.cons_append, List.nil_append, load22, load1_ptr (off := 0) g1 (v := .p (eSl h.s)) rfl, len22, b_lss, ltT, gG, ix, load3, ld, S57i, eb, hb, Bool.false_or, add1]
      exact ih
end
section
variable {g : Gr} {h : Hs} (hr : ∀ j, j < (L h.x).length → (L ((L h.x).getD j none)).length ≤ 1000) (hl : (L h.x).length ≤ 1000) (hs : (L h.s).length ≤ 1000)
include hr hl hs
theorem S18 (σ : Store) : pureV CC 18 [.agg (eGr g), .agg (eHs h)] σ = some (.p (pI (errHR g h))) := by
  have g0 : ([Row.mix (eGr g), .mix (eHs h)] : Store)[0]? = some (.mix (eGr g)) := rfl
  have g1 : ([Row.mix (eGr g), .mix (eHs h)] : Store)[1]? = some (.mix (eHs h)) := rfl
  have h0 := L18_0 g0 g1 hr hl hs _ 0 rfl (Nat.zero_le _)
  rw [List.drop_zero] at h0
  refine pureV_free (by simp [gr_view, hs_view]) rfl (F18_call (r := (.p (pI (errHR g h)), [.mix (eGr g), .mix (eHs h)])) ?_) rfl
  rw [F18_eq]
  unfold errHR
  by_cases q : ((L h.s).length : Int) = g.n
  · simp only [box_gr, box_hs, gG, List.length_nil, List.nil_append, List.length_cons, List.cons_append, fa28_0, fa25_0, shift_ptr, shift_pptr, Nat.zero_add, Nat.add_zero, pureFn_fn, List.append_nil, List.singleton_append, List.cons_append, List.nil_append, load22, load3, load1_ptr (off := 0) g1 (v := .p (eSl h.s)) rfl, load1_ptr (off := 0) g0 (v := .p (.int .i64 g.n)) rfl, len22, b_neq, eqT q, if_pos q]
    exact h0
  · simp only [box_gr, box_hs, gG, List.length_nil, List.nil_append, List.length_cons, List.cons_append, fa28_0, fa25_0, shift_ptr, shift_pptr, Nat.zero_add, Nat.add_zero, pureFn_fn, List.append_nil, List.singleton_append, List.cons_append, List.nil_append, load22, load3, load1_ptr (off := 0) g1 (v := .p (eSl h.s)) rfl, load1_ptr (off := 0) g0 (v := .p (.int .i64 g.n)) rfl, len22, b_neq, eqF q, if_neg q]
def errH (g : Gr) (h : Hs) : Int := if errG g = 0 then errHR g h else errG g
theorem S50 (hi : (L g.init).length ≤ 1000) (he : (L g.edges).length ≤ 10000) (σ : Store) : pureV CC 50 [.agg (eGr g), .agg (eHs h)] σ = some (.p (pI (errH g h))) := by
  have g0 : ([Row.mix (eGr g), .mix (eHs h)] : Store)[0]? = some (.mix (eGr g)) := rfl
  have g1 : ([Row.mix (eGr g), .mix (eHs h)] : Store)[1]? = some (.mix (eHs h)) := rfl
  have h0 := L50 (h := h) (σ := [Row.mix (eGr g), .mix (eHs h)]) hr hl _ 0 rfl (Nat.zero_le _)
  rw [List.drop_zero] at h0
  have h81 := S81 hi he [Row.mix (eGr g), .mix (eHs h)]
  simp only [pI] at h81
  have h82 := S82' (σ := [Row.mix (eGr g), .mix (eHs h)]) hs
  have q : decide (((L h.x).length : Int) = ((L g.edges).length : Nat)) = decide ((L h.x).length = (L g.edges).length) := by rw [decide_eq_decide]; omega
  refine pureV_free (by simp [gr_view, hs_view]) rfl (F50_call (r := (.p (pI (errH g h)), [.mix (eGr g), .mix (eHs h)])) ?_) rfl
  have e1 : orL [errG g, if decide (((L h.s).length : Int) = g.n) = true then 0 else 6, if (!(L h.s).any bA) = true then 0 else 3, if decide ((L h.x).length = (L g.edges).length) = true then 0 else 6] =
      if errG g = 0 then (if ((L h.s).length : Int) = g.n then (if (L h.s).any bA = true then 3 else if (L h.x).length = (L g.edges).length then 0 else 6) else 6) else errG g := by
    by_cases a0 : errG g = 0 <;> by_cases a1 : ((L h.s).length : Int) = g.n <;> cases (L h.s).any bA <;> by_cases a2 : (L h.x).length = (L g.edges).length <;> simp [orL, a0, a1, a2]
  rw [F50_eq]
  simp only [box_gr, box_hs, gG, List.length_nil, List.nil_append, List.length_cons, List.cons_append, fa28_0, fa28_1, fa25_0, fa25_2, shift_ptr, shift_pptr, Nat.zero_add, Nat.add_zero, pureFn_fn, List.append_nil, List.singleton_append, List.cons_append, List.nil_append, gr_all g0, h81, load22, load3, load23, load26, load1_ptr (off := 0) g1 (v := .p (eSl h.s)) rfl, load1_ptr (off := 1) g1 (v := .p (eLs h.x)) rfl,
    load1_ptr (off := 0) g0 (v := .p (.int .i64 g.n)) rfl, load1_ptr (off := 2) g0 (v := .p (eEs g.edges)) rfl, len22, len23, len26, b_eql, q, S73i, h82, bs143_4, h53_4, e1, b_neq]
  unfold errH errHR
  by_cases a0 : errG g = 0
  · simp only [if_pos a0]
    by_cases a1 : ((L h.s).length : Int) = g.n
    · simp only [if_pos a1]
      cases a3 : (L h.s).any bA with
      | true => rfl
      | false =>
        simp only [Bool.false_eq_true, if_false]
        by_cases a2 : (L h.x).length = (L g.edges).length
        · simp only [if_pos a2]
          exact h0
        · simp only [if_neg a2]
          rfl
    · simp only [if_neg a1]
      rfl
  · simp only [if_neg a0, eqF a0, gG]
end
def ownH (h : Hs) : Hs := ⟨some (L h.s), if L h.x = [] then none else some ((L h.x).map fun o => some (L o))⟩
theorem bytes22 : bytes? PP 22 = some 24 := Eq.trans (by kernel_rfl) rfl
theorem zr22 : zeroOf PP 22 = some [.p .nilsl] := Eq.trans (by kernel_rfl) rfl
theorem src26 : srcType PP 26 = true := Eq.trans (by kernel_rfl) rfl
theorem bs26 (v : PV) (σ : Store) : buildSlice PP none 26 1 [(0, .p v)] σ = some (.p (.sl true 1 [v]), σ) := Eq.trans (by kernel_rfl) rfl
theorem L52 {o : Option (List OI)} (hl : (L o).length ≤ 1000) (hr : ∀ j, j < (L o).length → (L ((L o).getD j none)).length ≤ 1000) : ∀ (d i : Nat) (y : DV) (σ : Store), (L o).length - i = d → i ≤ (L o).length → Out σ 0 1 i (((L o).take i).map fun q => eSl (some (L q))) y →
    ∃ y' σ', f52_L0 guardT 0 (.p (eLs o)) y (N i) σ = some (y', σ') ∧ Out σ' 0 1 (L o).length ((L o).map fun q => eSl (some (L q))) y'
  | 0, i, y, σ, hd, hi, ho => by
    have e : i = (L o).length := by omega
    subst e
    rw [List.take_length] at ho
    refine ⟨y, σ, ?_, ho⟩
    rw [f52_L0_eq guardT rfl]
    simp (disch := omega) only [N, len26, b_lss, ltF, gG]
  | d + 1, i, y, σ, hd, hi, ho => by
    have hil : i < (L o).length := by omega
    have h16 := S16 (σ := σ) (hr i hil)
    obtain ⟨y1, σ1, p1, p2, p3, p4⟩ := Out.pushG (lo := 0) (vs := [eSl (some (L ((L o).getD i none)))]) src26 u26 s22' bytes22 zr22 rfl (by decide) (by decide) (by decide) rfl ho (by omega) (Nat.zero_le _) (Nat.zero_le _)
    have e1 : (((L o).take i).map fun q => eSl (some (L q))) ++ [eSl (some (L ((L o).getD i none)))] = ((L o).take (i + 1)).map fun q => eSl (some (L q)) := by
      rw [List.take_succ_eq_append_getElem hil, List.map_append, getD_at none hil]; rfl
    rw [e1] at p2
    obtain ⟨y', σ', r1, r2⟩ := L52 hl hr d (i + 1) y1 σ1 (by omega) (by omega) p2
    refine ⟨y', σ', ?_, r2⟩
    rw [← r1, f52_L0_eq guardT rfl]
    simp (disch := omega) only [N, len26, b_lss, ltT, gG, idx26, load22, ldLs hil, pureFn_fn, List.append_nil, h16, bs26, p1, add1]
theorem S52 {o : Option (List OI)} {σ : Store} (hl : (L o).length ≤ 1000) (hr : ∀ j, j < (L o).length → (L ((L o).getD j none)).length ≤ 1000) : pureV CC 52 [.p (eLs o)] σ = some (.p (eLs (if L o = [] then none else some ((L o).map fun q => some (L q))))) := by
  obtain ⟨y, σ', e1, o1⟩ := L52 hl hr _ 0 (.p .nilsl) [] rfl (Nat.zero_le _) Out.zero
  refine pureV_free (by simp [ls_view]) rfl (F52_call (r := (y, σ')) (by rw [F52_eq]; exact e1)) ?_
  rw [Out.twAll o1 0]
  have e2 : ((L o).map fun q => eSl (some (L q))) = ((L o).map fun q => some (L q)).map eSl := by rw [List.map_map]; rfl
  rw [e2, loosens_sls]
  by_cases e : L o = []
  · rw [e]; rfl
  · rw [if_neg e, if_neg (fun h => e (List.length_eq_zero_iff.1 h))]
    simp [eLs]
theorem s28 : size? PP 28 = some 2 := Eq.trans (by kernel_rfl) rfl
theorem bld28 (a b : PV) : build PP 28 [(0, .p a), (1, .p b)] = some (.agg [.p a, .p b]) := Eq.trans (by kernel_rfl) rfl
theorem S14 {h : Hs} {σ : Store} (hs : (L h.s).length ≤ 1000) (hl : (L h.x).length ≤ 1000) (hr : ∀ j, j < (L h.x).length → (L ((L h.x).getD j none)).length ≤ 1000) : pureV CC 14 [.agg (eHs h)] σ = some (.agg (eHs (ownH h))) := by
  have g0 : ([Row.mix (eHs h), .mix [.p .nilsl, .p .nilsl]] : Store)[0]? = some (.mix (eHs h)) := rfl
  refine pureV_free (by simp [hs_view]) rfl (F14_call (r := (.agg (eHs (ownH h)), [.mix (eHs h), .mix (eHs (ownH h))])) ?_) ?_
  · have hst : store PP 0 28 (.ptr 1 0) (.agg (eHs (ownH h))) [.mix (eHs h), .mix [.p .nilsl, .p .nilsl]] = some [.mix (eHs h), .mix (eHs (ownH h))] := by
      have e : (DV.agg (eHs (ownH h))).cells = eHs (ownH h) := rfl
      have e2 : (eHs (ownH h)).length = 2 := rfl
      have e3 : (eHs (ownH h)).all DV.one = true := rfl
      have e4 : splice [DV.p .nilsl, .p .nilsl] 0 (eHs (ownH h)) = eHs (ownH h) := rfl
      simp [store, s28, e, e2, storeN, e3, e4]
    have hcv : cellV PP 28 (.ptr 1 0) [.mix (eHs h), .mix (eHs (ownH h))] = some (.agg (eHs (ownH h))) := by
      have g1 : ([Row.mix (eHs h), .mix (eHs (ownH h))] : Store)[1]? = some (.mix (eHs (ownH h))) := rfl
      rw [cellV_ptr, load28, loadN_ptr (vs := eHs (ownH h)) g1 rfl (by simp [eHs])]; rfl
    have hown : DV.agg [.p (eSl (some (L h.s))), .p (eLs (if L h.x = [] then none else some ((L h.x).map fun q => some (L q))))] = .agg (eHs (ownH h)) := rfl
    rw [F14_eq]
    simp only [box_hs, zero28, gG, List.length_nil, List.nil_append, List.length_cons, List.cons_append, fa28_0, fa28_1, shift_ptr, shift_pptr, Nat.zero_add, Nat.add_zero, pureFn_fn, List.append_nil, List.singleton_append, List.cons_append, List.nil_append, load22, load26, load1_ptr (off := 0) g0 (v := .p (eSl h.s)) rfl, load1_ptr (off := 1) g0 (v := .p (eLs h.x)) rfl, S16 hs, S52 hl hr, bld28, hown, hst, hcv]
  · simp [thawAll, thawPart, eHs, mapO, thaw, thaw1, thawP, loosen_sl, loosen_ls]
end Go.D.StS
end
/- Chapter 22: AddHistory. -/
section
set_option linter.unusedVariables false
set_option linter.unusedSimpArgs false
namespace Go.D.StS
open Go.D.Srt
theorem mapO_thawP (σ : Store) (n d : Nat) : ∀ cs : List PV, mapO (thawP n σ (d + 1)) (cs.map DV.p) = some (loosens cs)
  | [] => rfl
  | a :: cs => by
    have h := mapO_thawP σ n d cs
    simp only [List.map_cons, mapO, h, loosens]
    rfl
theorem RowG.tw {σ : Store} {B sz n m : Nat} {cs : List PV} {x : DV} (h : RowG σ B sz n cs x) (hm : m ≤ B) : thaw m σ x = some (.p (if n = 0 then .nilsl else .sl false n (loosens cs))) := by
  rcases h.2 with ⟨e, rfl⟩ | ⟨h0, r, rfl, e2, e3⟩
  · rw [if_pos e]; rfl
  · have e4 : ((cs.map DV.p).drop 0).take (n * sz) = cs.map DV.p := by rw [List.drop_zero, List.take_of_length_le (by rw [List.length_map, h.1]; exact Nat.le_refl _)]
    have e5 : m ≤ r := by omega
    have e6 : 0 + n * sz ≤ (cs.map DV.p).length := by rw [List.length_map, h.1]; omega
    simp only [thaw, thaw1, thawP, e5, if_true, e2, e6, e4, mapO_thawP, Option.map_some, h0, if_false]
theorem ta_tup (n : Nat) (σ : Store) (vs : List DV) : thawAll n σ (.tuple vs) = (mapO (thawPart n σ) vs).map .tuple := rfl
theorem tp_agg (n : Nat) (σ : Store) (cs : List DV) : thawPart n σ (.agg cs) = (mapO (thaw n σ) cs).map .agg := rfl
theorem tp_int (n : Nat) (σ : Store) (v : Int) : thawPart n σ (.p (.int .i64 v)) = some (.p (.int .i64 v)) := rfl
theorem tw_int (n : Nat) (σ : Store) (v : Int) : thaw n σ (.p (.int .i64 v)) = some (.p (.int .i64 v)) := rfl
theorem oI_val (l : List Int) : (.p (if l.length = 0 then PV.nilsl else .sl false l.length (loosens (eInts l))) : DV) = .p (eSl (oI l)) := by
  unfold oI
  by_cases e : l = []
  · subst e; rfl
  · rw [if_neg e, if_neg (fun h => e (List.length_eq_zero_iff.1 h)), loosens_ints]; rfl
theorem oE_val (l : List Edg) : (.p (if l.length = 0 then PV.nilsl else .sl false l.length (loosens (eEdgs l))) : DV) = .p (eEs (oE l)) := by
  unfold oE
  by_cases e : l = []
  · subst e; rfl
  · rw [if_neg e, if_neg (fun h => e (List.length_eq_zero_iff.1 h)), loosens_edgs]; rfl
def mkX (B : List E) (is : List Int) (E' : List Edg) : Ax := ⟨⟨B.length, oI is, oE E'⟩, oI (B.map Prod.fst), oI (B.map Prod.snd)⟩
theorem GR.val {lo : Nat} {B : List E} {is : List Int} {E' : List Edg} {ix ex bx ax : DV} {σ : Store} (h : GR lo B is E' ix ex bx ax σ) (e : Int) :
    thawAll 0 σ (.tuple [.agg [.p (.int .i64 (B.length : Nat)), ix, ex, bx, ax], .p (.int .i64 e)]) = some (.tuple [.agg (eAx (mkX B is E')), .p (.int .i64 e)]) := by
  have hb := Out.tw h.ob 0
  have ha := Out.tw h.oa 0
  have e1 : B.length = (B.map Prod.fst).length := by simp
  have e2 : B.length = (B.map Prod.snd).length := by simp
  rw [e1, oI_val] at hb
  rw [e2, oI_val] at ha
  rw [ta_tup]
  simp only [mapO, tp_agg, tp_int, tw_int, h.ri.tw (Nat.zero_le _), h.re.tw (Nat.zero_le _), hb, ha, oI_val, oE_val, Option.map_some]
  rfl
theorem st33 {σ : Store} {t : Nat} {z c : List DV} (h : σ[t]? = some (.mix z)) (hz : z.length = 5) (hc : c.length = 5) (ho : c.all DV.one = true) : store PP 0 33 (.ptr t 0) (.agg c) σ = some (σ.set t (.mix c)) := by
  have e : splice z 0 c = c := by simp [splice, hz, hc]
  simp [store, s33, DV.cells, storeN, hc, h, hz, ho, e]
section
variable {g : Gr} {h : Hs}
theorem S12 (hg : GOk g) (hh : HOk g h) (hn : g.n ≤ 8) (he : (L g.edges).length ≤ 16) (h0 : errH g h = 0) (σ : Store) :
    ∃ B E', ExtG g.n (fun x => oE (mvH g h x)) (iniH g h) B E' ∧ pureV CC 12 [.agg (eGr g), .agg (eHs h)] σ = some (.tuple [.agg (eAx (mkX B (nums B (iniH g h)) E')), .p (.int .i64 0)]) := by
  have hil := init_len hg
  have hnn := hg.n0
  have hxl := hh.xl
  have hsl := hh.sl
  have g0 : ([Row.mix (eGr g), .mix (eHs h), .mix [.p (pI 0), .p .nilsl, .p .nilsl, .p .nilsl, .p .nilsl]] : Store)[0]? = some (.mix (eGr g)) := rfl
  have g1 : ([Row.mix (eGr g), .mix (eHs h), .mix [.p (pI 0), .p .nilsl, .p .nilsl, .p .nilsl, .p .nilsl]] : Store)[1]? = some (.mix (eHs h)) := rfl
  have g2 : ([Row.mix (eGr g), .mix (eHs h), .mix [.p (pI 0), .p .nilsl, .p .nilsl, .p .nilsl, .p .nilsl]] : Store)[2]? = some (.mix [.p (pI 0), .p .nilsl, .p .nilsl, .p .nilsl, .p .nilsl]) := rfl
  have h50 := S50 (h := h) (fun j hj => by rw [hh.xr j hj]; decide) (by omega) (by omega) (g := g) (by omega) (by omega) [Row.mix (eGr g), .mix (eHs h), .mix [.p (pI 0), .p .nilsl, .p .nilsl, .p .nilsl, .p .nilsl]]
  rw [h0] at h50
  have hld1 : load PP 28 (.ptr 1 0) [Row.mix (eGr g), .mix (eHs h), .mix [.p (pI 0), .p .nilsl, .p .nilsl, .p .nilsl, .p .nilsl]] = some (.agg (eHs h)) := by rw [load28, loadN_ptr (vs := eHs h) g1 rfl (by simp [eHs])]; rfl
  obtain ⟨B, E', ix, ex, bx, ax, σ', r, m, a1, a2, a3, a4, a5, a6, a7⟩ := S51 hg hh hn he [Row.mix (eGr g), .mix (eHs h), .mix [.p (pI 0), .p .nilsl, .p .nilsl, .p .nilsl, .p .nilsl]]
  have hm2 : σ'[2]? = some (.mix [.p (pI 0), .p .nilsl, .p .nilsl, .p .nilsl, .p .nilsl]) := (a4 2 (by simp)).trans g2
  have hone5 : ([.p (pI B.length), ix, ex, bx, ax] : List DV).all DV.one = true := by
    simp [(rowG_one a3.re).1, (rowG_one a3.ri).1, (out_one' a3.ob).1, (out_one' a3.oa).1]
    rfl
  have hone6 : ([.p (pI B.length), ix, ex, bx, ax, .map r] : List DV).all DV.one = true := by
    simp [(rowG_one a3.re).1, (rowG_one a3.ri).1, (out_one' a3.ob).1, (out_one' a3.oa).1]
    exact ⟨rfl, rfl⟩
  have hs1 : store PP 0 95 (.ptr σ'.length 0) (.agg [.p (pI B.length), ix, ex, bx, ax, .map r]) (σ' ++ [Row.mix [.p (pI 0), .p .nilsl, .p .nilsl, .p .nilsl, .p .nilsl, .p .nilmap]]) = some (σ' ++ [Row.mix [.p (pI B.length), ix, ex, bx, ax, .map r]]) := by
    rw [st95 get_snoc rfl rfl hone6, List.set_append_right _ _ (Nat.le_refl _), Nat.sub_self]
    rfl
  have gl : (σ' ++ [Row.mix [.p (pI B.length), ix, ex, bx, ax, .map r]])[σ'.length]? = some (.mix [.p (pI B.length), ix, ex, bx, ax, .map r]) := get_snoc
  have hl33 : load PP 33 (.ptr σ'.length 0) (σ' ++ [Row.mix [.p (pI B.length), ix, ex, bx, ax, .map r]]) = some (.agg [.p (pI B.length), ix, ex, bx, ax]) := by
    rw [load33, loadN_ptr (vs := [.p (pI B.length), ix, ex, bx, ax]) gl rfl (by simp)]; rfl
  have hm2' : (σ' ++ [Row.mix [.p (pI B.length), ix, ex, bx, ax, .map r]])[2]? = some (.mix [.p (pI 0), .p .nilsl, .p .nilsl, .p .nilsl, .p .nilsl]) := get_old hm2
  have hs2 := st33 (c := [.p (pI B.length), ix, ex, bx, ax]) hm2' rfl rfl hone5
  have hg2 : ((σ' ++ [Row.mix [.p (pI B.length), ix, ex, bx, ax, .map r]]).set 2 (.mix [.p (pI B.length), ix, ex, bx, ax]))[2]? = some (.mix [.p (pI B.length), ix, ex, bx, ax]) := by rw [List.getElem?_set_self (get_lt hm2')]
  have hcv : cellV PP 33 (.ptr 2 0) ((σ' ++ [Row.mix [.p (pI B.length), ix, ex, bx, ax, .map r]]).set 2 (.mix [.p (pI B.length), ix, ex, bx, ax])) = some (.agg [.p (pI B.length), ix, ex, bx, ax]) := by
    rw [cellV_ptr, load33, loadN_ptr (vs := [.p (pI B.length), ix, ex, bx, ax]) hg2 rfl (by simp)]; rfl
  have hgr := (a3.snoc (.mix [.p (pI B.length), ix, ex, bx, ax, .map r])).setLow (q := 2) (by simp) (.mix [.p (pI B.length), ix, ex, bx, ax])
  refine ⟨B, E', a2, pureV_free (by simp [gr_view, hs_view]) rfl (F12_call (r := (.tuple [.agg [.p (pI B.length), ix, ex, bx, ax], .p (.int .i64 0)], (σ' ++ [Row.mix [.p (pI B.length), ix, ex, bx, ax, .map r]]).set 2 (.mix [.p (pI B.length), ix, ex, bx, ax]))) ?_) (hgr.val 0)⟩
  rw [F12_eq]
  simp only [pI] at h50 hld1 a1
  have e0 : decide ((0 : Int) = 0) = true := rfl
  simp only [box_gr, box_hs, zero33, gG, List.length_nil, List.nil_append, List.length_cons, List.cons_append, shift_ptr, shift_pptr, Nat.zero_add, Nat.add_zero, pureFn_fn, List.append_nil, List.singleton_append, List.cons_append, List.nil_append, gr_all g0, hld1, h50, b_neq, e0, plainFn_fn, a1, ex0, ex1, zero95', hs1, fa95_0, hl33, hs2, hcv]
end
end Go.D.StS
end
/- Chapter 22: the past determines history, in plain terms. -/
section
set_option linter.unusedVariables false
set_option linter.unusedSimpArgs false
namespace Go.D.StS
open Go.D.Srt
theorem any_false {l : List Int} {q : Int → Bool} (h : l.any q = false) : ∀ i, i < l.length → q (l.getD i 0) = false := fun i hi => by
  rw [List.any_eq_false] at h
  have := h (l.getD i 0) (by rw [getD_at 0 hi]; exact List.getElem_mem hi)
  simpa using this
theorem bA_false {n : Int} (h : bA n = false) : 0 ≤ n ∧ n ≤ 7 := by
  unfold bA at h
  have : inR n 0 7 = true := by simpa using h
  exact (inR_iff n 0 7).1 this
theorem rowsErr_zero : ∀ {l : List OI}, rowsErr l = 0 → ∀ j, j < l.length → rowErr (l.getD j none) = 0
  | [], _, j, hj => by simp at hj
  | a :: l, h, j, hj => by
    unfold rowsErr at h
    by_cases h0 : rowErr a = 0
    · rw [if_pos h0] at h
      cases j with
      | zero => exact h0
      | succ j => exact rowsErr_zero h j (by simpa using hj)
    · rw [if_neg h0] at h
      exact absurd h h0
theorem rowErr_zero {o : OI} (h : rowErr o = 0) : (L o).length = 8 ∧ (L o).any bA = false := by
  unfold rowErr at h
  by_cases h1 : (L o).length = 8
  · rw [if_pos h1] at h
    cases h2 : (L o).any bA with
    | true => rw [h2] at h; simp at h
    | false => exact ⟨h1, rfl⟩
  · rw [if_neg h1] at h; exact absurd h (by decide)
theorem errG_zero {g : Gr} (h : errG g = 0) : GOk g ∧ g.n ≤ 30 ∧ (L g.edges).length ≤ 120 ∧ (L g.edges).any tk = false := by
  unfold errG at h
  by_cases h1 : isG g = true
  · rw [if_pos h1] at h
    by_cases h2 : g.n ≤ 30 ∧ (L g.edges).length ≤ 120
    · rw [if_pos h2] at h
      cases h3 : (L g.edges).any tk with
      | true => rw [h3] at h; simp at h
      | false => exact ⟨(isG_iff g).1 h1, h2.1, h2.2, rfl⟩
    · rw [if_neg h2] at h; exact absurd h (by decide)
  · rw [if_neg h1] at h; exact absurd h (by decide)
theorem errHR_zero {g : Gr} {h : Hs} (he : errHR g h = 0) : HOk g h := by
  unfold errHR at he
  by_cases h1 : ((L h.s).length : Int) = g.n
  · rw [if_pos h1] at he
    cases h2 : (L h.s).any bA with
    | true => rw [h2] at he; simp at he
    | false =>
      rw [h2] at he
      simp only [Bool.false_eq_true, if_false] at he
      by_cases h3 : (L h.x).length = (L g.edges).length
      · rw [if_pos h3] at he
        have hr := fun j hj => rowErr_zero (rowsErr_zero he j hj)
        exact ⟨h1, fun i hi => bA_false (any_false h2 i hi), h3, fun j hj => (hr j hj).1, fun j hj i hi => bA_false (any_false (hr j hj).2 i (by rw [(hr j hj).1]; exact hi))⟩
      · rw [if_neg h3] at he; exact absurd he (by decide)
  · rw [if_neg h1] at he; exact absurd he (by decide)
theorem fewB_small {g : Gr} (h : fewB g = true) (h1 : g.n ≤ 30) (h2 : (L g.edges).length ≤ 120) : g.n ≤ 8 ∧ (L g.edges).length ≤ 16 := by
  unfold fewB at h
  simp only [Bool.and_eq_true, Bool.or_eq_true, decide_eq_true_iff] at h
  omega
theorem nums_asc {B l : List E} (hB : Asc B) (hasc : Asc l) (hm : ∀ x ∈ l, x ∈ B) : (nums B l).Pairwise (· < ·) := by
  unfold nums
  rw [List.pairwise_map]
  refine List.Pairwise.imp_of_mem (fun {x y} hx hy hlt => ?_) hasc
  have k1 := idx_mem (hm x hx)
  have k2 := idx_mem (hm y hy)
  by_cases hle : B.idxOf y ≤ B.idxOf x
  · exfalso
    rcases Nat.lt_or_eq_of_le hle with hlt2 | heq
    · have := asc_lt hB hlt2 k1.1
      rw [k1.2, k2.2] at this
      unfold ltB at *; omega
    · have := k1.2
      rw [← heq, k2.2] at this
      rw [this] at hlt
      unfold ltB at hlt; omega
  · omega
section
variable {n : Int} {M : E → OE} {l B : List E} {E' : List Edg} (hx : ExtG n M l B E')
include hx
theorem ExtG.mem {e : Edg} (he : e ∈ E') : ∃ k, k < B.length ∧ ∃ m ∈ L (M (ge B k)), e = ⟨(k : Int), ((B.idxOf (toE m) : Nat) : Int), m.a⟩ ∧ toE m ∈ B := by
  have := (mem_rawE M B e B 0).1 (hx.pe.mem_iff.1 he)
  obtain ⟨k, hk, m, hm, rfl⟩ := this
  exact ⟨k, hk, m, hm, by rw [Nat.zero_add], hx.cl _ (by rw [ge_at hk]; exact List.getElem_mem hk) m hm⟩
theorem ExtG.ok (hn : n ≤ 8) (hl : Asc l) (hM : ∀ x ∈ B, (L (M x)).length ≤ 16) (ha : ∀ x ∈ B, ∀ e ∈ L (M x), 0 ≤ e.a ∧ e.a ≤ 11) : GOk (mkX B (nums B l) E').g ∧ B.length ≤ 64 ∧ E'.length ≤ 1024 := by
  have hBl : B.length ≤ 64 := IG.len ⟨asc_nodup hx.asc, hx.ins⟩ hn
  have hEl : E'.length ≤ 1024 := by
    rw [hx.pe.length_eq]
    have := rawE_len (M := M) (B := B) (c := 16) B 0 hM
    omega
  refine ⟨⟨⟨by simp [mkX], by simp [mkX]; omega⟩, by simp only [mkX, L_oE]; omega, fun s hs => ?_, ?_, fun e he => ?_, ?_⟩, hBl, hEl⟩
  · simp only [mkX, L_oI, nums, List.mem_map] at hs
    obtain ⟨x, hxl, rfl⟩ := hs
    have := (idx_mem (hx.beg x hxl)).1
    simp only [mkX]
    omega
  · simp only [mkX, L_oI]
    exact nums_asc hx.asc hl hx.beg
  · simp only [mkX, L_oE] at he ⊢
    obtain ⟨k, hk, m, hm, rfl, hmB⟩ := hx.mem he
    have h1 := (idx_mem hmB).1
    have h2 := ha _ (by rw [ge_at hk]; exact List.getElem_mem hk) m hm
    simp only
    omega
  · simp only [mkX, L_oE]
    exact hx.po
theorem ExtG.ext0 (hn : n ≤ 8) (hl : Asc l) (hM : ∀ x ∈ B, (L (M x)).length ≤ 16) (ha : ∀ x ∈ B, ∀ e ∈ L (M x), 0 ≤ e.a ∧ e.a ≤ 11) : extE (mkX B (nums B l) E') = 0 := by
  obtain ⟨h1, h2, h3⟩ := hx.ok hn hl hM ha
  have e1 : lenX (mkX B (nums B l) E') = true := (extE_ok _).2 ⟨by simp [mkX, L_oI], by simp [mkX, L_oI]⟩
  have e2 : badX (mkX B (nums B l) E') = false := by
    unfold badX
    rw [Bool.or_eq_false_iff, List.any_eq_false, List.any_eq_false]
    simp only [mkX, L_oI]
    refine ⟨fun v hv => ?_, fun v hv => ?_⟩
    · rw [List.mem_map] at hv
      obtain ⟨x, hxB, rfl⟩ := hv
      have := hx.ins x hxB
      unfold InS at this
      have : inR x.1 0 399 = true := (inR_iff _ _ _).2 (by omega)
      simp [bB, this]
    · rw [List.mem_map] at hv
      obtain ⟨x, hxB, rfl⟩ := hv
      have := hx.ins x hxB
      unfold InS at this
      have : inR x.2 0 7 = true := (inR_iff _ _ _).2 (by omega)
      simp [bA, this]
  have e3 : ascX (L (mkX B (nums B l) E').b) (L (mkX B (nums B l) E').a) = true := by
    unfold ascX
    rw [allFrom_iff]
    intro j hj1 hj2
    simp only [mkX, L_oI, List.length_map] at hj2
    have hlt := asc_lt hx.asc (show j - 1 < j by omega) (by omega)
    have q1 : ∀ i, i < B.length → (B.map Prod.fst).getD i 0 = (ge B i).1 := fun i hi => by rw [getD_at 0 (by simpa using hi), ge_at hi, List.getElem_map]
    have q2 : ∀ i, i < B.length → (B.map Prod.snd).getD i 0 = (ge B i).2 := fun i hi => by rw [getD_at 0 (by simpa using hi), ge_at hi, List.getElem_map]
    unfold ascK
    simp only [mkX, L_oI]
    rw [q1 (j - 1) (by omega), q1 j (by omega), q2 (j - 1) (by omega), q2 j (by omega)]
    exact decide_eq_true ((cmpB_lt (ge B (j - 1)) (ge B j)).2 hlt)
  unfold extE
  rw [if_pos ((isG_iff _).2 h1), if_pos e1, e2, if_neg (by decide), if_pos e3]
end
theorem countP_one {α : Type} {p : α → Bool} {a : α} : ∀ {l : List α}, l.Nodup → a ∈ l → p a = true → (∀ b ∈ l, p b = true → b = a) → l.countP p = 1
  | [], _, h, _, _ => by simp at h
  | x :: l, hn, h, hp, hu => by
    rw [List.nodup_cons] at hn
    by_cases e : x = a
    · subst e
      rw [List.countP_cons_of_pos hp]
      have : l.countP p = 0 := by
        rw [List.countP_eq_zero]
        intro b hb h2
        exact hn.1 (hu b (by simp [hb]) h2 ▸ hb)
      omega
    · have hx : ¬ p x = true := fun h2 => e (hu x (by simp) h2)
      rw [List.countP_cons_of_neg hx]
      exact countP_one hn.2 (by simpa [Ne.symm e] using h) hp fun b hb => hu b (by simp [hb])
def det (g : Gr) (B : List E) (s i : Nat) (y : Edg) : Bool :=
  decide (y.f = (s : Int)) && (decide ((ge B s).1 = (gE (L g.edges) i).f) && (decide ((ge B y.t.toNat).1 = (gE (L g.edges) i).t) && decide (y.a = (gE (L g.edges) i).a)))
theorem edge_inj {g : Gr} (hg : GOk g) {i j : Nat} (hi : i < (L g.edges).length) (hj : j < (L g.edges).length) (h : gE (L g.edges) i = gE (L g.edges) j) : i = j := by
  have key : ∀ i j, i < j → j < (L g.edges).length → gE (L g.edges) i ≠ gE (L g.edges) j := fun i j hij hj e => by
    have hp := List.pairwise_iff_getElem.1 hg.ep i j (by omega) hj hij
    rw [← gE_at (by omega), ← gE_at hj, e] at hp
    exact StT.ord_irr _ hp
  rcases Nat.lt_trichotomy i j with h1 | h1 | h1
  · exact absurd h (key i j h1 hj)
  · exact h1
  · exact absurd h.symm (key j i h1 hi)
theorem det_count {g : Gr} {h : Hs} {B : List E} {E' : List Edg} (hg : GOk g) (hx : ExtG g.n (fun x => oE (mvH g h x)) (iniH g h) B E') {s i : Nat} (hs : s < B.length) (hi : i < (L g.edges).length) :
    E'.countP (det g B s i) = if (ge B s).1 = (gE (L g.edges) i).f then 1 else 0 := by
  have hsB : ge B s ∈ B := by rw [ge_at hs]; exact List.getElem_mem hs
  by_cases hf : (ge B s).1 = (gE (L g.edges) i).f
  · rw [if_pos hf]
    have hn : (rawE (fun x => oE (mvH g h x)) B 0 B).Nodup := rawE_nodup B 0 (fun x _ => by rw [L_oE]; exact mvH_nodup hg x) hx.cl
    have hm : mvE g h (ge B s) i ∈ mvH g h (ge B s) := List.mem_map.2 ⟨i, mem_frN.2 ⟨hi, hf.symm⟩, rfl⟩
    have hmB := hx.cl _ hsB (mvE g h (ge B s) i) (by rw [L_oE]; exact hm)
    have k := idx_mem hmB
    rw [hx.pe.countP_eq]
    refine countP_one (a := ⟨(s : Int), ((B.idxOf (toE (mvE g h (ge B s) i)) : Nat) : Int), (gE (L g.edges) i).a⟩) hn ((mem_rawE _ _ _ _ _).2 ⟨s, hs, _, by rw [L_oE]; exact hm, by rw [Nat.zero_add]; rfl⟩) ?_ fun b hb hp => ?_
    · unfold det
      simp only [Int.toNat_natCast, k.2]
      rw [decide_eq_true hf]
      simp [mvE, toE]
    · obtain ⟨s', hs', m, hm', rfl⟩ := (mem_rawE _ _ _ _ _).1 hb
      rw [L_oE] at hm'
      unfold det at hp
      simp only [Bool.and_eq_true, decide_eq_true_iff] at hp
      obtain ⟨p1, p2, p3, p4⟩ := hp
      have e1 : s' = s := by omega
      subst e1
      obtain ⟨j, hj, rfl⟩ := List.mem_map.1 hm'
      rw [mem_frN] at hj
      have kj := idx_mem (hx.cl _ hsB (mvE g h (ge B s') j) (by rw [L_oE]; exact hm'))
      rw [Int.toNat_natCast, kj.2] at p3
      have p3' : (gE (L g.edges) j).t = (gE (L g.edges) i).t := p3
      have p4' : (gE (L g.edges) j).a = (gE (L g.edges) i).a := p4
      have hji : j = i := by
        refine edge_inj hg hj.1 hi ?_
        have e5 : (gE (L g.edges) j).f = (gE (L g.edges) i).f := hj.2.trans hf
        cases h1 : gE (L g.edges) j
        cases h2 : gE (L g.edges) i
        rw [h1, h2] at p3' p4' e5
        simp only at p3' p4' e5
        rw [p3', p4', e5]
      subst hji
      rw [Nat.zero_add]
      rfl
  · rw [if_neg hf, List.countP_eq_zero]
    intro b _ hp
    unfold det at hp
    simp only [Bool.and_eq_true, decide_eq_true_iff] at hp
    exact hf hp.2.1
end Go.D.StS
end
/- AuxiliaryDetermined: what the law answers, if awake answers true. -/
section
set_option linter.unusedVariables false
set_option linter.unusedSimpArgs false
namespace Go.D.StS
open Go.D.Srt
section
variable {g : Gr} {x : Ax} {B : List E} {σ : Store} {r : Nat}
theorem L6_3 {s i : Nat} (hs : s < (L x.b).length) (hi : i < (L g.edges).length) (hbase : ∀ k, k < (L x.b).length → (L x.b).getD k 0 = (ge B k).1) (hL : (L x.g.edges).length ≤ 10000) (ht : ∀ e ∈ L x.g.edges, 0 ≤ e.t ∧ e.t.toNat < (L x.b).length) (hsl : s ≤ 1000) (hil : i ≤ 1000) :
    ∀ (d k c : Nat) (σ : Store), (L x.g.edges).length - k = d → k ≤ (L x.g.edges).length → c ≤ k → σ[0]? = some (.mix (eGr g)) → σ[r]? = some (.mix (eAx x)) →
    ∃ σ', σ'[0]? = some (.mix (eGr g)) ∧ σ'[r]? = some (.mix (eAx x)) ∧ f6_L3 guardT 0 (.ptr 0 0) (.ptr r 0) (N s) (N i) (N c) (N k) σ =
      if ((c + ((L x.g.edges).drop k).countP (det g B s i) : Nat) : Int) = (if decide ((ge B s).1 = (gE (L g.edges) i).f) = true then 1 else 0) then f6_L2 guardT 0 (.ptr 0 0) (.ptr r 0) (N s) (N (i + 1)) σ' else some (.p (.bool false), σ')
  | 0, k, c, σ, hd, hk, hck, g0, g1 => by
    refine ⟨σ, g0, g1, ?_⟩
    have ixs := idx22 (o := x.b) (i := s) hs
    have lds := load1_getD (l := L x.b) hs σ
    rw [hbase s hs] at lds
    simp only [pI] at lds
    have ixe := idx23 (o := g.edges) (i := i) hi
    have h36 := fun (b : Bool) (σ : Store) => S36 b σ
    simp only [pI] at h36
    rw [f6_L3_eq guardT rfl, List.drop_of_length_le (by omega), List.countP_nil, Nat.add_zero]
    simp (disch := omega) only [N, fa33_0, fa33_1, fa25_2, fa69_0, shift_ptr, shift_pptr, Nat.zero_add, Nat.add_zero, pureFn_fn, List.append_nil, List.singleton_append, List.cons_append, List.nil_append, load23, ax_e g1, load1_ptr (off := 2) g1 (v := .p (eEs x.g.edges)) rfl, len23, b_lss, ltF, gG, load22, load1_ptr (off := 3) g1 (v := .p (eSl x.b)) rfl, ixs, load3, lds, load1_ptr (off := 2) g0 (v := .p (eEs g.edges)) rfl, ixe, ldEf hi, b_eql, h36, b_neq, add1]
    by_cases hc : ((c : Nat) : Int) = (if decide ((ge B s).1 = (gE (L g.edges) i).f) = true then 1 else 0)
    · rw [if_pos hc, eqT hc]
      simp only [gG]
    · rw [if_neg hc, eqF hc]
      simp only [gG]
  | d + 1, k, c, σ, hd, hk, hck, g0, g1 => by
    have hkl : k < (L x.g.edges).length := by omega
    have e0 : (L x.g.edges).drop k = gE (L x.g.edges) k :: (L x.g.edges).drop (k + 1) := by rw [gE_at hkl]; exact List.drop_eq_getElem_cons hkl
    have hB : (σ ++ [Row.mix (edgD (gE (L x.g.edges) k))])[σ.length]? = some (.mix (edgD (gE (L x.g.edges) k))) := get_snoc
    have g0' : (σ ++ [Row.mix (edgD (gE (L x.g.edges) k))])[0]? = some (.mix (eGr g)) := get_old g0
    have g1' : (σ ++ [Row.mix (edgD (gE (L x.g.edges) k))])[r]? = some (.mix (eAx x)) := get_old g1
    have hsn := stN69 (lo := 0) (σ := σ) (gE (L x.g.edges) k) (Nat.zero_le _)
    obtain ⟨t1, t2⟩ := ht (gE (L x.g.edges) k) (by rw [gE_at hkl]; exact List.getElem_mem hkl)
    have ixs := idx22 (o := x.b) (i := s) hs
    have lds := load1_getD (l := L x.b) hs (σ ++ [Row.mix (edgD (gE (L x.g.edges) k))])
    rw [hbase s hs] at lds
    have ixt := idxi (o := x.b) t1 t2
    have ldt := load1_getD (l := L x.b) t2 (σ ++ [Row.mix (edgD (gE (L x.g.edges) k))])
    rw [hbase _ t2] at ldt
    simp only [pI] at lds ldt
    have ixe := idx23 (o := g.edges) (i := i) hi
    have ixy := idx23 (o := x.g.edges) (i := k) hkl
    rw [e0]
    have step : ∀ b : Bool, det g B s i (gE (L x.g.edges) k) = b → f6_L3 guardT 0 (.ptr 0 0) (.ptr r 0) (N s) (N i) (N c) (N k) σ = f6_L3 guardT 0 (.ptr 0 0) (.ptr r 0) (N s) (N i) (N (if b = true then c + 1 else c)) (N (k + 1)) (σ ++ [Row.mix (edgD (gE (L x.g.edges) k))]) := by
      rintro _ rfl
      rw [f6_L3_eq guardT rfl]
      unfold det
      simp (maxSteps := 5000000) (disch := omega) only [N, fa33_0, fa33_1, fa25_2, fa69_0, shift_ptr, shift_pptr, Nat.zero_add, Nat.add_zero, pureFn_fn, List.append_nil, List.singleton_append, List.cons_append, List.nil_append, load23, load1_ptr (off := 2) g1 (v := .p (eEs x.g.edges)) rfl, len23, b_lss, ltT, gG, ixy, load69, ld69, zero69, hsn, load3, load1_ptr (off := 0) hB (v := .p (.int .i64 (gE (L x.g.edges) k).f)) rfl, b_eql]
      by_cases q1 : (gE (L x.g.edges) k).f = (s : Int)
      · simp (maxSteps := 5000000) (disch := omega) only [eqT q1, gG, shift_ptr, shift_pptr, Nat.zero_add, Nat.add_zero, pureFn_fn, List.append_nil, List.singleton_append, List.cons_append, List.nil_append, load3, load23, fa33_1, fa25_2, fa69_0, load22, load1_ptr (off := 3) g1' (v := .p (eSl x.b)) rfl, ixs, lds, load1_ptr (off := 2) g0' (v := .p (eEs g.edges)) rfl, ixe, ldEf hi, b_eql, Bool.true_and]
        by_cases q2 : (ge B s).1 = (gE (L g.edges) i).f
        · simp (maxSteps := 5000000) (disch := omega) only [eqT q2, gG, fa33_1, fa25_2, fa69_1, shift_ptr, shift_pptr, Nat.zero_add, Nat.add_zero, pureFn_fn, List.append_nil, List.singleton_append, List.cons_append, List.nil_append, load22, load3, load23, load1_ptr (off := 3) g1' (v := .p (eSl x.b)) rfl, load1_ptr (off := 1) hB (v := .p (.int .i64 (gE (L x.g.edges) k).t)) rfl, ixt, ldt, load1_ptr (off := 2) g0' (v := .p (eEs g.edges)) rfl, ixe, ldEt hi, b_eql, Bool.true_and]
          by_cases q3 : (ge B (gE (L x.g.edges) k).t.toNat).1 = (gE (L g.edges) i).t
          · simp (maxSteps := 5000000) (disch := omega) only [eqT q3, gG, fa25_2, fa69_2, shift_ptr, shift_pptr, Nat.zero_add, Nat.add_zero, pureFn_fn, List.append_nil, List.singleton_append, List.cons_append, List.nil_append, load3, load23, load1_ptr (off := 2) hB (v := .p (.int .i64 (gE (L x.g.edges) k).a)) rfl, load1_ptr (off := 2) g0' (v := .p (eEs g.edges)) rfl, ixe, ldEa hi, b_eql, Bool.true_and]
            by_cases q4 : (gE (L x.g.edges) k).a = (gE (L g.edges) i).a
            · simp (maxSteps := 5000000) (disch := omega) only [eqT q4, gG, f6_J0_eq, add1, if_true]
            · simp (maxSteps := 5000000) (disch := omega) only [eqF q4, gG, f6_J0_eq, add1, Bool.false_eq_true, if_false]
          · simp (maxSteps := 5000000) (disch := omega) only [eqF q3, gG, f6_J0_eq, add1, Bool.false_and, Bool.false_eq_true, if_false]
        · simp (maxSteps := 5000000) (disch := omega) only [eqF q2, gG, f6_J0_eq, add1, Bool.false_and, Bool.false_eq_true, if_false]
      · simp (maxSteps := 5000000) (disch := omega) only [eqF q1, gG, f6_J0_eq, add1, Bool.false_and, Bool.false_eq_true, if_false]
    cases hdt : det g B s i (gE (L x.g.edges) k) with
    | true =>
      rw [step true hdt, List.countP_cons_of_pos hdt]
      obtain ⟨σ', r0, r1, r2⟩ := L6_3 hs hi hbase hL ht hsl hil d (k + 1) (c + 1) _ (by omega) (by omega) (by omega) g0' g1'
      refine ⟨σ', r0, r1, ?_⟩
      rw [show c + (List.countP (det g B s i) ((L x.g.edges).drop (k + 1)) + 1) = c + 1 + List.countP (det g B s i) ((L x.g.edges).drop (k + 1)) by omega]
      exact r2
    | false =>
      rw [step false hdt, List.countP_cons_of_neg (by rw [hdt]; decide)]
      obtain ⟨σ', r0, r1, r2⟩ := L6_3 hs hi hbase hL ht hsl hil d (k + 1) c _ (by omega) (by omega) (by omega) g0' g1'
      exact ⟨σ', r0, r1, r2⟩
section
variable (hbase : ∀ k, k < (L x.b).length → (L x.b).getD k 0 = (ge B k).1) (hL : (L x.g.edges).length ≤ 10000) (ht : ∀ e ∈ L x.g.edges, 0 ≤ e.t ∧ e.t.toNat < (L x.b).length) (hn : x.g.n = ((L x.b).length : Nat)) (hb : (L x.b).length ≤ 1000) (he : (L g.edges).length ≤ 1000)
  (hdet : ∀ s i, s < (L x.b).length → i < (L g.edges).length → (L x.g.edges).countP (det g B s i) = if (ge B s).1 = (gE (L g.edges) i).f then 1 else 0)
include hbase hL ht hb he hdet
theorem L6_2 {s : Nat} (hs : s < (L x.b).length) : ∀ (d i : Nat) (σ : Store), (L g.edges).length - i = d → i ≤ (L g.edges).length → σ[0]? = some (.mix (eGr g)) → σ[r]? = some (.mix (eAx x)) →
    ∃ σ', σ'[0]? = some (.mix (eGr g)) ∧ σ'[r]? = some (.mix (eAx x)) ∧ f6_L2 guardT 0 (.ptr 0 0) (.ptr r 0) (N s) (N i) σ = f6_L1 guardT 0 (.ptr 0 0) (.ptr r 0) (N (s + 1)) σ'
  | 0, i, σ, hd, hi, g0, g1 => by
    refine ⟨σ, g0, g1, ?_⟩
    rw [f6_L2_eq guardT rfl]
    simp (disch := omega) only [N, fa25_2, shift_ptr, shift_pptr, Nat.zero_add, Nat.add_zero, pureFn_fn, List.append_nil, List.singleton_append, List.cons_append, List.nil_append, load23, load1_ptr (off := 2) g0 (v := .p (eEs g.edges)) rfl, len23, b_lss, ltF, gG, add1]
  | d + 1, i, σ, hd, hi, g0, g1 => by
    have hil : i < (L g.edges).length := by omega
    obtain ⟨σ1, a0, a1, a2⟩ := L6_3 (r := r) hs hil hbase hL ht (by omega) (by omega) _ 0 0 σ rfl (Nat.zero_le _) (Nat.le_refl _) g0 g1
    rw [List.drop_zero, Nat.zero_add, hdet s i hs hil] at a2
    obtain ⟨σ', r0, r1, r2⟩ := L6_2 hs d (i + 1) σ1 (by omega) (by omega) a0 a1
    refine ⟨σ', r0, r1, ?_⟩
    rw [← r2, f6_L2_eq guardT rfl]
    simp (disch := omega) only [N, fa25_2, shift_ptr, shift_pptr, Nat.zero_add, Nat.add_zero, pureFn_fn, List.append_nil, List.singleton_append, List.cons_append, List.nil_append, load23, load1_ptr (off := 2) g0 (v := .p (eEs g.edges)) rfl, len23, b_lss, ltT, gG]
    refine a2.trans ?_
    rw [if_pos]
    by_cases hf : (ge B s).1 = (gE (L g.edges) i).f
    · rw [if_pos hf, if_pos (decide_eq_true hf)]; rfl
    · rw [if_neg hf, if_neg (by rw [decide_eq_false hf]; decide)]; rfl
include hn in
theorem L6_1 : ∀ (d s : Nat) (σ : Store), (L x.b).length - s = d → s ≤ (L x.b).length → σ[0]? = some (.mix (eGr g)) → σ[r]? = some (.mix (eAx x)) →
    ∃ σ', f6_L1 guardT 0 (.ptr 0 0) (.ptr r 0) (N s) σ = some (.p (.bool true), σ')
  | 0, s, σ, hd, hs, g0, g1 => by
    refine ⟨σ, ?_⟩
    rw [f6_L1_eq guardT rfl]
    simp (disch := omega) only [N, fa33_0, fa25_0, shift_ptr, shift_pptr, Nat.zero_add, Nat.add_zero, pureFn_fn, List.append_nil, List.singleton_append, List.cons_append, List.nil_append, load3, load1_ptr (off := 0) g1 (v := .p (.int .i64 x.g.n)) rfl, hn, b_lss, ltF, gG]
  | d + 1, s, σ, hd, hs, g0, g1 => by
    obtain ⟨σ1, a0, a1, a2⟩ := L6_2 (r := r) hbase hL ht hb he hdet (s := s) (by omega) _ 0 σ rfl (Nat.zero_le _) g0 g1
    obtain ⟨σ', r1⟩ := L6_1 d (s + 1) σ1 (by omega) (by omega) a0 a1
    refine ⟨σ', ?_⟩
    rw [← r1, ← a2, f6_L1_eq guardT rfl]
    simp (disch := omega) only [N, fa33_0, fa25_0, shift_ptr, shift_pptr, Nat.zero_add, Nat.add_zero, pureFn_fn, List.append_nil, List.singleton_append, List.cons_append, List.nil_append, load3, load1_ptr (off := 0) g1 (v := .p (.int .i64 x.g.n)) rfl, hn, b_lss, ltT, gG]
    rfl
end
end
end Go.D.StS
end
/- AuxiliaryDetermined: what the law answers, if awake answers true; the whole. -/
section
set_option linter.unusedVariables false
set_option linter.unusedSimpArgs false
namespace Go.D.StS
open Go.D.Srt
theorem rowsErr_ok : ∀ {l : List OI}, (∀ j, j < l.length → rowErr (l.getD j none) = 0) → rowsErr l = 0
  | [], _ => rfl
  | a :: l, h => by
    unfold rowsErr
    rw [if_pos (show rowErr a = 0 from h 0 (by simp))]
    exact rowsErr_ok fun j hj => h (j + 1) (by simpa using hj)
theorem any_ok {l : List Int} (h : ∀ i, i < l.length → 0 ≤ l.getD i 0 ∧ l.getD i 0 ≤ 7) : l.any bA = false := by
  rw [List.any_eq_false]
  intro v hv
  obtain ⟨i, hi, rfl⟩ := List.getElem_of_mem hv
  have := h i hi
  rw [getD_at 0 hi] at this
  have : inR l[i] 0 7 = true := (inR_iff _ _ _).2 this
  simp [bA, this]
theorem errHR_ok {g : Gr} {h : Hs} (hh : HOk g h) : errHR g h = 0 := by
  unfold errHR
  rw [if_pos hh.sl, any_ok hh.sv, if_neg (by decide), if_pos hh.xl]
  refine rowsErr_ok fun j hj => ?_
  unfold rowErr
  rw [if_pos (hh.xr j hj), any_ok (fun i hi => hh.xv j hj i (by rw [← hh.xr j hj]; exact hi)), if_neg (by decide)]
theorem ownH_x (h : Hs) : L (ownH h).x = (L h.x).map fun o => some (L o) := by
  unfold ownH
  by_cases e : L h.x = []
  · simp only [if_pos e, e]; rfl
  · simp only [if_neg e]; rfl
theorem ownH_len (h : Hs) : (L (ownH h).x).length = (L h.x).length := by rw [ownH_x, List.length_map]
theorem ownH_row (h : Hs) (j : Nat) : L ((L (ownH h).x).getD j none) = L ((L h.x).getD j none) := by
  rw [ownH_x]
  by_cases hj : j < (L h.x).length
  · rw [getD_at none (by simpa using hj), getD_at none hj, List.getElem_map]; rfl
  · rw [List.getD_eq_getElem?_getD, List.getD_eq_getElem?_getD, List.getElem?_eq_none (by simpa using hj), List.getElem?_eq_none (by omega)]
theorem HOk.own {g : Gr} {h : Hs} (hh : HOk g h) : HOk (ownG g) (ownH h) :=
  ⟨hh.sl, hh.sv, by rw [ownH_len]; exact hh.xl, fun j hj => by rw [ownH_row]; rw [ownH_len] at hj; exact hh.xr j hj, fun j hj i hi => by rw [ownH_row]; rw [ownH_len] at hj; exact hh.xv j hj i hi⟩
theorem GOk.own {g : Gr} (hg : GOk g) : GOk (ownG g) := ⟨hg.n0, hg.e0, hg.il, hg.ip, hg.el, hg.ep⟩
theorem mvH_act {g : Gr} {h : Hs} (hg : GOk g) {x : E} {e : Edg} (he : e ∈ mvH g h x) : 0 ≤ e.a ∧ e.a ≤ 11 := by
  unfold mvH at he
  rw [List.mem_map] at he
  obtain ⟨j, hj, rfl⟩ := he
  rw [mem_frN] at hj
  have h1 := hg.el _ (List.getElem_mem hj.1)
  rw [← gE_at hj.1] at h1
  exact h1.2.2
theorem hs_all {h : Hs} {σ : Store} {r : Nat} (w : σ[r]? = some (.mix (eHs h))) : load PP 28 (.ptr r 0) σ = some (.agg (eHs h)) := by rw [load28, loadN_ptr (vs := eHs h) w rfl (by simp [eHs])]; rfl
theorem ax_out (B : List E) (is : List Int) (E' : List Edg) : (L (mkX B is E').b) = B.map Prod.fst ∧ (L (mkX B is E').a) = B.map Prod.snd ∧ L (mkX B is E').g.edges = E' ∧ L (mkX B is E').g.init = is ∧ (mkX B is E').g.n = (B.length : Nat) :=
  ⟨L_oI _, L_oI _, L_oE _, L_oI _, rfl⟩
section
variable {g : Gr} {h : Hs} (hg : GOk g) (hh : HOk g h) (hn : g.n ≤ 8) (he : (L g.edges).length ≤ 16) (hG : errG g = 0)
include hg hh hn he hG
theorem L6_end {i : Nat} (hi : (L g.edges).length ≤ i) (hi2 : i ≤ 1000) : ∃ σ', f6_L0 guardT 0 (.ptr 0 0) (.ptr 1 0) (N i) [.mix (eGr g), .mix (eHs h)] = some (.p (.bool true), σ') := by
  have g0 : ([Row.mix (eGr g), .mix (eHs h)] : Store)[0]? = some (.mix (eGr g)) := rfl
  have g1 : ([Row.mix (eGr g), .mix (eHs h)] : Store)[1]? = some (.mix (eHs h)) := rfl
  have hil := init_len hg
  have hxl := hh.xl
  have hsl := hh.sl
  have hnn := hg.n0
  obtain ⟨B, E', hx, h12⟩ := S12 hg.own hh.own hn he (by unfold errH; rw [show errG (ownG g) = errG g from rfl, hG, if_pos rfl]; exact errHR_ok hh.own) [Row.mix (eGr g), .mix (eHs h)]
  have hM : ∀ x ∈ B, (L (oE (mvH (ownG g) (ownH h) x))).length ≤ 16 := fun x _ => by rw [L_oE]; exact Nat.le_trans (mvH_len _ _ _) he
  have ha : ∀ x ∈ B, ∀ e ∈ L (oE (mvH (ownG g) (ownH h) x)), 0 ≤ e.a ∧ e.a ≤ 11 := fun x _ e he => by rw [L_oE] at he; exact mvH_act hg.own he
  have hia := ini_asc (h := ownH h) hg.own
  have hext := hx.ext0 hn hia hM ha
  obtain ⟨k1, k2, k3⟩ := hx.ok hn hia hM ha
  have hnl : (nums B (iniH (ownG g) (ownH h))).length = (L g.init).length := by simp [nums, iniH]; rfl
  generalize hX : mkX B (nums B (iniH (ownG g) (ownH h))) E' = X at *
  obtain ⟨x1, x2, x3, x4, x5⟩ : (L X.b) = B.map Prod.fst ∧ (L X.a) = B.map Prod.snd ∧ L X.g.edges = E' ∧ L X.g.init = nums B (iniH (ownG g) (ownH h)) ∧ X.g.n = (B.length : Nat) := by rw [← hX]; exact ax_out _ _ _
  have hsm : XSm X := ⟨by rw [x4, hnl]; omega, by rw [x3]; omega, by rw [x1, List.length_map]; omega, by rw [x2, List.length_map]; omega⟩
  have hs1 : store PP 0 33 (.ptr 2 0) (.agg (eAx X)) [.mix (eGr g), .mix (eHs h), .mix [.p (pI 0), .p .nilsl, .p .nilsl, .p .nilsl, .p .nilsl]] = some [.mix (eGr g), .mix (eHs h), .mix (eAx X)] := by
    have := st33 (c := eAx X) (σ := [.mix (eGr g), .mix (eHs h), .mix [.p (pI 0), .p .nilsl, .p .nilsl, .p .nilsl, .p .nilsl]]) (t := 2) rfl rfl rfl rfl
    exact this
  have w0 : ([Row.mix (eGr g), .mix (eHs h), .mix (eAx X)] : Store)[0]? = some (.mix (eGr g)) := rfl
  have w2 : ([Row.mix (eGr g), .mix (eHs h), .mix (eAx X)] : Store)[2]? = some (.mix (eAx X)) := rfl
  obtain ⟨σ', hL⟩ := L6_1 (g := g) (x := X) (B := B) (r := 2) (fun k hk => by rw [x1, List.length_map] at hk; rw [x1, getD_at 0 (by simpa using hk), ge_at hk, List.getElem_map]) (by rw [x3]; omega) (fun e he2 => by
      rw [x3] at he2
      obtain ⟨k, hk, m, hm, rfl, hmB⟩ := hx.mem he2
      have := (idx_mem hmB).1
      rw [x1, List.length_map]
      simp only
      omega) (by rw [x5, x1, List.length_map]) (by rw [x1, List.length_map]; omega) (by omega) (fun s i hs hi => by
      rw [x1, List.length_map] at hs
      rw [x3]
      exact det_count (g := ownG g) (h := ownH h) hg.own hx hs hi) _ 0 _ rfl (Nat.zero_le _) w0 w2
  refine ⟨σ', ?_⟩
  have h33 := S33 (σ := [Row.mix (eGr g), .mix (eHs h), .mix (eAx X)]) hsm
  rw [hext] at h33
  simp only [pI] at h33
  have q0 : ¬ ((0 : Int) = 2) := by decide
  have q1 : (0 : Int) = 0 := rfl
  have h13 := S13 (g := g) (σ := [Row.mix (eGr g), .mix (eHs h)]) (by omega) (by omega)
  have h14 := S14 (h := h) (σ := [Row.mix (eGr g), .mix (eHs h)]) (by omega) (by omega) (fun j hj => by rw [hh.xr j hj]; decide)
  have q2 : ((L X.g.init).length : Int) = ((L g.init).length : Nat) := by rw [x4, hnl]
  simp only [pI] at hs1
  rw [f6_L0_eq guardT rfl]
  simp (disch := omega) only [N, fa25_2, shift_ptr, shift_pptr, Nat.zero_add, Nat.add_zero, pureFn_fn, List.append_nil, List.singleton_append, List.cons_append, List.nil_append, load23, load1_ptr (off := 2) g0 (v := .p (eEs g.edges)) rfl, len23, b_lss, ltF, gG, gr_all g0, h13, hs_all g1, h14, h12, ex0, ex1, zero33, List.length_cons, List.length_nil, List.cons_append, List.nil_append, hs1, b_eql, eqF q0, b_neq, eqT q1, ax_all w2, h33, fa33_0, fa25_1, load22, load1_ptr (off := 1) w2 (v := .p (eSl X.g.init)) rfl, load1_ptr (off := 1) w0 (v := .p (eSl g.init)) rfl, len22, eqT q2]
  exact hL
theorem L6_0 : ∀ (d i : Nat), (L g.edges).length - i = d → 1 ≤ i → i ≤ 1000 → ∃ σ', f6_L0 guardT 0 (.ptr 0 0) (.ptr 1 0) (N i) [.mix (eGr g), .mix (eHs h)] = some (.p (.bool true), σ')
  | 0, i, hd, h1, h2 => L6_end hg hh hn he hG (by omega) h2
  | d + 1, i, hd, h1, h2 => by
    have hil : i < (L g.edges).length := by omega
    obtain ⟨σ', ih⟩ := L6_0 d (i + 1) (by omega) (by omega) (by omega)
    have g0 : ([Row.mix (eGr g), .mix (eHs h)] : Store)[0]? = some (.mix (eGr g)) := rfl
    have ix1 := idx23 (o := g.edges) (i := i) hil
    have ix2 := idx23 (o := g.edges) (i := i - 1) (by omega)
    have lf1 := ldEf hil [Row.mix (eGr g), .mix (eHs h)]
    have lf2 := ldEf (l := L g.edges) (j := i - 1) (by omega) [Row.mix (eGr g), .mix (eHs h)]
    have lt1 := ldEt hil [Row.mix (eGr g), .mix (eHs h)]
    have lt2 := ldEt (l := L g.edges) (j := i - 1) (by omega) [Row.mix (eGr g), .mix (eHs h)]
    rw [f6_L0_eq guardT rfl]
    simp (disch := omega) only [N, fa25_2, fa69_0, shift_ptr, shift_pptr, Nat.zero_add, Nat.add_zero, pureFn_fn, List.append_nil, List.singleton_append, List.cons_append, List.nil_append, load23, load1_ptr (off := 2) g0 (v := .p (eEs g.edges)) rfl, len23, b_lss, ltT, gG, ix1, load3, lf1, sub1, ix2, lf2, b_eql]
    by_cases q1 : (gE (L g.edges) i).f = (gE (L g.edges) (i - 1)).f
    · simp (maxSteps := 1000000) (disch := omega) only [eqT q1, gG, fa25_2, fa69_1, shift_ptr, shift_pptr, Nat.zero_add, Nat.add_zero, pureFn_fn, List.append_nil, List.singleton_append, List.cons_append, List.nil_append, load23, load1_ptr (off := 2) g0 (v := .p (eEs g.edges)) rfl, ix1, load3, lt1, sub1, ix2, lt2, b_eql]
      by_cases q2 : (gE (L g.edges) i).t = (gE (L g.edges) (i - 1)).t
      · simp only [eqT q2, gG]
        exact ⟨_, rfl⟩
      · simp (disch := omega) only [eqF q2, gG, add1]
        exact ⟨σ', ih⟩
    · simp (maxSteps := 1000000) (disch := omega) only [eqF q1, gG, add1]
      exact ⟨σ', ih⟩
end
theorem law6 (hawake : ∀ σ, pureV CC 9 [] σ = some (.p (.bool true))) (g : Gr) (h : Hs) : ∃ σ', F6 guardT 0 (.agg (eGr g)) (.agg (eHs h)) [] = some (.p (.bool true), σ') := by
  have g0 : ([Row.mix (eGr g), .mix (eHs h)] : Store)[0]? = some (.mix (eGr g)) := rfl
  have g1 : ([Row.mix (eGr g), .mix (eHs h)] : Store)[1]? = some (.mix (eHs h)) := rfl
  have h10 := S10 (g := g) (σ := [Row.mix (eGr g), .mix (eHs h)])
  have h11 := S11 (o := h.x) (σ := [Row.mix (eGr g), .mix (eHs h)])
  have a9 := hawake [Row.mix (eGr g), .mix (eHs h)]
  rw [F6_eq]
  cases hf : fewB g with
  | false =>
    rw [hf] at h10
    simp only [box_gr, box_hs, gG, List.length_nil, List.nil_append, List.length_cons, List.cons_append, pureFn_fn, List.append_nil, a9, gr_all g0, h10]
    exact ⟨_, rfl⟩
  | true =>
    rw [hf] at h10
    by_cases q1 : (L h.s).length ≤ 40
    · have p1 : ¬ (((L h.s).length : Int) > 40) := by omega
      cases hb : briB (L h.x) with
      | false =>
        rw [hb] at h11
        simp only [box_gr, box_hs, gG, List.length_nil, List.nil_append, List.length_cons, List.cons_append, shift_ptr, shift_pptr, Nat.zero_add, Nat.add_zero, pureFn_fn, List.append_nil, List.singleton_append, List.cons_append, List.nil_append, a9, gr_all g0, h10, fa28_0, fa28_1, load22, load26, load1_ptr (off := 0) g1 (v := .p (eSl h.s)) rfl, load1_ptr (off := 1) g1 (v := .p (eLs h.x)) rfl, len22, b_gtr, gtF p1, h11]
        exact ⟨_, rfl⟩
      | true =>
        rw [hb] at h11
        have hf2 := hf
        unfold fewB at hf2
        simp only [Bool.and_eq_true, Bool.or_eq_true, decide_eq_true_iff] at hf2
        have hb2 := hb
        unfold briB at hb2
        rw [Bool.and_eq_true, decide_eq_true_iff, List.all_eq_true] at hb2
        have hrow : ∀ j, j < (L h.x).length → (L ((L h.x).getD j none)).length ≤ 1000 := fun j hj => by
          have := hb2.2 _ (List.getElem_mem hj)
          rw [decide_eq_true_iff, ← getD_at none hj] at this
          omega
        have h17 := S17 (g := g) (by omega) (by omega) [Row.mix (eGr g), .mix (eHs h)]
        have h18 := S18 (g := g) hrow (by omega) (by omega) [Row.mix (eGr g), .mix (eHs h)]
        simp only [pI] at h17 h18
        by_cases q2 : errG g = 0
        · by_cases q3 : errHR g h = 0
          · obtain ⟨hg, n30, e120, _⟩ := errG_zero q2
            obtain ⟨n8, e16⟩ := fewB_small hf n30 e120
            obtain ⟨σ', hL⟩ := L6_0 hg (errHR_zero q3) n8 e16 q2 _ 1 rfl (Nat.le_refl 1) (by decide)
            refine ⟨σ', ?_⟩
            simp only [box_gr, box_hs, gG, List.length_nil, List.nil_append, List.length_cons, List.cons_append, shift_ptr, shift_pptr, Nat.zero_add, Nat.add_zero, pureFn_fn, List.append_nil, List.singleton_append, List.cons_append, List.nil_append, a9, gr_all g0, h10, fa28_0, fa28_1, load22, load26, load1_ptr (off := 0) g1 (v := .p (eSl h.s)) rfl, load1_ptr (off := 1) g1 (v := .p (eLs h.x)) rfl, len22, b_gtr, gtF p1, h11, h17, b_neq, eqT q2, hs_all g1, h18, eqT q3]
            exact hL
          · simp only [box_gr, box_hs, gG, List.length_nil, List.nil_append, List.length_cons, List.cons_append, shift_ptr, shift_pptr, Nat.zero_add, Nat.add_zero, pureFn_fn, List.append_nil, List.singleton_append, List.cons_append, List.nil_append, a9, gr_all g0, h10, fa28_0, fa28_1, load22, load26, load1_ptr (off := 0) g1 (v := .p (eSl h.s)) rfl, load1_ptr (off := 1) g1 (v := .p (eLs h.x)) rfl, len22, b_gtr, gtF p1, h11, h17, b_neq, eqT q2, hs_all g1, h18, eqF q3]
            exact ⟨_, rfl⟩
        · simp only [box_gr, box_hs, gG, List.length_nil, List.nil_append, List.length_cons, List.cons_append, shift_ptr, shift_pptr, Nat.zero_add, Nat.add_zero, pureFn_fn, List.append_nil, List.singleton_append, List.cons_append, List.nil_append, a9, gr_all g0, h10, fa28_0, fa28_1, load22, load26, load1_ptr (off := 0) g1 (v := .p (eSl h.s)) rfl, load1_ptr (off := 1) g1 (v := .p (eLs h.x)) rfl, len22, b_gtr, gtF p1, h11, h17, b_neq, eqF q2]
          exact ⟨_, rfl⟩
    · have p1 : (((L h.s).length : Int) > 40) := by omega
      simp only [box_gr, box_hs, gG, List.length_nil, List.nil_append, List.length_cons, List.cons_append, shift_ptr, shift_pptr, Nat.zero_add, Nat.add_zero, pureFn_fn, List.append_nil, List.singleton_append, List.cons_append, List.nil_append, a9, gr_all g0, h10, fa28_0, load22, load1_ptr (off := 0) g1 (v := .p (eSl h.s)) rfl, len22, b_gtr, gtT p1]
      exact ⟨_, rfl⟩
theorem call6 (hawake : ∀ σ, pureV CC 9 [] σ = some (.p (.bool true))) (g : Gr) (h : Hs) : ∃ σ', CC 0 6 [.agg (eGr g), .agg (eHs h)] [] = some (.p (.bool true), σ') := by
  obtain ⟨σ', h⟩ := law6 hawake g h
  exact ⟨σ', F6_call h⟩
end Go.D.StS
end
/- AuxiliaryDetermined: for every graph and every history variable the law answers true and leaves its arguments as they were: the given statement, without conditions. -/
section
set_option linter.unusedVariables false
set_option linter.unusedSimpArgs false
set_option maxRecDepth 100000
namespace Go.D
open Go.ChangeShapes Go.WideShapes Go.ChangeAt Go.RowKit

theorem auxiliaryDetermined_calls (hawake : Awake) {H : Type} {enc : TypeId × Value → H} {W : World} {base : Nat} {args : Array Value} {ds : List (DataW H)} {ps : List MemPlace}
    (hval : ∀ (j : Nat) t v, ([25, 28] : List TypeId).toArray[j]? = some t → args[j]? = some v → Value.okWide PP W .any base t v)
    (hA : DataW.TrodAll enc PP W 0 (fun _ => true) true [25, 28] args.toList ds ps) :
    Calls PP 6 args W fun e W' => e = .returned (.bool true) ∧ Below W.heap.size W W' := by
  obtain ⟨v0, v1, d0, d1, p0, p1, rfl, rfl, rfl, h0, h1⟩ := trodAll_two hA
  obtain ⟨o0, ho0⟩ := read_gr (hval 0 25 v0 rfl rfl) h0
  obtain ⟨o1, ho1⟩ := read_hs (hval 1 28 v1 rfl rfl) h1
  obtain ⟨σ', hc⟩ := StS.call6 hawake o0 o1
  refine calls_of hc ⟨rfl, fun j h1 h2 => ?_⟩
  match j, h1 with
  | 0, _ => exact ho0
  | 1, _ => exact ho1

end Go.D
namespace Go.Proofs.YtkpdgafinpedgaaGreat
open Go.D Go.ChangeShapes Go.WideShapes Go.ChangeAt Go.RowKit

set_option maxRecDepth 100000 in
theorem auxiliaryDetermined_lifted (hawake : Awake) (os : Os) (started : os.Started) (H : Type) (enc : TypeId × Value → H) :
    ReturnsInHanded {} Tryz.checked os 6 .any (Rows.auxiliaryDeterminedSpec.pre6 enc Tryz.prog Tryz.f6 Rows.auxiliaryDeterminedRow.domain false) (Rows.auxiliaryDeterminedSpec.post enc Tryz.prog Tryz.f6 false true false false) := by
  refine returnsInHanded_of_change_sized (C := Tryz.checked) own_ok started (by kernel_rfl) Tryz.func6
    (ChangeSpec.witness6 (enc := enc) (C := Tryz.checked) false ⟨#[], #[.agg #[.int .i64 0, .slice none 0 0, .slice none 0 0], .agg #[.slice none 0 0, .slice none 0 0]], []⟩ 8 (by kernel_rfl) (by kernel_rfl) (by kernel_rfl) (by kernel_rfl)) ?_
  intro W base args ds gs before hval0 hW _ hsz0 _
  have hval : ∀ (j : Nat) t v, Tryz.f6.params[j]? = some t → args[j]? = some v → Value.okWide Tryz.prog W .any base t v := hval0
  have hW' := hW
  obtain ⟨p, q, hA0, hV, rfl, _, _⟩ := hW
  have hA : DataW.TrodAll enc Tryz.prog W 0 (fun _ => true) true Tryz.f6.params.toList args.toList ds p := hA0
  rw [Tryz.params6] at hA hval
  have hA2 := hA
  obtain ⟨v0, v1, d0, d1, p0, p1, rfl, rfl, rfl, h0, h1⟩ := trodAll_two hA
  obtain ⟨rfl, rfl⟩ := trodVars_none hV
  have hlt : ∀ x ∈ p0 ++ p1, x.block < W.heap.size := fun x hx => by
    have := hW'.lt x (by simpa using hx)
    exact this
  have e0 : ∀ x ∈ p0, x.block < W.heap.size := fun x hx => hlt x (List.mem_append_left _ hx)
  have e1 : ∀ x ∈ p1, x.block < W.heap.size := fun x hx => hlt x (List.mem_append_right _ hx)
  refine (auxiliaryDetermined_calls hawake (base := base) hval hA2).mono ?_
  rintro e W2 ⟨rfl, hnx⟩
  refine ⟨_, rfl, _, _, _, [], p0 ++ p1, [], hW', ?_, ?_, rfl, hnx.frame _, fun h => by cases h⟩
  · exact trodAll_mk1 (shut_bool ul4 true)
  · exact trodAll_mk2 (Below.trod laidOut_ok (by kernel_rfl) (of_decide_eq_true (by kernel_rfl)) h0 hnx e0) (Below.trod laidOut_ok (by kernel_rfl) (of_decide_eq_true (by kernel_rfl)) h1 hnx e1)

theorem auxiliaryDetermined_holds : Rows.AuxiliaryDeterminedSaid :=
  OpenClaim.holds_of_wide 6 Tryz.f6 rfl rfl rfl rfl rfl rfl rfl ⟨rfl, rfl, rfl, rfl, rfl⟩ rfl rfl rfl rfl rfl (by kernel_rfl) Tryz.func6 (by kernel_rfl)
    (of_decide_eq_true (by kernel_rfl)) (by unfold Func.isWrapper; first | (rw [if_pos (by decide +kernel)]; kernel_rfl) | (rw [if_neg (by decide +kernel)]; exact ⟨rfl, rfl⟩))
    (fun os started H enc _ => auxiliaryDetermined_lifted awake_true os started H enc)

end Go.Proofs.YtkpdgafinpedgaaGreat
end
