/- Chapter 13: formulas as the program's values; their errors in the reference. -/
import Derived.Test.YtpacancmcjbckaaGreatDoorMc
import Derived.Orders
section
set_option linter.unusedVariables false
set_option linter.unusedSimpArgs false
namespace Go.D
open Las
def eNds : List Nd → List PV
  | [] => []
  | x :: l => pI x.k :: pI x.n :: eSl x.a :: eNds l
def eFm : Fm → PV
  | none => .nilsl
  | some l => .sl false l.length (eNds l)
theorem loosens_nds (l : List Nd) : loosens (eNds l) = eNds l := by
  induction l with
  | nil => rfl
  | cons a l ih => simp only [eNds, loosens, loosen, loosen_sl, ih]
theorem loosen_fm (f : Fm) : loosen (eFm f) = eFm f := by
  cases f <;> simp [eFm, loosen, loosens_nds]
theorem fm_view (f : Fm) : view (.p (eFm f)) = .p (eFm f) := by simp [view, viewCell, loosen_fm]
theorem nds_length (l : List Nd) : (eNds l).length = l.length * 3 := by
  induction l with
  | nil => rfl
  | cons a l ih => simp [eNds, ih]; omega
theorem eNds_app (l m : List Nd) : eNds (l ++ m) = eNds l ++ eNds m := by
  induction l with
  | nil => rfl
  | cons a l ih => simp [eNds, ih]
theorem nds_get : ∀ (l : List Nd) (i : Nat) (h : i < l.length), (eNds l)[i * 3]? = some (pI (l.getD i default).k) ∧ (eNds l)[i * 3 + 1]? = some (pI (l.getD i default).n) ∧ (eNds l)[i * 3 + 2]? = some (eSl (l.getD i default).a)
  | e :: l, 0, h => by simp [eNds]
  | e :: l, i + 1, h => by
    have := nds_get l i (by simpa using h)
    have e3 : (i + 1) * 3 = i * 3 + 1 + 1 + 1 := by omega
    rw [e3]
    simpa [eNds] using this
theorem u23 : PP.underlying 23 = some (.slice 67) := Eq.trans (by kernel_rfl) rfl
theorem s67 : size? PP 67 = some 3 := Eq.trans (by kernel_rfl) rfl
theorem src23 : srcType PP 23 = true := Eq.trans (by kernel_rfl) rfl
theorem zero67 : zeroOf PP 67 = some [.p (pI 0), .p (pI 0), .p .nilsl] := Eq.trans (by kernel_rfl) rfl
theorem bytes67 : bytes? PP 67 = some 40 := Eq.trans (by kernel_rfl) rfl
theorem fa67_0 (x : DV) : fieldAddr PP 67 x 0 = shiftPtr x 0 := Eq.trans (by kernel_rfl) rfl
theorem fa67_1 (x : DV) : fieldAddr PP 67 x 1 = shiftPtr x 1 := Eq.trans (by kernel_rfl) rfl
theorem fa67_2 (x : DV) : fieldAddr PP 67 x 2 = shiftPtr x 2 := Eq.trans (by kernel_rfl) rfl
theorem load67 (x : DV) (σ : Store) : load PP 67 x σ = (loadN σ 3 x).map .agg := Eq.trans (by kernel_rfl) rfl
theorem len23 (f : Fm) (σ : Store) : len PP 23 (.p (eFm f)) σ = some (N (L f).length) := by cases f <;> simp [len, u23, eFm, N]
theorem idx23 {f : Fm} {i : Nat} (h : i < (L f).length) : indexAddr PP 23 (.p (eFm f)) (.p (.int .i64 (i : Nat))) = some (.pptr (eNds (L f)) (i * 3)) := by
  cases f with
  | none => simp at h
  | some l =>
    have h2 : (0 : Int) ≤ (i : Int) ∧ (i : Int) < (l.length : Nat) := by simp at h; omega
    simp [indexAddr, u23, s67, eFm, h2]
def ndD (x : Nd) : List DV := [.p (pI x.k), .p (pI x.n), .p (eSl x.a)]
section
variable {F : List Nd} {i : Nat} (h : i < F.length) (σ : Store)
include h
theorem nd_k : load1 (.pptr (eNds F) (i * 3)) σ = some (.p (.int .i64 (F.getD i default).k)) := load1_pptr (nds_get F i h).1 σ
theorem nd_n : load1 (.pptr (eNds F) (i * 3 + 1)) σ = some (.p (.int .i64 (F.getD i default).n)) := load1_pptr (nds_get F i h).2.1 σ
theorem nd_a : load1 (.pptr (eNds F) (i * 3 + 2)) σ = some (.p (eSl (F.getD i default).a)) := load1_pptr (nds_get F i h).2.2 σ
theorem nd_all : (loadN σ 3 (.pptr (eNds F) (i * 3))).map DV.agg = some (.agg (ndD (F.getD i default))) := by
  have hle : i * 3 + 3 ≤ (eNds F).length := by rw [nds_length]; omega
  obtain ⟨h1, h2, h3⟩ := nds_get F i h
  have hd : ((eNds F).drop (i * 3)).take 3 = [pI (F.getD i default).k, pI (F.getD i default).n, eSl (F.getD i default).a] := by
    apply List.ext_getElem?
    intro j
    match j with
    | 0 => simpa using h1
    | 1 => simpa using h2
    | 2 => simpa using h3
    | j + 3 => simp; omega
  simp only [loadN, if_pos hle, hd]
  rfl
end
theorem st67 {σ : Store} {lo : Nat} {z : List DV} (x : Nd) (hz : z.length = 3) (hlo : lo ≤ σ.length) : store PP lo 67 (.ptr σ.length 0) (.agg (ndD x)) (σ ++ [.mix z]) = some (σ ++ [.mix (ndD x)]) := by
  have e : splice z 0 (ndD x) = ndD x := by simp [splice, hz, ndD]
  have e2 : (ndD x).all DV.one = true := rfl
  have e3 : (ndD x).length = 3 := rfl
  simp [store, s67, DV.cells, storeN, hz, e, e2, e3, hlo]
section
variable {σ : Store} {r : Nat} {x : Nd} (h : σ[r]? = some (.mix (ndD x)))
include h
theorem row_k : load1 (.ptr r 0) σ = some (.p (.int .i64 x.k)) := load1_ptr h rfl
theorem row_n : load1 (.ptr r 1) σ = some (.p (.int .i64 x.n)) := load1_ptr h rfl
theorem row_a : load1 (.ptr r 2) σ = some (.p (eSl x.a)) := load1_ptr h rfl
theorem row_nd : (loadN σ 3 (.ptr r 0)).map DV.agg = some (.agg (ndD x)) := by rw [loadN_ptr (vs := ndD x) h rfl (by simp [ndD])]; rfl
end
theorem subI {r : Nat} (h : r ≤ 1000000) : binOp PP .sub 3 (.p (.int .i64 (r : Nat))) (.p (.int .i64 1)) = some (.p (.int .i64 ((r : Int) - 1))) := by
  rw [b_sub, wrap_ok] <;> omega
theorem subJ {r : Int} (h : -1000000 ≤ r) (h2 : r ≤ 1000000) : binOp PP .sub 3 (.p (.int .i64 r)) (.p (.int .i64 1)) = some (.p (.int .i64 (r - 1))) := by
  rw [b_sub, wrap_ok] <;> omega
def FSm (f : Fm) : Prop := (L f).length ≤ 1000 ∧ ∀ i, (nA (L f) i).length ≤ 1000
theorem S13 (f : Fm) (σ : Store) : ∃ b, pureV CC 13 [.p (eFm f)] σ = some (.p (.bool b)) ∧ (b = true → FSm f) := by
  have hL : ∀ (d i : Nat), (L f).length ≤ 45 → (L f).length - i = d → i ≤ (L f).length → ∃ b, f13_L0 guardT 0 (.p (eFm f)) (N i) [] = some (.p (.bool b), []) ∧ (b = true → ∀ j, i ≤ j → j < (L f).length → (nA (L f) j).length ≤ 45) := by
    intro d
    induction d with
    | zero =>
      intro i h45 hd hi
      refine ⟨true, ?_, fun _ j h1 h2 => by omega⟩
      rw [f13_L0_eq guardT rfl]
      simp (disch := omega) only [N, len23, gG, b_lss, ltF]
    | succ d ih =>
      intro i h45 hd hi
      have hlt : i < (L f).length := by omega
      have e1 : (.p (.int .i64 (i : Nat)) : DV) = N i := rfl
      by_cases hc : ((nA (L f) i).length : Int) > 45
      · refine ⟨false, ?_, fun h => absurd h (by simp)⟩
        rw [f13_L0_eq guardT rfl]
        have hc' : ((L ((L f).getD i default).a).length : Int) > 45 := hc
        simp (disch := omega) only [N, len23, gG, b_lss, ltT, idx23 hlt, fa67_2, shift_ptr, shift_pptr, Nat.zero_add, Nat.add_zero, pureFn_fn, List.append_nil, List.singleton_append, List.cons_append, List.nil_append, load24, nd_a hlt, (PL.sl _).len, b_gtr, gtT hc']
      · obtain ⟨b, b1, b2⟩ := ih (i + 1) h45 (by omega) (by omega)
        refine ⟨b, ?_, fun hb j h1 h2 => ?_⟩
        · rw [f13_L0_eq guardT rfl]
          have hc' : ¬ ((L ((L f).getD i default).a).length : Int) > 45 := hc
          simp only [N] at b1
          simp (disch := omega) only [N, len23, gG, b_lss, ltT, idx23 hlt, fa67_2, shift_ptr, shift_pptr, Nat.zero_add, Nat.add_zero, pureFn_fn, List.append_nil, List.singleton_append, List.cons_append, List.nil_append, load24, nd_a hlt, (PL.sl _).len, b_gtr, gtF hc', add1, b1]
        · by_cases e : j = i
          · subst e; omega
          · exact b2 hb j (by omega) h2
  by_cases h45 : ((L f).length : Int) > 45
  · refine ⟨false, pureV_free (by simp [fm_view]) rfl (F13_call (r := (.p (.bool false), [])) ?_) rfl, fun h => absurd h (by simp)⟩
    rw [F13_eq]
    simp only [len23, N, gG, b_gtr, gtT h45]
  · obtain ⟨b, b1, b2⟩ := hL _ 0 (by omega) rfl (Nat.zero_le _)
    refine ⟨b, pureV_free (by simp [fm_view]) rfl (F13_call (r := (.p (.bool b), [])) ?_) rfl, fun hb => ⟨by omega, fun i => ?_⟩⟩
    · rw [F13_eq]
      simp only [len23, N, gG, b_gtr, gtF h45]
      exact b1
    · by_cases hi : i < (L f).length
      · have := b2 hb i (Nat.zero_le _) hi; omega
      · have : nA (L f) i = [] := by
          unfold nA
          rw [List.getD_eq_getElem?_getD, List.getElem?_eq_none (by omega)]; rfl
        rw [this]; simp
theorem S103 (k : Int) (σ : Store) : pureV CC 103 [.p (.int .i64 k)] σ = some (.p (.int .i64 (ar k))) := by
  refine pureV_free rfl rfl (F103_call (r := (.p (.int .i64 (ar k)), [])) ?_) rfl
  rw [F103_eq]
  unfold ar
  by_cases h0 : k = 0
  · simp only [b_eql, eqT h0, gG, f103_J0_eq, if_pos (show k = 0 ∨ k = 1 from .inl h0)]
  · by_cases h1 : k = 1
    · simp only [b_eql, eqF h0, eqT h1, gG, f103_J0_eq, if_pos (show k = 0 ∨ k = 1 from .inr h1)]
    · rw [if_neg (show ¬ (k = 0 ∨ k = 1) by omega)]
      by_cases h2 : k = 2
      · simp only [b_eql, eqF h0, eqF h1, eqT h2, gG, f103_J0_eq, f103_J1_eq, if_pos (show k = 2 ∨ k = 6 ∨ k = 7 from .inl h2)]
      · by_cases h3 : k = 6
        · simp only [b_eql, eqF h0, eqF h1, eqF h2, eqT h3, gG, f103_J0_eq, f103_J1_eq, if_pos (show k = 2 ∨ k = 6 ∨ k = 7 from .inr (.inl h3))]
        · by_cases h4 : k = 7
          · simp only [b_eql, eqF h0, eqF h1, eqF h2, eqF h3, eqT h4, gG, f103_J0_eq, f103_J1_eq, if_pos (show k = 2 ∨ k = 6 ∨ k = 7 from .inr (.inr h4))]
          · simp only [b_eql, eqF h0, eqF h1, eqF h2, eqF h3, eqF h4, gG, f103_J0_eq, f103_J1_eq, if_neg (show ¬ (k = 2 ∨ k = 6 ∨ k = 7) by omega)]
theorem S99 (k : Int) (σ : Store) : pureV CC 99 [.p (.int .i64 k)] σ = some (.p (.int .i64 (ar k))) := by
  refine pureV_free rfl rfl (F99_call (r := (.p (.int .i64 (ar k)), [])) ?_) rfl
  rw [F99_eq]
  unfold ar
  by_cases h0 : k = 0
  · simp only [b_eql, eqT h0, gG, f99_J0_eq, if_pos (show k = 0 ∨ k = 1 from .inl h0)]
  · by_cases h1 : k = 1
    · simp only [b_eql, eqF h0, eqT h1, gG, f99_J0_eq, if_pos (show k = 0 ∨ k = 1 from .inr h1)]
    · rw [if_neg (show ¬ (k = 0 ∨ k = 1) by omega)]
      by_cases h2 : k = 2
      · simp only [b_eql, eqF h0, eqF h1, eqT h2, gG, f99_J0_eq, f99_J1_eq, if_pos (show k = 2 ∨ k = 6 ∨ k = 7 from .inl h2)]
      · by_cases h3 : k = 6
        · simp only [b_eql, eqF h0, eqF h1, eqF h2, eqT h3, gG, f99_J0_eq, f99_J1_eq, if_pos (show k = 2 ∨ k = 6 ∨ k = 7 from .inr (.inl h3))]
        · by_cases h4 : k = 7
          · simp only [b_eql, eqF h0, eqF h1, eqF h2, eqF h3, eqT h4, gG, f99_J0_eq, f99_J1_eq, if_pos (show k = 2 ∨ k = 6 ∨ k = 7 from .inr (.inr h4))]
          · simp only [b_eql, eqF h0, eqF h1, eqF h2, eqF h3, eqF h4, gG, f99_J0_eq, f99_J1_eq, if_neg (show ¬ (k = 2 ∨ k = 6 ∨ k = 7) by omega)]
section
variable {f : Fm} (hf : FSm f)
include hf
theorem L105 : ∀ (d r : Nat), r < d → r < (L f).length → f105_L0 guardT 0 (.p (eFm f)) (N r) [] = some (.p (.int .i64 (fo (L f) r)), [])
  | 0, r, h, _ => by omega
  | d + 1, r, hd, hr => by
    have h1 := hf.1
    have ha : L ((L f).getD r default).a = nA (L f) r := rfl
    have ga := nd_a hr
    rw [fo_eq, f105_L0_eq guardT rfl]
    by_cases h0 : nA (L f) r = []
    · rw [if_pos h0]
      have hz : ¬ (((nA (L f) r).length : Nat) : Int) > 0 := by rw [h0]; decide
      simp only [N, idx23 hr, gG, fa67_2, shift_ptr, shift_pptr, Nat.zero_add, Nat.add_zero, pureFn_fn, List.append_nil, List.singleton_append, List.cons_append, List.nil_append, load24, ga, (PL.sl _).len, ha, b_gtr, gtF hz]
    · have hp := List.length_pos_iff.2 h0
      have hz : (((nA (L f) r).length : Nat) : Int) > 0 := by omega
      rw [if_neg h0]
      have i1 := (PL.sl ((L f).getD r default).a).idx (i := 0) (by rw [ha]; exact hp)
      have l1 := load1_getD (l := nA (L f) r) hp []
      have z0 : (.p (.int .i64 ((0 : Nat) : Int)) : DV) = .p (.int .i64 0) := rfl
      rw [z0, ha] at i1
      have hin : inR ((nA (L f) r).getD 0 0) 0 ((r : Int) - 1) = decide (0 ≤ (nA (L f) r).getD 0 0 ∧ (nA (L f) r).getD 0 0 ≤ (r : Int) - 1) := by
        rw [Bool.eq_iff_iff, inR_iff, decide_eq_true_iff]
      by_cases h2 : 0 ≤ (nA (L f) r).getD 0 0 ∧ (nA (L f) r).getD 0 0 ≤ (r : Int) - 1
      · rw [if_pos h2]
        have ih := L105 d ((nA (L f) r).getD 0 0).toNat (by omega) (by omega)
        have e : N ((nA (L f) r).getD 0 0).toNat = .p (.int .i64 ((nA (L f) r).getD 0 0)) := by unfold N; rw [Int.toNat_of_nonneg h2.1]
        rw [e] at ih
        simp (disch := omega) only [N, idx23 hr, gG, fa67_2, shift_ptr, shift_pptr, Nat.zero_add, Nat.add_zero, pureFn_fn, List.append_nil, List.singleton_append, List.cons_append, List.nil_append, load24, ga, (PL.sl _).len, ha, b_gtr, gtT hz, i1, load3, l1, subI, S26, hin, decide_eq_true h2, ih]
      · rw [if_neg h2]
        simp (disch := omega) only [N, idx23 hr, gG, fa67_2, shift_ptr, shift_pptr, Nat.zero_add, Nat.add_zero, pureFn_fn, List.append_nil, List.singleton_append, List.cons_append, List.nil_append, load24, ga, (PL.sl _).len, ha, b_gtr, gtT hz, i1, load3, l1, subI, S26, hin, decide_eq_false h2]
theorem S105 {r : Int} (hr : r < (L f).length) (σ : Store) : pureV CC 105 [.p (eFm f), .p (.int .i64 r)] σ = some (.p (.int .i64 (foI (L f) r))) := by
  refine pureV_free (by simp [view, viewCell, loosen, loosen_fm]) rfl (F105_call (r := (.p (.int .i64 (foI (L f) r)), [])) ?_) rfl
  rw [F105_eq]
  unfold foI
  by_cases h0 : r < 0
  · rw [if_pos h0]
    simp only [b_lss, ltT h0, gG]
  · rw [if_neg h0]
    have := L105 hf _ r.toNat (Nat.lt_succ_self _) (by omega)
    have e : N r.toNat = .p (.int .i64 r) := by unfold N; rw [Int.toNat_of_nonneg (by omega)]
    rw [e] at this
    simp only [b_lss, ltF h0, gG, this]
theorem L104 {i : Nat} (hi : i < (L f).length) : ∀ (k : Nat) (x : Int), x ≤ i → -1 ≤ x → k ≤ (nA (L f) i).length → f104_L0 guardT 0 (.p (eFm f)) (N i) (.p (.int .i64 x)) (.p (.int .i64 ((k : Int) - 1))) [] = some (.p (.bool (stB (L f) (nA (L f) i) x k).isSome), [])
  | 0, x, hx, hx0, hk => by
    have h1 : ¬ (((0 : Nat) : Int) - 1 ≥ 0) := by omega
    rw [f104_L0_eq guardT rfl]
    simp only [b_geq, geF h1, gG, stB, Option.isSome_some]
  | k + 1, x, hx, hx0, hk => by
    have e : (((k + 1 : Nat) : Int) - 1) = (k : Nat) := by omega
    have h1 : ((k : Nat) : Int) ≥ 0 := by omega
    have h2 := hf.1
    have h3 := hf.2 i
    have ha : L ((L f).getD i default).a = nA (L f) i := rfl
    have i1 := (PL.sl ((L f).getD i default).a).idx (i := k) (by rw [ha]; omega)
    have l1 := load1_getD (l := nA (L f) i) (i := k) (by omega) []
    rw [ha] at i1
    have hS := S105 hf (r := x - 1) (by omega)
    have hfo : foI (L f) (x - 1) ≤ i ∧ -1 ≤ foI (L f) (x - 1) := by
      unfold foI
      split
      · omega
      · have := fo_le (L f) (x - 1).toNat; omega
    rw [e, f104_L0_eq guardT rfl]
    unfold stB
    by_cases c1 : (nA (L f) i).getD k 0 = x - 1
    · rw [if_pos c1]
      by_cases c2 : foI (L f) (x - 1) < 0
      · rw [if_pos c2]
        simp (disch := omega) only [N, b_geq, geT h1, gG, idx23 hi, fa67_2, shift_ptr, shift_pptr, Nat.zero_add, Nat.add_zero, pureFn_fn, List.append_nil, List.singleton_append, List.cons_append, List.nil_append, load24, nd_a hi, i1, load3, l1, subJ, b_neq, eqT c1, hS, b_lss, ltT c2, Option.isSome_none]
      · rw [if_neg c2]
        have ih := L104 hi k (foI (L f) (x - 1)) hfo.1 hfo.2 (by omega)
        simp only [N] at ih
        simp (disch := omega) only [N, b_geq, geT h1, gG, idx23 hi, fa67_2, shift_ptr, shift_pptr, Nat.zero_add, Nat.add_zero, pureFn_fn, List.append_nil, List.singleton_append, List.cons_append, List.nil_append, load24, nd_a hi, i1, load3, l1, subJ, b_neq, eqT c1, hS, b_lss, ltF c2, subI, ih]
    · rw [if_neg c1]
      simp (disch := omega) only [N, b_geq, geT h1, gG, idx23 hi, fa67_2, shift_ptr, shift_pptr, Nat.zero_add, Nat.add_zero, pureFn_fn, List.append_nil, List.singleton_append, List.cons_append, List.nil_append, load24, nd_a hi, i1, load3, l1, subJ, b_neq, eqF c1, Option.isSome_none]
theorem S104 {i : Nat} (hi : i < (L f).length) (σ : Store) : pureV CC 104 [.p (eFm f), .p (.int .i64 (i : Nat))] σ = some (.p (.bool (stands (L f) i))) := by
  have h2 := hf.1
  have h3 := hf.2 i
  have ha : L ((L f).getD i default).a = nA (L f) i := rfl
  have hL := L104 hf hi (nA (L f) i).length i (Int.le_refl _) (by omega) (Nat.le_refl _)
  refine pureV_free (by simp [view, viewCell, loosen, loosen_fm]) rfl (F104_call (r := (.p (.bool (stands (L f) i)), [])) ?_) rfl
  rw [F104_eq]
  simp only [N] at hL
  simp (disch := omega) only [idx23 hi, gG, fa67_2, shift_ptr, shift_pptr, Nat.zero_add, Nat.add_zero, pureFn_fn, List.append_nil, List.singleton_append, List.cons_append, List.nil_append, load24, nd_a hi, (PL.sl _).len, ha, subI, hL]
  rfl
end
end Go.D
end
/- Chapter 13: formulas as arguments. -/
section
set_option linter.unusedVariables false
set_option linter.unusedSimpArgs false
set_option maxRecDepth 100000
namespace Go.D
open Go.ChangeShapes Go.WideShapes Go.ChangeAt Go.RowKit
theorem dec67 {a : List PV} (h : Plain PP 67 a) : ∃ x : Nd, a = [pI x.k, pI x.n, eSl x.a] := by
  have h1 := h.inv_struct Go.Proofs.Tryz.underlying67
  obtain ⟨a1, b1, h2, h3, rfl⟩ := PlainL.inv_cons h1
  obtain ⟨a2, b2, h4, h5, rfl⟩ := PlainL.inv_cons h3
  obtain ⟨a3, b3, h6, h7, rfl⟩ := PlainL.inv_cons h5
  obtain ⟨x, rfl⟩ := dec3 h2
  obtain ⟨y, rfl⟩ := dec3 h4
  obtain ⟨z, rfl⟩ := dec24 h6
  obtain rfl := PlainL.inv_nil h7
  exact ⟨⟨x, y, z⟩, rfl⟩
theorem flat67 (l : List Nd) : l.flatMap (fun x => [pI x.k, pI x.n, eSl x.a]) = eNds l := by
  induction l with
  | nil => rfl
  | cons a l ih => simp [ih, eNds]
theorem dec23 {a : List PV} (h : Plain PP 23 a) : ∃ f, a = [eFm f] := by
  rcases h.inv_slice u23 with rfl | ⟨n, xs, hx, rfl⟩
  · exact ⟨none, rfl⟩
  · obtain ⟨l, rfl, rfl⟩ := hx.inv_rep (f := fun x : Nd => [pI x.k, pI x.n, eSl x.a]) fun a ha => dec67 ha
    exact ⟨some l, by rw [flat67]; rfl⟩
section
variable {H : Type} {enc : TypeId × Value → H} {W : World} {hd : Bool} {r : Reach} {b0 : Nat} {v : Value} {d : DataW H} {ps : List MemPlace}
theorem read_fm (hok : Value.okWide PP W r b0 23 v) (h : DataW.Trod enc PP W 0 (fun _ => true) hd 23 v d ps) : ∃ f, VRel (fun _ _ => none) (memOf W) (.p (eFm f)) v := by
  obtain ⟨c, h1, h2⟩ := read_slice 8 u23 (by kernel_rfl) hok h
  obtain ⟨f, hf⟩ := dec23 h1
  injection hf with hf
  exact ⟨f, by rw [← hf]; exact h2⟩
end
end Go.D
end
/- Chapter 13: strings as arguments. -/
section
set_option linter.unusedVariables false
set_option linter.unusedSimpArgs false
set_option maxRecDepth 100000
namespace Go.D
open Go.ChangeShapes Go.WideShapes Go.ChangeAt Go.RowKit
section
variable {H : Type} {enc : TypeId × Value → H} {W : World} {hd : Bool} {r : Reach} {b0 : Nat} {v : Value} {d : DataW H} {ps : List MemPlace}
theorem u9F : PP.underlying 9 = some .string := Eq.trans (by kernel_rfl) rfl
theorem read_str (hok : Value.okWide PP W r b0 9 v) (h : DataW.Trod enc PP W 0 (fun _ => true) hd 9 v d ps) : ∃ s : ByteArray, VRel (fun _ _ => none) (memOf W) (.p (.str s)) v := by
  obtain ⟨s, _, h2⟩ := read_strA u9F hok h
  exact ⟨s, h2⟩
end
end Go.D
end
/- Truths on a ring of places: until by two walks back, and by looking on. Plain Lean. -/
section
set_option linter.unusedVariables false
set_option linter.unusedSimpArgs false
namespace Go.D.Las
def tab {α : Type} (n : Nat) (g : Nat → α) : List α := (List.range n).map g
def pv (n back : Nat) (a o : Nat → Bool) : Nat → Bool
  | 0 => o (n - 1) || (a (n - 1) && o back)
  | d + 1 => o (n - 1 - (d + 1)) || (a (n - 1 - (d + 1)) && pv n back a o d)
def pl (n back t : Nat) : Nat := if t < back then t else back + (t - back) % (n - back)
def soP (n back : Nat) (f : Nat → Bool) (i : Nat) : Bool := pv n back (fun _ => true) (fun j => pv n back (fun _ => true) f (n - 1 - j)) (n - 1 - i)
def unP (n back : Nat) (a b : Nat → Bool) (i : Nat) : Bool := pv n back a (fun j => pv n back a b (n - 1 - j)) (n - 1 - i)
end Go.D.Las
end
/- Chapter 13: what a formula says at the places of a word, in plain Lean. -/
section
set_option linter.unusedVariables false
set_option linter.unusedSimpArgs false
namespace Go.D
namespace Las
structure Good (F : List Nd) (i : Nat) : Prop where
  k : inR (F.getD i default).k 0 9 = true
  a : (((nA F i).length : Nat) : Int) = ar (F.getD i default).k
  s : stands F i = true
  b : bad (F.getD i default) = false
theorem chkF_ok {F : List Nd} : ∀ (d i : Nat), (chkF F d i).2 = 0 → (∀ j, i ≤ j → j < i + d → Good F j) ∧ fo F (F.length - 1) = 0
  | 0, i, h => by
    unfold chkF at h
    by_cases c : fo F (F.length - 1) = 0
    · exact ⟨fun j h1 h2 => by omega, c⟩
    · rw [if_neg c] at h
      exact absurd h (by simp)
  | d + 1, i, h => by
    unfold chkF at h
    by_cases c1 : inR (F.getD i default).k 0 9 = true
    · rw [if_pos c1] at h
      by_cases c2 : (((nA F i).length : Nat) : Int) = ar (F.getD i default).k ∧ stands F i = true
      · rw [if_pos c2] at h
        by_cases c3 : bad (F.getD i default) = true
        · rw [if_pos c3] at h
          exact absurd h (by simp)
        · rw [if_neg c3] at h
          obtain ⟨h1, h2⟩ := chkF_ok d (i + 1) h
          refine ⟨fun j j1 j2 => ?_, h2⟩
          by_cases e : j = i
          · subst e; exact ⟨c1, c2.1, c2.2, (Bool.not_eq_true _).mp c3⟩
          · exact h1 j (by omega) (by omega)
      · rw [if_neg c2] at h
        exact absurd h (by simp)
    · rw [if_neg c1] at h
      exact absurd h (by simp)
structure Ok (F : List Nd) : Prop where
  pos : 0 < F.length
  le : F.length ≤ 40
  good : ∀ j, j < F.length → Good F j
  fst : fo F (F.length - 1) = 0
theorem chk_ok {F : List Nd} (h : (chk F).2 = 0) : Ok F := by
  unfold chk at h
  by_cases c1 : F.length = 0
  · rw [if_pos c1] at h; exact absurd h (by decide)
  · rw [if_neg c1] at h
    by_cases c2 : F.length > 40
    · rw [if_pos c2] at h; exact absurd h (by decide)
    · rw [if_neg c2] at h
      obtain ⟨h1, h2⟩ := chkF_ok _ _ h
      exact ⟨by omega, by omega, fun j hj => h1 j (Nat.zero_le _) (by omega), h2⟩
theorem Good.args {F : List Nd} {i : Nat} (h : Good F i) (hne : nA F i ≠ []) : 1 ≤ i ∧ 0 ≤ (nA F i).getD 0 0 ∧ (nA F i).getD 0 0 < i ∧ (nA F i).getD ((nA F i).length - 1) 0 = (i : Int) - 1 := by
  obtain ⟨y, hy⟩ := Option.isSome_iff_exists.1 h.s
  obtain ⟨m, hm⟩ : ∃ m, (nA F i).length = m + 1 := ⟨(nA F i).length - 1, by have := List.length_pos_iff.2 hne; omega⟩
  rw [hm] at hy
  obtain ⟨a, b, _, _⟩ := stB_end m _ _ hy
  have hl : (nA F i).getD m 0 = (i : Int) - 1 := by
    unfold stB at hy
    by_cases c : (nA F i).getD m 0 = (i : Int) - 1
    · exact c
    · rw [if_neg c] at hy; exact absurd hy (by simp)
  rw [hm, Nat.add_sub_cancel]
  exact ⟨by omega, b, by omega, hl⟩
def bit (x m : Int) : Bool := decide (x.toNat / 2 ^ m.toNat % 2 = 1)
def tk (n back : Nat) (W : List Int) (k m : Int) (a b : Nat → Bool) : Nat → Bool :=
  if k = 0 then fun _ => true
  else if k = 1 then fun i => bit (W.getD i 0) m
  else if k = 2 then fun i => !a i
  else if k = 3 then fun i => a i && b i
  else if k = 4 then fun i => a i || b i
  else if k = 5 then fun i => !a i || b i
  else if k = 6 then fun i => !soP n back (fun j => !a j) i
  else if k = 7 then soP n back a
  else if k = 8 then fun i => !soP n back (fun j => !(!a j || soP n back b j)) i
  else unP n back a b
abbrev NB := Nat → Bool
def tvK (g : Int → Int → NB → NB → NB) (F : List Nd) : Nat → Nat → NB
  | 0, _ => fun _ => false
  | k + 1, r => g (F.getD r default).k (F.getD r default).n
      (if 0 ≤ (nA F r).getD 0 0 ∧ (nA F r).getD 0 0 < r then tvK g F k ((nA F r).getD 0 0).toNat else fun _ => false)
      (if 0 ≤ (nA F r).getD ((nA F r).length - 1) 0 ∧ (nA F r).getD ((nA F r).length - 1) 0 < r then tvK g F k ((nA F r).getD ((nA F r).length - 1) 0).toNat else fun _ => false)
def tv (g : Int → Int → NB → NB → NB) (F : List Nd) (r : Nat) : NB := tvK g F (r + 1) r
end Las
end Go.D
end
/- Chapter 13: parts of formulas: spans, parents; guarded atoms. Plain Lean. -/
section
set_option linter.unusedVariables false
set_option linter.unusedSimpArgs false
namespace Go.D
namespace Las
variable {F : List Nd}
def inS (F : List Nd) (r i : Nat) : Prop := fo F r ≤ i ∧ i ≤ r
def chd (F : List Nd) (r c : Nat) : Prop := ∃ k, k < (nA F r).length ∧ (nA F r).getD k 0 = c
theorem stB_tile {us : List Int} : ∀ (k : Nat) (x y : Int), stB F us x k = some y → ∀ i : Int, y ≤ i → i < x → ∃ j, j < k ∧ 0 ≤ us.getD j 0 ∧ us.getD j 0 < x ∧ fo F (us.getD j 0).toNat ≤ i ∧ i ≤ us.getD j 0
  | 0, x, y, h, i, h1, h2 => by
    injection h with h
    omega
  | k + 1, x, y, h, i, h1, h2 => by
    unfold stB at h
    by_cases c1 : us.getD k 0 = x - 1
    · rw [if_pos c1] at h
      by_cases c2 : foI F (x - 1) < 0
      · rw [if_pos c2] at h; exact absurd h (by simp)
      · rw [if_neg c2] at h
        have h3 : ¬ x - 1 < 0 := fun hh => c2 (by unfold foI; rw [if_pos hh]; decide)
        have h4 : foI F (x - 1) = fo F (x - 1).toNat := by unfold foI; rw [if_neg h3]
        have h5 := fo_le F (x - 1).toNat
        by_cases c3 : foI F (x - 1) ≤ i
        · exact ⟨k, Nat.lt_succ_self _, by omega, by omega, by rw [c1, ← h4]; exact c3, by omega⟩
        · obtain ⟨j, j1, j2, j3, j4⟩ := stB_tile k _ y h i h1 (by omega)
          exact ⟨j, by omega, j2, by omega, j4⟩
    · rw [if_neg c1] at h; exact absurd h (by simp)
theorem stB_in {us : List Int} : ∀ (k : Nat) (x y : Int), stB F us x k = some y → ∀ j, j < k → 0 ≤ us.getD j 0 ∧ us.getD j 0 < x ∧ y ≤ fo F (us.getD j 0).toNat ∧ 0 ≤ fo F (us.getD j 0).toNat
  | 0, x, y, h, j, hj => by omega
  | k + 1, x, y, h, j, hj => by
    have hend := stB_end k x y h
    unfold stB at h
    by_cases c1 : us.getD k 0 = x - 1
    · rw [if_pos c1] at h
      by_cases c2 : foI F (x - 1) < 0
      · rw [if_pos c2] at h; exact absurd h (by simp)
      · rw [if_neg c2] at h
        have h3 : ¬ x - 1 < 0 := fun hh => c2 (by unfold foI; rw [if_pos hh]; decide)
        have h4 : foI F (x - 1) = fo F (x - 1).toNat := by unfold foI; rw [if_neg h3]
        have h5 := fo_le F (x - 1).toNat
        have hle : y ≤ foI F (x - 1) := by
          cases k with
          | zero => injection h with h; omega
          | succ k =>
            obtain ⟨a, b, c, d⟩ := stB_end k _ _ h
            have := fo_le F (us.getD 0 0).toNat
            omega
        by_cases e : j = k
        · subst e
          rw [c1, ← h4]
          exact ⟨by omega, by omega, hle, by omega⟩
        · obtain ⟨a, b, c⟩ := stB_in k _ y h j (by omega)
          exact ⟨a, by omega, c⟩
    · rw [if_neg c1] at h; exact absurd h (by simp)
theorem Good.st {r : Nat} (h : Good F r) : stB F (nA F r) r (nA F r).length = some (fo F r) := by
  obtain ⟨y, hy⟩ := Option.isSome_iff_exists.1 h.s
  rw [hy, stands_fo hy]
theorem Good.op {r c : Nat} (h : Good F r) (hc : chd F r c) : c < r ∧ fo F r ≤ fo F c ∧ 0 ≤ fo F c := by
  obtain ⟨k, k1, k2⟩ := hc
  obtain ⟨a, b, d⟩ := stB_in _ _ _ h.st k k1
  rw [k2, Int.toNat_natCast] at d
  exact ⟨by omega, d⟩
theorem Good.part {r i : Nat} (h : Good F r) (hi : inS F r i) (hne : i ≠ r) : ∃ c, chd F r c ∧ inS F c i := by
  have h1 := hi.1
  have h2 := hi.2
  obtain ⟨j, j1, j2, j3, j4, j5⟩ := stB_tile _ _ _ h.st i h1 (by omega)
  exact ⟨((nA F r).getD j 0).toNat, ⟨j, j1, by omega⟩, j4, by omega⟩
variable (hk : Ok F)
include hk
theorem fo_pos {r : Nat} (hr : r < F.length) : 0 ≤ fo F r := by
  have h := (hk.good r hr).st
  exact stB_pos _ _ _ (by omega) h
end Las
end Go.D
end
/- Chapter 13: texts of formulas: writing and reading, in plain Lean. -/
section
set_option linter.unusedVariables false
set_option linter.unusedSimpArgs false
set_option maxRecDepth 8000
namespace Go.D
namespace Las
def sg (k : Int) : List Int := if k = 3 then [38] else if k = 4 then [124] else if k = 5 then [45, 62] else if k = 8 then [126, 62] else [85]
def itl (n : Int) : List Int := if n < 10 then [48 + n] else [49, 38 + n]
def tx (F : List Nd) : Nat → Nat → List Int
  | 0, _ => []
  | k + 1, i =>
    if (F.getD i default).k = 0 then [116, 114, 117, 101]
    else if (F.getD i default).k = 1 then 112 :: itl (F.getD i default).n
    else if (F.getD i default).k = 2 then 33 :: tx F k ((nA F i).getD 0 0).toNat
    else if (F.getD i default).k = 6 then 91 :: 93 :: tx F k ((nA F i).getD 0 0).toNat
    else if (F.getD i default).k = 7 then 60 :: 62 :: tx F k ((nA F i).getD 0 0).toNat
    else 40 :: (tx F k ((nA F i).getD 0 0).toNat ++ (32 :: (sg (F.getD i default).k ++ (32 :: (tx F k ((nA F i).getD 1 0).toNat ++ [41])))))
def tks : List Int → List Int → Bool × List Int
  | [], r => (true, r)
  | c :: t, [] => (false, [])
  | c :: t, x :: r => if x = c then tks t r else (false, x :: r)
def dig (c : Int) : Bool := decide (48 ≤ c) && decide (c ≤ 57)
def dgH (r : List Int) : Bool := match r with
  | [] => false
  | c :: _ => dig c
def atm : List Int → Option (Int × List Int)
  | [] => none
  | d :: r => if dig d = true then
      if d = 48 then some (0, r)
      else match r with
        | [] => some (d - 48, [])
        | e :: r' => if dig e = true then some ((d - 48) * 10 + (e - 48), r') else some (d - 48, e :: r')
    else none
def sgn (r : List Int) : Option Int := match r with
  | [] => none
  | c :: _ => if c = 38 then some 3 else if c = 124 then some 4 else if c = 45 then some 5 else if c = 126 then some 8 else if c = 85 then some 9 else none
inductive Prd
  | err (r : List Int)
  | ok (r : List Int) (fs : List Nd)
def one (k : Int) : Prd → Prd
  | .err e => .err e
  | .ok r fs => .ok r (fs ++ [⟨k, 0, some [((fs.length - 1 : Nat) : Int)]⟩])
def bnd (R : Prd) (f : List Int → List Nd → Prd) : Prd := match R with
  | .err e => .err e
  | .ok r fs => f r fs
def aft (t : List Int) (r : List Int) (f : List Int → Prd) : Prd := if (tks t r).1 = true then f (tks t r).2 else .err (tks t r).2
def prs (g : Bool) : Nat → List Int → List Nd → Prd
  | 0, r, _ => .err r
  | k + 1, [], _ => .err []
  | k + 1, c :: r, fs =>
    if c = 33 then one 2 (prs g k r fs)
    else if c = 91 then aft [93] r fun r' => one 6 (prs g k r' fs)
    else if c = 60 then aft [62] r fun r' => one 7 (prs g k r' fs)
    else if c = 116 then aft [114, 117, 101] r fun r' => .ok r' (fs ++ [⟨0, 0, none⟩])
    else if c = 112 then match atm r with
      | none => .err r
      | some (n, r') => if (g && dgH r') = true then .err r' else .ok r' (fs ++ [⟨1, n, none⟩])
    else if c = 40 then bnd (prs g k r fs) fun r1 f1 => aft [32] r1 fun r2 => match sgn r2 with
      | none => .err r2
      | some kd => aft (sg kd ++ [32]) r2 fun r3 => bnd (prs g k r3 f1) fun r4 f2 => aft [41] r4 fun r5 => .ok r5 (f2 ++ [⟨kd, 0, some [((f1.length - 1 : Nat) : Int), ((f2.length - 1 : Nat) : Int)]⟩])
    else .err (c :: r)
theorem tks_app : ∀ (t r : List Int), tks t (t ++ r) = (true, r)
  | [], r => rfl
  | c :: t, r => by
    show (if c = c then tks t (t ++ r) else _) = _
    rw [if_pos rfl, tks_app t r]
theorem aft_app (t r : List Int) (f : List Int → Prd) : aft t (t ++ r) f = f r := by
  unfold aft; rw [tks_app]; rfl
theorem tks_len : ∀ (t r : List Int), (tks t r).2.length ≤ r.length ∧ ((tks t r).1 = true → (tks t r).2.length + t.length = r.length)
  | [], r => ⟨Nat.le_refl _, fun _ => by show r.length + 0 = _; omega⟩
  | c :: t, [] => ⟨Nat.le_refl _, fun h => absurd h (by simp [tks])⟩
  | c :: t, x :: r => by
    have e : tks (c :: t) (x :: r) = if x = c then tks t r else (false, x :: r) := rfl
    rw [e]
    obtain ⟨h1, h2⟩ := tks_len t r
    by_cases c1 : x = c
    · rw [if_pos c1]
      exact ⟨by rw [List.length_cons]; omega, fun h => by have := h2 h; rw [List.length_cons, List.length_cons]; omega⟩
    · rw [if_neg c1]
      exact ⟨Nat.le_refl _, fun h => absurd h (by simp)⟩
def nmN (x : Nd) : Nd := ⟨x.k, x.n, if L x.a = [] then none else some (L x.a)⟩
variable {F : List Nd}
theorem Good.one {r : Nat} {c : Int} (h : Good F r) (ha : nA F r = [c]) : c = (r : Int) - 1 ∧ 0 < r ∧ fo F r = fo F (r - 1) := by
  have hs := h.st
  rw [ha] at hs
  have e : stB F [c] r 1 = if c = (r : Int) - 1 then (if foI F ((r : Int) - 1) < 0 then none else some (foI F ((r : Int) - 1))) else none := rfl
  rw [List.length_singleton, e] at hs
  by_cases c1 : c = (r : Int) - 1
  · rw [if_pos c1] at hs
    by_cases c2 : foI F ((r : Int) - 1) < 0
    · rw [if_pos c2] at hs; exact absurd hs (by simp)
    · rw [if_neg c2] at hs
      injection hs with hs
      have hr : ¬ (r : Int) - 1 < 0 := fun hh => c2 (by unfold foI; rw [if_pos hh]; decide)
      refine ⟨c1, by omega, ?_⟩
      unfold foI at hs
      rw [if_neg hr] at hs
      rw [← hs]
      congr 1
      omega
  · rw [if_neg c1] at hs; exact absurd hs (by simp)
theorem Good.two {r : Nat} {c d : Int} (h : Good F r) (ha : nA F r = [c, d]) : d = (r : Int) - 1 ∧ 0 < r ∧ c = fo F (r - 1) - 1 ∧ 0 ≤ c ∧ fo F r = fo F c.toNat := by
  have hs := h.st
  rw [ha] at hs
  have e : stB F [c, d] r 2 = if d = (r : Int) - 1 then (if foI F ((r : Int) - 1) < 0 then none else if c = foI F ((r : Int) - 1) - 1 then (if foI F (foI F ((r : Int) - 1) - 1) < 0 then none else some (foI F (foI F ((r : Int) - 1) - 1))) else none) else none := rfl
  have e2 : [c, d].length = 2 := rfl
  rw [e2, e] at hs
  by_cases c1 : d = (r : Int) - 1
  · rw [if_pos c1] at hs
    by_cases c2 : foI F ((r : Int) - 1) < 0
    · rw [if_pos c2] at hs; exact absurd hs (by simp)
    · rw [if_neg c2] at hs
      have hr : ¬ (r : Int) - 1 < 0 := fun hh => c2 (by unfold foI; rw [if_pos hh]; decide)
      have ef : foI F ((r : Int) - 1) = fo F (r - 1) := by
        unfold foI; rw [if_neg hr]; congr 1; omega
      rw [ef] at hs
      by_cases c3 : c = fo F (r - 1) - 1
      · rw [if_pos c3] at hs
        by_cases c4 : foI F (fo F (r - 1) - 1) < 0
        · rw [if_pos c4] at hs; exact absurd hs (by simp)
        · rw [if_neg c4] at hs
          injection hs with hs
          have hc : ¬ fo F (r - 1) - 1 < 0 := fun hh => c4 (by unfold foI; rw [if_pos hh]; decide)
          refine ⟨c1, by omega, c3, by omega, ?_⟩
          rw [← hs, c3]
          unfold foI
          rw [if_neg hc]
      · rw [if_neg c3] at hs; exact absurd hs (by simp)
  · rw [if_neg c1] at hs; exact absurd hs (by simp)
theorem atm_cons (d : Int) (r : List Int) : atm (d :: r) = if dig d = true then (if d = 48 then some (0, r) else match r with
    | [] => some (d - 48, [])
    | e :: r' => if dig e = true then some ((d - 48) * 10 + (e - 48), r') else some (d - 48, e :: r')) else none := rfl
theorem atm_itl {n : Int} (h0 : 0 ≤ n) (h1 : n ≤ 11) {r : List Int} (hr : dgH r = false) : atm (itl n ++ r) = some (n, r) := by
  have hh : ∀ d : Int, 48 ≤ d → d ≤ 57 → dig d = true := fun d a b => by simp [dig, a, b]
  by_cases c : n < 10
  · have e : itl n ++ r = (48 + n) :: r := by unfold itl; rw [if_pos c]; rfl
    rw [e, atm_cons, if_pos (hh _ (by omega) (by omega))]
    by_cases c0 : (48 + n : Int) = 48
    · rw [if_pos c0, show n = 0 by omega]
    · rw [if_neg c0]
      cases r with
      | nil => simp only; congr 2; omega
      | cons d r' =>
        have : dig d = false := hr
        simp only [this, Bool.false_eq_true, if_false]
        congr 2; omega
  · have e : itl n ++ r = 49 :: (38 + n) :: r := by unfold itl; rw [if_neg c]; rfl
    rw [e, atm_cons, if_pos (hh _ (by decide) (by decide)), if_neg (by decide)]
    simp only [hh (38 + n) (by omega) (by omega), if_true]
    congr 2; omega
theorem sgn_sg {k : Int} (h : k = 3 ∨ k = 4 ∨ k = 5 ∨ k = 8 ∨ k = 9) (r : List Int) : sgn (sg k ++ r) = some k := by
  rcases h with rfl | rfl | rfl | rfl | rfl <;> rfl
variable (hk : Ok F)
include hk
theorem prs_tx (g : Bool) : ∀ (k i : Nat) (r : List Int), i < k → i < F.length → dgH r = false → ∀ m, (tx F k i).length < m → prs g m (tx F k i ++ r) ((F.map nmN).take (fo F i).toNat) = .ok r ((F.map nmN).take (i + 1))
  | 0, i, r, h, hi, hr, m, hm => by omega
  | k + 1, i, r, h, hi, hr, m, hm => by
    have hg := hk.good i hi
    have hkr := (inR_iff _ _ _).1 hg.k
    have hfo := fo_pos hk hi
    have hfl := (fo_le F i).2
    obtain ⟨m, rfl⟩ : ∃ m', m = m' + 1 := ⟨m - 1, by omega⟩
    -- one more node
    have snoc : ∀ x : Nd, nmN (F.getD i default) = x → (F.map nmN).take i ++ [x] = (F.map nmN).take (i + 1) := fun x hx => by
      have hlt : i < (F.map nmN).length := by rw [List.length_map]; exact hi
      rw [List.take_succ_eq_append_getElem hlt, List.getElem_map]
      have : F[i] = F.getD i default := by rw [List.getD_eq_getElem?_getD, List.getElem?_eq_getElem hi]; rfl
      rw [this, hx]
    have tl : ∀ j, j ≤ F.length → ((F.map nmN).take j).length = j := fun j hj => by rw [List.length_take, List.length_map]; omega
    have hn := hg.a
    have hb := hg.b
    have nil_fo : nA F i = [] → fo F i = i := fun hh => by rw [fo_eq, if_pos hh]
    generalize hx : F.getD i default = x at *
    have hnA : nA F i = L x.a := by unfold nA; rw [hx]
    unfold tx at hm ⊢
    rw [hx] at hm ⊢
    by_cases k0 : x.k = 0
    · rw [if_pos k0] at hm ⊢
      have hl : (nA F i).length = 0 := by rw [k0] at hn; unfold ar at hn; rw [if_pos (.inl rfl)] at hn; omega
      have ha := List.length_eq_zero_iff.1 hl
      have hb0 : x.n = 0 := by
        unfold bad at hb
        rw [if_neg (by rw [k0]; decide)] at hb
        simpa using hb
      have e : prs g (m + 1) ([116, 114, 117, 101] ++ r) ((F.map nmN).take (fo F i).toNat) = aft [114, 117, 101] ([114, 117, 101] ++ r) fun r' => .ok r' ((F.map nmN).take (fo F i).toNat ++ [⟨0, 0, none⟩]) := rfl
      rw [e, aft_app, nil_fo ha, Int.toNat_natCast, snoc]
      unfold nmN
      rw [← hnA, ha, if_pos rfl, k0, hb0]
    rw [if_neg k0] at hm ⊢
    by_cases k1 : x.k = 1
    · rw [if_pos k1] at hm ⊢
      have hl : (nA F i).length = 0 := by rw [k1] at hn; unfold ar at hn; rw [if_pos (.inr rfl)] at hn; omega
      have ha := List.length_eq_zero_iff.1 hl
      have hb0 : 0 ≤ x.n ∧ x.n ≤ 11 := by
        unfold bad at hb
        rw [if_pos k1] at hb
        have : inR x.n 0 11 = true := by cases h : inR x.n 0 11 <;> simp_all
        exact (inR_iff _ _ _).1 this
      have e : prs g (m + 1) (112 :: itl x.n ++ r) ((F.map nmN).take (fo F i).toNat) = match atm (itl x.n ++ r) with
        | none => .err (itl x.n ++ r)
        | some (n, r') => if (g && dgH r') = true then .err r' else .ok r' ((F.map nmN).take (fo F i).toNat ++ [⟨1, n, none⟩]) := rfl
      rw [e, atm_itl hb0.1 hb0.2 hr]
      simp only [hr, Bool.and_false, Bool.false_eq_true, if_false]
      rw [nil_fo ha, Int.toNat_natCast, snoc]
      unfold nmN
      rw [← hnA, ha, if_pos rfl, k1]
    rw [if_neg k1] at hm ⊢
    have hb0 : x.n = 0 := by
      unfold bad at hb
      rw [if_neg k1] at hb
      simpa using hb
    have un : ∀ kk : Int, x.k = kk → (kk = 2 ∨ kk = 6 ∨ kk = 7) → (tx F k ((nA F i).getD 0 0).toNat).length < m → ∀ m', m = m' → one kk (prs g m (tx F k ((nA F i).getD 0 0).toNat ++ r) ((F.map nmN).take (fo F i).toNat)) = .ok r ((F.map nmN).take (i + 1)) := fun kk e1 e2 e3 m' _ => by
      have hl : (nA F i).length = 1 := by
        rw [e1] at hn; unfold ar at hn
        rw [if_neg (by omega), if_pos e2] at hn; omega
      obtain ⟨c, hc⟩ := List.length_eq_one_iff.1 hl
      obtain ⟨o1, o2, o3⟩ := hg.one hc
      have ec : ((nA F i).getD 0 0).toNat = i - 1 := by rw [hc]; show c.toNat = i - 1; omega
      rw [ec] at e3 ⊢
      rw [o3, prs_tx g k (i - 1) r (by omega) (by omega) hr m e3]
      have eo : ∀ fs : List Nd, one kk (.ok r fs) = .ok r (fs ++ [⟨kk, 0, some [((fs.length - 1 : Nat) : Int)]⟩]) := fun fs => rfl
      have e4 : i - 1 + 1 = i := by omega
      rw [eo, e4, tl i (by omega), snoc]
      unfold nmN
      rw [← hnA, hc, if_neg (by simp), e1, hb0]
      have : c = ((i - 1 : Nat) : Int) := by omega
      rw [this]
    by_cases k2 : x.k = 2
    · rw [if_pos k2] at hm ⊢
      exact un 2 k2 (.inl rfl) (by rw [List.length_cons] at hm; omega) m rfl
    rw [if_neg k2] at hm ⊢
    by_cases k6 : x.k = 6
    · rw [if_pos k6] at hm ⊢
      have e : prs g (m + 1) (91 :: 93 :: tx F k ((nA F i).getD 0 0).toNat ++ r) ((F.map nmN).take (fo F i).toNat) = aft [93] ([93] ++ (tx F k ((nA F i).getD 0 0).toNat ++ r)) fun r' => one 6 (prs g m r' ((F.map nmN).take (fo F i).toNat)) := rfl
      rw [e, aft_app]
      exact un 6 k6 (.inr (.inl rfl)) (by rw [List.length_cons, List.length_cons] at hm; omega) m rfl
    rw [if_neg k6] at hm ⊢
    by_cases k7 : x.k = 7
    · rw [if_pos k7] at hm ⊢
      have e : prs g (m + 1) (60 :: 62 :: tx F k ((nA F i).getD 0 0).toNat ++ r) ((F.map nmN).take (fo F i).toNat) = aft [62] ([62] ++ (tx F k ((nA F i).getD 0 0).toNat ++ r)) fun r' => one 7 (prs g m r' ((F.map nmN).take (fo F i).toNat)) := rfl
      rw [e, aft_app]
      exact un 7 k7 (.inr (.inr rfl)) (by rw [List.length_cons, List.length_cons] at hm; omega) m rfl
    rw [if_neg k7] at hm ⊢
    have hl : (nA F i).length = 2 := by
      unfold ar at hn
      rw [if_neg (by omega), if_neg (by omega)] at hn; omega
    obtain ⟨c, d, hcd⟩ : ∃ c d, nA F i = [c, d] := by
      match h : nA F i, hl with
      | [c, d], _ => exact ⟨c, d, rfl⟩
    obtain ⟨o1, o2, o3, o4, o5⟩ := hg.two hcd
    have ec : ((nA F i).getD 0 0).toNat = c.toNat := by rw [hcd]; rfl
    have ed : ((nA F i).getD 1 0).toNat = i - 1 := by rw [hcd]; show d.toNat = i - 1; omega
    have hfd := (fo_le F (i - 1)).2
    have hsk : x.k = 3 ∨ x.k = 4 ∨ x.k = 5 ∨ x.k = 8 ∨ x.k = 9 := by omega
    rw [ec, ed] at hm ⊢
    simp only [List.length_cons, List.length_append, List.length_nil] at hm
    have e0 : (40 :: (tx F k c.toNat ++ (32 :: (sg x.k ++ (32 :: (tx F k (i - 1) ++ [41]))))) ++ r) = 40 :: (tx F k c.toNat ++ (32 :: (sg x.k ++ (32 :: (tx F k (i - 1) ++ (41 :: r)))))) := by simp
    rw [e0]
    have e : ∀ R : List Int, prs g (m + 1) (40 :: R) ((F.map nmN).take (fo F i).toNat) = bnd (prs g m R ((F.map nmN).take (fo F i).toNat)) fun r1 f1 => aft [32] r1 fun r2 => match sgn r2 with
      | none => .err r2
      | some kd => aft (sg kd ++ [32]) r2 fun r3 => bnd (prs g m r3 f1) fun r4 f2 => aft [41] r4 fun r5 => .ok r5 (f2 ++ [⟨kd, 0, some [((f1.length - 1 : Nat) : Int), ((f2.length - 1 : Nat) : Int)]⟩]) := fun R => rfl
    have eb : ∀ (r : List Int) (fs : List Nd) f, bnd (.ok r fs) f = f r fs := fun r fs f => rfl
    rw [e, o5, prs_tx g k c.toNat _ (by omega) (by omega) rfl m (by omega), eb]
    have a1 : ∀ (R : List Int) f, aft [32] (32 :: R) f = f R := fun R f => aft_app [32] R f
    have a2 : ∀ (R : List Int) f, aft [41] (41 :: R) f = f R := fun R f => aft_app [41] R f
    rw [a1, sgn_sg hsk]
    simp only
    have e3 : sg x.k ++ (32 :: (tx F k (i - 1) ++ (41 :: r))) = (sg x.k ++ [32]) ++ (tx F k (i - 1) ++ (41 :: r)) := by simp
    rw [e3, aft_app]
    have e4 : c.toNat + 1 = (fo F (i - 1)).toNat := by omega
    rw [e4, prs_tx g k (i - 1) _ (by omega) (by omega) rfl m (by omega), eb]
    have e5 : i - 1 + 1 = i := by omega
    rw [a2, e5, tl i (by omega), tl _ (by omega), ← e4, Nat.add_sub_cancel, snoc]
    unfold nmN
    rw [← hnA, hcd, if_neg (by simp), hb0]
    have h1 : ((c.toNat : Nat) : Int) = c := by omega
    have h2 : ((i - 1 : Nat) : Int) = d := by omega
    rw [h1, h2]
end Las
end Go.D
end
/- Chapter 13: reading formulas: lengths; the two readers agree. Plain Lean. -/
section
set_option linter.unusedVariables false
set_option linter.unusedSimpArgs false
set_option maxRecDepth 8000
namespace Go.D
namespace Las
theorem atm_len {r r' : List Int} {n : Int} (h : atm r = some (n, r')) : r'.length < r.length ∧ 0 ≤ n ∧ n ≤ 99 := by
  have hd : ∀ d, dig d = true → 48 ≤ d ∧ d ≤ 57 := fun d hh => by simpa [dig] using hh
  cases r with
  | nil => exact absurd h (by simp [atm])
  | cons d r =>
    rw [atm_cons] at h
    by_cases c : dig d = true
    · have := hd d c
      rw [if_pos c] at h
      by_cases c0 : d = 48
      · rw [if_pos c0] at h
        injection h with h; injection h with h1 h2
        subst h1; subst h2
        exact ⟨by rw [List.length_cons]; omega, by omega, by omega⟩
      · rw [if_neg c0] at h
        cases r with
        | nil =>
          injection h with h; injection h with h1 h2
          subst h1; subst h2
          exact ⟨by simp, by omega, by omega⟩
        | cons e r =>
          by_cases c1 : dig e = true
          · have := hd e c1
            simp only [c1, if_true] at h
            injection h with h; injection h with h1 h2
            subst h1; subst h2
            exact ⟨by simp only [List.length_cons]; omega, by omega, by omega⟩
          · simp only [c1, if_false] at h
            injection h with h; injection h with h1 h2
            subst h1; subst h2
            exact ⟨by simp only [List.length_cons]; omega, by omega, by omega⟩
    · rw [if_neg c] at h; exact absurd h (by simp)
theorem bnd_ok (r : List Int) (fs : List Nd) (f : List Int → List Nd → Prd) : bnd (.ok r fs) f = f r fs := rfl
def Ln (a m : Nat) : Prd → Prop
  | .err e => e.length ≤ a
  | .ok e fs => e.length < a ∧ m < fs.length ∧ fs.length + e.length ≤ m + a
theorem Ln.one {a m : Nat} {R : Prd} (h : Ln a m R) (k : Int) : Ln (a + 1) m (one k R) := by
  cases R with
  | err e => exact Nat.le_succ_of_le h
  | ok e fs =>
    obtain ⟨h1, h2, h3⟩ := h
    exact ⟨by omega, by rw [List.length_append]; omega, by rw [List.length_append]; show fs.length + 1 + _ ≤ _; omega⟩
theorem Ln.aft {a m : Nat} {t r : List Int} {f : List Int → Prd} (ha : r.length ≤ a) (h : ∀ r', r'.length + t.length = r.length → Ln a m (f r')) : Ln a m (aft t r f) := by
  unfold Las.aft
  obtain ⟨h1, h2⟩ := tks_len t r
  by_cases c : (tks t r).1 = true
  · rw [if_pos c]; exact h _ (h2 c)
  · rw [if_neg c]; exact Nat.le_trans h1 ha
theorem Ln.up {a b m : Nat} {R : Prd} (h : Ln a m R) (hab : a ≤ b) : Ln b m R := by
  cases R with
  | err e => exact Nat.le_trans h hab
  | ok e fs => exact ⟨Nat.lt_of_lt_of_le h.1 hab, h.2.1, Nat.le_trans h.2.2 (by omega)⟩
theorem prs_eq (g : Bool) (k : Nat) (c : Int) (r : List Int) (fs : List Nd) : prs g (k + 1) (c :: r) fs =
    if c = 33 then one 2 (prs g k r fs)
    else if c = 91 then aft [93] r fun r' => one 6 (prs g k r' fs)
    else if c = 60 then aft [62] r fun r' => one 7 (prs g k r' fs)
    else if c = 116 then aft [114, 117, 101] r fun r' => .ok r' (fs ++ [⟨0, 0, none⟩])
    else if c = 112 then match atm r with
      | none => .err r
      | some (n, r') => if (g && dgH r') = true then .err r' else .ok r' (fs ++ [⟨1, n, none⟩])
    else if c = 40 then bnd (prs g k r fs) fun r1 f1 => aft [32] r1 fun r2 => match sgn r2 with
      | none => .err r2
      | some kd => aft (sg kd ++ [32]) r2 fun r3 => bnd (prs g k r3 f1) fun r4 f2 => aft [41] r4 fun r5 => .ok r5 (f2 ++ [⟨kd, 0, some [((f1.length - 1 : Nat) : Int), ((f2.length - 1 : Nat) : Int)]⟩])
    else .err (c :: r) := rfl
theorem prs_ln (g : Bool) : ∀ (k : Nat) (r : List Int) (fs : List Nd), Ln r.length fs.length (prs g k r fs)
  | 0, r, fs => by show r.length ≤ r.length; exact Nat.le_refl _
  | k + 1, [], fs => Nat.le_refl 0
  | k + 1, c :: r, fs => by
    have hl : (c :: r).length = r.length + 1 := List.length_cons
    rw [prs_eq, hl]
    by_cases c1 : c = 33
    · rw [if_pos c1]; exact (prs_ln g k r fs).one 2
    rw [if_neg c1]
    have un : ∀ (t : List Int) (kk : Int), Ln (r.length + 1) fs.length (aft t r fun r' => one kk (prs g k r' fs)) := fun t kk => by
      refine Ln.aft (by omega) fun r' hr => ((prs_ln g k r' fs).one kk).up (by omega)
    by_cases c2 : c = 91
    · rw [if_pos c2]; exact un [93] 6
    rw [if_neg c2]
    by_cases c3 : c = 60
    · rw [if_pos c3]; exact un [62] 7
    rw [if_neg c3]
    by_cases c4 : c = 116
    · rw [if_pos c4]
      refine Ln.aft (by omega) fun r' hr => ⟨by omega, by rw [List.length_append]; show _ < fs.length + 1; omega, by rw [List.length_append]; show fs.length + 1 + _ ≤ _; omega⟩
    rw [if_neg c4]
    by_cases c5 : c = 112
    · rw [if_pos c5]
      cases ha : atm r with
      | none => show r.length ≤ r.length + 1; omega
      | some nr =>
        obtain ⟨n, r'⟩ := nr
        have := (atm_len ha).1
        by_cases cg : (g && dgH r') = true
        · simp only [cg, if_true]; show r'.length ≤ _; omega
        · simp only [cg, if_false]
          exact ⟨by omega, by rw [List.length_append]; show _ < fs.length + 1; omega, by rw [List.length_append]; show fs.length + 1 + _ ≤ _; omega⟩
    rw [if_neg c5]
    by_cases c6 : c = 40
    · rw [if_pos c6]
      have h1 := prs_ln g k r fs
      cases hp : prs g k r fs with
      | err e => rw [hp] at h1; exact Nat.le_succ_of_le h1
      | ok r1 f1 =>
        rw [hp] at h1
        obtain ⟨a1, a2, a3⟩ := h1
        have h0 : r1.length ≤ r.length + 1 := by omega
        rw [bnd_ok]
        refine Ln.aft h0 fun r2 hr2 => ?_
        cases hs : sgn r2 with
        | none => show r2.length ≤ _; omega
        | some kd =>
          refine Ln.aft (by omega) fun r3 hr3 => ?_
          have h2 := prs_ln g k r3 f1
          cases hp2 : prs g k r3 f1 with
          | err e =>
            rw [hp2] at h2
            have h2' : e.length ≤ r3.length := h2
            show e.length ≤ _; omega
          | ok r4 f2 =>
            rw [hp2] at h2
            obtain ⟨b1, b2, b3⟩ := h2
            have h4 : r4.length ≤ r.length + 1 := by omega
            rw [bnd_ok]
            refine Ln.aft h4 fun r5 hr5 => ⟨by omega, by rw [List.length_append]; show _ < f2.length + 1; omega, by rw [List.length_append]; show f2.length + 1 + _ ≤ _; omega⟩
    · rw [if_neg c6]; show r.length + 1 ≤ _; omega
def Rl (a b : Prd) : Prop := a = b ∨ ∃ e fs, a = .err e ∧ b = .ok e fs ∧ dgH e = true
theorem Rl.one {a b : Prd} (h : Rl a b) (k : Int) : Rl (one k a) (one k b) := by
  rcases h with rfl | ⟨e, fs, rfl, rfl, h⟩
  · exact .inl rfl
  · exact .inr ⟨e, _, rfl, rfl, h⟩
theorem Rl.aft {t r : List Int} {f f' : List Int → Prd} (h : ∀ r', Rl (f r') (f' r')) : Rl (aft t r f) (aft t r f') := by
  unfold Las.aft
  by_cases c : (tks t r).1 = true
  · rw [if_pos c, if_pos c]; exact h _
  · rw [if_neg c, if_neg c]; exact .inl rfl
theorem Rl.bnd {a b : Prd} (h : Rl a b) {f f' : List Int → List Nd → Prd} (hf : ∀ r fs, Rl (f r fs) (f' r fs)) (hd : ∀ e fs, dgH e = true → f' e fs = .err e) : Rl (bnd a f) (bnd b f') := by
  rcases h with rfl | ⟨e, fs, rfl, rfl, h⟩
  · cases a with
    | err e => exact .inl rfl
    | ok r fs => exact hf r fs
  · refine .inl ?_
    show Prd.err e = f' e fs
    rw [hd e fs h]
theorem aft_dig {c : Int} {t e : List Int} {f : List Int → Prd} (h : dgH e = true) (hc : dig c = false) : aft (c :: t) e f = .err e := by
  cases e with
  | nil => exact absurd h (by simp [dgH])
  | cons x r =>
    have hx : dig x = true := h
    have hne : ¬ x = c := fun hh => by rw [hh, hc] at hx; exact absurd hx (by simp)
    have e1 : tks (c :: t) (x :: r) = (false, x :: r) := by
      show (if x = c then tks t r else (false, x :: r)) = _
      rw [if_neg hne]
    unfold aft
    rw [e1]; rfl
theorem prs_rl : ∀ (k : Nat) (r : List Int) (fs : List Nd), Rl (prs true k r fs) (prs false k r fs)
  | 0, r, fs => .inl rfl
  | k + 1, [], fs => .inl rfl
  | k + 1, c :: r, fs => by
    rw [prs_eq, prs_eq]
    by_cases c1 : c = 33
    · rw [if_pos c1, if_pos c1]; exact (prs_rl k r fs).one 2
    rw [if_neg c1, if_neg c1]
    by_cases c2 : c = 91
    · rw [if_pos c2, if_pos c2]; exact Rl.aft fun r' => (prs_rl k r' fs).one 6
    rw [if_neg c2, if_neg c2]
    by_cases c3 : c = 60
    · rw [if_pos c3, if_pos c3]; exact Rl.aft fun r' => (prs_rl k r' fs).one 7
    rw [if_neg c3, if_neg c3]
    by_cases c4 : c = 116
    · rw [if_pos c4, if_pos c4]; exact .inl rfl
    rw [if_neg c4, if_neg c4]
    by_cases c5 : c = 112
    · rw [if_pos c5, if_pos c5]
      cases ha : atm r with
      | none => exact .inl rfl
      | some nr =>
        obtain ⟨n, r'⟩ := nr
        cases cg : dgH r' with
        | true => exact .inr ⟨r', fs ++ [⟨1, n, none⟩], by simp [cg], by simp [cg], cg⟩
        | false => exact .inl (by simp [cg])
    rw [if_neg c5, if_neg c5]
    by_cases c6 : c = 40
    · rw [if_pos c6, if_pos c6]
      refine (prs_rl k r fs).bnd (fun r1 f1 => Rl.aft fun r2 => ?_) fun e f1 h => aft_dig h (by decide)
      cases hs : sgn r2 with
      | none => exact .inl rfl
      | some kd =>
        exact Rl.aft fun r3 => (prs_rl k r3 f1).bnd (fun r4 f2 => .inl rfl) fun e f2 h => aft_dig h (by decide)
    · rw [if_neg c6, if_neg c6]; exact .inl rfl
def fin (n : Nat) : Prd → Option (List Nd) × Nat
  | .err e => (none, n - e.length)
  | .ok e fs => if e = [] then (some fs, 0) else (none, n - e.length)
theorem fin_eq (n k : Nat) (r : List Int) : fin n (prs true k r []) = fin n (prs false k r []) := by
  rcases prs_rl k r [] with h | ⟨e, fs, h1, h2, h3⟩
  · rw [h]
  · rw [h1, h2]
    have : e ≠ [] := fun hh => by rw [hh] at h3; exact absurd h3 (by simp [dgH])
    show _ = (if e = [] then _ else _)
    rw [if_neg this]; rfl
end Las
end Go.D
end
/- Chapter 13: texts of formulas, plain: their equations and lengths. -/
section
set_option linter.unusedVariables false
set_option linter.unusedSimpArgs false
set_option maxRecDepth 8000
namespace Go.D
namespace Las
section
variable {F : List Nd} (hk : Ok F) {i : Nat} (hi : i < F.length)
include hk hi
theorem ops1 (h : (F.getD i default).k = 2 ∨ (F.getD i default).k = 6 ∨ (F.getD i default).k = 7) : nA F i = [((i - 1 : Nat) : Int)] ∧ 0 < i := by
  have hg := hk.good i hi
  have hn := hg.a
  unfold ar at hn
  rw [if_neg (by omega), if_pos h] at hn
  obtain ⟨c, hc⟩ := List.length_eq_one_iff.1 (show (nA F i).length = 1 by omega)
  obtain ⟨o1, o2, o3⟩ := hg.one hc
  refine ⟨?_, o2⟩
  rw [hc]
  congr 1
  omega
theorem ops2 (h0 : (F.getD i default).k ≠ 0) (h1 : (F.getD i default).k ≠ 1) (h2 : (F.getD i default).k ≠ 2) (h6 : (F.getD i default).k ≠ 6) (h7 : (F.getD i default).k ≠ 7) : ∃ c : Nat, c < i ∧ 0 < i ∧ nA F i = [(c : Int), ((i - 1 : Nat) : Int)] := by
  have hg := hk.good i hi
  have hn := hg.a
  unfold ar at hn
  rw [if_neg (by omega), if_neg (by omega)] at hn
  obtain ⟨c, d, hcd⟩ : ∃ c d, nA F i = [c, d] := by
    match h : nA F i, (show (nA F i).length = 2 by omega) with
    | [c, d], _ => exact ⟨c, d, rfl⟩
  obtain ⟨o1, o2, o3, o4, o5⟩ := hg.two hcd
  have hfo := (fo_le F (i - 1)).2
  refine ⟨c.toNat, by omega, o2, ?_⟩
  rw [hcd]
  congr 1
  · omega
  · congr 1
    omega
end
theorem tx_eq (F : List Nd) (k i : Nat) : tx F (k + 1) i =
    if (F.getD i default).k = 0 then [116, 114, 117, 101]
    else if (F.getD i default).k = 1 then 112 :: itl (F.getD i default).n
    else if (F.getD i default).k = 2 then 33 :: tx F k ((nA F i).getD 0 0).toNat
    else if (F.getD i default).k = 6 then 91 :: 93 :: tx F k ((nA F i).getD 0 0).toNat
    else if (F.getD i default).k = 7 then 60 :: 62 :: tx F k ((nA F i).getD 0 0).toNat
    else 40 :: (tx F k ((nA F i).getD 0 0).toNat ++ (32 :: (sg (F.getD i default).k ++ (32 :: (tx F k ((nA F i).getD 1 0).toNat ++ [41]))))) := rfl
theorem tx_fuel {F : List Nd} (hk : Ok F) : ∀ (k k' i : Nat), i < k → i < k' → i < F.length → tx F k i = tx F k' i
  | 0, k', i, h, h', hi => by omega
  | k + 1, 0, i, h, h', hi => by omega
  | k + 1, k' + 1, i, h, h', hi => by
    rw [tx_eq, tx_eq]
    by_cases k0 : (F.getD i default).k = 0
    · rw [if_pos k0, if_pos k0]
    rw [if_neg k0, if_neg k0]
    by_cases k1 : (F.getD i default).k = 1
    · rw [if_pos k1, if_pos k1]
    rw [if_neg k1, if_neg k1]
    have un : ((F.getD i default).k = 2 ∨ (F.getD i default).k = 6 ∨ (F.getD i default).k = 7) → tx F k ((nA F i).getD 0 0).toNat = tx F k' ((nA F i).getD 0 0).toNat := fun hh => by
      obtain ⟨e1, e2⟩ := ops1 hk hi hh
      have e3 : ((nA F i).getD 0 0).toNat = i - 1 := by rw [e1]; rfl
      rw [e3]
      exact tx_fuel hk k k' (i - 1) (by omega) (by omega) (by omega)
    by_cases k2 : (F.getD i default).k = 2
    · rw [if_pos k2, if_pos k2, un (.inl k2)]
    rw [if_neg k2, if_neg k2]
    by_cases k6 : (F.getD i default).k = 6
    · rw [if_pos k6, if_pos k6, un (.inr (.inl k6))]
    rw [if_neg k6, if_neg k6]
    by_cases k7 : (F.getD i default).k = 7
    · rw [if_pos k7, if_pos k7, un (.inr (.inr k7))]
    rw [if_neg k7, if_neg k7]
    obtain ⟨c, e1, e2, e3⟩ := ops2 hk hi k0 k1 k2 k6 k7
    have e4 : ((nA F i).getD 0 0).toNat = c := by rw [e3]; rfl
    have e5 : ((nA F i).getD 1 0).toNat = i - 1 := by rw [e3]; rfl
    rw [e4, e5, tx_fuel hk k k' c (by omega) (by omega) (by omega), tx_fuel hk k k' (i - 1) (by omega) (by omega) (by omega)]
def tX (F : List Nd) (i : Nat) : List Int := tx F (i + 1) i
section
variable {F : List Nd} (hk : Ok F) {i : Nat} (hi : i < F.length)
include hk hi
omit hk hi in
theorem tX_0 (h : (F.getD i default).k = 0) : tX F i = [116, 114, 117, 101] := by
  unfold tX; rw [tx_eq, if_pos h]
theorem tX_1 (h : (F.getD i default).k = 1) : tX F i = 112 :: itl (F.getD i default).n ∧ 0 ≤ (F.getD i default).n ∧ (F.getD i default).n ≤ 11 := by
  refine ⟨by unfold tX; rw [tx_eq, if_neg (by rw [h]; decide), if_pos h], ?_⟩
  have hb := (hk.good i hi).b
  unfold bad at hb
  rw [if_pos h] at hb
  have : inR (F.getD i default).n 0 11 = true := by cases hh : inR (F.getD i default).n 0 11 <;> simp_all
  exact (inR_iff _ _ _).1 this
theorem tX_2 (h : (F.getD i default).k = 2) : tX F i = 33 :: tX F (i - 1) := by
  obtain ⟨e1, e2⟩ := ops1 hk hi (.inl h)
  have e3 : ((nA F i).getD 0 0).toNat = i - 1 := by rw [e1]; rfl
  unfold tX
  rw [tx_eq, if_neg (by rw [h]; decide), if_neg (by rw [h]; decide), if_pos h, e3, tx_fuel hk i (i - 1 + 1) (i - 1) (by omega) (by omega) (by omega)]
theorem tX_6 (h : (F.getD i default).k = 6) : tX F i = 91 :: 93 :: tX F (i - 1) := by
  obtain ⟨e1, e2⟩ := ops1 hk hi (.inr (.inl h))
  have e3 : ((nA F i).getD 0 0).toNat = i - 1 := by rw [e1]; rfl
  unfold tX
  rw [tx_eq, if_neg (by rw [h]; decide), if_neg (by rw [h]; decide), if_neg (by rw [h]; decide), if_pos h, e3, tx_fuel hk i (i - 1 + 1) (i - 1) (by omega) (by omega) (by omega)]
theorem tX_7 (h : (F.getD i default).k = 7) : tX F i = 60 :: 62 :: tX F (i - 1) := by
  obtain ⟨e1, e2⟩ := ops1 hk hi (.inr (.inr h))
  have e3 : ((nA F i).getD 0 0).toNat = i - 1 := by rw [e1]; rfl
  unfold tX
  rw [tx_eq, if_neg (by rw [h]; decide), if_neg (by rw [h]; decide), if_neg (by rw [h]; decide), if_neg (by rw [h]; decide), if_pos h, e3, tx_fuel hk i (i - 1 + 1) (i - 1) (by omega) (by omega) (by omega)]
theorem tX_b (h0 : (F.getD i default).k ≠ 0) (h1 : (F.getD i default).k ≠ 1) (h2 : (F.getD i default).k ≠ 2) (h6 : (F.getD i default).k ≠ 6) (h7 : (F.getD i default).k ≠ 7) : ∃ c : Nat, c < i ∧ 0 < i ∧ nA F i = [(c : Int), ((i - 1 : Nat) : Int)] ∧
    tX F i = 40 :: (tX F c ++ (32 :: (sg (F.getD i default).k ++ (32 :: (tX F (i - 1) ++ [41]))))) := by
  obtain ⟨c, e1, e2, e3⟩ := ops2 hk hi h0 h1 h2 h6 h7
  refine ⟨c, e1, e2, e3, ?_⟩
  have e4 : ((nA F i).getD 0 0).toNat = c := by rw [e3]; rfl
  have e5 : ((nA F i).getD 1 0).toNat = i - 1 := by rw [e3]; rfl
  unfold tX
  rw [tx_eq, if_neg h0, if_neg h1, if_neg h2, if_neg h6, if_neg h7, e4, e5, tx_fuel hk i (c + 1) c (by omega) (by omega) (by omega), tx_fuel hk i (i - 1 + 1) (i - 1) (by omega) (by omega) (by omega)]
end
theorem sg_len (k : Int) : (sg k).length ≤ 2 := by
  unfold sg
  split
  · decide
  split
  · decide
  split
  · decide
  split
  · decide
  · decide
theorem itl_len (n : Int) : (itl n).length ≤ 2 := by
  unfold itl
  split <;> simp
theorem tX_len {F : List Nd} (hk : Ok F) : ∀ (m i : Nat), i < m → i < F.length → (tX F i).length + 6 ≤ 6 * 2 ^ (i + 1)
  | 0, i, h, hi => by omega
  | m + 1, i, h, hi => by
    have h2i : 1 ≤ 2 ^ i := Nat.one_le_two_pow
    have e2 : 2 ^ (i + 1) = 2 * 2 ^ i := by rw [Nat.pow_succ]; omega
    by_cases k0 : (F.getD i default).k = 0
    · rw [tX_0 k0]; simp only [List.length_cons, List.length_nil]; omega
    by_cases k1 : (F.getD i default).k = 1
    · rw [(tX_1 hk hi k1).1]
      have := itl_len (F.getD i default).n
      simp only [List.length_cons]; omega
    have un : 0 < i → (tX F (i - 1)).length + 6 ≤ 6 * 2 ^ i := fun hp => by
      have := tX_len hk m (i - 1) (by omega) (by omega)
      rw [show i - 1 + 1 = i by omega] at this
      exact this
    by_cases k2 : (F.getD i default).k = 2
    · have := un (ops1 hk hi (.inl k2)).2
      rw [tX_2 hk hi k2]
      simp only [List.length_cons]; omega
    by_cases k6 : (F.getD i default).k = 6
    · have := un (ops1 hk hi (.inr (.inl k6))).2
      rw [tX_6 hk hi k6]
      simp only [List.length_cons]; omega
    by_cases k7 : (F.getD i default).k = 7
    · have := un (ops1 hk hi (.inr (.inr k7))).2
      rw [tX_7 hk hi k7]
      simp only [List.length_cons]; omega
    obtain ⟨c, a1, a2, a3, a4⟩ := tX_b hk hi k0 k1 k2 k6 k7
    have b1 := un a2
    have b2 := tX_len hk m c (by omega) (by omega)
    have b3 : 2 ^ (c + 1) ≤ 2 ^ i := Nat.pow_le_pow_right (by decide) (by omega)
    have b4 := sg_len (F.getD i default).k
    rw [a4]
    simp only [List.length_cons, List.length_append, List.length_nil]
    omega
theorem tX_small {F : List Nd} (hk : Ok F) {i : Nat} (hi : i < F.length) : (tX F i).length ≤ 6597069766656 := by
  have h1 := tX_len hk (i + 1) i (Nat.lt_succ_self i) hi
  have h2 := hk.le
  have h3 : 2 ^ (i + 1) ≤ 2 ^ 40 := Nat.pow_le_pow_right (by decide) (by omega)
  have h4 : 2 ^ 40 = 1099511627776 := by decide
  omega
theorem prs_all {F : List Nd} (hk : Ok F) (m : Nat) (hm : (tX F (F.length - 1)).length < m) : prs false m (tX F (F.length - 1)) [] = .ok [] (F.map nmN) := by
  have hp := hk.pos
  have h := prs_tx hk false (F.length - 1 + 1) (F.length - 1) [] (by omega) (by omega) rfl m hm
  rw [List.append_nil, hk.fst] at h
  have e1 : (0 : Int).toNat = 0 := rfl
  rw [e1, List.take_zero, show F.length - 1 + 1 = F.length by omega, List.take_of_length_le (by rw [List.length_map]; exact Nat.le_refl _)] at h
  rw [show F.length = F.length - 1 + 1 by omega] at h
  exact h
end Las
end Go.D
end
/- Chapter 13: strings. -/
section
set_option linter.unusedVariables false
set_option linter.unusedSimpArgs false
set_option maxRecDepth 8000
namespace Go.D
def bs (s : ByteArray) : List Int := s.data.toList.map fun b => (b.toNat : Int)
theorem bs_len (s : ByteArray) : (bs s).length = s.size := by
  unfold bs; rw [List.length_map]; rfl
theorem bs_app (a b : ByteArray) : bs (a ++ b) = bs a ++ bs b := by
  unfold bs
  rw [ByteArray.data_append, Array.toList_append, List.map_append]
theorem bs_ext (s : ByteArray) (a b : Nat) : bs (s.extract a b) = ((bs s).take b).drop a := by
  unfold bs
  rw [ByteArray.data_extract, Array.toList_extract, List.extract_eq_take_drop, List.map_take, List.map_drop, List.drop_take]
theorem bs_get {s : ByteArray} {i : Nat} (h : i < s.size) : ∃ b : UInt8, s[i]? = some b ∧ (b.toNat : Int) = (bs s).getD i 0 := by
  refine ⟨s[i], getElem?_pos s i h, ?_⟩
  unfold bs
  have hl : i < s.data.toList.length := h
  rw [List.getD_eq_getElem?_getD, List.getElem?_map, List.getElem?_eq_getElem hl]
  rfl
theorem u9s : PP.underlying 9 = some .string := Eq.trans (by kernel_rfl) rfl
theorem str_len (s : ByteArray) (σ : Store) : len PP 9 (.p (.str s)) σ = some (.p (.int .i64 (s.size : Nat))) := by
  simp [len, u9s]
theorem str_idx {s : ByteArray} {i : Nat} (h : i < s.size) : index PP 9 (.p (.str s)) (.p (.int .i64 (i : Nat))) = some (.p (.int .u8 ((bs s).getD i 0))) := by
  obtain ⟨b, h1, h2⟩ := bs_get h
  simp only [index, u9s, Int.toNat_natCast, h1, h2]
  rw [if_pos (by omega)]
theorem str_sl {s : ByteArray} {a b : Nat} (h1 : a ≤ b) (h2 : b ≤ s.size) : sliceOp PP 9 (.p (.str s)) (some (.p (.int .i64 (a : Nat)))) (some (.p (.int .i64 (b : Nat)))) none = some (.p (.str (s.extract a b))) := by
  simp only [sliceOp, u9s, bound, Int.toNat_natCast, Option.isSome_none, Bool.false_and, Bool.false_eq_true, if_false]
  rw [if_pos (by omega)]
  simp only
  rw [if_pos (by omega)]
theorem str_add {a b : ByteArray} (h : a.size + b.size ≤ 140737488355328) : binOp PP .add 9 (.p (.str a)) (.p (.str b)) = some (.p (.str (a ++ b))) := by
  show (binStr .add a b).map DV.p = _
  unfold binStr
  simp only
  rw [if_pos h]; rfl
theorem str_ne (a : ByteArray) : binOp PP .neq 9 (.p (.str a)) (.p (.str a)) = some (.p (.bool false)) := by
  show (binStr .neq a a).map DV.p = _
  unfold binStr
  simp
theorem u8_eq (a b : Int) : binOp PP .eql 5 (.p (.int .u8 a)) (.p (.int .u8 b)) = some (.p (.bool (decide (a = b)))) := Eq.trans rfl rfl
theorem u8_ne (a b : Int) : binOp PP .neq 5 (.p (.int .u8 a)) (.p (.int .u8 b)) = some (.p (.bool (!decide (a = b)))) := by
  show some (DV.p (PV.bool (a != b))) = _
  exact Eq.trans rfl rfl
end Go.D
end
/- Chapter 13: what a formula says along an infinite word; words that are alike but for stuttering. Plain Lean. -/
section
set_option linter.unusedVariables false
set_option linter.unusedSimpArgs false
namespace Go.D
namespace Las
structure Bis (R : Nat → Nat → Prop) : Prop where
  fw : ∀ {i j}, R i j → ∀ i', i ≤ i' → ∃ j', j ≤ j' ∧ R i' j' ∧ ∀ m', j ≤ m' → m' < j' → ∃ m, i ≤ m ∧ m < i' ∧ R m m'
  bw : ∀ {i j}, R i j → ∀ j', j ≤ j' → ∃ i', i ≤ i' ∧ R i' j' ∧ ∀ m, i ≤ m → m < i' → ∃ m', j ≤ m' ∧ m' < j' ∧ R m m'
def pre (u : Nat → Int) (n : Nat) : List Int := (List.range n).map u
end Las
end Go.D
end
/- Chapter 13: Shortest and Unstuttered in the reference; LassoWords. -/
section
set_option linter.unusedVariables false
set_option linter.unusedSimpArgs false
namespace Go.D
open Las
section
variable {w : Wd} {Q : List Int} (hQ : Q.length ≤ 1000) (hP : (L w.p).length ≤ 1000) {lo : Nat} {x2 : DV} {σ : Store}
include hQ hP
end
theorem out_pl {σ : Store} {lo : Nat} {l : List Int} {x : DV} (h : Out σ lo 1 l.length (eInts l) x) : PL x l := by
  rcases h.2 with ⟨h1, rfl⟩ | ⟨_, r, v, rfl, _, _⟩
  · exact .inl ⟨rfl, List.length_eq_zero_iff.1 h1⟩
  · exact .inr (.inr ⟨r, v, rfl⟩)
theorem Out.pushI {σ : Store} {lo : Nat} {l : List Int} {v : Int} {x : DV} (ho : Out σ lo 1 l.length (eInts l) x) (hn : l.length ≤ 100000) (hlo : lo ≤ σ.length) :
    ∃ x' σ', append PP lo false 24 24 x (.p (.sl true 1 [.int .i64 v])) σ = some (x', σ') ∧ Out σ' lo 1 (l ++ [v]).length (eInts (l ++ [v])) x' ∧ Others σ σ' x ∧ σ.length ≤ σ'.length := by
  obtain ⟨x', σ', h1, h2, h3, h4⟩ := Out.push24 (v := pI v) ho (by omega) hlo
  refine ⟨x', σ', h1, ?_, h3, h4⟩
  have e : eInts l ++ [pI v] = eInts (l ++ [v]) := by simp [eInts]
  rw [e] at h2
  rw [List.length_append]
  exact h2
section
variable {x : DV} {l : List Int} (hx : PL x l) (hl : l.length ≤ 10000)
include hx hl
end
end Go.D
end
/- Chapter 13: Unstuttered in the reference. -/
section
set_option linter.unusedVariables false
set_option linter.unusedSimpArgs false
namespace Go.D
open Las
section
variable {s : Wd} (hQ : 0 < (L s.l).length) (hP : (L s.p).length + (L s.l).length ≤ 1000)
include hQ hP
end
end Go.D
end
/- Chapter 13: the errors of formulas, in the reference and in the program. -/
section
set_option linter.unusedVariables false
set_option linter.unusedSimpArgs false
set_option maxRecDepth 4000
namespace Go.D
open Las
def pr2 (x : Int × Int) : DV := .tuple [.p (.int .i64 x.1), .p (.int .i64 x.2)]
theorem nd_case {F : List Nd} {d i : Nat} : chkF F (d + 1) i = if inR (F.getD i default).k 0 9 = true then
      if (((nA F i).length : Nat) : Int) = ar (F.getD i default).k ∧ stands F i = true then
        if bad (F.getD i default) = true then (((i : Nat) : Int), (3 : Int)) else chkF F d (i + 1)
      else (((i : Nat) : Int), (6 : Int))
    else (((i : Nat) : Int), (4 : Int)) := rfl
section
variable {f : Fm} (hf : FSm f)
include hf
theorem L46 : ∀ (d i : Nat) (σ : Store), 0 < (L f).length → (L f).length - i = d → i ≤ (L f).length → ∃ σ', f46_L0 guardT 0 (.p (eFm f)) (N i) σ = some (pr2 (chkF (L f) d i), σ')
  | 0, i, σ, hp, hd, hi => by
    have h1 := hf.1
    have e : i = (L f).length := by omega
    subst e
    have e1 : foI (L f) (((L f).length : Int) - 1) = fo (L f) ((L f).length - 1) := by
      unfold foI
      rw [if_neg (by omega)]
      congr 1; omega
    have hS := S105 hf (r := ((L f).length : Int) - 1) (by omega)
    rw [e1] at hS
    have e2 : (((L f).length - 1 : Nat) : Int) = ((L f).length : Int) - 1 := by omega
    refine ⟨σ, ?_⟩
    rw [f46_L0_eq guardT rfl]
    unfold chkF pr2
    by_cases c : fo (L f) ((L f).length - 1) = 0
    · rw [if_pos c]
      simp (disch := omega) only [N, len23, gG, b_lss, ltF, subI, shift_ptr, shift_pptr, Nat.zero_add, Nat.add_zero, pureFn_fn, List.append_nil, List.singleton_append, List.cons_append, List.nil_append, hS, b_neq, eqT c]
    · rw [if_neg c, e2]
      simp (disch := omega) only [N, len23, gG, b_lss, ltF, subI, shift_ptr, shift_pptr, Nat.zero_add, Nat.add_zero, pureFn_fn, List.append_nil, List.singleton_append, List.cons_append, List.nil_append, hS, b_neq, eqF c]
  | d + 1, i, σ, hp, hd, hi => by
    have h1 := hf.1
    have hlt : i < (L f).length := by omega
    have h3 := hf.2 i
    have ha : L ((L f).getD i default).a = nA (L f) i := rfl
    have hS := S104 hf hlt
    have hnd := nd_all hlt
    rw [nd_case]
    generalize hx : (L f).getD i default = x at *
    have g : (σ ++ [Row.mix (ndD x)])[σ.length]? = some (.mix (ndD x)) := get_snoc
    have st := st67 (σ := σ) (lo := 0) (z := [.p (pI 0), .p (pI 0), .p .nilsl]) x rfl (Nat.zero_le _)
    by_cases c1 : inR x.k 0 9 = true
    · rw [if_pos c1]
      by_cases c2 : (((nA (L f) i).length : Nat) : Int) = ar x.k
      · by_cases c3 : stands (L f) i = true
        · rw [if_pos ⟨c2, c3⟩]
          have hnext : bad x = false → ∃ σ', f46_L0 guardT 0 (.p (eFm f)) (N (i + 1)) (σ ++ [Row.mix (ndD x)]) = some (pr2 (if bad x = true then (((i : Nat) : Int), (3 : Int)) else chkF (L f) d (i + 1)), σ') := fun hb => by
            obtain ⟨σ', h⟩ := L46 d (i + 1) (σ ++ [Row.mix (ndD x)]) hp (by omega) (by omega)
            exact ⟨σ', by rw [h, if_neg (by rw [hb]; simp)]⟩
          by_cases c4 : x.k = 1
          · by_cases c5 : inR x.n 0 11 = true
            · have hb : bad x = false := by unfold bad; rw [if_pos c4, c5]; rfl
              obtain ⟨σ', h⟩ := hnext hb
              refine ⟨σ', ?_⟩
              rw [← h, f46_L0_eq guardT rfl]
              simp (disch := omega) only [N, len23, gG, b_lss, ltT, idx23 hlt, load67, hnd, zero67, st, fa67_0, fa67_1, fa67_2, shift_ptr, shift_pptr, Nat.zero_add, Nat.add_zero, pureFn_fn, List.append_nil, List.singleton_append, List.cons_append, List.nil_append, load3, row_k g, S26, c1, load24, row_a g, (PL.sl _).len, ha, S103, b_neq, eqT c2, hS, c3, b_eql, eqT c4, row_n g, c5, add1]
            · have hb : bad x = true := by unfold bad; rw [if_pos c4, (Bool.not_eq_true _).mp c5]; rfl
              refine ⟨σ ++ [Row.mix (ndD x)], ?_⟩
              rw [if_pos hb, f46_L0_eq guardT rfl]
              simp (disch := omega) only [N, len23, gG, b_lss, ltT, idx23 hlt, load67, hnd, zero67, st, fa67_0, fa67_1, fa67_2, shift_ptr, shift_pptr, Nat.zero_add, Nat.add_zero, pureFn_fn, List.append_nil, List.singleton_append, List.cons_append, List.nil_append, load3, row_k g, S26, c1, load24, row_a g, (PL.sl _).len, ha, S103, b_neq, eqT c2, hS, c3, b_eql, eqT c4, row_n g, (Bool.not_eq_true _).mp c5, pr2]
          · by_cases c5 : x.n = 0
            · have hb : bad x = false := by unfold bad; rw [if_neg c4, eqT c5]; rfl
              obtain ⟨σ', h⟩ := hnext hb
              refine ⟨σ', ?_⟩
              rw [← h, f46_L0_eq guardT rfl]
              simp (disch := omega) only [N, len23, gG, b_lss, ltT, idx23 hlt, load67, hnd, zero67, st, fa67_0, fa67_1, fa67_2, shift_ptr, shift_pptr, Nat.zero_add, Nat.add_zero, pureFn_fn, List.append_nil, List.singleton_append, List.cons_append, List.nil_append, load3, row_k g, S26, c1, load24, row_a g, (PL.sl _).len, ha, S103, b_neq, eqT c2, hS, c3, b_eql, eqF c4, row_n g, eqT c5, add1]
            · have hb : bad x = true := by unfold bad; rw [if_neg c4, eqF c5]; rfl
              refine ⟨σ ++ [Row.mix (ndD x)], ?_⟩
              rw [if_pos hb, f46_L0_eq guardT rfl]
              simp (disch := omega) only [N, len23, gG, b_lss, ltT, idx23 hlt, load67, hnd, zero67, st, fa67_0, fa67_1, fa67_2, shift_ptr, shift_pptr, Nat.zero_add, Nat.add_zero, pureFn_fn, List.append_nil, List.singleton_append, List.cons_append, List.nil_append, load3, row_k g, S26, c1, load24, row_a g, (PL.sl _).len, ha, S103, b_neq, eqT c2, hS, c3, b_eql, eqF c4, row_n g, eqF c5, pr2]
        · rw [if_neg (fun h => c3 h.2)]
          refine ⟨σ ++ [Row.mix (ndD x)], ?_⟩
          rw [f46_L0_eq guardT rfl]
          simp (disch := omega) only [N, len23, gG, b_lss, ltT, idx23 hlt, load67, hnd, zero67, st, fa67_0, fa67_1, fa67_2, shift_ptr, shift_pptr, Nat.zero_add, Nat.add_zero, pureFn_fn, List.append_nil, List.singleton_append, List.cons_append, List.nil_append, load3, row_k g, S26, c1, load24, row_a g, (PL.sl _).len, ha, S103, b_neq, eqT c2, hS, (Bool.not_eq_true _).mp c3, pr2]
      · rw [if_neg (fun h => c2 h.1)]
        refine ⟨σ ++ [Row.mix (ndD x)], ?_⟩
        rw [f46_L0_eq guardT rfl]
        simp (disch := omega) only [N, len23, gG, b_lss, ltT, idx23 hlt, load67, hnd, zero67, st, fa67_0, fa67_1, fa67_2, shift_ptr, shift_pptr, Nat.zero_add, Nat.add_zero, pureFn_fn, List.append_nil, List.singleton_append, List.cons_append, List.nil_append, load3, row_k g, S26, c1, load24, row_a g, (PL.sl _).len, ha, S103, b_neq, eqF c2, pr2]
    · rw [if_neg c1]
      refine ⟨σ ++ [Row.mix (ndD x)], ?_⟩
      rw [f46_L0_eq guardT rfl]
      simp (disch := omega) only [N, len23, gG, b_lss, ltT, idx23 hlt, load67, hnd, zero67, st, fa67_0, shift_ptr, shift_pptr, Nat.zero_add, Nat.add_zero, pureFn_fn, List.append_nil, List.singleton_append, List.cons_append, List.nil_append, load3, row_k g, S26, (Bool.not_eq_true _).mp c1, pr2]
theorem S46 (σ : Store) : pureV CC 46 [.p (eFm f)] σ = some (pr2 (chk (L f))) := by
  have h1 := hf.1
  unfold chk
  by_cases c1 : (L f).length = 0
  · have c1' : ((L f).length : Int) = 0 := by omega
    rw [if_pos c1]
    refine pureV_free (by simp [fm_view]) rfl (F46_call (r := (pr2 (0, 1), [])) ?_) rfl
    rw [F46_eq]
    simp only [len23, N, gG, b_eql, eqT c1', pr2]
  · have c1' : ¬ ((L f).length : Int) = 0 := by omega
    rw [if_neg c1]
    by_cases c2 : (L f).length > 40
    · have c2' : ((L f).length : Int) > 40 := by omega
      rw [if_pos c2]
      refine pureV_free (by simp [fm_view]) rfl (F46_call (r := (pr2 (0, 2), [])) ?_) rfl
      rw [F46_eq]
      simp only [len23, N, gG, b_eql, eqF c1', b_gtr, gtT c2', pr2]
    · have c2' : ¬ ((L f).length : Int) > 40 := by omega
      rw [if_neg c2]
      obtain ⟨σ', h⟩ := L46 hf _ 0 [] (by omega) rfl (Nat.zero_le _)
      rw [Nat.sub_zero] at h
      refine pureV_free (by simp [fm_view]) rfl (F46_call (r := (pr2 (chkF (L f) (L f).length 0), σ')) ?_) rfl
      rw [F46_eq, ← h]
      simp only [len23, N, gG, b_eql, eqF c1', b_gtr, gtF c2']
      rfl
theorem S25 (σ : Store) : pureV CC 25 [.p (eFm f)] σ = some (.p (.int .i64 (chk (L f)).2)) := by
  refine pureV_free (by simp [fm_view]) rfl (F25_call (r := (.p (.int .i64 (chk (L f)).2), [])) ?_) rfl
  have ex0 : ∀ (a b : DV), extractV (.tuple [a, b]) 0 = some a := fun _ _ => rfl
  have ex1 : ∀ (a b : DV), extractV (.tuple [a, b]) 1 = some b := fun _ _ => rfl
  rw [F25_eq]
  simp only [shift_ptr, shift_pptr, Nat.zero_add, Nat.add_zero, pureFn_fn, List.append_nil, List.singleton_append, List.cons_append, List.nil_append, S46 hf, pr2, gG, ex0, ex1]
end
end Go.D
end
/- Equations of functions 98, 60, 132, 133, 73, 74, 75, 22, 71, 123, 124, 125, 126, 127, 128, 93, 131, 130, 129, 72, 18, 20, 21, 3, printed by gen.py. -/
section
set_option linter.unusedVariables false
set_option maxRecDepth 10000
namespace Go.D
open Go.Proofs
noncomputable section
variable (G : GuardT) (lo : Nat) {σ : Store} {r : DV × Store}
open _root_.Go.D.Code (fstC sndC)
open _root_.Go.D.Ann (left right)
def c98_0 : Code := bodyOf Tryz.f98
def a98_0 : Ann := (pol 98).ann
def F98 (x0 : DV) (σ : Store) : RS :=
 codeF G PP (pol 98) CC lo c98_0 a98_0 [x0, Z, Z, Z] σ (finR PP Tryz.f98.results.toList)
theorem F98_eq (G : GuardT) (lo : Nat) (x0 : DV) (σ : Store) : F98 G lo x0 σ =
 (boxP x0).bind fun x1 =>
 some ((DV.fn 143 [x1]), σ) := by kernel_rfl
theorem F98_call {lo : Nat} {x0 : DV} (h : F98 guardT lo x0 σ = some r) : CC lo 98 [x0] σ = some r :=
 callL_run Tryz.func98 (by decide +kernel) rfl (by decide +kernel) h
end
end Go.D
end
/- Chapter 13: the errors of formulas in the program; copies of formulas. -/
section
set_option linter.unusedVariables false
set_option linter.unusedSimpArgs false
set_option maxRecDepth 4000
namespace Go.D
open Las
theorem st3 {σ : Store} {t lo : Nat} {z : DV} {v : Int} (h : σ[t]? = some (.mix [z])) (hlo : lo ≤ t) : store PP lo 3 (.ptr t 0) (.p (.int .i64 v)) σ = some (σ.set t (.mix [.p (.int .i64 v)])) := by
  have e : splice [z] 0 [DV.p (.int .i64 v)] = [.p (.int .i64 v)] := rfl
  simp [store, s3, DV.cells, storeN, h, e, DV.one, hlo]
theorem st24 {σ : Store} {t lo : Nat} {z x : DV} {l : List Int} (hx : PL x l) (h : σ[t]? = some (.mix [z])) (hlo : lo ≤ t) : store PP lo 24 (.ptr t 0) x σ = some (σ.set t (.mix [x])) := by
  have e : splice [z] 0 [x] = [x] := rfl
  simp [store, s24, hx.one.2, hx.one.1, storeN, h, e, hlo]
theorem new3 {σ : Store} {lo : Nat} {z : DV} {v : Int} (hlo : lo ≤ σ.length) : store PP lo 3 (.ptr σ.length 0) (.p (.int .i64 v)) (σ ++ [.mix [z]]) = some (σ ++ [.mix [.p (.int .i64 v)]]) := by
  rw [st3 (z := z) get_snoc hlo]; simp
theorem S98 (o : OI) (σ : Store) : pureV CC 98 [.p (eSl o)] σ = some (.fn 143 [.pptr [eSl o] 0]) := by
  refine pureV_free (by simp [sl_view]) rfl (F98_call (r := (.fn 143 [.pptr [eSl o] 0], [])) ?_) ?_
  · rw [F98_eq]; rfl
  · simp [thawAll, thawPart, thaw, thaw1, mapO, loosen_sl, loosens]
theorem f44_X0_exit (G : GuardT) (lo : Nat) (x0 x2 x3 x5 x6 x7 x8 x27 x28 x29 x30 x31 x32 x33 x34 x35 x36 x37 x39 x40 x41 x42 : DV) (σ : Store) : f44_X0 G lo (.exit 2) x0 x2 x3 x5 x6 x7 x8 x27 x28 x29 x30 x31 x32 x33 x34 x35 x36 x37 x39 x40 x41 x42 σ =
 f44_J0 G lo x0 x2 x3 x5 x6 x7 x8 x27 x28 x29 σ := by kernel_rfl
theorem down_all : ∀ (cells : List PV) (k : Nat), (downFrom false 1 cells k).all (fun x => x.length == 2) = true
  | _, 0 => rfl
  | cells, k + 1 => by simp [downFrom, down_all cells k]
theorem elem_int {l : List Int} {k : Nat} (hk : k < l.length) : elemOf false 1 (eInts l) k = .p (.int .i64 (l.getD k 0)) := by
  have hx : (eInts l)[k]? = some (pI l[k]) := by simp [eInts, hk]
  have hy : l.getD k 0 = l[k] := by rw [List.getD_eq_getElem?_getD, List.getElem?_eq_getElem hk]; rfl
  rw [hy]
  simp [elemOf, hx]
def Kept (t : Nat) (σ σ' : Store) : Prop := σ'.length = σ.length ∧ ∀ j, j ≠ t → σ'[j]? = σ[j]?
section
variable {us B : List Int} {y : DV} {t i : Nat} (hB : PL y B) (ht : 0 < t) (hi : i ≤ 1000) (hBl : B.length = i) (hb2 : ∀ j, j < i → B.getD j 0 ≤ i ∧ 0 ≤ B.getD j 0)
variable {x0 x2 x3 x6 x7 x27 x28 x29 x30 x31 x32 x33 x34 x35 x36 x37 x39 x40 x41 x42 : DV}
include hB ht hi hBl hb2
theorem rounds44 {K : Ex → Store → Option (DV × Store)} : ∀ (k : Nat) (b : Int) (σ : Store), k ≤ us.length → 0 ≤ b → b ≤ i → σ[t]? = some (.mix [.p (.int .i64 b)]) → σ[0]? = some (.mix [y]) →
    ∃ ex σ', (ex = .normal ∨ ex = .exit 2) ∧ roundsK (fun xs ρ K' => f44_R0 guardT 0 x0 x2 x3 (.ptr 0 0) x6 x7 (.ptr t 0) x27 x28 x29 x30 x31 x32 x33 x34 x35 x36 x37 x39 x40 x41 x42 xs ρ K') (downFrom false 1 (eInts us) k) σ K = K ex σ' ∧
      σ'[t]? = some (.mix [.p (.int .i64 (bgB B us b k))]) ∧ Kept t σ σ'
  | 0, b, σ, hk, hb, hbi, g, g0 => ⟨.normal, σ, .inl rfl, rfl, g, rfl, fun _ _ => rfl⟩
  | k + 1, b, σ, hk, hb, hbi, g, g0 => by
    have hl : load1 (.ptr t 0) σ = some (.p (.int .i64 b)) := load1_ptr g rfl
    have hl0 : load1 (.ptr 0 0) σ = some y := load1_ptr g0 rfl
    have he := elem_int (l := us) (k := k) (by omega)
    unfold bgB
    by_cases c1 : us.getD k 0 = b - 1
    · by_cases c2 : us.getD k 0 < 0
      · rw [if_neg (fun h => h.2 c2)]
        refine ⟨.exit 2, σ.set t (.mix [.p (.int .i64 (-1))]), .inr rfl, ?_, by rw [List.getElem?_set_self (get_lt g)], by simp, fun j hj => List.getElem?_set_ne (fun e => hj e.symm)⟩
        simp only [downFrom, roundsK, he]
        rw [f44_R0_eq]
        simp (disch := omega) only [load3, hl, gG, subJ, b_neq, eqT c1, b_lss, ltT c2, st3 g (Nat.zero_le _)]
      · rw [if_pos ⟨c1, c2⟩]
        have hlt : (us.getD k 0).toNat < i := by omega
        have e1 : us.getD k 0 = ((us.getD k 0).toNat : Int) := by omega
        have i1 := hB.idx (i := (us.getD k 0).toNat) (by omega)
        have l1 := load1_getD (l := B) (i := (us.getD k 0).toNat) (by omega) σ
        rw [← e1] at i1
        obtain ⟨hb3, hb4⟩ := hb2 _ hlt
        generalize hv : B.getD (us.getD k 0).toNat 0 = v at *
        obtain ⟨ex, σ', r1, r2, r3, r4⟩ := rounds44 (K := K) k v (σ.set t (.mix [.p (.int .i64 v)])) (by omega) hb4 hb3 (by rw [List.getElem?_set_self (get_lt g)]) (by rw [List.getElem?_set_ne (by omega)]; exact g0)
        refine ⟨ex, σ', r1, ?_, r3, by rw [r4.1]; simp, fun j hj => by rw [r4.2 j hj, List.getElem?_set_ne (fun e => hj e.symm)]⟩
        rw [← r2]
        simp only [downFrom, roundsK, he]
        rw [f44_R0_eq]
        simp (disch := omega) only [load3, hl, gG, subJ, b_neq, eqT c1, b_lss, ltF c2, load24, hl0, i1, l1, st3 g (Nat.zero_le _)]
    · rw [if_neg (fun h => c1 h.1)]
      refine ⟨.exit 2, σ.set t (.mix [.p (.int .i64 (-1))]), .inr rfl, ?_, by rw [List.getElem?_set_self (get_lt g)], by simp, fun j hj => List.getElem?_set_ne (fun e => hj e.symm)⟩
      simp only [downFrom, roundsK, he]
      rw [f44_R0_eq]
      simp (disch := omega) only [load3, hl, gG, subJ, b_neq, eqF c1, st3 g (Nat.zero_le _)]
theorem range44 {o : OI} (ho : L o = us) (hu : us.length ≤ 1000) {σ : Store} (g : σ[t]? = some (.mix [.p (.int .i64 (i : Nat))])) (g0 : σ[0]? = some (.mix [y])) {K : Ex → Store → Option (DV × Store)} :
    ∃ ex σ', (ex = .normal ∨ ex = .exit 2) ∧ rangeK (pol 44) (.fn 143 [.pptr [eSl o] 0]) 2 true true (fun xs ρ K' => f44_R0 guardT 0 x0 x2 x3 (.ptr 0 0) x6 x7 (.ptr t 0) x27 x28 x29 x30 x31 x32 x33 x34 x35 x36 x37 x39 x40 x41 x42 xs ρ K') σ K = K ex σ' ∧
      σ'[t]? = some (.mix [.p (.int .i64 (bgB B us i us.length))]) ∧ Kept t σ σ' := by
  have hseq : ((pol 44).seq 143).bind (fun kind => seqList kind [.pptr [eSl o] 0]) = some (downFrom false 1 (eInts us) us.length) := by
    show seqList (.backward false 1) [.pptr [eSl o] 0] = _
    cases o with
    | none =>
      have : us = [] := ho.symm
      subst this
      rfl
    | some l =>
      have : l = us := ho
      subst this
      have h2 : l.length ≤ 140737488355328 := by omega
      simp [seqList, eSl, ints_length, h2]
  obtain ⟨ex, σ', r1, r2, r3⟩ := rounds44 hB ht hi hBl hb2 (K := K) us.length i σ (Nat.le_refl _) (by omega) (Int.le_refl _) g g0
  refine ⟨ex, σ', r1, ?_, r3⟩
  simp only [rangeK, hseq, down_all, Bool.and_self, if_true]
  exact r2
end
theorem Out.keep {σ σ' : Store} {lo sz n : Nat} {cs : List PV} {x : DV} (ho : Out σ lo sz n cs x) (h : ∀ (r v : Nat), σ[r]? = some (.tok v) → σ'[r]? = some (.tok v)) : Out σ' lo sz n cs x := by
  refine ⟨ho.1, ?_⟩
  rcases ho.2 with h1 | ⟨h1, r, ver, h2, h3, h4⟩
  · exact .inl h1
  · exact .inr ⟨h1, r, ver, h2, h _ _ h3, h4⟩
theorem map_get (g : Nat → Int) {i j : Nat} (h : j < i) : ((List.range i).map g).getD j 0 = g j := by
  simp [List.getD_eq_getElem?_getD, h]
section
variable {x : Nd} {s i m : Nat} {b : Int} {y x0 x27 : DV} {B : List Int} {σ : Store} {R : Int × Int} (gs : σ[s]? = some (.mix (ndD x))) (gb : σ[s + 1]? = some (.mix [.p (.int .i64 b)])) (g0 : σ[0]? = some (.mix [y]))
variable (ho : Out σ 0 1 B.length (eInts B) y) (hBl : B.length ≤ 1000) (hi : i ≤ 1000)
variable (hn : 0 ≤ b → ∀ (y' : DV) (σ' : Store), σ'[0]? = some (.mix [y']) → Out σ' 0 1 (B ++ [b]).length (eInts (B ++ [b])) y' → ∃ σ'', f44_L0 guardT 0 x0 (.p (.int .i64 0)) (.p (.int .i64 0)) (.ptr 0 0) x27 (N m) (N (i + 1)) σ' = some (pr2 R, σ''))
include gs gb g0 ho hBl hi hn
theorem J44_1 (x57 x58 x59 x60 x61 x62 x63 x64 x65 x66 : DV) : ∃ σ'', f44_J1 guardT 0 x0 (.p (.int .i64 0)) (.p (.int .i64 0)) (.ptr 0 0) (N i) (.ptr s 0) (.ptr (s + 1) 0) (.p (.bool (bad x))) x27 (N m) (N i) x57 x58 x59 x60 x61 x62 x63 x64 x65 x66 σ =
    some (pr2 (if (((L x.a).length : Nat) : Int) = ar x.k ∧ 0 ≤ b then if bad x = true then (((i : Nat) : Int), (3 : Int)) else R else (((i : Nat) : Int), (6 : Int))), σ'') := by
  have hb : load1 (.ptr (s + 1) 0) σ = some (.p (.int .i64 b)) := load1_ptr gb rfl
  have hl0 : load1 (.ptr 0 0) σ = some y := load1_ptr g0 rfl
  have q2 : ∀ (a c : Int) (σ : Store), pureV CC 66 [.p (.sl true 2 [pI a, pI c])] σ = some (.p (.int .i64 (orL [a, c]))) := fun a c σ => S66 (ex := true) (l := [a, c]) (by simp) σ
  rw [f44_J1_eq]
  by_cases c1 : b < 0
  · rw [if_neg (fun h => by omega)]
    refine ⟨σ, ?_⟩
    have e : orL [wrg true 6, wrg (bad x) 3] = 6 := rfl
    simp (disch := omega) only [load3, hb, gG, b_lss, ltT c1, shift_ptr, shift_pptr, Nat.zero_add, Nat.add_zero, pureFn_fn, List.append_nil, List.singleton_append, List.cons_append, List.nil_append, S67, bs160_2, q2, e, b_neq, eqF (show ¬ (6 : Int) = 0 by decide), pr2, N]
  · by_cases c2 : (((L x.a).length : Nat) : Int) = ar x.k
    · rw [if_pos ⟨c2, by omega⟩]
      by_cases c3 : bad x = true
      · rw [if_pos c3, c3]
        refine ⟨σ, ?_⟩
        have e : orL [wrg false 6, wrg true 3] = 3 := rfl
        simp (disch := omega) only [load3, hb, gG, b_lss, ltF c1, fa67_0, fa67_2, shift_ptr, shift_pptr, Nat.zero_add, Nat.add_zero, pureFn_fn, List.append_nil, List.singleton_append, List.cons_append, List.nil_append, load24, row_a gs, (PL.sl _).len, row_k gs, S99, b_neq, eqT c2, S67, bs160_2, q2, e, eqF (show ¬ (3 : Int) = 0 by decide), pr2, N]
      · rw [if_neg c3, (Bool.not_eq_true _).mp c3]
        obtain ⟨y', σ', p1, p2, p3, p4⟩ := Out.pushI (v := b) ho (by omega) (Nat.zero_le _)
        have k0 := p3.mix ho g0 (fun v h => by cases h)
        have st := st24 (out_pl p2) k0 (Nat.zero_le 0)
        obtain ⟨σ'', r⟩ := hn (by omega) y' (σ'.set 0 (.mix [y'])) (by rw [List.getElem?_set_self (get_lt k0)]) (p2.keep fun r v hr => by
          rw [List.getElem?_set_ne]
          · exact hr
          · intro e; subst e; rw [k0] at hr; injection hr with hr; cases hr)
        refine ⟨σ'', ?_⟩
        rw [← r]
        have e : orL [wrg false 6, wrg false 3] = 0 := rfl
        simp (disch := omega) only [load3, hb, gG, b_lss, ltF c1, fa67_0, fa67_2, shift_ptr, shift_pptr, Nat.zero_add, Nat.add_zero, pureFn_fn, List.append_nil, List.singleton_append, List.cons_append, List.nil_append, load24, row_a gs, (PL.sl _).len, row_k gs, S99, b_neq, eqT c2, S67, bs160_2, q2, e, eqT (rfl : (0 : Int) = 0), hl0, bs24_1, p1, st, add1, N]
    · rw [if_neg (fun h => c2 h.1)]
      refine ⟨σ, ?_⟩
      have e : orL [wrg true 6, wrg (bad x) 3] = 6 := rfl
      simp (disch := omega) only [load3, hb, gG, b_lss, ltF c1, fa67_0, fa67_2, shift_ptr, shift_pptr, Nat.zero_add, Nat.add_zero, pureFn_fn, List.append_nil, List.singleton_append, List.cons_append, List.nil_append, load24, row_a gs, (PL.sl _).len, row_k gs, S99, b_neq, eqF c2, S67, bs160_2, q2, e, eqF (show ¬ (6 : Int) = 0 by decide), pr2, N]
theorem J44 : ∃ σ'', f44_J0 guardT 0 x0 (.p (.int .i64 0)) (.p (.int .i64 0)) (.ptr 0 0) (N i) (.ptr s 0) (.ptr (s + 1) 0) x27 (N m) (N i) σ =
    some (pr2 (if (((L x.a).length : Nat) : Int) = ar x.k ∧ 0 ≤ b then if bad x = true then (((i : Nat) : Int), (3 : Int)) else R else (((i : Nat) : Int), (6 : Int))), σ'') := by
  rw [f44_J0_eq]
  by_cases c : x.k = 1
  · have e : (.p (.bool (!inR x.n 0 11)) : DV) = .p (.bool (bad x)) := by unfold bad; rw [if_pos c]
    simp only [fa67_0, fa67_1, shift_ptr, shift_pptr, Nat.zero_add, Nat.add_zero, pureFn_fn, List.append_nil, List.singleton_append, List.cons_append, List.nil_append, gG, load3, row_n gs, row_k gs, b_neq, b_eql, eqT c, S65, e]
    exact J44_1 gs gb g0 ho hBl hi hn _ _ _ _ _ _ _ _ _ _
  · have e : (.p (.bool (!decide (x.n = 0))) : DV) = .p (.bool (bad x)) := by unfold bad; rw [if_neg c]
    simp only [fa67_0, fa67_1, shift_ptr, shift_pptr, Nat.zero_add, Nat.add_zero, pureFn_fn, List.append_nil, List.singleton_append, List.cons_append, List.nil_append, gG, load3, row_n gs, row_k gs, b_neq, b_eql, eqF c, e]
    exact J44_1 gs gb g0 ho hBl hi hn _ _ _ _ _ _ _ _ _ _
end
section
variable {f : Fm} (hf : FSm f) (h40 : (L f).length ≤ 40)
include hf h40
theorem L44 : ∀ (d i : Nat) (y : DV) (σ : Store), 0 < (L f).length → (L f).length - i = d → i ≤ (L f).length → σ[0]? = some (.mix [y]) → (∀ j, j < i → 0 ≤ fo (L f) j) →
    Out σ 0 1 ((List.range i).map (fo (L f))).length (eInts ((List.range i).map (fo (L f)))) y →
    ∃ σ', f44_L0 guardT 0 (.p (eFm f)) (.p (.int .i64 0)) (.p (.int .i64 0)) (.ptr 0 0) (.p (eFm f)) (N (L f).length) (N i) σ = some (pr2 (chkF (L f) d i), σ')
  | 0, i, y, σ, hp, hd, hi, g0, hB, ho => by
    have e : i = (L f).length := by omega
    subst e
    have hy := out_pl ho
    have i1 := hy.idx (i := (L f).length - 1) (by simp; omega)
    have l1 := load1_getD (l := (List.range (L f).length).map (fo (L f))) (i := (L f).length - 1) (by simp; omega) σ
    rw [map_get _ (by omega)] at l1
    have hl0 : load1 (.ptr 0 0) σ = some y := load1_ptr g0 rfl
    refine ⟨σ, ?_⟩
    rw [f44_L0_eq guardT rfl]
    unfold chkF pr2
    by_cases c : fo (L f) ((L f).length - 1) = 0
    · rw [if_pos c]
      simp (disch := omega) only [N, len23, gG, b_lss, ltF, sub1, load24, hl0, i1, load3, l1, b_neq, eqT c]
    · rw [if_neg c]
      simp (disch := omega) only [N, len23, gG, b_lss, ltF, sub1, load24, hl0, i1, load3, l1, b_neq, eqF c]
  | d + 1, i, y, σ, hp, hd, hi, g0, hB, ho => by
    have hlt : i < (L f).length := by omega
    have h3 := hf.2 i
    have ha : L ((L f).getD i default).a = nA (L f) i := rfl
    have hnd := nd_all hlt
    rw [nd_case]
    generalize hx : (L f).getD i default = x at *
    have g : (σ ++ [Row.mix (ndD x)])[σ.length]? = some (.mix (ndD x)) := get_snoc
    have st := st67 (σ := σ) (lo := 0) (z := [.p (pI 0), .p (pI 0), .p .nilsl]) x rfl (Nat.zero_le _)
    have hs0 := get_lt g0
    by_cases c1 : inR x.k 0 9 = true
    · rw [if_pos c1]
      have st' := new3 (σ := σ ++ [Row.mix (ndD x)]) (lo := 0) (z := .p (pI 0)) (v := (i : Nat)) (Nat.zero_le _)
      have hlen : (σ ++ [Row.mix (ndD x)]).length = σ.length + 1 := by simp
      rw [hlen] at st'
      have gt : ((σ ++ [Row.mix (ndD x)]) ++ [Row.mix [.p (.int .i64 (i : Nat))]])[σ.length + 1]? = some (.mix [.p (.int .i64 (i : Nat))]) := by
        rw [← hlen]; exact get_snoc
      have g2 : ((σ ++ [Row.mix (ndD x)]) ++ [Row.mix [.p (.int .i64 (i : Nat))]])[σ.length]? = some (.mix (ndD x)) := get_old g
      have g02 : ((σ ++ [Row.mix (ndD x)]) ++ [Row.mix [.p (.int .i64 (i : Nat))]])[0]? = some (.mix [y]) := get_old (get_old g0)
      have hB2 : ∀ j, j < i → ((List.range i).map (fo (L f))).getD j 0 = fo (L f) j ∧ 0 ≤ fo (L f) j := fun j hj => ⟨map_get _ hj, hB j hj⟩
      have hB3 : ∀ j, j < i → ((List.range i).map (fo (L f))).getD j 0 ≤ i ∧ 0 ≤ ((List.range i).map (fo (L f))).getD j 0 := fun j hj => by
        rw [map_get _ hj]
        have := fo_le (L f) j
        exact ⟨by omega, hB j hj⟩
      have hbg := bgB_eq (F := L f) (us := nA (L f) i) hB2 (nA (L f) i).length i (Int.le_refl _)
      obtain ⟨ex, σ4, hex, key, k1, k2⟩ := range44 (out_pl ho) (t := σ.length + 1) (by omega) (i := i) (by omega) (by simp) hB3 (x0 := .p (eFm f)) (x2 := .p (.int .i64 0)) (x3 := .p (.int .i64 0)) (x6 := N i) (x7 := .ptr σ.length 0) (x27 := .p (eFm f)) (x28 := N (L f).length) (x29 := N i) (x30 := .p (.bool true)) (x31 := N i) (x32 := .pptr (eNds (L f)) (i * 3)) (x33 := .agg (ndD x)) (x34 := .ptr σ.length 0) (x35 := .p (.int .i64 x.k)) (x36 := .p (.bool true)) (x37 := .p (.bool false)) (x39 := N i) (x40 := .ptr σ.length 2) (x41 := .p (eSl x.a)) (x42 := .fn 143 [.pptr [eSl x.a] 0]) (o := x.a) ha (by omega) gt g02
        (K := fun ex ρ => f44_X0 guardT 0 ex (.p (eFm f)) (.p (.int .i64 0)) (.p (.int .i64 0)) (.ptr 0 0) (N i) (.ptr σ.length 0) (.ptr (σ.length + 1) 0) (.p (eFm f)) (N (L f).length) (N i) (.p (.bool true)) (N i) (.pptr (eNds (L f)) (i * 3)) (.agg (ndD x)) (.ptr σ.length 0) (.p (.int .i64 x.k)) (.p (.bool true)) (.p (.bool false)) (N i) (.ptr σ.length 2) (.p (eSl x.a)) (.fn 143 [.pptr [eSl x.a] 0]) ρ)
      have key2 := key.trans (show _ = f44_J0 guardT 0 (.p (eFm f)) (.p (.int .i64 0)) (.p (.int .i64 0)) (.ptr 0 0) (N i) (.ptr σ.length 0) (.ptr (σ.length + 1) 0) (.p (eFm f)) (N (L f).length) (N i) σ4 from by
        rcases hex with rfl | rfl
        · exact f44_X0_normal guardT 0 _ _ _ _ _ _ _ _ _ _ _ _ _ _ _ _ _ _ _ _ _ _ σ4
        · exact f44_X0_exit guardT 0 _ _ _ _ _ _ _ _ _ _ _ _ _ _ _ _ _ _ _ _ _ _ σ4)
      have hst : stands (L f) i = decide (0 ≤ bgB ((List.range i).map (fo (L f))) (nA (L f) i) i (nA (L f) i).length) := by
        rw [hbg, stands]
        cases hq : stB (L f) (nA (L f) i) i (nA (L f) i).length with
        | none => rfl
        | some q =>
          have := stB_pos _ _ _ (by omega) hq
          simp [this]
      have hJ := J44 (x := x) (s := σ.length) (i := i) (m := (L f).length) (b := bgB ((List.range i).map (fo (L f))) (nA (L f) i) i (nA (L f) i).length) (y := y) (x0 := .p (eFm f)) (x27 := .p (eFm f)) (B := (List.range i).map (fo (L f))) (σ := σ4)
        (R := chkF (L f) d (i + 1)) (by rw [k2.2 _ (by omega)]; exact g2) k1 (by rw [k2.2 _ (by omega)]; exact g02)
        (ho.keep fun r v hr => by
          have hr' := get_old (row' := Row.mix [.p (.int .i64 (i : Nat))]) (get_old (row' := Row.mix (ndD x)) hr)
          rw [k2.2 r (by have := get_lt hr; omega)]; exact hr')
        (by simp; omega) (by omega) (fun h0 y' σ' q0 qo => by
          have hs1 : stands (L f) i = true := by rw [hst, decide_eq_true h0]
          have hfo : bgB ((List.range i).map (fo (L f))) (nA (L f) i) i (nA (L f) i).length = fo (L f) i := by
            rw [hbg]
            unfold stands at hs1
            obtain ⟨q, hq⟩ := Option.isSome_iff_exists.1 hs1
            rw [hq, stands_fo hq]; rfl
          have hm : (List.range i).map (fo (L f)) ++ [fo (L f) i] = (List.range (i + 1)).map (fo (L f)) := by rw [List.range_succ, List.map_append]; rfl
          rw [hfo, hm] at qo
          rw [hfo] at h0
          exact L44 d (i + 1) y' σ' hp (by omega) (by omega) q0 (fun j hj => by
            by_cases e : j = i
            · subst e; exact h0
            · exact hB j (by omega)) qo)
      obtain ⟨σ'', hJ⟩ := hJ
      refine ⟨σ'', ?_⟩
      have hiff : ((((nA (L f) i).length : Nat) : Int) = ar x.k ∧ stands (L f) i = true) ↔ ((((L x.a).length : Nat) : Int) = ar x.k ∧ 0 ≤ bgB ((List.range i).map (fo (L f))) (nA (L f) i) i (nA (L f) i).length) := by
        rw [ha, hst, decide_eq_true_iff]
      simp only [hiff]
      rw [← hJ, ← key2, f44_L0_eq guardT rfl]
      simp (disch := omega) only [N, gG, b_lss, ltT, idx23 hlt, load67, hnd, zero67, st, fa67_0, fa67_2, shift_ptr, shift_pptr, Nat.zero_add, Nat.add_zero, pureFn_fn, List.append_nil, List.singleton_append, List.cons_append, List.nil_append, load3, row_k g, S65, c1, zero3, st', hlen, load24, row_a g2, S98]
    · rw [if_neg c1]
      refine ⟨σ ++ [Row.mix (ndD x)], ?_⟩
      rw [f44_L0_eq guardT rfl]
      simp (disch := omega) only [N, gG, b_lss, ltT, idx23 hlt, load67, hnd, zero67, st, fa67_0, shift_ptr, shift_pptr, Nat.zero_add, Nat.add_zero, pureFn_fn, List.append_nil, List.singleton_append, List.cons_append, List.nil_append, load3, row_k g, S65, (Bool.not_eq_true _).mp c1, pr2]
omit h40 in
theorem S44 (σ : Store) : pureV CC 44 [.p (eFm f)] σ = some (pr2 (chk (L f))) := by
  have h1 := hf.1
  have q2 : ∀ (a c : Int) (σ : Store), pureV CC 66 [.p (.sl true 2 [pI a, pI c])] σ = some (.p (.int .i64 (orL [a, c]))) := fun a c σ => S66 (ex := true) (l := [a, c]) (by simp) σ
  unfold chk
  by_cases c1 : (L f).length = 0
  · have c1' : ((L f).length : Int) = 0 := by omega
    have c2' : ¬ ((L f).length : Int) > 40 := by omega
    rw [if_pos c1]
    refine pureV_free (by simp [fm_view]) rfl (F44_call (r := (pr2 (0, 1), [])) ?_) rfl
    have e : orL [wrg true 1, wrg false 2] = 1 := rfl
    rw [F44_eq]
    simp only [len23, N, gG, b_eql, eqT c1', b_gtr, gtF c2', shift_ptr, shift_pptr, Nat.zero_add, Nat.add_zero, pureFn_fn, List.append_nil, List.singleton_append, List.cons_append, List.nil_append, S67, bs160_2, q2, e, b_neq, eqF (show ¬ (1 : Int) = 0 by decide), pr2]
  · have c1' : ¬ ((L f).length : Int) = 0 := by omega
    rw [if_neg c1]
    by_cases c2 : (L f).length > 40
    · have c2' : ((L f).length : Int) > 40 := by omega
      rw [if_pos c2]
      refine pureV_free (by simp [fm_view]) rfl (F44_call (r := (pr2 (0, 2), [])) ?_) rfl
      have e : orL [wrg false 1, wrg true 2] = 2 := rfl
      rw [F44_eq]
      simp only [len23, N, gG, b_eql, eqF c1', b_gtr, gtT c2', shift_ptr, shift_pptr, Nat.zero_add, Nat.add_zero, pureFn_fn, List.append_nil, List.singleton_append, List.cons_append, List.nil_append, S67, bs160_2, q2, e, b_neq, eqF (show ¬ (2 : Int) = 0 by decide), pr2]
    · have c2' : ¬ ((L f).length : Int) > 40 := by omega
      rw [if_neg c2]
      obtain ⟨σ', h⟩ := L44 hf (by omega) _ 0 (.p .nilsl) [.mix [.p .nilsl]] (by omega) rfl (Nat.zero_le _) rfl (fun j hj => by omega) Out.zero
      rw [Nat.sub_zero] at h
      refine pureV_free (by simp [fm_view]) rfl (F44_call (r := (pr2 (chkF (L f) (L f).length 0), σ')) ?_) rfl
      have e : orL [wrg false 1, wrg false 2] = 0 := rfl
      have z24 : zeroOf PP 24 = some [.p .nilsl] := Eq.trans (by kernel_rfl) rfl
      rw [F44_eq, ← h]
      simp only [len23, N, gG, b_eql, eqF c1', b_gtr, gtF c2', shift_ptr, shift_pptr, Nat.zero_add, Nat.add_zero, pureFn_fn, List.append_nil, List.singleton_append, List.cons_append, List.nil_append, S67, bs160_2, q2, e, b_neq, eqT (rfl : (0 : Int) = 0), z24, List.length_nil]
      rfl
omit h40 in
theorem S70 (σ : Store) : pureV CC 70 [.p (eFm f)] σ = some (.p (.int .i64 (chk (L f)).2)) := by
  refine pureV_free (by simp [fm_view]) rfl (F70_call (r := (.p (.int .i64 (chk (L f)).2), [])) ?_) rfl
  have ex0 : ∀ (a b : DV), extractV (.tuple [a, b]) 0 = some a := fun _ _ => rfl
  have ex1 : ∀ (a b : DV), extractV (.tuple [a, b]) 1 = some b := fun _ _ => rfl
  rw [F70_eq]
  simp only [shift_ptr, shift_pptr, Nat.zero_add, Nat.add_zero, pureFn_fn, List.append_nil, List.singleton_append, List.cons_append, List.nil_append, S44 hf, pr2, gG, ex0, ex1]
end
def ownN (x : Nd) : Nd := ⟨x.k, x.n, some (L x.a)⟩
def oF (l : List Nd) : Fm := if l = [] then none else some l
theorem L_oF (l : List Nd) : L (oF l) = l := by
  unfold oF
  split
  · rename_i h; rw [h]; rfl
  · rfl
theorem own_get (F : List Nd) (i : Nat) : L ((F.map ownN).getD i default).a = L (F.getD i default).a ∧ ((F.map ownN).getD i default).k = (F.getD i default).k ∧ ((F.map ownN).getD i default).n = (F.getD i default).n := by
  rw [List.getD_eq_getElem?_getD, List.getD_eq_getElem?_getD, List.getElem?_map]
  cases F[i]? <;> exact ⟨rfl, rfl, rfl⟩
theorem nA_own (F : List Nd) (i : Nat) : nA (F.map ownN) i = nA F i := (own_get F i).1
theorem FSm.own {f : Fm} (h : FSm f) : FSm (oF ((L f).map ownN)) := by
  refine ⟨by rw [L_oF, List.length_map]; exact h.1, fun i => ?_⟩
  rw [L_oF, nA_own]
  exact h.2 i
def eNd (x : Nd) : List PV := [pI x.k, pI x.n, eSl x.a]
theorem bs23_1 (x : Nd) (σ : Store) : buildSlice PP none 23 1 [(0, .agg (ndD x))] σ = some (.p (.sl true 1 (eNd x)), σ) := Eq.trans (by kernel_rfl) rfl
theorem st67_2 {σ : Store} {lo r : Nat} {x : Nd} {a : OI} (h : σ[r]? = some (.mix (ndD x))) (hlo : lo ≤ r) : store PP lo 24 (.ptr r 2) (.p (eSl a)) σ = some (σ.set r (.mix (ndD ⟨x.k, x.n, a⟩))) := by
  have e : splice (ndD x) 2 [DV.p (eSl a)] = ndD ⟨x.k, x.n, a⟩ := rfl
  have e3 : (ndD x).length = 3 := rfl
  simp [store, s24, DV.cells, storeN, h, e, e3, DV.one, hlo]
section
variable {f : Fm} (hf : FSm f)
include hf
theorem L19 : ∀ (d i : Nat) (y : DV) (σ : Store), (L f).length - i = d → i ≤ (L f).length → Out σ 0 3 i (eNds (((L f).take i).map ownN)) y →
    ∃ y' σ', f19_L0 guardT 0 (.p (eFm f)) y (N i) σ = some (y', σ') ∧ Out σ' 0 3 (L f).length (eNds ((L f).map ownN)) y'
  | 0, i, y, σ, hd, hi, ho => by
    have e : i = (L f).length := by omega
    subst e
    have h1 := hf.1
    rw [List.take_length] at ho
    refine ⟨y, σ, ?_, ho⟩
    rw [f19_L0_eq guardT rfl]
    simp (disch := omega) only [N, len23, gG, b_lss, ltF]
  | d + 1, i, y, σ, hd, hi, ho => by
    have h1 := hf.1
    have h2 := hf.2 i
    have hlt : i < (L f).length := by omega
    have hnd := nd_all hlt
    have ha : L ((L f).getD i default).a = nA (L f) i := rfl
    have ht : (((L f).take (i + 1)).map ownN) = ((L f).take i).map ownN ++ [ownN ((L f).getD i default)] := by
      rw [List.take_succ_eq_append_getElem hlt, List.map_append, List.getD_eq_getElem?_getD, List.getElem?_eq_getElem hlt]; rfl
    generalize hx : (L f).getD i default = x at *
    have g : (σ ++ [Row.mix (ndD x)])[σ.length]? = some (.mix (ndD x)) := get_snoc
    have st := st67 (σ := σ) (lo := 0) (z := [.p (pI 0), .p (pI 0), .p .nilsl]) x rfl (Nat.zero_le _)
    have st2 := st67_2 (lo := 0) (a := some (L x.a)) g (Nat.zero_le _)
    have e2 : (σ ++ [Row.mix (ndD x)]).set σ.length (.mix (ndD ⟨x.k, x.n, some (L x.a)⟩)) = σ ++ [Row.mix (ndD (ownN x))] := by simp [ownN]
    rw [e2] at st2
    have g2 : (σ ++ [Row.mix (ndD (ownN x))])[σ.length]? = some (.mix (ndD (ownN x))) := get_snoc
    have ho2 : Out (σ ++ [Row.mix (ndD (ownN x))]) 0 3 i (eNds (((L f).take i).map ownN)) y := ho.keep fun r v hr => get_old hr
    obtain ⟨y', σ', p1, p2, _, _⟩ := Out.push (vs := eNd (ownN x)) src23 u23 s67 bytes67 zero67 rfl (by decide) (by decide) (by decide) rfl ho2 (by omega) (Nat.zero_le _)
    have e3 : eNds (((L f).take i).map ownN) ++ eNd (ownN x) = eNds (((L f).take (i + 1)).map ownN) := by rw [ht, eNds_app]; rfl
    rw [e3] at p2
    obtain ⟨y2, σ2, r1, r2⟩ := L19 d (i + 1) y' σ' (by omega) (by omega) p2
    refine ⟨y2, σ2, ?_, r2⟩
    rw [← r1, f19_L0_eq guardT rfl]
    simp (disch := omega) only [N, len23, gG, b_lss, ltT, idx23 hlt, load67, hnd, zero67, st, fa67_2, shift_ptr, shift_pptr, Nat.zero_add, Nat.add_zero, pureFn_fn, List.append_nil, List.singleton_append, List.cons_append, List.nil_append, load24, row_a g, S52 (show (L x.a).length ≤ 1000000 by rw [ha]; omega), st2, row_nd g2, bs23_1, p1, add1]
theorem S19 (σ : Store) : pureV CC 19 [.p (eFm f)] σ = some (.p (eFm (oF ((L f).map ownN)))) := by
  obtain ⟨y, σ', h1, h2⟩ := L19 hf _ 0 (.p .nilsl) [] rfl (Nat.zero_le _) Out.zero
  refine pureV_free (by simp [fm_view]) rfl (F19_call (r := (y, σ')) ?_) ?_
  · rw [F19_eq]; exact h1
  · rw [h2.twAll, loosens_nds]
    congr 2
    unfold oF eFm
    by_cases h0 : (L f).length = 0
    · have h0' : L f = [] := List.length_eq_zero_iff.1 h0
      rw [if_pos h0, h0']; rfl
    · have h0' : ¬ (L f).map ownN = [] := fun e => h0 (by have := congrArg List.length e; simpa using this)
      rw [if_neg h0, if_neg h0']
      simp
end
end Go.D
end
/- Chapter 13: lists of truths; what the program computes on a ring of places. -/
section
set_option linter.unusedVariables false
set_option linter.unusedSimpArgs false
set_option maxRecDepth 8000
namespace Go.D
open Las
section
variable {n back : Nat} {f : List Bool} (hb : back < n) (hn : n ≤ 1000) (hf : f.length = n)
include hb hn hf
end
end Go.D
end
/- Chapter 13: Repeat over truths; sometime, always and until of the program. -/
section
set_option linter.unusedVariables false
set_option linter.unusedSimpArgs false
set_option maxRecDepth 8000
namespace Go.D
open Las
section
variable {n back : Nat} (hb : back < n) (hn : n ≤ 1000) (a b g : Nat → Bool) (σ : Store)
include hb hn
end
end Go.D
end
/- Chapter 13: truths of the program. -/
section
set_option linter.unusedVariables false
set_option linter.unusedSimpArgs false
set_option maxRecDepth 8000
namespace Go.D
open Las
end Go.D
end
/- Chapter 13: truths of the program, node by node. -/
section
set_option linter.unusedVariables false
set_option linter.unusedSimpArgs false
set_option maxRecDepth 8000
namespace Go.D
open Las
def rgD (n back : Nat) : List DV := [.p (pI n), .p (pI back)]
section
variable {σ : Store} {n back : Nat} (h : σ[0]? = some (.mix (rgD n back)))
include h
end
section
variable {n back : Nat} {W : List Int} (hb : back < n) (hn : n ≤ 1000) (hW : W.length = n) (hWb : ∀ j, j < n → 0 ≤ W.getD j 0 ∧ W.getD j 0 ≤ 4095)
include hb hn hW hWb
end
end Go.D
end
/- Chapter 13: TruthsOn and HoldsOn of the program. -/
section
set_option linter.unusedVariables false
set_option linter.unusedSimpArgs false
set_option maxRecDepth 8000
namespace Go.D
open Las
section
variable {n back : Nat} {W : List Int} (hb : back < n) (hn : n ≤ 1000) (hW : W.length = n) (hWb : ∀ j, j < n → 0 ≤ W.getD j 0 ∧ W.getD j 0 ≤ 4095) {f : Fm} (hf : FSm f) (hk : Ok (L f))
include hb hn hW hWb hf hk
end
end Go.D
end
/- Chapter 13: TruthsOn and HoldsOn of the program; the errors of both. -/
section
set_option linter.unusedVariables false
set_option linter.unusedSimpArgs false
set_option maxRecDepth 8000
namespace Go.D
open Las
structure WOk (P Q : List Int) : Prop where
  ne : 0 < Q.length
  le : P.length + Q.length ≤ 60
  rng : ∀ j, j < P.length + Q.length → 0 ≤ (P ++ Q).getD j 0 ∧ (P ++ Q).getD j 0 ≤ 4095
def says (F : List Nd) (P Q : List Int) : List Bool := tab (P.length + Q.length) (tv (tk (P.length + Q.length) P.length (P ++ Q)) F (F.length - 1))
section
variable {f : Fm} {w : Wd} (hf : FSm f)
include hf
end
end Go.D
end
/- Chapter 13: truths of the reference. -/
section
set_option linter.unusedVariables false
set_option linter.unusedSimpArgs false
set_option maxRecDepth 8000
namespace Go.D
open Las
section
variable {w : Wd} (hw : WOk (L w.p) (L w.l))
include hw
end
section
variable {w : Wd} (hw : WOk (L w.p) (L w.l)) {a b : NB} {i : Nat} (hi : i < (L w.p).length + (L w.l).length)
include hw hi
end
end Go.D
end
/- Chapter 13: a formula is guarded: by parts, and by looking up from each atom. Plain Lean. -/
section
set_option linter.unusedVariables false
set_option linter.unusedSimpArgs false
namespace Go.D
namespace Las
variable {F : List Nd} {st : List Int}
def kd (F : List Nd) (i : Nat) : Int := (F.getD i default).k
def c6 (F : List Nd) (r : Nat) : Bool := decide (kd F r = 6) && decide (kd F ((nA F r).getD 0 0).toNat = 2) && decide (kd F ((nA F ((nA F r).getD 0 0).toNat).getD 0 0).toNat = 1)
section
variable (hk : Ok F)
include hk
end
end Las
end Go.D
end
/- Equations of functions 9, 51, 112, 114, 91, 141, 53, 54, 115, 95, printed by gen.py. -/
section
set_option linter.unusedVariables false
set_option maxRecDepth 10000
namespace Go.D
open Go.Proofs
open _root_.Go.D.Code (fstC sndC)
open _root_.Go.D.Ann (left right)
end Go.D
end
/- Chapter 13: small functions of LassoGuards; the reference's Guarded. -/
section
set_option linter.unusedVariables false
set_option linter.unusedSimpArgs false
set_option maxRecDepth 8000
namespace Go.D
open Las
end Go.D
end
/- Equations of functions 7, 23, 28, 42, 79, 39, 40, 86, 88, 87, 90, 89, 41, 43, 76, 24, 92, 94, 96, 97, 138, 139, 140, 142, printed by gen.py. -/
section
set_option linter.unusedVariables false
set_option maxRecDepth 10000
namespace Go.D
open Go.Proofs
open _root_.Go.D.Code (fstC sndC)
open _root_.Go.D.Ann (left right)
end Go.D
end
/- Equations of functions 165, 167, 168, 177, printed by gen.py. -/
section
set_option linter.unusedVariables false
set_option maxRecDepth 10000
namespace Go.D
open Go.Proofs
open _root_.Go.D.Code (fstC sndC)
open _root_.Go.D.Ann (left right)
end Go.D
end
/- Chapter 13: labelled graphs as the program's values; comparing edges. -/
section
set_option linter.unusedVariables false
set_option linter.unusedSimpArgs false
set_option maxRecDepth 8000
namespace Go.D
open Las
structure Lb where
  g : Gr
  la : OI
  st : OI
  en : OI
  we : OI
  sr : OI
def edgD (e : Edg) : List DV := [.p (pI e.f), .p (pI e.t), .p (pI e.a)]
def cmpI (a b : Int) : Int := if a < b then -1 else if a > b then 1 else 0
def ordE (a b : Edg) : Int := orL [cmpI a.f b.f, cmpI a.t b.t, cmpI a.a b.a]
end Go.D
end
/- Chapter 13: whether a graph is right, by the program and by the reference. -/
section
set_option linter.unusedVariables false
set_option linter.unusedSimpArgs false
set_option maxRecDepth 8000
namespace Go.D
open Las
def okI (n : Int) (l : List Int) (i : Nat) : Bool := inR (l.getD i 0) 0 (n - 1) && (decide (i = 0) || decide (l.getD (i - 1) 0 < l.getD i 0))
def okE (n : Int) (l : List Edg) (i : Nat) : Bool := inR (l.getD i default).f 0 (n - 1) && (inR (l.getD i default).t 0 (n - 1) && (inR (l.getD i default).a 0 11 && (decide (i = 0) || decide (ordE (l.getD (i - 1) default) (l.getD i default) < 0))))
def allFrom (p : Nat → Bool) : Nat → Nat → Bool
  | _, 0 => true
  | i, k + 1 => p i && allFrom p (i + 1) k
def isG (g : Gr) : Bool := inR g.n 0 400 && decide ((L g.edges).length ≤ 2000) && allFrom (okI g.n (L g.init)) 0 (L g.init).length && allFrom (okE g.n (L g.edges)) 0 (L g.edges).length
section
variable {g : Gr} (hn : 0 ≤ g.n ∧ g.n ≤ 400) (hl : (L g.init).length ≤ 1000) (hl2 : (L g.edges).length ≤ 10000)
include hn
include hl
omit hl
include hl2
end
end Go.D
end
/- Chapter 13: which labelled graphs are right, by the program and by the reference. -/
section
set_option linter.unusedVariables false
set_option linter.unusedSimpArgs false
set_option maxRecDepth 8000
namespace Go.D
open Las
theorem int_view (n : Int) : view (.p (.int .i64 n)) = .p (.int .i64 n) := rfl
section
variable {o : OI} {m : Nat} (hl : (L o).length ≤ 1000) (hm : m ≤ 1000)
include hl hm
end
structure LSm (x : Lb) : Prop where
  i : (L x.g.init).length ≤ 1000
  e : (L x.g.edges).length ≤ 10000
  la : (L x.la).length ≤ 1000
  st : (L x.st).length ≤ 1000
  en : (L x.en).length ≤ 1000
  we : (L x.we).length ≤ 1000
  sr : (L x.sr).length ≤ 1000
section
variable {x : Lb} (hx : LSm x)
include hx
end
end Go.D
end
/- Chapter 13: the steps of a labelled graph; which behaviours are right, by the program and by the reference. -/
section
set_option linter.unusedVariables false
set_option linter.unusedSimpArgs false
set_option maxRecDepth 8000
namespace Go.D
open Las
theorem Out.ext {σ : Store} {lo sz n : Nat} {cs : List PV} {x : DV} (h : Out σ lo sz n cs x) (r : Row) : Out (σ ++ [r]) lo sz n cs x := by
  obtain ⟨h1, h2⟩ := h
  refine ⟨h1, ?_⟩
  rcases h2 with h2 | ⟨h0, r', v, h2, h3, h4⟩
  · exact .inl h2
  · exact .inr ⟨h0, r', v, h2, get_old h3, h4⟩
section
variable {x : Lb} (hx : LSm x)
include hx
end
section
variable {x : Lb} (hx : LSm x)
include hx
end
section
variable {x : Lb} (hx : LSm x) {w : Wd} (hl : (L w.p).length + (L w.l).length ≤ 1000) (hn : 0 ≤ x.g.n ∧ x.g.n ≤ 400) (hq : 0 < (L w.l).length)
include hx hl
include hn hq
omit hn hq
include hn hq
omit hn hq
end
end Go.D
end
/- Equations of functions 10, 55, 56, 57, 58, 59, 116, 117, 118, 119, 120, 121, 157, 158, 159, 160, 161, 162, 163, 164, 175, 176, 184, printed by gen.py. -/
section
set_option linter.unusedVariables false
set_option maxRecDepth 10000
namespace Go.D
open Go.Proofs
open _root_.Go.D.Code (fstC sndC)
open _root_.Go.D.Ann (left right)
end Go.D
end
/- Chapter 13: lists that are values or slices of rows. -/
section
set_option linter.unusedVariables false
set_option linter.unusedSimpArgs false
set_option maxRecDepth 8000
namespace Go.D
open Las
def RL (σ : Store) (x : DV) (l : List Int) : Prop := (∃ o, x = .p (eSl o) ∧ L o = l) ∨ ∃ r off, x = .rsl r 1 off l.length ∧ RowS σ r off l
theorem RL.sl (σ : Store) (o : OI) : RL σ (.p (eSl o)) (L o) := .inl ⟨o, rfl, rfl⟩
section
variable {σ : Store} {x : DV} {l : List Int}
theorem RL.vw (h : RL σ x l) : view x = x := by
  rcases h with ⟨o, rfl, _⟩ | ⟨r, off, rfl, _⟩
  · exact sl_view o
  · rfl
theorem RL.len (h : RL σ x l) (τ : Store) : D.len PP 24 x τ = some (.p (.int .i64 (l.length : Nat))) := by
  rcases h with ⟨o, rfl, rfl⟩ | ⟨r, off, rfl, _⟩
  · exact len24 o τ
  · exact rs_len _ _ _ _
theorem RL.get (h : RL σ x l) {i : Nat} (hi : i < l.length) : ∃ p, indexAddr PP 24 x (.p (.int .i64 (i : Nat))) = some p ∧ load1 p σ = some (.p (.int .i64 (l.getD i 0))) := by
  rcases h with ⟨o, rfl, rfl⟩ | ⟨r, off, rfl, ⟨A, h1, h2, h3⟩⟩
  · exact ⟨_, (PL.sl o).idx hi, load1_getD hi σ⟩
  · refine ⟨_, rs_idx hi, ?_⟩
    rw [rs_ld h1 (by omega)]
    have e : l.getD i 0 = A.getD (off + i) 0 := by
      have : ((A.drop off).take l.length).getD i 0 = l.getD i 0 := by rw [h2]
      rw [← this, List.getD_eq_getElem?_getD, List.getD_eq_getElem?_getD, List.getElem?_take, if_pos hi, List.getElem?_drop]
    rw [e]
theorem RL.src (h : RL σ x l) : source σ 1 x = some (l.length, ints l) := by
  rcases h with ⟨o, rfl, rfl⟩ | ⟨r, off, rfl, ⟨A, h1, h2, h3⟩⟩
  · exact (PL.sl o).src σ
  · have h4 : off + l.length * 1 ≤ (ints A).length := by rw [ints_len]; omega
    have h5 : ((ints A).drop off).take (l.length * 1) = ints l := by rw [Nat.mul_one, ints_drop, ints_take, h2]
    simp only [source, if_true, loadN, h1, if_pos h4, h5, Option.map_some]
theorem RL.ext (h : RL σ x l) (τ : Store) : RL (σ ++ τ) x l := by
  rcases h with h | ⟨r, off, rfl, ⟨A, h1, h2, h3⟩⟩
  · exact .inl h
  · exact .inr ⟨r, off, rfl, ⟨A, by rw [List.getElem?_append_left (List.getElem?_eq_some_iff.1 h1).1]; exact h1, h2, h3⟩⟩
theorem RL.one (h : RL σ x l) : x.one = true := by
  rcases h with ⟨o, rfl, _⟩ | ⟨r, off, rfl, _⟩ <;> rfl
theorem RL.undef (h : RL σ x l) : x.isUndef = false := by
  rcases h with ⟨o, rfl, _⟩ | ⟨r, off, rfl, _⟩ <;> rfl
end
section
variable {x : DV} {l : List Int} {f : FuncId} {caps : List DV} {σ : Store} {q : Int → Bool} (hx : RL σ x l) (hl : l.length ≤ 100000) (hc : caps.all rowFree1 = false) (hq : ∀ v, pureV CC f (.p (.int .i64 v) :: caps) σ = some (.p (.bool (q v))))
include hx hl hq
include hc
end
section
variable {o : Option (List Edg)} {f : FuncId} {caps : List DV} {σ : Store} {q : Edg → Bool} (hl : (L o).length ≤ 100000) (hc : caps.all rowFree1 = true) (hq : ∀ e, pureV CC f (.agg (edgD e) :: caps) σ = some (.p (.bool (q e))))
include hl hq
end
section
variable {o : Option (List Edg)} {f : FuncId} {caps : List DV} {q : Edg → Bool} (hl : (L o).length ≤ 100000) (hc : caps.all rowFree1 = true) (hq : ∀ e, pureV CC f (.agg (edgD e) :: caps) [] = some (.p (.bool (q e))))
include hl hq hc
end
section
variable {x : Lb} (hx : LSm x) {q : DV} {Q : List Int}
include hx
end
end Go.D
end
/- Chapter 13: formulas put together, in plain Lean. -/
section
set_option linter.unusedVariables false
set_option linter.unusedSimpArgs false
namespace Go.D
namespace Las
structure Emb (F : List Nd) (d : Nat) (H : List Nd) : Prop where
  le : d + F.length ≤ H.length
  k : ∀ i, i < F.length → (H.getD (d + i) default).k = (F.getD i default).k
  n : ∀ i, i < F.length → (H.getD (d + i) default).n = (F.getD i default).n
  a : ∀ i, i < F.length → nA H (d + i) = (nA F i).map (· + (d : Int))
section
variable {F H : List Nd} {d : Nat} (he : Emb F d H)
include he
end
theorem ok_chk {F : List Nd} (h : Ok F) : (chk F).2 = 0 := by
  have key : ∀ (d i : Nat), i + d = F.length → (chkF F d i).2 = 0 := by
    intro d
    induction d with
    | zero => intro i _; unfold chkF; rw [if_pos h.fst]
    | succ d ih =>
      intro i hi
      have hg := h.good i (by omega)
      unfold chkF
      rw [if_pos hg.k, if_pos ⟨hg.a, hg.s⟩, if_neg (by rw [hg.b]; simp)]
      exact ih (i + 1) (by omega)
  have hp := h.pos
  have hl := h.le
  unfold chk
  rw [if_neg (by omega), if_neg (by omega)]
  exact key _ 0 (Nat.zero_add _)
end Las
end Go.D
end
/- Equations of functions 6, 36, 37, 38, printed by gen.py. -/
section
set_option linter.unusedVariables false
set_option maxRecDepth 10000
namespace Go.D
open Go.Proofs
open _root_.Go.D.Code (fstC sndC)
open _root_.Go.D.Ann (left right)
end Go.D
end
/- Chapter 13: fairness, by the program and by the reference. -/
section
set_option linter.unusedVariables false
set_option linter.unusedSimpArgs false
set_option maxRecDepth 8000
namespace Go.D
open Las
section
variable {x : Lb} (hx : LSm x) {q : DV} {Q : List Int} {σ : Store} (hq : RL σ q Q) (hl : Q.length ≤ 1000)
include hx hq hl
end
section
variable {x : Lb} (hx : LSm x) {p q : DV} {Q : List Int} (hl : Q.length ≤ 1000)
include hx hl
end
section
variable {x : Lb} (hx : LSm x) {w : Wd} (hl : (L w.l).length ≤ 1000)
include hx hl
end
end Go.D
end
/- Chapter 13: letters of steps: plain terms, and atoms put into letters. -/
section
set_option linter.unusedVariables false
set_option linter.unusedSimpArgs false
set_option maxRecDepth 8000
namespace Go.D
open Las
def okL (c : Int) : Prop := 0 ≤ c ∧ c ≤ 4095
def okAt (n : Int) : Prop := -1 ≤ n ∧ n ≤ 11
def tb (c : Int) (k : Nat) : Bool := c.toNat.testBit k
structure LbOk (x : Lb) : Prop where
  g : isG x.g = true
  n : x.g.n ≤ 60
  la : ((L x.la).length : Int) = x.g.n
  se : (L x.st).length = (L x.en).length
  s12 : (L x.st).length ≤ 12
  lv : ∀ i, i < (L x.la).length → okL ((L x.la).getD i 0)
  sv : ∀ i, i < (L x.st).length → okAt ((L x.st).getD i 0)
  ev : ∀ i, i < (L x.en).length → okAt ((L x.en).getD i 0)
  av : ∀ i, i < (L x.g.edges).length → 0 ≤ ((L x.g.edges).getD i default).a ∧ ((L x.g.edges).getD i default).a < (L x.st).length
section
variable {x : Lb} (hk : LbOk x)
include hk
end
end Go.D
end
/- Chapter 13: the word of a behaviour, by the program and by the reference. -/
section
set_option linter.unusedVariables false
set_option linter.unusedSimpArgs false
set_option maxRecDepth 8000
namespace Go.D
open Las
section
variable {x : Lb} (hx : LSm x) (hk : LbOk x)
include hx hk
end
end Go.D
end
/- Equations of functions 12, printed by gen.py. -/
section
set_option linter.unusedVariables false
set_option maxRecDepth 10000
namespace Go.D
open Go.Proofs
noncomputable section
variable (G : GuardT) (lo : Nat) {σ : Store} {r : DV × Store}
open _root_.Go.D.Code (fstC sndC)
open _root_.Go.D.Ann (left right)
def lstr0 : ByteArray := ⟨#[40, 112, 48, 32, 126, 62, 32, 60, 62, 112, 49, 41]⟩
def c12_0 : Code := bodyOf Tryz.f12
def a12_0 : Ann := (pol 12).ann
def F12 (σ : Store) : RS :=
 codeF G PP (pol 12) CC lo c12_0 a12_0 (zn 80 []) σ (finR PP Tryz.f12.results.toList)
theorem F12_eq (G : GuardT) (lo : Nat) (σ : Store) : F12 G lo σ =
 (pureFn CC (DV.fn 48 []) [(DV.p (PV.str lstr0))] σ).bind fun x11 =>
 (extractV x11 0).bind fun x12 =>
 (extractV x11 1).bind fun x13 =>
 (extractV x11 2).bind fun x14 =>
 (pureFn CC (DV.fn 62 []) [I0] σ).bind fun x16 =>
 (pureFn CC (DV.fn 62 []) [I1] σ).bind fun x17 =>
 (buildSlice PP none 64 2 [(0, x16), (1, x17)] σ).bind fun r18_1 =>
 (pureFn CC (DV.fn 38 []) [(DV.p (PV.int IntKind.i64 (8))), r18_1.1] r18_1.2).bind fun x19 =>
 (buildSlice PP none 24 2 [(0, I0), (1, I1)] r18_1.2).bind fun r20_2 =>
 (buildSlice PP none 24 2 [(0, (DV.p (PV.int IntKind.i64 (2)))), (1, I0)] r20_2.2).bind fun r21_3 =>
 (build PP 26 [(0, r20_2.1), (1, r21_3.1)]).bind fun x22 =>
 (pureFn CC (DV.fn 20 []) [x19, x22] r21_3.2).bind fun x23 =>
 (extractV x23 0).bind fun x24 =>
 (extractV x23 1).bind fun x25 =>
 (buildSlice PP none 24 3 [(0, I1), (1, I1), (2, (DV.p (PV.int IntKind.i64 (2))))] r21_3.2).bind fun r27_4 =>
 (buildSlice PP none 24 3 [(0, (DV.p (PV.int IntKind.i64 (3)))), (1, (DV.p (PV.int IntKind.i64 (2)))), (2, (DV.p (PV.int IntKind.i64 (2))))] r27_4.2).bind fun r28_5 =>
 (build PP 26 [(0, r27_4.1), (1, r28_5.1)]).bind fun x29 =>
 (pureFn CC (DV.fn 32 []) [x29] r28_5.2).bind fun x30 =>
 (extractV x30 0).bind fun x31 =>
 (extractV x30 1).bind fun x32 =>
 (zeroOf PP 26).bind fun z6 =>
 (store PP lo 26 (DV.ptr (List.length r28_5.2) 0) x31 (r28_5.2 ++ [Row.mix z6])).bind fun σ6 =>
 (pureFn CC (DV.fn 63 []) [(DV.p PV.nilsl)] σ6).bind fun x34 =>
 (pureFn CC (DV.fn 62 []) [I0] σ6).bind fun x35 =>
 (buildSlice PP none 64 1 [(0, x35)] σ6).bind fun r36_7 =>
 (pureFn CC (DV.fn 38 []) [(DV.p (PV.int IntKind.i64 (7))), r36_7.1] r36_7.2).bind fun x37 =>
 (pureFn CC (DV.fn 27 []) [x34, x37, (DV.p (PV.int IntKind.i64 (2)))] r36_7.2).bind fun x38 =>
 (extractV x38 0).bind fun x39 =>
 (extractV x38 1).bind fun x40 =>
 (zeroOf PP 52).bind fun z8 =>
 (store PP lo 52 (DV.ptr (List.length r36_7.2) 0) x39 (r36_7.2 ++ [Row.mix z8])).bind fun σ8 =>
 (binOp PP .eql 30 x14 I0).bind fun x42 =>
 G _ x42 true (some (x13, σ8)) σ8 fun x44 σ9 =>
 G _ x42 true ((binOp PP .eql 3 x44 (DV.p (PV.int IntKind.i64 (12)))).bind fun v => some (v, σ9)) σ9 fun x45 σ10 =>
 (pickV x42 x45 (DV.p (PV.bool false))).bind fun x46 =>
 G _ x46 true (some (x12, σ10)) σ10 fun x48 σ11 =>
 G _ x46 true ((len PP 23 x48 σ11).bind fun v => some (v, σ11)) σ11 fun x49 σ12 =>
 G _ x46 true ((binOp PP .eql 3 x49 (DV.p (PV.int IntKind.i64 (4)))).bind fun v => some (v, σ12)) σ12 fun x50 σ13 =>
 (pickV x46 x50 (DV.p (PV.bool false))).bind fun x51 =>
 G _ x51 true (some (x25, σ13)) σ13 fun x53 σ14 =>
 G _ x51 true ((binOp PP .eql 30 x53 I0).bind fun v => some (v, σ14)) σ14 fun x54 σ15 =>
 (pickV x51 x54 (DV.p (PV.bool false))).bind fun x55 =>
 G _ x55 true (some (x24, σ15)) σ15 fun x57 σ16 =>
 (pickV x55 x57 (DV.p (PV.bool false))).bind fun x58 =>
 G _ x58 true (some (x32, σ16)) σ16 fun x60 σ17 =>
 G _ x58 true ((binOp PP .eql 30 x60 I0).bind fun v => some (v, σ17)) σ17 fun x61 σ18 =>
 (pickV x58 x61 (DV.p (PV.bool false))).bind fun x62 =>
 G _ x62 true ((load PP 26 (DV.ptr (List.length r28_5.2) 0) σ18).bind fun v => some (v, σ18)) σ18 fun x64 σ19 =>
 G _ x62 true ((buildSlice PP none 24 1 [(0, I1)] σ19).bind fun r => some (r.1, r.2)) σ19 fun x65 σ20 =>
 G _ x62 true ((buildSlice PP none 24 2 [(0, (DV.p (PV.int IntKind.i64 (2)))), (1, (DV.p (PV.int IntKind.i64 (3))))] σ20).bind fun r => some (r.1, r.2)) σ20 fun x66 σ21 =>
 G _ x62 true ((build PP 26 [(0, x65), (1, x66)]).bind fun v => some (v, σ21)) σ21 fun x67 σ22 =>
 G _ x62 true ((pureFn CC (DV.fn 33 []) [x64, x67] σ22).bind fun v => some (v, σ22)) σ22 fun x68 σ23 =>
 (pickV x62 x68 (DV.p (PV.bool false))).bind fun x69 =>
 G _ x69 true (some (x40, σ23)) σ23 fun x71 σ24 =>
 G _ x69 true ((binOp PP .eql 30 x71 I0).bind fun v => some (v, σ24)) σ24 fun x72 σ25 =>
 (pickV x69 x72 (DV.p (PV.bool false))).bind fun x73 =>
 G _ x73 true ((load PP 52 (DV.ptr (List.length r36_7.2) 0) σ25).bind fun v => some (v, σ25)) σ25 fun x75 σ26 =>
 G _ x73 true ((buildSlice PP none 24 1 [(0, I0)] σ26).bind fun r => some (r.1, r.2)) σ26 fun x76 σ27 =>
 G _ x73 true ((build PP 52 [(1, x76)]).bind fun v => some (v, σ27)) σ27 fun x77 σ28 =>
 G _ x73 true ((pureFn CC (DV.fn 29 []) [x75, x77] σ28).bind fun v => some (v, σ28)) σ28 fun x78 σ29 =>
 (pickV x73 x78 (DV.p (PV.bool false))).bind fun x79 =>
 some (x79, σ29) := by kernel_rfl
theorem F12_call {lo : Nat} (h : F12 guardT lo σ = some r) : CC lo 12 [] σ = some r :=
 callL_run Tryz.func12 (by decide +kernel) rfl (by decide +kernel) h
end
end Go.D
end
