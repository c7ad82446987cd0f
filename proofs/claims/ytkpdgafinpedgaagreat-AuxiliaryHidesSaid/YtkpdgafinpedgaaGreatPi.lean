/- AuxiliaryHides: for every extended graph and every path the law answers true and leaves its arguments as they were: the given statement, without conditions. -/
import Derived.Test.YtkpdgafinpedgaaGreatPd
import Derived.Test.YtkpdgafinpedgaaGreatPc
import Derived.Test.YtkpdgafinpedgaaGreatPf
import Derived.Test.YtkpdgafinpedgaaGreatPg
import Derived.Test.YtkpdgafinpedgaaGreatPh
/- Chapter 22: errors of paths, ticks, and hidden paths. -/
section
set_option linter.unusedVariables false
set_option linter.unusedSimpArgs false
namespace Go.D
def badN (g : Gr) (v : Int) : Bool := !inR v 0 (pred g.n)
def stpK (g : Gr) (p : List Int) (i : Nat) : Bool := (L g.edges).any (stepB (p.getD (i - 1) 0) (p.getD i 0))
def pthE (g : Gr) (p : List Int) : Int :=
  if p.length = 0 then 1 else if p.length > 60 then 2 else if p.any (badN g) = true then 3 else if (hasI (L g.init) (p.getD 0 0) && allFrom (stpK g p) 1 (p.length - 1)) = true then 0 else 14
theorem idx_ne {α : Type} (q : α → Bool) (l : List α) : (!decide (idxFrom q l 0 = -1)) = l.any q := by
  rw [← idxFrom_ge q l 0]
  have h : ∀ (l : List α) (i : Nat), idxFrom q l i = -1 ∨ 0 ≤ idxFrom q l i := by
    intro l
    induction l with
    | nil => exact fun i => .inl rfl
    | cons a l ih =>
      intro i
      unfold idxFrom
      split
      · right; omega
      · exact ih (i + 1)
  rcases h l 0 with h | h
  · rw [h]; rfl
  · have h1 : ¬ idxFrom q l 0 = -1 := by omega
    have h2 : idxFrom q l 0 ≥ 0 := h
    simp [h1, h2]
theorem idx_lt {α : Type} (q : α → Bool) (l : List α) : decide (idxFrom q l 0 < 0) = !l.any q := by
  rw [← idxFrom_ge q l 0]
  by_cases h : idxFrom q l 0 < 0
  · have h2 : ¬ idxFrom q l 0 ≥ 0 := by omega
    simp [h, h2]
  · have h2 : idxFrom q l 0 ≥ 0 := by omega
    simp [h, h2]
theorem box_int (n : Int) : boxV (.p (.int .i64 n)) = some [.p (.int .i64 n)] := rfl
theorem S55 {g : Gr} {s t : Int} {σ : Store} (he : (L g.edges).length ≤ 10000) : pureV CC 55 [.agg (eGr g), .p (pI s), .p (pI t)] σ = some (.p (pI (idxFrom (stepB s t) (L g.edges) 0))) := by
  refine pureV_free (by simp [gr_view]; exact ⟨rfl, rfl⟩) rfl (F55_call (r := (.p (pI (idxFrom (stepB s t) (L g.edges) 0)), [Row.mix (eGr g), Row.mix [.p (pI s)], Row.mix [.p (pI t)]])) ?_) rfl
  have g0 : ([Row.mix (eGr g), Row.mix [.p (pI s)], Row.mix [.p (pI t)]] : Store)[0]? = some (.mix (eGr g)) := rfl
  have g1 : ([Row.mix (eGr g), Row.mix [.p (pI s)], Row.mix [.p (pI t)]] : Store)[1]? = some (.mix [.p (pI s)]) := rfl
  have g2 : ([Row.mix (eGr g), Row.mix [.p (pI s)], Row.mix [.p (pI t)]] : Store)[2]? = some (.mix [.p (pI t)]) := rfl
  rw [F55_eq]
  simp only [box_gr, box_int, obind, List.length_nil, List.nil_append, List.length_cons, List.cons_append, Nat.reduceAdd]
  generalize ([Row.mix (eGr g), Row.mix [.p (pI s)], Row.mix [.p (pI t)]] : Store) = τ at *
  have h90 : pureV CC 90 [.p (eEs g.edges), .fn 91 [.ptr 1 0, .ptr 2 0]] τ = some (.p (pI (idxFrom (stepB s t) (L g.edges) 0))) := S90 he (by
    rintro σ0 (⟨_, hb⟩ | rfl) e
    · simp [rowFree1] at hb
    · exact S91 g1 g2)
  simp only [fa25_2, shift_ptr, shift_pptr, Nat.zero_add, Nat.add_zero, pureFn_fn, List.append_nil, List.singleton_append, List.cons_append, List.nil_append, load23, load1_ptr (off := 2) g0 rfl, h90, obind]
theorem S87b {g : Gr} {o : OI} {σ : Store} (h : σ[0]? = some (.mix (eGr g))) (hl : (L o).length ≤ 1000) : pureV CC 86 [.p (eSl o), .fn 87 [.ptr 0 0]] σ = some (.p (.bool ((L o).any (badN g)))) := S86 hl (by
  rintro σ0 (⟨_, hb⟩ | rfl) v
  · simp [rowFree1] at hb
  · exact S87 h)
theorem slice1 {o : OI} (h : 1 ≤ (L o).length) : ∃ v, sliceOp PP 22 (.p (eSl o)) (some (.p (.int .i64 1))) none none = some v ∧ ∀ σ, len PP 22 v σ = some (.p (.int .i64 ((L o).length - 1 : Nat))) := by
  cases o with
  | none => simp at h
  | some l =>
    have h1 : (1 : Int) ≤ (l.length : Nat) := by simp at h; omega
    have hl : 1 ≤ l.length := by simpa using h
    refine ⟨_, by simp [sliceOp, u22, s3, bound, eSl, h1, hl]; rfl, fun σ => by simp [len, u22]⟩
theorem bs143_3' (a b c : Int) (σ : Store) : buildSlice PP none 143 3 [(0, .p (pI a)), (1, .p (pI b)), (2, .p (pI c))] σ = some (.p (.sl true 3 (eInts [a, b, c])), σ) := bs143_3 a b c σ
theorem gr_all {σ : Store} {g : Gr} (h : σ[0]? = some (.mix (eGr g))) : load PP 25 (.ptr 0 0) σ = some (.agg (eGr g)) := by rw [load25, loadN_ptr (vs := eGr g) h rfl (by simp [eGr])]; rfl
theorem L54 {g : Gr} {o : OI} {σ : Store} (h : σ[0]? = some (.mix (eGr g))) (he : (L g.edges).length ≤ 10000) (hl : (L o).length ≤ 1000) (lo : Nat) :
    ∀ (k i : Nat) (b : Bool), (L o).length - 1 - i = k → i + 1 ≤ (L o).length → f54_L0 guardT lo (.p (eSl o)) (.ptr 0 0) (.p (.bool b)) (.p (.int .i64 ((L o).length - 1 : Nat))) (N i) σ = some (.p (pI (if (b && allFrom (stpK g (L o)) (i + 1) k) = true then 0 else 14)), σ)
  | 0, i, b, hk, hi => by
    have hn : ¬ ((i : Int) < ((L o).length - 1 : Nat)) := by omega
    rw [f54_L0_eq guardT rfl]
    simp only [N, b_lss, ltF hn, guard_tt, guard_ff, guard_tf, guard_ft, guard_sk, obind, omap, pickV_true, pickV_false, condK_true, condK_false, decide_true, decide_false, Bool.not_true, Bool.not_false, not_bool, shift_ptr, shift_pptr, Nat.zero_add, Nat.add_zero, pureFn_fn, List.append_nil, List.singleton_append, List.cons_append, List.nil_append, S73, allFrom, Bool.and_true]
  | k + 1, i, b, hk, hi => by
    have hlt : (i : Int) < ((L o).length - 1 : Nat) := by omega
    have h0 : i < (L o).length := by omega
    have h1 : i + 1 < (L o).length := by omega
    have ih := fun b => L54 h he hl lo k (i + 1) b (by omega) (by omega)
    rw [f54_L0_eq guardT rfl, allFrom]
    cases b with
    | false =>
      simp (disch := omega) only [N, b_lss, ltT hlt, guard_tt, guard_ff, guard_tf, guard_ft, guard_sk, obind, omap, pickV_true, pickV_false, condK_true, condK_false, decide_true, decide_false, Bool.not_true, Bool.not_false, not_bool, add1]
      refine (ih _).trans ?_
      simp only [Bool.false_and]
    | true =>
      simp (disch := omega) only [N, b_lss, ltT hlt, guard_tt, guard_ff, guard_tf, guard_ft, guard_sk, obind, omap, pickV_true, pickV_false, condK_true, condK_false, decide_true, decide_false, Bool.not_true, Bool.not_false, not_bool, gr_all h, idxL, load3, ldL, add1, shift_ptr, shift_pptr, Nat.zero_add, Nat.add_zero, pureFn_fn, List.append_nil, List.singleton_append, List.cons_append, List.nil_append, S55 he, b_neq, idx_ne]
      refine (ih _).trans ?_
      simp only [Bool.true_and, stpK, Nat.add_sub_cancel]
theorem S54 {g : Gr} {o : OI} {σ : Store} (hl : (L o).length ≤ 1000) (hi : (L g.init).length ≤ 1000) (he : (L g.edges).length ≤ 10000) : pureV CC 54 [.agg (eGr g), .p (eSl o)] σ = some (.p (pI (pthE g (L o)))) := by
  have g0 : ([Row.mix (eGr g)] : Store)[0]? = some (.mix (eGr g)) := rfl
  refine pureV_free (by simp [gr_view, sl_view]) rfl (F54_call (r := (.p (pI (pthE g (L o))), [.mix (eGr g)])) ?_) rfl
  rw [F54_eq]
  simp only [box_gr, obind, List.length_nil, List.nil_append]
  generalize ([Row.mix (eGr g)] : Store) = τ at *
  have h53 : ∀ (a b c : Int) (σ : Store), pureV CC 53 [.p (.sl true 3 (eInts [a, b, c]))] σ = some (.p (pI (orL [a, b, c]))) := fun a b c σ => S53t (l := [a, b, c]) rfl (by simp)
  simp only [shift_ptr, shift_pptr, Nat.zero_add, Nat.add_zero, pureFn_fn, List.append_nil, List.singleton_append, List.cons_append, List.nil_append, S87b g0 hl, len22, b_gtr, b_leq, S73, not_bool, guard_tt, guard_ff, guard_tf, guard_ft, guard_sk, obind, omap, pickV_true, pickV_false, condK_true, condK_false, decide_true, decide_false, Bool.not_true, Bool.not_false, not_bool, bs143_3', h53, b_neq]
  unfold pthE
  by_cases h1 : (L o).length = 0
  · have h1' : ¬ ((L o).length : Int) > 0 := by omega
    rw [if_pos h1, decide_eq_false h1']
    simp only [Bool.false_eq_true, if_false, orL, guard_tt, guard_ff, guard_tf, guard_ft, guard_sk, obind, omap, pickV_true, pickV_false, condK_true, condK_false, decide_true, decide_false, Bool.not_true, Bool.not_false, not_bool]
    rfl
  · have h1' : ((L o).length : Int) > 0 := by omega
    rw [if_neg h1, decide_eq_true h1']
    by_cases h2 : (L o).length > 60
    · have h2' : ¬ ((L o).length : Int) ≤ 60 := by omega
      rw [if_pos h2, decide_eq_false h2']
      simp only [Bool.false_eq_true, if_false, if_true, orL, guard_tt, guard_ff, guard_tf, guard_ft, guard_sk, obind, omap, pickV_true, pickV_false, condK_true, condK_false, decide_true, decide_false, Bool.not_true, Bool.not_false, not_bool]
      rfl
    · have h2' : ((L o).length : Int) ≤ 60 := by omega
      rw [if_neg h2, decide_eq_true h2']
      cases h3 : (L o).any (badN g) with
      | true =>
        simp only [guard_tt, guard_ff, guard_tf, guard_ft, guard_sk, obind, omap, pickV_true, pickV_false, condK_true, condK_false, decide_true, decide_false, Bool.not_true, Bool.not_false, not_bool, Bool.false_eq_true, if_false, if_true, orL]
        rfl
      | false =>
        obtain ⟨v, hv1, hv2⟩ := slice1 (o := o) (by omega)
        have hx0 : indexAddr PP 22 (.p (eSl o)) (.p (.int .i64 0)) = some (.pptr (eInts (L o)) 0) := idxL (i := 0) (by omega)
        have hld := fun σ => ldL (o := o) (i := 0) (by omega) σ
        have hL := L54 g0 he hl 0 ((L o).length - 1) 0 (hasI (L g.init) ((L o).getD 0 0)) rfl (by omega)
        have hL : f54_L0 guardT 0 (.p (eSl o)) (.ptr 0 0) (.p (.bool (hasI (L g.init) ((L o).getD 0 0)))) (.p (.int .i64 ((L o).length - 1 : Nat))) (.p (.int .i64 0)) τ = _ := hL
        simp only [guard_tt, guard_ff, guard_tf, guard_ft, guard_sk, obind, omap, pickV_true, pickV_false, condK_true, condK_false, decide_true, decide_false, Bool.not_true, Bool.not_false, not_bool, Bool.false_eq_true, if_false, if_true, orL, eqT (rfl : (0 : Int) = 0), fa25_1, shift_ptr, shift_pptr, Nat.zero_add, Nat.add_zero, pureFn_fn, List.append_nil, List.singleton_append, List.cons_append, List.nil_append, load22, load1_ptr (off := 1) g0 rfl, hx0, load3, hld, S89 hi, hv1, hv2, hL]

/-! ### The reference's paths -/
theorem L63 {g : Gr} {s t : Int} {σ : Store} {lo : Nat} (h0 : σ[0]? = some (.mix (eGr g))) (hl : (L g.edges).length ≤ 10000) :
    ∀ (k i : Nat), (L g.edges).length - i = k → i ≤ (L g.edges).length → f63_L0 guardT lo (.p (pI s)) (.p (pI t)) (.ptr 0 0) (N i) σ = some (.p (pI (idxFrom (stepB s t) ((L g.edges).drop i) i)), σ)
  | 0, i, hk, hi => by
    have hn : ¬ ((i : Int) < ((L g.edges).length : Nat)) := by omega
    rw [f63_L0_eq guardT rfl, List.drop_of_length_le (by omega)]
    simp only [N, fa25_2, shift_ptr, shift_pptr, Nat.zero_add, Nat.add_zero, pureFn_fn, List.append_nil, List.singleton_append, List.cons_append, List.nil_append, load23, load1_ptr (off := 2) h0 rfl, len23, b_lss, ltF hn, guard_tt, guard_ff, guard_tf, guard_ft, guard_sk, obind, omap, pickV_true, pickV_false, condK_true, condK_false, decide_true, decide_false, Bool.not_true, Bool.not_false, not_bool, idxFrom]
  | k + 1, i, hk, hi => by
    have h : i < (L g.edges).length := by omega
    have h' : (i : Int) < ((L g.edges).length : Nat) := by omega
    obtain ⟨g1, g2, g3⟩ := edgs_get (L g.edges) i h
    have ih := L63 (s := s) (t := t) (lo := lo) h0 hl k (i + 1) (by omega) (by omega)
    have ih : f63_L0 guardT lo (.p (pI s)) (.p (pI t)) (.ptr 0 0) (.p (.int .i64 ((i + 1 : Nat)))) σ = _ := ih
    rw [f63_L0_eq guardT rfl, drop_cons h, idxFrom]
    simp only [N, fa25_2, fa69_0, shift_ptr, shift_pptr, Nat.zero_add, Nat.add_zero, pureFn_fn, List.append_nil, List.singleton_append, List.cons_append, List.nil_append, load23, load1_ptr (off := 2) h0 rfl, len23, b_lss, ltT h', guard_tt, guard_ff, guard_tf, guard_ft, guard_sk, obind, omap, pickV_true, pickV_false, condK_true, condK_false, decide_true, decide_false, Bool.not_true, Bool.not_false, not_bool, idx23 h, load3, load1_pptr g1, b_eql]
    by_cases e1 : (L g.edges)[i].f = s
    · simp only [eqT e1, guard_tt, guard_ff, guard_tf, guard_ft, guard_sk, obind, omap, pickV_true, pickV_false, condK_true, condK_false, decide_true, decide_false, Bool.not_true, Bool.not_false, not_bool, fa25_2, fa69_1, shift_ptr, shift_pptr, Nat.zero_add, Nat.add_zero, pureFn_fn, List.append_nil, List.singleton_append, List.cons_append, List.nil_append, load23, load1_ptr (off := 2) h0 rfl, idx23 h, load3, load1_pptr g2, b_eql]
      by_cases e2 : (L g.edges)[i].t = t
      · simp only [eqT e2, guard_tt, guard_ff, guard_tf, guard_ft, guard_sk, obind, omap, pickV_true, pickV_false, condK_true, condK_false, decide_true, decide_false, Bool.not_true, Bool.not_false, not_bool, stepB, eqT e1, Bool.true_and, if_true]
      · simp (disch := omega) only [eqF e2, guard_tt, guard_ff, guard_tf, guard_ft, guard_sk, obind, omap, pickV_true, pickV_false, condK_true, condK_false, decide_true, decide_false, Bool.not_true, Bool.not_false, not_bool, stepB, eqT e1, Bool.true_and, Bool.false_eq_true, if_false, add1]
        exact ih
    · simp (disch := omega) only [eqF e1, guard_tt, guard_ff, guard_tf, guard_ft, guard_sk, obind, omap, pickV_true, pickV_false, condK_true, condK_false, decide_true, decide_false, Bool.not_true, Bool.not_false, not_bool, stepB, Bool.false_and, Bool.false_eq_true, if_false, add1]
      exact ih
theorem S63 {g : Gr} {s t : Int} {σ : Store} (hl : (L g.edges).length ≤ 10000) : pureV CC 63 [.agg (eGr g), .p (pI s), .p (pI t)] σ = some (.p (pI (idxFrom (stepB s t) (L g.edges) 0))) := by
  have g0 : ([Row.mix (eGr g)] : Store)[0]? = some (.mix (eGr g)) := rfl
  refine pureV_free (by simp [gr_view]; exact ⟨rfl, rfl⟩) rfl (F63_call (r := (.p (pI (idxFrom (stepB s t) (L g.edges) 0)), [.mix (eGr g)])) ?_) rfl
  rw [F63_eq]
  simp only [box_gr, obind, List.length_nil, List.nil_append]
  exact L63 (lo := 0) g0 hl _ 0 rfl (Nat.zero_le _)
section
variable {g : Gr} {o : OI} {σ : Store} (h0 : σ[0]? = some (.mix (eGr g))) (hl : (L o).length ≤ 1000) (hi : (L g.init).length ≤ 1000) (he : (L g.edges).length ≤ 10000)
include h0 hl hi he
omit hi in
theorem L22_1 (lo : Nat) : ∀ (k i : Nat), (L o).length - i = k → 1 ≤ i → f22_L1 guardT lo (.p (eSl o)) (.ptr 0 0) (N i) σ = some (.p (pI (if allFrom (stpK g (L o)) i k = true then 0 else 14)), σ)
  | 0, i, hk, h1 => by
    have hn : ¬ ((i : Int) < ((L o).length : Nat)) := by omega
    rw [f22_L1_eq guardT rfl]
    simp only [N, len22, b_lss, ltF hn, guard_tt, guard_ff, guard_tf, guard_ft, guard_sk, obind, omap, pickV_true, pickV_false, condK_true, condK_false, decide_true, decide_false, Bool.not_true, Bool.not_false, not_bool, allFrom, if_true]
  | k + 1, i, hk, h1 => by
    have hlt : (i : Int) < ((L o).length : Nat) := by omega
    have ha : i - 1 < (L o).length := by omega
    have hb : i < (L o).length := by omega
    have ih := L22_1 lo k (i + 1) (by omega) (by omega)
    rw [f22_L1_eq guardT rfl, allFrom]
    simp (disch := omega) only [N, len22, b_lss, ltT hlt, guard_tt, guard_ff, guard_tf, guard_ft, guard_sk, obind, omap, pickV_true, pickV_false, condK_true, condK_false, decide_true, decide_false, Bool.not_true, Bool.not_false, not_bool, gr_all h0, sub1, idxL, load3, ldL, shift_ptr, shift_pptr, Nat.zero_add, Nat.add_zero, pureFn_fn, List.append_nil, List.singleton_append, List.cons_append, List.nil_append, S63 he, idx_lt]
    have e : stpK g (L o) i = (L g.edges).any (stepB ((L o).getD (i - 1) 0) ((L o).getD i 0)) := rfl
    rw [← e]
    cases stpK g (L o) i with
    | false => simp only [guard_tt, guard_ff, guard_tf, guard_ft, guard_sk, obind, omap, pickV_true, pickV_false, condK_true, condK_false, decide_true, decide_false, Bool.not_true, Bool.not_false, not_bool, Bool.false_and, Bool.false_eq_true, if_false]
    | true =>
      simp (disch := omega) only [guard_tt, guard_ff, guard_tf, guard_ft, guard_sk, obind, omap, pickV_true, pickV_false, condK_true, condK_false, decide_true, decide_false, Bool.not_true, Bool.not_false, not_bool, add1, Bool.true_and]
      exact ih
theorem L22_0 (hpos : 0 < (L o).length) (lo : Nat) : ∀ (k i : Nat), (L o).length - i = k → i ≤ (L o).length → f22_L0 guardT lo (.p (eSl o)) (.ptr 0 0) (N i) σ =
    some (.p (pI (if ((L o).drop i).any (badN g) = true then 3 else if (hasI (L g.init) ((L o).getD 0 0) && allFrom (stpK g (L o)) 1 ((L o).length - 1)) = true then 0 else 14)), σ)
  | 0, i, hk, h1 => by
    have hn : ¬ ((i : Int) < ((L o).length : Nat)) := by omega
    have hx0 : indexAddr PP 22 (.p (eSl o)) (.p (.int .i64 0)) = some (.pptr (eInts (L o)) 0) := idxL (i := 0) (by omega)
    have hld := fun σ => ldL (o := o) (i := 0) (by omega) σ
    have hL := L22_1 h0 hl he lo ((L o).length - 1) 1 rfl (Nat.le_refl _)
    have hL : f22_L1 guardT lo (.p (eSl o)) (.ptr 0 0) (.p (.int .i64 1)) σ = _ := hL
    rw [f22_L0_eq guardT rfl, List.drop_of_length_le (by omega)]
    simp only [N, len22, b_lss, ltF hn, guard_tt, guard_ff, guard_tf, guard_ft, guard_sk, obind, omap, pickV_true, pickV_false, condK_true, condK_false, decide_true, decide_false, Bool.not_true, Bool.not_false, not_bool, fa25_1, shift_ptr, shift_pptr, Nat.zero_add, Nat.add_zero, pureFn_fn, List.append_nil, List.singleton_append, List.cons_append, List.nil_append, load22, load1_ptr (off := 1) h0 rfl, hx0, load3, hld, S62 hi, not_bool, List.any_nil, Bool.false_eq_true, if_false]
    cases hasI (L g.init) ((L o).getD 0 0) with
    | false => simp only [guard_tt, guard_ff, guard_tf, guard_ft, guard_sk, obind, omap, pickV_true, pickV_false, condK_true, condK_false, decide_true, decide_false, Bool.not_true, Bool.not_false, not_bool, Bool.false_and, Bool.false_eq_true, if_false]
    | true =>
      simp only [guard_tt, guard_ff, guard_tf, guard_ft, guard_sk, obind, omap, pickV_true, pickV_false, condK_true, condK_false, decide_true, decide_false, Bool.not_true, Bool.not_false, not_bool, Bool.true_and]
      exact hL
  | k + 1, i, hk, h1 => by
    have hlt : (i : Int) < ((L o).length : Nat) := by omega
    have hb : i < (L o).length := by omega
    have ih := L22_0 hpos lo k (i + 1) (by omega) (by omega)
    have eo : (L o).drop i = (L o).getD i 0 :: (L o).drop (i + 1) := by rw [getD_at 0 hb]; exact List.drop_eq_getElem_cons hb
    rw [f22_L0_eq guardT rfl, eo, List.any_cons]
    simp (disch := omega) only [N, len22, b_lss, ltT hlt, guard_tt, guard_ff, guard_tf, guard_ft, guard_sk, obind, omap, pickV_true, pickV_false, condK_true, condK_false, decide_true, decide_false, Bool.not_true, Bool.not_false, not_bool, idxL, load3, ldL, fa25_0, shift_ptr, shift_pptr, Nat.zero_add, Nat.add_zero, pureFn_fn, List.append_nil, List.singleton_append, List.cons_append, List.nil_append, load1_ptr (off := 0) h0 rfl, b_sub, S61, not_bool]
    have e : badN g ((L o).getD i 0) = !inR ((L o).getD i 0) 0 (pred g.n) := rfl
    rw [e]
    cases inR ((L o).getD i 0) 0 (pred g.n) with
    | false => simp only [guard_tt, guard_ff, guard_tf, guard_ft, guard_sk, obind, omap, pickV_true, pickV_false, condK_true, condK_false, decide_true, decide_false, Bool.not_true, Bool.not_false, not_bool, Bool.true_or, if_true]
    | true =>
      simp (disch := omega) only [guard_tt, guard_ff, guard_tf, guard_ft, guard_sk, obind, omap, pickV_true, pickV_false, condK_true, condK_false, decide_true, decide_false, Bool.not_true, Bool.not_false, not_bool, add1, Bool.false_or]
      exact ih
end
theorem S22 {g : Gr} {o : OI} {σ : Store} (hl : (L o).length ≤ 1000) (hi : (L g.init).length ≤ 1000) (he : (L g.edges).length ≤ 10000) : pureV CC 22 [.agg (eGr g), .p (eSl o)] σ = some (.p (pI (pthE g (L o)))) := by
  have g0 : ([Row.mix (eGr g)] : Store)[0]? = some (.mix (eGr g)) := rfl
  refine pureV_free (by simp [gr_view, sl_view]) rfl (F22_call (r := (.p (pI (pthE g (L o))), [.mix (eGr g)])) ?_) rfl
  rw [F22_eq]
  simp only [box_gr, obind, List.length_nil, List.nil_append]
  generalize ([Row.mix (eGr g)] : Store) = τ at *
  unfold pthE
  by_cases h1 : (L o).length = 0
  · have h1' : ((L o).length : Int) = 0 := by omega
    rw [if_pos h1]
    simp only [len22, b_eql, eqT h1', guard_tt, guard_ff, guard_tf, guard_ft, guard_sk, obind, omap, pickV_true, pickV_false, condK_true, condK_false, decide_true, decide_false, Bool.not_true, Bool.not_false, not_bool]
  · have h1' : ¬ ((L o).length : Int) = 0 := by omega
    rw [if_neg h1]
    simp only [len22, b_eql, eqF h1', guard_tt, guard_ff, guard_tf, guard_ft, guard_sk, obind, omap, pickV_true, pickV_false, condK_true, condK_false, decide_true, decide_false, Bool.not_true, Bool.not_false, not_bool, b_gtr]
    by_cases h2 : (L o).length > 60
    · have h2' : ((L o).length : Int) > 60 := by omega
      rw [if_pos h2, decide_eq_true h2']
      simp only [guard_tt, guard_ff, guard_tf, guard_ft, guard_sk, obind, omap, pickV_true, pickV_false, condK_true, condK_false, decide_true, decide_false, Bool.not_true, Bool.not_false, not_bool]
    · have h2' : ¬ ((L o).length : Int) > 60 := by omega
      have hL := L22_0 g0 hl hi he (by omega) 0 _ 0 rfl (Nat.zero_le _)
      rw [List.drop_zero] at hL
      rw [if_neg h2, decide_eq_false h2']
      simp only [guard_tt, guard_ff, guard_tf, guard_ft, guard_sk, obind, omap, pickV_true, pickV_false, condK_true, condK_false, decide_true, decide_false, Bool.not_true, Bool.not_false, not_bool]
      exact hL
end Go.D
end
/- Chapter 22: ticks and hidden paths, in the program and in the reference. -/
section
set_option linter.unusedVariables false
set_option linter.unusedSimpArgs false
namespace Go.D
def tickB (s t : Int) (e : Edg) : Bool := decide (e.f = s) && (decide (e.t = t) && !decide (e.a = 11))
theorem S101 {σ : Store} {r1 r2 : Nat} {s t : Int} {e : Edg} (h1 : σ[r1]? = some (.mix [.p (pI s)])) (h2 : σ[r2]? = some (.mix [.p (pI t)])) : pureV CC 101 [.agg (edgD e), .ptr r1 0, .ptr r2 0] σ = some (.p (.bool (tickB s t e))) := by
  refine pureV_rows rfl rfl (F101_call (r := (.p (.bool (tickB s t e)), σ ++ [.mix (edgD e)])) ?_) rfl
  rw [F101_eq]
  have hx : (σ ++ [Row.mix (edgD e)])[σ.length]? = some (.mix (edgD e)) := get_snoc
  have h1' : (σ ++ [Row.mix (edgD e)])[r1]? = some (.mix [.p (pI s)]) := get_old h1
  have h2' : (σ ++ [Row.mix (edgD e)])[r2]? = some (.mix [.p (pI t)]) := get_old h2
  simp only [box_edg, obind, fa69_0, shift_ptr, shift_pptr, Nat.zero_add, Nat.add_zero, pureFn_fn, List.append_nil, List.singleton_append, List.cons_append, List.nil_append, load3, load1_ptr (off := 0) hx rfl, load1_ptr (off := 0) h1' rfl, b_eql, tickB]
  by_cases e1 : e.f = s
  · simp only [eqT e1, guard_tt, guard_ff, guard_tf, guard_ft, guard_sk, obind, omap, pickV_true, pickV_false, condK_true, condK_false, decide_true, decide_false, Bool.not_true, Bool.not_false, not_bool, fa69_1, shift_ptr, shift_pptr, Nat.zero_add, Nat.add_zero, pureFn_fn, List.append_nil, List.singleton_append, List.cons_append, List.nil_append, load3, load1_ptr (off := 1) hx rfl, load1_ptr (off := 0) h2' rfl, b_eql, Bool.true_and]
    by_cases e2 : e.t = t
    · simp only [eqT e2, guard_tt, guard_ff, guard_tf, guard_ft, guard_sk, obind, omap, pickV_true, pickV_false, condK_true, condK_false, decide_true, decide_false, Bool.not_true, Bool.not_false, not_bool, fa69_2, shift_ptr, shift_pptr, Nat.zero_add, Nat.add_zero, pureFn_fn, List.append_nil, List.singleton_append, List.cons_append, List.nil_append, load3, load1_ptr (off := 2) hx rfl, b_neq, Bool.true_and]
    · simp only [eqF e2, guard_tt, guard_ff, guard_tf, guard_ft, guard_sk, obind, omap, pickV_true, pickV_false, condK_true, condK_false, decide_true, decide_false, Bool.not_true, Bool.not_false, not_bool, Bool.false_and]
  · simp only [eqF e1, guard_tt, guard_ff, guard_tf, guard_ft, guard_sk, obind, omap, pickV_true, pickV_false, condK_true, condK_false, decide_true, decide_false, Bool.not_true, Bool.not_false, not_bool, Bool.false_and]
def tkA (g : Gr) (s t : Int) : Bool := !(L g.edges).any (tickB s t)
theorem S68 {g : Gr} {s t : Int} {σ : Store} (he : (L g.edges).length ≤ 10000) : pureV CC 68 [.agg (eGr g), .p (pI s), .p (pI t)] σ = some (.p (.bool (tkA g s t))) := by
  refine pureV_free (by simp [gr_view]; exact ⟨rfl, rfl⟩) rfl (F68_call (r := (.p (.bool (tkA g s t)), [Row.mix (eGr g), Row.mix [.p (pI s)], Row.mix [.p (pI t)]])) ?_) rfl
  have g0 : ([Row.mix (eGr g), Row.mix [.p (pI s)], Row.mix [.p (pI t)]] : Store)[0]? = some (.mix (eGr g)) := rfl
  have g1 : ([Row.mix (eGr g), Row.mix [.p (pI s)], Row.mix [.p (pI t)]] : Store)[1]? = some (.mix [.p (pI s)]) := rfl
  have g2 : ([Row.mix (eGr g), Row.mix [.p (pI s)], Row.mix [.p (pI t)]] : Store)[2]? = some (.mix [.p (pI t)]) := rfl
  rw [F68_eq]
  simp only [box_gr, box_int, obind, List.length_nil, List.nil_append, List.length_cons, List.cons_append, Nat.reduceAdd]
  generalize ([Row.mix (eGr g), Row.mix [.p (pI s)], Row.mix [.p (pI t)]] : Store) = τ at *
  have h100 : pureV CC 100 [.p (eEs g.edges), .fn 101 [.ptr 1 0, .ptr 2 0]] τ = some (.p (.bool ((L g.edges).any (tickB s t)))) := S100 he (by
    rintro σ0 (⟨_, hb⟩ | rfl) e
    · simp [rowFree1] at hb
    · exact S101 g1 g2)
  simp only [fa25_2, shift_ptr, shift_pptr, Nat.zero_add, Nat.add_zero, pureFn_fn, List.append_nil, List.singleton_append, List.cons_append, List.nil_append, load23, load1_ptr (off := 2) g0 rfl, h100, obind, not_bool, tkA]
theorem L70 {g : Gr} {s t : Int} {σ : Store} {lo : Nat} (h0 : σ[0]? = some (.mix (eGr g))) (hl : (L g.edges).length ≤ 10000) :
    ∀ (k i : Nat), (L g.edges).length - i = k → i ≤ (L g.edges).length → f70_L0 guardT lo (.p (pI s)) (.p (pI t)) (.ptr 0 0) (N i) σ = some (.p (.bool (!((L g.edges).drop i).any (tickB s t))), σ)
  | 0, i, hk, hi => by
    have hn : ¬ ((i : Int) < ((L g.edges).length : Nat)) := by omega
    rw [f70_L0_eq guardT rfl, List.drop_of_length_le (by omega)]
    simp only [N, fa25_2, shift_ptr, shift_pptr, Nat.zero_add, Nat.add_zero, pureFn_fn, List.append_nil, List.singleton_append, List.cons_append, List.nil_append, load23, load1_ptr (off := 2) h0 rfl, len23, b_lss, ltF hn, guard_tt, guard_ff, guard_tf, guard_ft, guard_sk, obind, omap, pickV_true, pickV_false, condK_true, condK_false, decide_true, decide_false, Bool.not_true, Bool.not_false, not_bool, List.any_nil]
  | k + 1, i, hk, hi => by
    have h : i < (L g.edges).length := by omega
    have h' : (i : Int) < ((L g.edges).length : Nat) := by omega
    obtain ⟨g1, g2, g3⟩ := edgs_get (L g.edges) i h
    have ih := L70 (s := s) (t := t) (lo := lo) h0 hl k (i + 1) (by omega) (by omega)
    have ih : f70_L0 guardT lo (.p (pI s)) (.p (pI t)) (.ptr 0 0) (.p (.int .i64 ((i + 1 : Nat)))) σ = _ := ih
    rw [f70_L0_eq guardT rfl, drop_cons h, List.any_cons, tickB]
    simp only [N, fa25_2, fa69_0, shift_ptr, shift_pptr, Nat.zero_add, Nat.add_zero, pureFn_fn, List.append_nil, List.singleton_append, List.cons_append, List.nil_append, load23, load1_ptr (off := 2) h0 rfl, len23, b_lss, ltT h', guard_tt, guard_ff, guard_tf, guard_ft, guard_sk, obind, omap, pickV_true, pickV_false, condK_true, condK_false, decide_true, decide_false, Bool.not_true, Bool.not_false, not_bool, idx23 h, load3, load1_pptr g1, b_eql]
    by_cases e1 : (L g.edges)[i].f = s
    · simp only [eqT e1, guard_tt, guard_ff, guard_tf, guard_ft, guard_sk, obind, omap, pickV_true, pickV_false, condK_true, condK_false, decide_true, decide_false, Bool.not_true, Bool.not_false, not_bool, fa25_2, fa69_1, shift_ptr, shift_pptr, Nat.zero_add, Nat.add_zero, pureFn_fn, List.append_nil, List.singleton_append, List.cons_append, List.nil_append, load23, load1_ptr (off := 2) h0 rfl, idx23 h, load3, load1_pptr g2, b_eql, Bool.true_and]
      by_cases e2 : (L g.edges)[i].t = t
      · simp only [eqT e2, guard_tt, guard_ff, guard_tf, guard_ft, guard_sk, obind, omap, pickV_true, pickV_false, condK_true, condK_false, decide_true, decide_false, Bool.not_true, Bool.not_false, not_bool, fa25_2, fa69_2, shift_ptr, shift_pptr, Nat.zero_add, Nat.add_zero, pureFn_fn, List.append_nil, List.singleton_append, List.cons_append, List.nil_append, load23, load1_ptr (off := 2) h0 rfl, idx23 h, load3, load1_pptr g3, b_neq, Bool.true_and]
        by_cases e3 : (L g.edges)[i].a = 11
        · simp (disch := omega) only [eqT e3, guard_tt, guard_ff, guard_tf, guard_ft, guard_sk, obind, omap, pickV_true, pickV_false, condK_true, condK_false, decide_true, decide_false, Bool.not_true, Bool.not_false, not_bool, Bool.false_or, add1]
          exact ih
        · simp only [eqF e3, guard_tt, guard_ff, guard_tf, guard_ft, guard_sk, obind, omap, pickV_true, pickV_false, condK_true, condK_false, decide_true, decide_false, Bool.not_true, Bool.not_false, not_bool, Bool.true_or]
      · simp (disch := omega) only [eqF e2, guard_tt, guard_ff, guard_tf, guard_ft, guard_sk, obind, omap, pickV_true, pickV_false, condK_true, condK_false, decide_true, decide_false, Bool.not_true, Bool.not_false, not_bool, Bool.false_and, Bool.false_or, add1]
        exact ih
    · simp (disch := omega) only [eqF e1, guard_tt, guard_ff, guard_tf, guard_ft, guard_sk, obind, omap, pickV_true, pickV_false, condK_true, condK_false, decide_true, decide_false, Bool.not_true, Bool.not_false, not_bool, Bool.false_and, Bool.false_or, add1]
      exact ih
theorem S70 {g : Gr} {s t : Int} {σ : Store} (hl : (L g.edges).length ≤ 10000) : pureV CC 70 [.agg (eGr g), .p (pI s), .p (pI t)] σ = some (.p (.bool (tkA g s t))) := by
  have g0 : ([Row.mix (eGr g)] : Store)[0]? = some (.mix (eGr g)) := rfl
  refine pureV_free (by simp [gr_view]; exact ⟨rfl, rfl⟩) rfl (F70_call (r := (.p (.bool (tkA g s t)), [.mix (eGr g)])) ?_) rfl
  rw [F70_eq]
  simp only [box_gr, obind, List.length_nil, List.nil_append]
  exact L70 (lo := 0) g0 hl _ 0 rfl (Nat.zero_le _)

/-! ### Hidden paths -/
def bAt (x : Ax) (s : Int) : Int := (L x.b).getD s.toNat 0
def skp (x : Ax) (p : List Int) (i : Nat) : Bool := decide ((i : Int) > 0) && (decide (bAt x (p.getD i 0) = bAt x (p.getD (i - 1) 0)) && tkA x.g (p.getD (i - 1) 0) (p.getD i 0))
def hidU (x : Ax) (p : List Int) : Nat → List Int
  | 0 => []
  | i + 1 => if skp x p i = true then hidU x p i else hidU x p i ++ [bAt x (p.getD i 0)]
theorem hidU_len (x : Ax) (p : List Int) : ∀ i, (hidU x p i).length ≤ i
  | 0 => Nat.le_refl _
  | i + 1 => by
    have := hidU_len x p i
    unfold hidU
    split
    · omega
    · simp; omega
/-- What is asked of an extended graph and a path: every state of it has an original one. -/
def InB (x : Ax) (p : List Int) : Prop := ∀ i, i < p.length → 0 ≤ p.getD i 0 ∧ (p.getD i 0).toNat < (L x.b).length
theorem idxi {o : OI} {n : Int} (h0 : 0 ≤ n) (h : n.toNat < (L o).length) : indexAddr PP 22 (.p (eSl o)) (.p (.int .i64 n)) = some (.pptr (eInts (L o)) n.toNat) := by
  have e : n = ((n.toNat : Nat) : Int) := by omega
  rw [e]
  exact idxL (by simpa using h)
section
variable {x : Ax} {o : OI} (hs : XSm x) (hp : (L o).length ≤ 1000) (hin : InB x (L o))
include hs hp hin
theorem L31 : ∀ (k i : Nat) (y : DV) (σ : Store), (L o).length - i = k → i ≤ (L o).length → σ[0]? = some (.mix (eAx x)) → Out σ 1 1 (hidU x (L o) i).length (eInts (hidU x (L o) i)) y →
    ∃ y' σ', f31_L0 guardT 0 (.p (eSl o)) (.ptr 0 0) y (.p (eSl o)) (N (L o).length) (N i) σ = some (.tuple [y', .p (.int .i64 0)], σ') ∧ Out σ' 1 1 (hidU x (L o) (L o).length).length (eInts (hidU x (L o) (L o).length)) y'
  | 0, i, y, σ, hk, hi, h0, ho => by
    have : i = (L o).length := by omega
    subst this
    have hn : ¬ (((L o).length : Nat) : Int) < ((L o).length : Nat) := by omega
    refine ⟨y, σ, ?_, ho⟩
    rw [f31_L0_eq guardT rfl]
    simp only [N, b_lss, ltF hn, guard_tt, guard_ff, guard_tf, guard_ft, guard_sk, obind, omap, pickV_true, pickV_false, condK_true, condK_false, decide_true, decide_false, Bool.not_true, Bool.not_false, not_bool]
  | k + 1, i, y, σ, hk, hi, h0, ho => by
    have hil : i < (L o).length := by omega
    have hlt : (i : Int) < ((L o).length : Nat) := by omega
    obtain ⟨a0, a1⟩ := hin i hil
    have hul := hidU_len x (L o) i
    -- what is done if the state is not skipped
    have app : skp x (L o) i = false → ∃ y' σ', append PP 0 false 22 22 y (.p (.sl true 1 [pI (bAt x ((L o).getD i 0))])) σ = some (y', σ') ∧
        ∃ y'' σ'', f31_L0 guardT 0 (.p (eSl o)) (.ptr 0 0) y' (.p (eSl o)) (N (L o).length) (N (i + 1)) σ' = some (.tuple [y'', .p (.int .i64 0)], σ'') ∧ Out σ'' 1 1 (hidU x (L o) (L o).length).length (eInts (hidU x (L o) (L o).length)) y'' := by
      intro hsk
      have hlen : 1 ≤ σ.length := by have := get_lt h0; omega
      obtain ⟨y', σ', e1, o1, t1⟩ := ho.push22 (v := pI (bAt x ((L o).getD i 0))) (by omega) hlen
      have e1 := app_lo ho e1
      refine ⟨y', σ', e1, ?_⟩
      have e2 : hidU x (L o) (i + 1) = hidU x (L o) i ++ [bAt x ((L o).getD i 0)] := by rw [hidU, hsk]; rfl
      have o1 : Out σ' 1 1 (hidU x (L o) (i + 1)).length (eInts (hidU x (L o) (i + 1))) y' := by
        rw [e2, List.length_append]
        have e3 : eInts (hidU x (L o) i ++ [bAt x ((L o).getD i 0)]) = eInts (hidU x (L o) i) ++ [pI (bAt x ((L o).getD i 0))] := by simp [eInts]
        rw [e3]
        exact o1
      have h0' : σ'[0]? = some (.mix (eAx x)) := t1.1 0 _ h0 fun r ver sz n cs e => by
        rcases ho.2 with ⟨_, hz⟩ | ⟨_, r2, ver2, e3, _, e4⟩
        · rw [hz] at e; exact absurd e (by simp)
        · rw [e3] at e; injection e with e5; omega
      exact L31 k (i + 1) y' σ' (by omega) (by omega) h0' o1
    have skip : skp x (L o) i = true → ∃ y'' σ'', f31_L0 guardT 0 (.p (eSl o)) (.ptr 0 0) y (.p (eSl o)) (N (L o).length) (N (i + 1)) σ = some (.tuple [y'', .p (.int .i64 0)], σ'') ∧ Out σ'' 1 1 (hidU x (L o) (L o).length).length (eInts (hidU x (L o) (L o).length)) y'' := by
      intro hsk
      have e2 : hidU x (L o) (i + 1) = hidU x (L o) i := by rw [hidU, hsk]; rfl
      exact L31 k (i + 1) y σ (by omega) (by omega) h0 (by rw [e2]; exact ho)
    have hbi : ∀ s : Int, 0 ≤ s → s.toNat < (L x.b).length → ∀ σ, load1 (.pptr (eInts (L x.b)) s.toNat) σ = some (.p (.int .i64 (bAt x s))) := fun s h1 h2 σ => ldL h2 σ
    rw [f31_L0_eq guardT rfl]
    by_cases hi0 : (i : Int) > 0
    · obtain ⟨b0, b1⟩ := hin (i - 1) (by omega)
      simp (disch := omega) only [N, b_lss, ltT hlt, guard_tt, guard_ff, guard_tf, guard_ft, guard_sk, obind, omap, pickV_true, pickV_false, condK_true, condK_false, decide_true, decide_false, Bool.not_true, Bool.not_false, not_bool, idxL hil, load3, ldL hil, b_gtr, decide_eq_true hi0, fa33_1, shift_ptr, shift_pptr, Nat.zero_add, Nat.add_zero, pureFn_fn, List.append_nil, List.singleton_append, List.cons_append, List.nil_append, ax_b h0, idxi a0 a1, hbi _ a0 a1, sub1, idxL, ldL, idxi b0 b1, hbi _ b0 b1, b_eql]
      by_cases e1 : bAt x ((L o).getD i 0) = bAt x ((L o).getD (i - 1) 0)
      · simp (disch := omega) only [eqT e1, guard_tt, guard_ff, guard_tf, guard_ft, guard_sk, obind, omap, pickV_true, pickV_false, condK_true, condK_false, decide_true, decide_false, Bool.not_true, Bool.not_false, not_bool, fa33_0, shift_ptr, shift_pptr, Nat.zero_add, Nat.add_zero, pureFn_fn, List.append_nil, List.singleton_append, List.cons_append, List.nil_append, ax_g h0, sub1, idxL, load3, ldL, S68 hs.e]
        cases e2 : tkA x.g ((L o).getD (i - 1) 0) ((L o).getD i 0) with
        | true =>
          have hsk : skp x (L o) i = true := by rw [skp, decide_eq_true hi0, eqT e1, e2]; rfl
          obtain ⟨y'', σ'', q1, q2⟩ := skip hsk
          refine ⟨y'', σ'', ?_, q2⟩
          simp (disch := omega) only [guard_tt, guard_ff, guard_tf, guard_ft, guard_sk, obind, omap, pickV_true, pickV_false, condK_true, condK_false, decide_true, decide_false, Bool.not_true, Bool.not_false, not_bool, f31_J0_eq, add1]
          exact q1
        | false =>
          have hsk : skp x (L o) i = false := by rw [skp, e2, Bool.and_false, Bool.and_false]
          obtain ⟨y', σ', q0, y'', σ'', q1, q2⟩ := app hsk
          refine ⟨y'', σ'', ?_, q2⟩
          simp (disch := omega) only [guard_tt, guard_ff, guard_tf, guard_ft, guard_sk, obind, omap, pickV_true, pickV_false, condK_true, condK_false, decide_true, decide_false, Bool.not_true, Bool.not_false, not_bool, fa33_1, shift_ptr, shift_pptr, Nat.zero_add, Nat.add_zero, pureFn_fn, List.append_nil, List.singleton_append, List.cons_append, List.nil_append, ax_b h0, idxi a0 a1, load3, hbi _ a0 a1, bs22_1, q0, f31_J0_eq, add1]
          exact q1
      · have hsk : skp x (L o) i = false := by rw [skp, eqF e1, Bool.false_and, Bool.and_false]
        obtain ⟨y', σ', q0, y'', σ'', q1, q2⟩ := app hsk
        refine ⟨y'', σ'', ?_, q2⟩
        simp (disch := omega) only [eqF e1, guard_tt, guard_ff, guard_tf, guard_ft, guard_sk, obind, omap, pickV_true, pickV_false, condK_true, condK_false, decide_true, decide_false, Bool.not_true, Bool.not_false, not_bool, fa33_1, shift_ptr, shift_pptr, Nat.zero_add, Nat.add_zero, pureFn_fn, List.append_nil, List.singleton_append, List.cons_append, List.nil_append, ax_b h0, idxi a0 a1, load3, hbi _ a0 a1, bs22_1, q0, f31_J0_eq, add1]
        exact q1
    · have hsk : skp x (L o) i = false := by rw [skp, decide_eq_false hi0, Bool.false_and]
      obtain ⟨y', σ', q0, y'', σ'', q1, q2⟩ := app hsk
      refine ⟨y'', σ'', ?_, q2⟩
      simp (disch := omega) only [N, b_lss, ltT hlt, guard_tt, guard_ff, guard_tf, guard_ft, guard_sk, obind, omap, pickV_true, pickV_false, condK_true, condK_false, decide_true, decide_false, Bool.not_true, Bool.not_false, not_bool, idxL hil, load3, ldL hil, b_gtr, decide_eq_false hi0, fa33_1, shift_ptr, shift_pptr, Nat.zero_add, Nat.add_zero, pureFn_fn, List.append_nil, List.singleton_append, List.cons_append, List.nil_append, ax_b h0, idxi a0 a1, hbi _ a0 a1, bs22_1, q0, f31_J0_eq, add1]
      exact q1
where
  app_lo {σ : Store} {A : List Int} {y y1 : DV} {σ1 : Store} {v : DV} (hO : Out σ 1 1 A.length (eInts A) y) (h : append PP 1 false 22 22 y v σ = some (y1, σ1)) : append PP 0 false 22 22 y v σ = some (y1, σ1) := by
    rw [← h]
    rcases hO.2 with ⟨_, rfl⟩ | ⟨_, r, ver, rfl, _, h5⟩
    · simp only [append]
    · simp only [append, appTok, h5, Nat.zero_le]
end
def oI (l : List Int) : OI := if l = [] then none else some l
theorem L_oI (l : List Int) : L (oI l) = l := by
  unfold oI
  split
  · rename_i h; rw [h]; rfl
  · rfl
theorem thaw_oI {σ σ' : Store} {lo : Nat} {l : List Int} {y : DV} (m : Nat) (h : Out σ lo 1 l.length (eInts l) y) : thaw m σ' y = some (.p (eSl (oI l))) := by
  rcases h.2 with ⟨e, rfl⟩ | ⟨e, r, ver, rfl, _, _⟩
  · have : l = [] := List.length_eq_zero_iff.1 e
    subst this; rfl
  · have : l ≠ [] := fun h => e (by rw [h]; rfl)
    rw [oI, if_neg this]
    simp [thaw, thaw1, thawP, loosens_ints, eSl]
theorem inB_of {x : Ax} {p : List Int} (h1 : extE x = 0) (h2 : pthE x.g p = 0) : InB x p := by
  have hg : isG x.g = true := by
    cases hg : isG x.g with
    | true => rfl
    | false => rw [extE, hg] at h1; simp at h1
  rw [extE, if_pos hg] at h1
  have hl : lenX x = true := by
    cases hl : lenX x with
    | true => rfl
    | false => rw [hl] at h1; simp at h1
  have hl := ((extE_ok x).1 hl).1
  have hn : inR x.g.n 0 400 = true := by
    simp only [isG, Bool.and_eq_true] at hg
    exact hg.1.1.1
  have hn : 0 ≤ x.g.n ∧ x.g.n ≤ 400 := by simpa [inR] using hn
  have hb : p.any (badN x.g) = false := by
    unfold pthE at h2
    split at h2
    · exact absurd h2 (by decide)
    · split at h2
      · exact absurd h2 (by decide)
      · split at h2
        · exact absurd h2 (by decide)
        · rename_i h; simpa using h
  intro i hi
  rw [List.any_eq_false] at hb
  have := hb (p.getD i 0) (by rw [getD_at 0 hi]; exact List.getElem_mem hi)
  have hp : pred x.g.n = x.g.n - 1 := wrap_ok (by omega) (by omega)
  simp only [badN, inR, hp, Bool.not_eq_true, Bool.not_eq_false', Bool.and_eq_true, decide_eq_true_eq] at this
  omega
def resH (x : Ax) (p : List Int) : DV := if extE x = 0 then (if pthE x.g p = 0 then .tuple [.p (eSl (oI (hidU x p p.length))), .p (pI 0)] else .tuple [.p .nilsl, .p (pI (pthE x.g p))]) else .tuple [.p .nilsl, .p (pI (extE x))]
theorem S31 {x : Ax} {o : OI} {σ : Store} (hs : XSm x) (hp : (L o).length ≤ 1000) : pureV CC 31 [.agg (eAx x), .p (eSl o)] σ = some (resH x (L o)) := by
  have g0 : ([Row.mix (eAx x)] : Store)[0]? = some (.mix (eAx x)) := rfl
  have h67 := fun σ => S67 (x := x) (σ := σ) hs
  have h54 := fun σ => S54 (g := x.g) (o := o) (σ := σ) hp hs.i hs.e
  unfold resH
  by_cases h1 : extE x = 0
  · rw [if_pos h1]
    by_cases h2 : pthE x.g (L o) = 0
    · rw [if_pos h2]
      obtain ⟨y, σ', e1, o1⟩ := L31 hs hp (inB_of h1 h2) _ 0 (.p .nilsl) [Row.mix (eAx x)] (Nat.sub_zero _) (Nat.zero_le _) g0 Out.zero
      refine pureV_free (by simp [ax_view, sl_view]) rfl (F31_call (r := (.tuple [y, .p (.int .i64 0)], σ')) ?_) ?_
      · have e1 : f31_L0 guardT 0 (.p (eSl o)) (.ptr 0 0) (.p .nilsl) (.p (eSl o)) (.p (.int .i64 ((L o).length : Nat))) (.p (.int .i64 0)) [Row.mix (eAx x)] = _ := e1
        rw [F31_eq]
        simp only [box_ax, obind, List.length_nil, List.nil_append, ax_all g0, shift_ptr, shift_pptr, Nat.zero_add, Nat.add_zero, pureFn_fn, List.append_nil, List.singleton_append, List.cons_append, List.nil_append, h67, b_neq, eqT h1, guard_tt, guard_ff, guard_tf, guard_ft, guard_sk, obind, omap, pickV_true, pickV_false, condK_true, condK_false, decide_true, decide_false, Bool.not_true, Bool.not_false, not_bool, fa33_0, ax_g g0, h54, eqT h2, len22, e1]
      · show (mapO (thawPart 0 σ') [y, .p (.int .i64 0)]).map DV.tuple = _
        have h3 : thawPart 0 σ' y = some (.p (eSl (oI (hidU x (L o) (L o).length)))) := by
          have := thaw_oI (σ' := σ') 0 o1
          rcases o1.2 with ⟨_, rfl⟩ | ⟨_, r, ver, rfl, _, _⟩ <;> exact this
        rw [mapO, h3]
        rfl
    · rw [if_neg h2]
      refine pureV_free (by simp [ax_view, sl_view]) rfl (F31_call (r := (.tuple [.p .nilsl, .p (pI (pthE x.g (L o)))], [Row.mix (eAx x)])) ?_) rfl
      rw [F31_eq]
      simp only [box_ax, obind, List.length_nil, List.nil_append, ax_all g0, shift_ptr, shift_pptr, Nat.zero_add, Nat.add_zero, pureFn_fn, List.append_nil, List.singleton_append, List.cons_append, List.nil_append, h67, b_neq, eqT h1, guard_tt, guard_ff, guard_tf, guard_ft, guard_sk, obind, omap, pickV_true, pickV_false, condK_true, condK_false, decide_true, decide_false, Bool.not_true, Bool.not_false, not_bool, fa33_0, ax_g g0, h54, eqF h2]
  · rw [if_neg h1]
    refine pureV_free (by simp [ax_view, sl_view]) rfl (F31_call (r := (.tuple [.p .nilsl, .p (pI (extE x))], [Row.mix (eAx x)])) ?_) rfl
    rw [F31_eq]
    simp only [box_ax, obind, List.length_nil, List.nil_append, ax_all g0, shift_ptr, shift_pptr, Nat.zero_add, Nat.add_zero, pureFn_fn, List.append_nil, List.singleton_append, List.cons_append, List.nil_append, h67, b_neq, eqF h1, guard_tt, guard_ff, guard_tf, guard_ft, guard_sk, obind, omap, pickV_true, pickV_false, condK_true, condK_false, decide_true, decide_false, Bool.not_true, Bool.not_false, not_bool]
end Go.D
end
/- Equations of functions 5, 9, printed by gen.py. -/
section
set_option linter.unusedVariables false
set_option maxRecDepth 10000
namespace Go.D
open _root_.Go.D.Code (fstC sndC)
open _root_.Go.D.Ann (left right)
noncomputable def c5_0 : Code := bodyOf Go.Proofs.Tryz.f5
noncomputable def a5_0 : Ann := (pol 5).ann
noncomputable def c5_28 : Code := sndC (sndC (sndC (sndC (sndC (sndC c5_0)))))
noncomputable def a5_28 : Ann := right (right (right (right (right (right a5_0)))))
def f5_J0_fr (x0 x1 x2 x4 x5 x6 x7 x8 x9 x10 x11 x12 x13 x14 x15 x16 x17 x18 x19 x20 x21 x22 x23 x24 x25 x26 x27 x28 x29 x30 x31 x32 x33 x34 x35 x36 x37 x38 x39 x40 x41 x42 x43 x44 x45 x46 x47 x48 x49 x50 x51 x52 x53 x54 x55 x56 x57 x58 x59 x60 : DV) : Frame := [x0, x1, x2, ud, x4, x5, x6, x7, x8, x9, x10, x11, x12, x13, x14, x15, x16, x17, x18, x19, x20, x21, x22, x23, x24, x25, x26, x27, x28, x29, x30, x31, x32, x33, x34, x35, x36, x37, x38, x39, x40, x41, x42, x43, x44, x45, x46, x47, x48, x49, x50, x51, x52, x53, x54, x55, x56, x57, x58, x59, x60, ud, ud, ud, ud, ud, ud, ud, ud, ud, ud, ud, ud, ud, ud, ud, ud, ud, ud, ud]
noncomputable def f5_J0 (G : GuardT) (lo : Nat) (x0 x1 x2 x4 x5 x6 x7 x8 x9 x10 x11 x12 x13 x14 x15 x16 x17 x18 x19 x20 x21 x22 x23 x24 x25 x26 x27 x28 x29 x30 x31 x32 x33 x34 x35 x36 x37 x38 x39 x40 x41 x42 x43 x44 x45 x46 x47 x48 x49 x50 x51 x52 x53 x54 x55 x56 x57 x58 x59 x60 : DV) (σ : Store) : Option (DV × Store) :=
 (seqC G PP (pol 5) CC lo c5_28 a5_28 (finR PP Go.Proofs.Tryz.f5.results.toList)) .normal (f5_J0_fr x0 x1 x2 x4 x5 x6 x7 x8 x9 x10 x11 x12 x13 x14 x15 x16 x17 x18 x19 x20 x21 x22 x23 x24 x25 x26 x27 x28 x29 x30 x31 x32 x33 x34 x35 x36 x37 x38 x39 x40 x41 x42 x43 x44 x45 x46 x47 x48 x49 x50 x51 x52 x53 x54 x55 x56 x57 x58 x59 x60) σ
noncomputable def F5 (G : GuardT) (lo : Nat) (x0 x1 : DV) (σ : Store) : Option (DV × Store) :=
 codeF G PP (pol 5) CC lo c5_0 a5_0 [x0, x1, ud, ud, ud, ud, ud, ud, ud, ud, ud, ud, ud, ud, ud, ud, ud, ud, ud, ud, ud, ud, ud, ud, ud, ud, ud, ud, ud, ud, ud, ud, ud, ud, ud, ud, ud, ud, ud, ud, ud, ud, ud, ud, ud, ud, ud, ud, ud, ud, ud, ud, ud, ud, ud, ud, ud, ud, ud, ud, ud, ud, ud, ud, ud, ud, ud, ud, ud, ud, ud, ud, ud, ud, ud, ud, ud, ud, ud, ud] σ (finR PP Go.Proofs.Tryz.f5.results.toList)
theorem f5_J0_eq (G : GuardT) (lo : Nat) (x0 x1 x2 x4 x5 x6 x7 x8 x9 x10 x11 x12 x13 x14 x15 x16 x17 x18 x19 x20 x21 x22 x23 x24 x25 x26 x27 x28 x29 x30 x31 x32 x33 x34 x35 x36 x37 x38 x39 x40 x41 x42 x43 x44 x45 x46 x47 x48 x49 x50 x51 x52 x53 x54 x55 x56 x57 x58 x59 x60 : DV) (σ : Store) : f5_J0 G lo x0 x1 x2 x4 x5 x6 x7 x8 x9 x10 x11 x12 x13 x14 x15 x16 x17 x18 x19 x20 x21 x22 x23 x24 x25 x26 x27 x28 x29 x30 x31 x32 x33 x34 x35 x36 x37 x38 x39 x40 x41 x42 x43 x44 x45 x46 x47 x48 x49 x50 x51 x52 x53 x54 x55 x56 x57 x58 x59 x60 σ =
 (binOp PP .neq 3 x7 (DV.p (PV.int IntKind.i64 (0)))).bind fun x62 =>
 condK x62
 (
 (binOp PP .eql 3 x6 x7).bind fun x65 =>
 G _ x65 true (some (x5, σ)) σ fun x67 σ22 =>
 G _ x65 true ((len PP 22 x67 σ22).bind fun v => some (v, σ22)) σ22 fun x68 σ23 =>
 G _ x65 true ((binOp PP .eql 3 x68 (DV.p (PV.int IntKind.i64 (0)))).bind fun v => some (v, σ23)) σ23 fun x69 σ24 =>
 (pickV x65 x69 (DV.p (PV.bool false))).bind fun x70 =>
 some (x70, σ24)
 )
 (
 (binOp PP .eql 34 x6 (DV.p (PV.int IntKind.i64 (0)))).bind fun x72 =>
 G _ x72 true (some (x5, σ)) σ fun x74 σ25 =>
 G _ x72 true ((load PP 33 x2 σ25).bind fun v => some (v, σ25)) σ25 fun x75 σ26 =>
 G _ x72 true (some (x1, σ26)) σ26 fun x76 σ27 =>
 G _ x72 true ((pureFn CC (DV.fn 35 []) [x75, x76] σ27).bind fun v => some (v, σ27)) σ27 fun x77 σ28 =>
 G _ x72 true ((pureFn CC (DV.fn 34 []) [x74, x77] σ28).bind fun v => some (v, σ28)) σ28 fun x78 σ29 =>
 (pickV x72 x78 (DV.p (PV.bool false))).bind fun x79 =>
 some (x79, σ29)
 ) := by kernel_rfl
theorem F5_eq (G : GuardT) (lo : Nat) (x0 x1 : DV) (σ : Store) : F5 G lo x0 x1 σ =
 (boxV x0).bind fun z2 =>
 (pureFn CC (DV.fn 9 []) [] (σ ++ [Row.mix z2])).bind fun x8 =>
 (unOp .not x8).bind fun x9 =>
 condK x9
 (
 some ((DV.p (PV.bool false)), (σ ++ [Row.mix z2]))
 )
 (
 (fieldAddr PP 33 (DV.ptr (List.length σ) 0) 0).bind fun x10 =>
 (fieldAddr PP 25 x10 0).bind fun x11 =>
 (load PP 3 x11 (σ ++ [Row.mix z2])).bind fun x12 =>
 (binOp PP .gtr 3 x12 (DV.p (PV.int IntKind.i64 (30)))).bind fun x13 =>
 G _ x13 false ((fieldAddr PP 33 (DV.ptr (List.length σ) 0) 0).bind fun v => some (v, (σ ++ [Row.mix z2]))) (σ ++ [Row.mix z2]) fun x15 σ1 =>
 G _ x13 false ((fieldAddr PP 25 x15 1).bind fun v => some (v, σ1)) σ1 fun x16 σ2 =>
 G _ x13 false ((load PP 22 x16 σ2).bind fun v => some (v, σ2)) σ2 fun x17 σ3 =>
 G _ x13 false ((len PP 22 x17 σ3).bind fun v => some (v, σ3)) σ3 fun x18 σ4 =>
 G _ x13 false ((binOp PP .gtr 3 x18 (DV.p (PV.int IntKind.i64 (40)))).bind fun v => some (v, σ4)) σ4 fun x19 σ5 =>
 (pickV x13 (DV.p (PV.bool true)) x19).bind fun x20 =>
 G _ x20 false ((fieldAddr PP 33 (DV.ptr (List.length σ) 0) 0).bind fun v => some (v, σ5)) σ5 fun x22 σ6 =>
 G _ x20 false ((fieldAddr PP 25 x22 2).bind fun v => some (v, σ6)) σ6 fun x23 σ7 =>
 G _ x20 false ((load PP 23 x23 σ7).bind fun v => some (v, σ7)) σ7 fun x24 σ8 =>
 G _ x20 false ((len PP 23 x24 σ8).bind fun v => some (v, σ8)) σ8 fun x25 σ9 =>
 G _ x20 false ((binOp PP .gtr 3 x25 (DV.p (PV.int IntKind.i64 (60)))).bind fun v => some (v, σ9)) σ9 fun x26 σ10 =>
 (pickV x20 (DV.p (PV.bool true)) x26).bind fun x27 =>
 G _ x27 false ((fieldAddr PP 33 (DV.ptr (List.length σ) 0) 1).bind fun v => some (v, σ10)) σ10 fun x29 σ11 =>
 G _ x27 false ((load PP 22 x29 σ11).bind fun v => some (v, σ11)) σ11 fun x30 σ12 =>
 G _ x27 false ((len PP 22 x30 σ12).bind fun v => some (v, σ12)) σ12 fun x31 σ13 =>
 G _ x27 false ((binOp PP .gtr 3 x31 (DV.p (PV.int IntKind.i64 (40)))).bind fun v => some (v, σ13)) σ13 fun x32 σ14 =>
 (pickV x27 (DV.p (PV.bool true)) x32).bind fun x33 =>
 G _ x33 false ((fieldAddr PP 33 (DV.ptr (List.length σ) 0) 2).bind fun v => some (v, σ14)) σ14 fun x35 σ15 =>
 G _ x33 false ((load PP 22 x35 σ15).bind fun v => some (v, σ15)) σ15 fun x36 σ16 =>
 G _ x33 false ((len PP 22 x36 σ16).bind fun v => some (v, σ16)) σ16 fun x37 σ17 =>
 G _ x33 false ((binOp PP .gtr 3 x37 (DV.p (PV.int IntKind.i64 (40)))).bind fun v => some (v, σ17)) σ17 fun x38 σ18 =>
 (pickV x33 (DV.p (PV.bool true)) x38).bind fun x39 =>
 G _ x39 false (some (x1, σ18)) σ18 fun x41 σ19 =>
 G _ x39 false ((len PP 22 x41 σ19).bind fun v => some (v, σ19)) σ19 fun x42 σ20 =>
 G _ x39 false ((binOp PP .gtr 3 x42 (DV.p (PV.int IntKind.i64 (62)))).bind fun v => some (v, σ20)) σ20 fun x43 σ21 =>
 (pickV x39 (DV.p (PV.bool true)) x43).bind fun x44 =>
 condK x44
 (
 some ((DV.p (PV.bool true)), σ21)
 )
 (
 (load PP 33 (DV.ptr (List.length σ) 0) σ21).bind fun x46 =>
 (pureFn CC (DV.fn 32 []) [x46] σ21).bind fun x47 =>
 (pureFn CC (DV.fn 16 []) [x1] σ21).bind fun x49 =>
 (pureFn CC (DV.fn 31 []) [x47, x49] σ21).bind fun x50 =>
 (extractV x50 0).bind fun x51 =>
 (extractV x50 1).bind fun x52 =>
 (load PP 33 (DV.ptr (List.length σ) 0) σ21).bind fun x53 =>
 (pureFn CC (DV.fn 33 []) [x53] σ21).bind fun x54 =>
 (binOp PP .eql 3 x54 (DV.p (PV.int IntKind.i64 (0)))).bind fun x56 =>
 condK x56
 (
 (fieldAddr PP 33 (DV.ptr (List.length σ) 0) 0).bind fun x57 =>
 (load PP 25 x57 σ21).bind fun x58 =>
 (pureFn CC (DV.fn 22 []) [x58, x1] σ21).bind fun x60 =>
 f5_J0 G lo x0 x1 (DV.ptr (List.length σ) 0) (DV.p (PV.bool false)) x51 x52 x60 x8 x9 x10 x11 x12 x13 x13 x15 x16 x17 x18 x19 x20 x20 x22 x23 x24 x25 x26 x27 x27 x29 x30 x31 x32 x33 x33 x35 x36 x37 x38 x39 x39 x41 x42 x43 x44 x50 x46 x47 x1 x49 x50 x51 x52 x53 x54 x54 x56 x57 x58 x1 x60 σ21
 )
 (
 f5_J0 G lo x0 x1 (DV.ptr (List.length σ) 0) (DV.p (PV.bool false)) x51 x52 x54 x8 x9 x10 x11 x12 x13 x13 x15 x16 x17 x18 x19 x20 x20 x22 x23 x24 x25 x26 x27 x27 x29 x30 x31 x32 x33 x33 x35 x36 x37 x38 x39 x39 x41 x42 x43 x44 x50 x46 x47 x1 x49 x50 x51 x52 x53 x54 x54 x56 ud ud ud ud σ21
 )
 )
 ) := by kernel_rfl
theorem F5_call {lo : Nat} {x0 x1 : DV} {σ : Store} {r : DV × Store} (h : F5 guardT lo x0 x1 σ = some r) : CC lo 5 [x0, x1] σ = some r :=
 callL_run Go.Proofs.Tryz.func5 (by decide +kernel) rfl (by decide +kernel) h
noncomputable def c9_0 : Code := bodyOf Go.Proofs.Tryz.f9
noncomputable def a9_0 : Ann := (pol 9).ann
noncomputable def F9 (G : GuardT) (lo : Nat) (σ : Store) : Option (DV × Store) :=
 codeF G PP (pol 9) CC lo c9_0 a9_0 [ud, ud, ud, ud, ud, ud, ud, ud, ud, ud, ud, ud, ud, ud, ud, ud, ud, ud, ud, ud, ud, ud, ud, ud, ud, ud, ud, ud, ud, ud, ud, ud, ud, ud, ud, ud, ud, ud, ud, ud, ud, ud, ud, ud, ud, ud, ud, ud, ud, ud, ud, ud, ud, ud, ud, ud, ud, ud, ud, ud, ud, ud, ud, ud, ud, ud, ud, ud, ud, ud, ud, ud, ud, ud, ud, ud, ud, ud, ud, ud, ud, ud, ud, ud, ud, ud, ud, ud, ud, ud, ud, ud, ud, ud, ud, ud, ud, ud, ud, ud, ud, ud, ud, ud, ud, ud, ud, ud, ud, ud, ud, ud, ud, ud, ud, ud, ud, ud] σ (finR PP Go.Proofs.Tryz.f9.results.toList)
theorem F9_eq (G : GuardT) (lo : Nat) (σ : Store) : F9 G lo σ =
 (pureFn CC (DV.fn 46 []) [] σ).bind fun x16 =>
 (pureFn CC (DV.fn 47 []) [] σ).bind fun x17 =>
 (pureFn CC (DV.fn 12 []) [x16, x17] σ).bind fun x18 =>
 (extractV x18 0).bind fun x19 =>
 (extractV x18 1).bind fun x20 =>
 (zeroOf PP 33).bind fun z1 =>
 (store PP lo 33 (DV.ptr (List.length σ) 0) x19 (σ ++ [Row.mix z1])).bind fun σ1 =>
 (pureFn CC (DV.fn 46 []) [] σ1).bind fun x22 =>
 (pureFn CC (DV.fn 47 []) [] σ1).bind fun x23 =>
 (buildSlice PP none 22 4 [(0, (DV.p (PV.int IntKind.i64 (0)))), (1, (DV.p (PV.int IntKind.i64 (1)))), (2, (DV.p (PV.int IntKind.i64 (0)))), (3, (DV.p (PV.int IntKind.i64 (1))))] σ1).bind fun r24_2 =>
 (pureFn CC (DV.fn 15 []) [x22, x23, r24_2.1] r24_2.2).bind fun x25 =>
 (extractV x25 0).bind fun x26 =>
 (extractV x25 1).bind fun x27 =>
 (plainFn CC lo (DV.fn 48 []) [] r24_2.2).bind fun r28_3 =>
 (zeroOf PP 74).bind fun z5 =>
 (store PP lo 74 (DV.ptr (List.length r28_3.2) 0) r28_3.1 (r28_3.2 ++ [Row.mix z5])).bind fun σ4 =>
 (fieldAddr PP 74 (DV.ptr (List.length r28_3.2) 0) 1).bind fun x29 =>
 (load PP 72 x29 σ4).bind fun x30 =>
 (fieldAddr PP 74 (DV.ptr (List.length r28_3.2) 0) 1).bind fun x31 =>
 (load PP 72 x31 σ4).bind fun x32 =>
 (indexAddr PP 72 x32 (DV.p (PV.int IntKind.i64 (0)))).bind fun x33 =>
 (load PP 26 x33 σ4).bind fun x34 =>
 (sliceOp PP 26 x34 none (some (DV.p (PV.int IntKind.i64 (1)))) none).bind fun x35 =>
 (indexAddr PP 72 x30 (DV.p (PV.int IntKind.i64 (0)))).bind fun x36 =>
 (store PP lo 26 x36 x35 σ4).bind fun σ5 =>
 (pureFn CC (DV.fn 46 []) [] σ5).bind fun x38 =>
 (load PP 74 (DV.ptr (List.length r28_3.2) 0) σ5).bind fun x39 =>
 (pureFn CC (DV.fn 39 []) [x38, x39] σ5).bind fun x40 =>
 (extractV x40 0).bind fun x41 =>
 (extractV x40 1).bind fun x42 =>
 (extractV x40 2).bind fun x43 =>
 (pureFn CC (DV.fn 46 []) [] σ5).bind fun x45 =>
 (pureFn CC (DV.fn 49 []) [] σ5).bind fun x46 =>
 (buildSlice PP none 22 2 [(0, (DV.p (PV.int IntKind.i64 (0)))), (1, (DV.p (PV.int IntKind.i64 (1))))] σ5).bind fun r47_6 =>
 (pureFn CC (DV.fn 27 []) [x45, x46, r47_6.1] r47_6.2).bind fun x48 =>
 (extractV x48 0).bind fun x49 =>
 (extractV x48 1).bind fun x50 =>
 (pureFn CC (DV.fn 46 []) [] r47_6.2).bind fun x52 =>
 (pureFn CC (DV.fn 49 []) [] r47_6.2).bind fun x53 =>
 (pureFn CC (DV.fn 25 []) [x52, x53] r47_6.2).bind fun x54 =>
 (extractV x54 0).bind fun x55 =>
 (extractV x54 1).bind fun x56 =>
 (zeroOf PP 33).bind fun z11 =>
 (store PP lo 33 (DV.ptr (List.length r47_6.2) 0) x55 (r47_6.2 ++ [Row.mix z11])).bind fun σ7 =>
 (binOp PP .neq 34 x20 (DV.p (PV.int IntKind.i64 (0)))).bind fun x58 =>
 G _ x58 false (some (x27, σ7)) σ7 fun x60 σ8 =>
 G _ x58 false ((binOp PP .neq 34 x60 (DV.p (PV.int IntKind.i64 (0)))).bind fun v => some (v, σ8)) σ8 fun x61 σ9 =>
 (pickV x58 (DV.p (PV.bool true)) x61).bind fun x62 =>
 G _ x62 false (some (x43, σ9)) σ9 fun x64 σ10 =>
 G _ x62 false ((binOp PP .neq 34 x64 (DV.p (PV.int IntKind.i64 (31)))).bind fun v => some (v, σ10)) σ10 fun x65 σ11 =>
 (pickV x62 (DV.p (PV.bool true)) x65).bind fun x66 =>
 G _ x66 false (some (x50, σ11)) σ11 fun x68 σ12 =>
 G _ x66 false ((binOp PP .neq 34 x68 (DV.p (PV.int IntKind.i64 (0)))).bind fun v => some (v, σ12)) σ12 fun x69 σ13 =>
 (pickV x66 (DV.p (PV.bool true)) x69).bind fun x70 =>
 G _ x70 false (some (x56, σ13)) σ13 fun x72 σ14 =>
 G _ x70 false ((binOp PP .neq 34 x72 (DV.p (PV.int IntKind.i64 (0)))).bind fun v => some (v, σ14)) σ14 fun x73 σ15 =>
 (pickV x70 (DV.p (PV.bool true)) x73).bind fun x74 =>
 condK x74
 (
 some ((DV.p (PV.bool false)), σ15)
 )
 (
 (load PP 33 (DV.ptr (List.length r47_6.2) 0) σ15).bind fun x76 =>
 (buildSlice PP none 22 3 [(0, (DV.p (PV.int IntKind.i64 (0)))), (1, (DV.p (PV.int IntKind.i64 (2)))), (2, (DV.p (PV.int IntKind.i64 (1))))] σ15).bind fun r77_16 =>
 (pureFn CC (DV.fn 31 []) [x76, r77_16.1] r77_16.2).bind fun x78 =>
 (extractV x78 0).bind fun x79 =>
 (extractV x78 1).bind fun x80 =>
 (fieldAddr PP 33 (DV.ptr (List.length σ) 0) 1).bind fun x81 =>
 (load PP 22 x81 r77_16.2).bind fun x82 =>
 (buildSlice PP none 22 5 [(0, (DV.p (PV.int IntKind.i64 (0)))), (1, (DV.p (PV.int IntKind.i64 (0)))), (2, (DV.p (PV.int IntKind.i64 (0)))), (3, (DV.p (PV.int IntKind.i64 (1)))), (4, (DV.p (PV.int IntKind.i64 (1))))] r77_16.2).bind fun r83_17 =>
 (pureFn CC (DV.fn 34 []) [x82, r83_17.1] r83_17.2).bind fun x84 =>
 G _ x84 true ((fieldAddr PP 33 (DV.ptr (List.length σ) 0) 2).bind fun v => some (v, r83_17.2)) r83_17.2 fun x86 σ18 =>
 G _ x84 true ((load PP 22 x86 σ18).bind fun v => some (v, σ18)) σ18 fun x87 σ19 =>
 G _ x84 true ((buildSlice PP none 22 5 [(0, (DV.p (PV.int IntKind.i64 (0)))), (1, (DV.p (PV.int IntKind.i64 (1)))), (2, (DV.p (PV.int IntKind.i64 (2)))), (3, (DV.p (PV.int IntKind.i64 (1)))), (4, (DV.p (PV.int IntKind.i64 (2))))] σ19).bind fun r => some (r.1, r.2)) σ19 fun x88 σ20 =>
 G _ x84 true ((pureFn CC (DV.fn 34 []) [x87, x88] σ20).bind fun v => some (v, σ20)) σ20 fun x89 σ21 =>
 (pickV x84 x89 (DV.p (PV.bool false))).bind fun x90 =>
 G _ x90 true (some (x26, σ21)) σ21 fun x92 σ22 =>
 G _ x90 true ((buildSlice PP none 22 4 [(0, (DV.p (PV.int IntKind.i64 (0)))), (1, (DV.p (PV.int IntKind.i64 (3)))), (2, (DV.p (PV.int IntKind.i64 (1)))), (3, (DV.p (PV.int IntKind.i64 (4))))] σ22).bind fun r => some (r.1, r.2)) σ22 fun x93 σ23 =>
 G _ x90 true ((pureFn CC (DV.fn 34 []) [x92, x93] σ23).bind fun v => some (v, σ23)) σ23 fun x94 σ24 =>
 (pickV x90 x94 (DV.p (PV.bool false))).bind fun x95 =>
 G _ x95 true (some (x41, σ24)) σ24 fun x97 σ25 =>
 G _ x95 true ((binOp PP .eql 3 x97 (DV.p (PV.int IntKind.i64 (0)))).bind fun v => some (v, σ25)) σ25 fun x98 σ26 =>
 (pickV x95 x98 (DV.p (PV.bool false))).bind fun x99 =>
 G _ x99 true (some (x42, σ26)) σ26 fun x101 σ27 =>
 G _ x99 true ((binOp PP .eql 3 x101 (DV.p (PV.int IntKind.i64 (1)))).bind fun v => some (v, σ27)) σ27 fun x102 σ28 =>
 (pickV x99 x102 (DV.p (PV.bool false))).bind fun x103 =>
 G _ x103 true (some (x49, σ28)) σ28 fun x105 σ29 =>
 G _ x103 true ((buildSlice PP none 22 4 [(0, (DV.p (PV.int IntKind.i64 (0)))), (1, (DV.p (PV.int IntKind.i64 (2)))), (2, (DV.p (PV.int IntKind.i64 (1)))), (3, (DV.p (PV.int IntKind.i64 (3))))] σ29).bind fun r => some (r.1, r.2)) σ29 fun x106 σ30 =>
 G _ x103 true ((pureFn CC (DV.fn 34 []) [x105, x106] σ30).bind fun v => some (v, σ30)) σ30 fun x107 σ31 =>
 (pickV x103 x107 (DV.p (PV.bool false))).bind fun x108 =>
 G _ x108 true (some (x80, σ31)) σ31 fun x110 σ32 =>
 G _ x108 true ((binOp PP .eql 34 x110 (DV.p (PV.int IntKind.i64 (0)))).bind fun v => some (v, σ32)) σ32 fun x111 σ33 =>
 (pickV x108 x111 (DV.p (PV.bool false))).bind fun x112 =>
 G _ x112 true (some (x79, σ33)) σ33 fun x114 σ34 =>
 G _ x112 true ((buildSlice PP none 22 1 [(0, (DV.p (PV.int IntKind.i64 (0))))] σ34).bind fun r => some (r.1, r.2)) σ34 fun x115 σ35 =>
 G _ x112 true ((pureFn CC (DV.fn 34 []) [x114, x115] σ35).bind fun v => some (v, σ35)) σ35 fun x116 σ36 =>
 (pickV x112 x116 (DV.p (PV.bool false))).bind fun x117 =>
 some (x117, σ36)
 ) := by kernel_rfl
theorem F9_call {lo : Nat} {σ : Store} {r : DV × Store} (h : F9 guardT lo σ = some r) : CC lo 9 [] σ = some r :=
 callL_run Go.Proofs.Tryz.func9 (by decide +kernel) rfl (by decide +kernel) h
end Go.D
end
/- The examples of chapter 22: awake answers true. -/
section
set_option linter.unusedVariables false
set_option linter.unusedSimpArgs false
set_option maxRecDepth 100000
namespace Go.D
def runAt (P : Program) (pol : FuncId → FPol) (k : Nat) (f : FuncId) (args : List DV) (r : DV) (σ : Store) : Bool :=
  match callK P pol k σ.length f args σ with
  | some (v, σ') => match thawAll σ.length σ' v with
    | some v' => eqD v' r
    | none => false
  | none => false
theorem pureV_runAt {k : Nat} {f : FuncId} {args : List DV} {r : DV} {σ : Store} (h : runAt PP pol k f args r σ = true) (h1 : args.map view = args) (h2 : args.all rowFree = false) : pureV CC f args σ = some r := by
  unfold runAt at h
  split at h
  · rename_i v σ' hc
    split at h
    · rename_i v' ht
      exact (pureV_rows h1 h2 (callL_at hc) ht).trans (by rw [eqD_eq h])
    · exact absurd h (by simp)
  · exact absurd h (by simp)
def pv2 (a b : Int) : PV := .sl true 2 (eInts [a, b])
def z33 : List DV := [.p (pI 0), .p .nilsl, .p .nilsl, .p .nilsl, .p .nilsl]
def gVc : List DV := [.p (pI 2), .rsl 2 1 0 2]
def gB : PV := .sl true 4 [pv2 0 0, pv2 0 1, pv2 1 0, pv2 1 1]
def s1 : Store := [.mix exA]
def s3' : Store := [.mix exA, .mix gVc, .mix [.p (.sl true 2 [pv2 0 0, pv2 1 1]), .p gB]]
def s4' : Store := [.mix exA, .mix gVc, .mix [.p (.sl true 2 [pv2 0 0, pv2 1 1]), .p gB], .mix gVc]
def s5' : Store := [.mix exA, .mix gVc, .mix [.p (.sl false 1 [pv2 0 0]), .p gB], .mix gVc]
def s6' : Store := [.mix exA, .mix gVc, .mix [.p (.sl false 1 [pv2 0 0]), .p gB], .mix gVc, .mix exY]
theorem run39 : runAt PP pol 40 39 [.agg (eGr exG), .agg gVc] (.tuple [.p (pI 0), .p (pI 1), .p (pI 31)]) s5' = true := by decide +kernel
theorem E46 (σ : Store) : pureV CC 46 [] σ = some (.agg (eGr exG)) := pureV_run run46 rfl rfl
theorem E47 (σ : Store) : pureV CC 47 [] σ = some (.agg exH) := pureV_run run47 rfl rfl
theorem E49 (σ : Store) : pureV CC 49 [] σ = some (.agg exS) := pureV_run run49 rfl rfl
theorem E12 (σ : Store) : pureV CC 12 [.agg (eGr exG), .agg exH] σ = some (.tuple [.agg exA, .p (pI 0)]) := pureV_run run12 rfl rfl
theorem E25 (σ : Store) : pureV CC 25 [.agg (eGr exG), .agg exS] σ = some (.tuple [.agg exY, .p (pI 0)]) := pureV_run run25 rfl rfl
theorem E15 (σ : Store) : pureV CC 15 [.agg (eGr exG), .agg exH, .p (.sl true 4 (eInts [0, 1, 0, 1]))] σ = some (.tuple [.p (eSl (some [0, 3, 1, 4])), .p (pI 0)]) := by
  rw [pureV_view (args' := [.agg (eGr exG), .agg exH, .p (eSl (some [0, 1, 0, 1]))]) rfl rfl]
  exact pureV_run run15 rfl rfl
theorem E27 (σ : Store) : pureV CC 27 [.agg (eGr exG), .agg exS, .p (.sl true 2 (eInts [0, 1]))] σ = some (.tuple [.p (eSl (some [0, 2, 1, 3])), .p (pI 0)]) := by
  rw [pureV_view (args' := [.agg (eGr exG), .agg exS, .p (eSl (some [0, 1]))]) rfl rfl]
  exact pureV_run run27 rfl rfl
theorem E31 (σ : Store) : pureV CC 31 [.agg exY, .p (.sl true 3 (eInts [0, 2, 1]))] σ = some (.tuple [.p (eSl (some [0])), .p (pI 0)]) := by
  rw [pureV_view (args' := [.agg exY, .p (eSl (some [0, 2, 1]))]) rfl rfl]
  exact pureV_run run31 rfl rfl
theorem E34 (l : List Int) (n : Nat) (hn : n = l.length) (hl : l.length ≤ 1000) (σ : Store) : pureV CC 34 [.p (eSl (some l)), .p (.sl true n (eInts l))] σ = some (.p (.bool true)) := by
  rw [pureV_view (args' := [.p (eSl (some l)), .p (eSl (some l))]) (by subst hn; simp [view, viewCell, loosen, loosens_ints, eSl]) (by simp [sl_view])]
  exact S34 (a := some l) (b := some l) rfl hl
theorem E39 : pureV CC 39 [.agg (eGr exG), .agg gVc] s5' = some (.tuple [.p (pI 0), .p (pI 1), .p (pI 31)]) := pureV_runAt run39 rfl rfl
theorem E48 : plainFn CC 0 (.fn 48 []) [] s1 = some (.agg gVc, s3') := by
  have h : callK PP pol 40 0 48 [] s1 = some (.agg gVc, s3') := by kernel_rfl
  exact callL_at h
theorem g33 : zeroOf PP 33 = some z33 := Eq.trans (by kernel_rfl) rfl
theorem g74 : zeroOf PP 74 = some [.p (pI 0), .p .nilsl] := Eq.trans (by kernel_rfl) rfl
theorem h1 : store PP 0 33 (.ptr 0 0) (.agg exA) [.mix z33] = some s1 := Eq.trans (by kernel_rfl) rfl
theorem h4 : store PP 0 74 (.ptr 3 0) (.agg gVc) (s3' ++ [.mix [.p (pI 0), .p .nilsl]]) = some s4' := Eq.trans (by kernel_rfl) rfl
theorem l3 : s3'.length = 3 := rfl
theorem l5 : s5'.length = 4 := rfl
theorem h5 : fieldAddr PP 74 (.ptr 3 0) 1 = some (.ptr 3 1) := Eq.trans (by kernel_rfl) rfl
theorem h6 : load PP 72 (.ptr 3 1) s4' = some (.rsl 2 1 0 2) := Eq.trans (by kernel_rfl) rfl
theorem h7 : indexAddr PP 72 (.rsl 2 1 0 2) (.p (.int .i64 0)) = some (.ptr 2 0) := Eq.trans (by kernel_rfl) rfl
theorem h8 : load PP 26 (.ptr 2 0) s4' = some (.p (.sl true 2 [pv2 0 0, pv2 1 1])) := Eq.trans (by kernel_rfl) rfl
theorem h9 : sliceOp PP 26 (.p (.sl true 2 [pv2 0 0, pv2 1 1])) none (some (.p (.int .i64 1))) none = some (.p (.sl false 1 [pv2 0 0])) := Eq.trans (by kernel_rfl) rfl
theorem h10 : store PP 0 26 (.ptr 2 0) (.p (.sl false 1 [pv2 0 0])) s4' = some s5' := Eq.trans (by kernel_rfl) rfl
theorem h11 : load PP 74 (.ptr 3 0) s5' = some (.agg gVc) := Eq.trans (by kernel_rfl) rfl
theorem h13 : store PP 0 33 (.ptr 4 0) (.agg exY) (s5' ++ [.mix z33]) = some s6' := Eq.trans (by kernel_rfl) rfl
theorem h14 : load PP 33 (.ptr 4 0) s6' = some (.agg exY) := Eq.trans (by kernel_rfl) rfl
theorem h15 : load PP 22 (.ptr 0 3) s6' = some (.p (eSl (some [0, 0, 0, 1, 1]))) := Eq.trans (by kernel_rfl) rfl
theorem h16 : load PP 22 (.ptr 0 4) s6' = some (.p (eSl (some [0, 1, 2, 1, 2]))) := Eq.trans (by kernel_rfl) rfl
theorem bs22_4 (a b c d : Int) (σ : Store) : buildSlice PP none 22 4 [(0, .p (.int .i64 a)), (1, .p (.int .i64 b)), (2, .p (.int .i64 c)), (3, .p (.int .i64 d))] σ = some (.p (.sl true 4 (eInts [a, b, c, d])), σ) := Eq.trans (by kernel_rfl) rfl
theorem bs22_5 (a b c d e : Int) (σ : Store) : buildSlice PP none 22 5 [(0, .p (.int .i64 a)), (1, .p (.int .i64 b)), (2, .p (.int .i64 c)), (3, .p (.int .i64 d)), (4, .p (.int .i64 e))] σ = some (.p (.sl true 5 (eInts [a, b, c, d, e])), σ) := Eq.trans (by kernel_rfl) rfl
theorem bs22_3' (a b c : Int) (σ : Store) : buildSlice PP none 22 3 [(0, .p (.int .i64 a)), (1, .p (.int .i64 b)), (2, .p (.int .i64 c))] σ = some (.p (.sl true 3 (eInts [a, b, c])), σ) := Eq.trans (by kernel_rfl) rfl
theorem bs22_1' (a : Int) (σ : Store) : buildSlice PP none 22 1 [(0, .p (.int .i64 a))] σ = some (.p (.sl true 1 (eInts [a])), σ) := Eq.trans (by kernel_rfl) rfl
theorem e3_0 (a b c : DV) : extractV (.tuple [a, b, c]) 0 = some a := Eq.trans rfl rfl
theorem e3_1 (a b c : DV) : extractV (.tuple [a, b, c]) 1 = some b := Eq.trans rfl rfl
theorem e3_2 (a b c : DV) : extractV (.tuple [a, b, c]) 2 = some c := Eq.trans rfl rfl
theorem awake_F9 : F9 guardT 0 [] = some (.p (.bool true), s6') := by
  rw [F9_eq]
  simp only [pureFn_fn, List.append_nil, E46, E47, E12, obind, ex0, ex1, g33, List.length_nil, List.nil_append, h1, bs22_4, E15, E48, g74, l3, h4, h5, h6, h7, h8, h9, h10, h11, E39, e3_0, e3_1, e3_2, E49, bs22_2, E27, E25, l5, h13,
    b_neq, b_eql, eqT (rfl : (0 : Int) = 0), eqT (rfl : (1 : Int) = 1), eqT (rfl : (31 : Int) = 31), Bool.not_true, guard_tt, guard_ff, guard_tf, guard_ft, guard_sk, pickV_true, pickV_false, condK_true, condK_false, h14, bs22_3', E31, fa33_1, fa33_2, shift_ptr, Nat.zero_add, Nat.add_zero, h15, h16, bs22_5, bs22_1', E34 [0, 0, 0, 1, 1] 5 rfl (by decide), E34 [0, 1, 2, 1, 2] 5 rfl (by decide), E34 [0, 3, 1, 4] 4 rfl (by decide), E34 [0, 2, 1, 3] 4 rfl (by decide), E34 [0] 1 rfl (by decide), decide_true]
theorem awake_true : ∀ σ, pureV CC 9 [] σ = some (.p (.bool true)) := fun σ => pureV_free rfl rfl (F9_call awake_F9) rfl
end Go.D
end
/- AuxiliaryHides: what the law answers, if awake answers true. -/
section
set_option linter.unusedVariables false
set_option linter.unusedSimpArgs false
namespace Go.D
section
variable {x : Ax} {o : OI} (hs : XSm x) (hp : (L o).length ≤ 1000) (hin : InB x (L o))
include hs hp hin
theorem L35 : ∀ (k i : Nat) (y : DV) (σ : Store), (L o).length - i = k → i ≤ (L o).length → σ[0]? = some (.mix (eAx x)) → Out σ 1 1 (hidU x (L o) i).length (eInts (hidU x (L o) i)) y →
    ∃ y' σ', f35_L0 guardT 0 (.p (eSl o)) (.ptr 0 0) y (N i) σ = some (y', σ') ∧ Out σ' 1 1 (hidU x (L o) (L o).length).length (eInts (hidU x (L o) (L o).length)) y'
  | 0, i, y, σ, hk, hi, h0, ho => by
    have : i = (L o).length := by omega
    subst this
    have hn : ¬ (((L o).length : Nat) : Int) < ((L o).length : Nat) := by omega
    refine ⟨y, σ, ?_, ho⟩
    rw [f35_L0_eq guardT rfl]
    simp only [N, len22, b_lss, ltF hn, guard_tt, guard_ff, guard_tf, guard_ft, guard_sk, obind, omap, pickV_true, pickV_false, condK_true, condK_false, decide_true, decide_false, Bool.not_true, Bool.not_false, not_bool]
  | k + 1, i, y, σ, hk, hi, h0, ho => by
    have hil : i < (L o).length := by omega
    have hlt : (i : Int) < ((L o).length : Nat) := by omega
    obtain ⟨a0, a1⟩ := hin i hil
    have hul := hidU_len x (L o) i
    have app : skp x (L o) i = false → ∃ y' σ', append PP 0 false 22 22 y (.p (.sl true 1 [pI (bAt x ((L o).getD i 0))])) σ = some (y', σ') ∧
        ∃ y'' σ'', f35_L0 guardT 0 (.p (eSl o)) (.ptr 0 0) y' (N (i + 1)) σ' = some (y'', σ'') ∧ Out σ'' 1 1 (hidU x (L o) (L o).length).length (eInts (hidU x (L o) (L o).length)) y'' := by
      intro hsk
      have hlen : 1 ≤ σ.length := by have := get_lt h0; omega
      obtain ⟨y', σ', e1, o1, t1⟩ := ho.push22 (v := pI (bAt x ((L o).getD i 0))) (by omega) hlen
      have e1 := L31.app_lo ho e1
      refine ⟨y', σ', e1, ?_⟩
      have e2 : hidU x (L o) (i + 1) = hidU x (L o) i ++ [bAt x ((L o).getD i 0)] := by rw [hidU, hsk]; rfl
      have o1 : Out σ' 1 1 (hidU x (L o) (i + 1)).length (eInts (hidU x (L o) (i + 1))) y' := by
        rw [e2, List.length_append]
        have e3 : eInts (hidU x (L o) i ++ [bAt x ((L o).getD i 0)]) = eInts (hidU x (L o) i) ++ [pI (bAt x ((L o).getD i 0))] := by simp [eInts]
        rw [e3]
        exact o1
      have h0' : σ'[0]? = some (.mix (eAx x)) := t1.1 0 _ h0 fun r ver sz n cs e => by
        rcases ho.2 with ⟨_, hz⟩ | ⟨_, r2, ver2, e3, _, e4⟩
        · rw [hz] at e; exact absurd e (by simp)
        · rw [e3] at e; injection e with e5; omega
      exact L35 k (i + 1) y' σ' (by omega) (by omega) h0' o1
    have skip : skp x (L o) i = true → ∃ y'' σ'', f35_L0 guardT 0 (.p (eSl o)) (.ptr 0 0) y (N (i + 1)) σ = some (y'', σ'') ∧ Out σ'' 1 1 (hidU x (L o) (L o).length).length (eInts (hidU x (L o) (L o).length)) y'' := by
      intro hsk
      have e2 : hidU x (L o) (i + 1) = hidU x (L o) i := by rw [hidU, hsk]; rfl
      exact L35 k (i + 1) y σ (by omega) (by omega) h0 (by rw [e2]; exact ho)
    have hbi : ∀ s : Int, 0 ≤ s → s.toNat < (L x.b).length → ∀ σ, load1 (.pptr (eInts (L x.b)) s.toNat) σ = some (.p (.int .i64 (bAt x s))) := fun s h1 h2 σ => ldL h2 σ
    rw [f35_L0_eq guardT rfl]
    by_cases hi0 : (i : Int) > 0
    · obtain ⟨b0, b1⟩ := hin (i - 1) (by omega)
      simp (disch := omega) only [N, len22, b_lss, ltT hlt, guard_tt, guard_ff, guard_tf, guard_ft, guard_sk, obind, omap, pickV_true, pickV_false, condK_true, condK_false, decide_true, decide_false, Bool.not_true, Bool.not_false, not_bool, idxL hil, load3, ldL hil, b_gtr, decide_eq_true hi0, fa33_1, shift_ptr, shift_pptr, Nat.zero_add, Nat.add_zero, pureFn_fn, List.append_nil, List.singleton_append, List.cons_append, List.nil_append, ax_b h0, idxi a0 a1, hbi _ a0 a1, sub1, idxL, ldL, idxi b0 b1, hbi _ b0 b1, b_eql]
      by_cases e1 : bAt x ((L o).getD i 0) = bAt x ((L o).getD (i - 1) 0)
      · simp (disch := omega) only [eqT e1, guard_tt, guard_ff, guard_tf, guard_ft, guard_sk, obind, omap, pickV_true, pickV_false, condK_true, condK_false, decide_true, decide_false, Bool.not_true, Bool.not_false, not_bool, fa33_0, shift_ptr, shift_pptr, Nat.zero_add, Nat.add_zero, pureFn_fn, List.append_nil, List.singleton_append, List.cons_append, List.nil_append, ax_g h0, sub1, idxL, load3, ldL, S70 hs.e]
        cases e2 : tkA x.g ((L o).getD (i - 1) 0) ((L o).getD i 0) with
        | true =>
          have hsk : skp x (L o) i = true := by rw [skp, decide_eq_true hi0, eqT e1, e2]; rfl
          obtain ⟨y'', σ'', q1, q2⟩ := skip hsk
          refine ⟨y'', σ'', ?_, q2⟩
          simp (disch := omega) only [guard_tt, guard_ff, guard_tf, guard_ft, guard_sk, obind, omap, pickV_true, pickV_false, condK_true, condK_false, decide_true, decide_false, Bool.not_true, Bool.not_false, not_bool, f35_J0_eq, add1]
          exact q1
        | false =>
          have hsk : skp x (L o) i = false := by rw [skp, e2, Bool.and_false, Bool.and_false]
          obtain ⟨y', σ', q0, y'', σ'', q1, q2⟩ := app hsk
          refine ⟨y'', σ'', ?_, q2⟩
          simp (disch := omega) only [guard_tt, guard_ff, guard_tf, guard_ft, guard_sk, obind, omap, pickV_true, pickV_false, condK_true, condK_false, decide_true, decide_false, Bool.not_true, Bool.not_false, not_bool, fa33_1, shift_ptr, shift_pptr, Nat.zero_add, Nat.add_zero, pureFn_fn, List.append_nil, List.singleton_append, List.cons_append, List.nil_append, ax_b h0, idxL hil, load3, ldL hil, idxi a0 a1, hbi _ a0 a1, bs22_1, q0, f35_J0_eq, add1]
          exact q1
      · have hsk : skp x (L o) i = false := by rw [skp, eqF e1, Bool.false_and, Bool.and_false]
        obtain ⟨y', σ', q0, y'', σ'', q1, q2⟩ := app hsk
        refine ⟨y'', σ'', ?_, q2⟩
        simp (disch := omega) only [eqF e1, guard_tt, guard_ff, guard_tf, guard_ft, guard_sk, obind, omap, pickV_true, pickV_false, condK_true, condK_false, decide_true, decide_false, Bool.not_true, Bool.not_false, not_bool, fa33_1, shift_ptr, shift_pptr, Nat.zero_add, Nat.add_zero, pureFn_fn, List.append_nil, List.singleton_append, List.cons_append, List.nil_append, ax_b h0, idxL hil, load3, ldL hil, idxi a0 a1, hbi _ a0 a1, bs22_1, q0, f35_J0_eq, add1]
        exact q1
    · have hsk : skp x (L o) i = false := by rw [skp, decide_eq_false hi0, Bool.false_and]
      obtain ⟨y', σ', q0, y'', σ'', q1, q2⟩ := app hsk
      refine ⟨y'', σ'', ?_, q2⟩
      simp (disch := omega) only [N, len22, b_lss, ltT hlt, guard_tt, guard_ff, guard_tf, guard_ft, guard_sk, obind, omap, pickV_true, pickV_false, condK_true, condK_false, decide_true, decide_false, Bool.not_true, Bool.not_false, not_bool, idxL hil, load3, ldL hil, b_gtr, decide_eq_false hi0, fa33_1, shift_ptr, shift_pptr, Nat.zero_add, Nat.add_zero, pureFn_fn, List.append_nil, List.singleton_append, List.cons_append, List.nil_append, ax_b h0, idxi a0 a1, hbi _ a0 a1, bs22_1, q0, f35_J0_eq, add1]
      exact q1
end
theorem S35 {x : Ax} {o : OI} {σ : Store} (hs : XSm x) (hp : (L o).length ≤ 1000) (hin : InB x (L o)) : pureV CC 35 [.agg (eAx x), .p (eSl o)] σ = some (.p (eSl (oI (hidU x (L o) (L o).length)))) := by
  have g0 : ([Row.mix (eAx x)] : Store)[0]? = some (.mix (eAx x)) := rfl
  obtain ⟨y, σ', e1, o1⟩ := L35 hs hp hin _ 0 (.p .nilsl) [Row.mix (eAx x)] (Nat.sub_zero _) (Nat.zero_le _) g0 Out.zero
  refine pureV_free (by simp [ax_view, sl_view]) rfl (F35_call (r := (y, σ')) ?_) ?_
  · rw [F35_eq]
    simp only [box_ax, obind, List.length_nil, List.nil_append]
    exact e1
  · have := thaw_oI (σ' := σ') 0 o1
    rcases o1.2 with ⟨_, rfl⟩ | ⟨_, r, ver, rfl, _, _⟩ <;> exact this

/-! ### Copies -/
def ownX (x : Ax) : Ax := ⟨ownG x.g, some (L x.b), some (L x.a)⟩
theorem xsm_own {x : Ax} (h : XSm x) : XSm (ownX x) := ⟨h.i, h.e, h.b, h.a⟩
theorem bld33c (a b c d e : PV) : build PP 33 [(0, .agg [.p a, .p b, .p c]), (1, .p d), (2, .p e)] = some (.agg [.p a, .p b, .p c, .p d, .p e]) := Eq.trans (by kernel_rfl) rfl
theorem cellV_ptr (P : Program) (t : TypeId) (r off : Nat) (σ : Store) : cellV P t (.ptr r off) σ = load P t (.ptr r off) σ := rfl
theorem thaw_p (n : Nat) (σ : Store) (v : PV) : thaw n σ (.p v) = some (.p (loosen v)) := rfl
theorem st33 (a b c d e : PV) (a' b' c' d' e' : DV) (m : Row) : store PP 0 33 (.ptr 1 0) (.agg [.p a, .p b, .p c, .p d, .p e]) [m, .mix [a', b', c', d', e']] = some [m, .mix [.p a, .p b, .p c, .p d, .p e]] := Eq.trans (by kernel_rfl) rfl
theorem S32 {x : Ax} {σ : Store} (h : XSm x) : pureV CC 32 [.agg (eAx x)] σ = some (.agg (eAx (ownX x))) := by
  have hst : store PP 0 33 (.ptr 1 0) (.agg (eAx (ownX x))) [Row.mix (eAx x), Row.mix [.p (pI 0), .p .nilsl, .p .nilsl, .p .nilsl, .p .nilsl]] = some [Row.mix (eAx x), Row.mix (eAx (ownX x))] := by
    exact st33 _ _ _ _ _ _ _ _ _ _ _
  have g0 : ([Row.mix (eAx x), Row.mix [.p (pI 0), .p .nilsl, .p .nilsl, .p .nilsl, .p .nilsl]] : Store)[0]? = some (.mix (eAx x)) := rfl
  have g1 : ([Row.mix (eAx x), Row.mix (eAx (ownX x))] : Store)[1]? = some (.mix (eAx (ownX x))) := rfl
  have hcv : cellV PP 33 (.ptr 1 0) [Row.mix (eAx x), Row.mix (eAx (ownX x))] = some (.agg (eAx (ownX x))) := by
    rw [cellV_ptr]
    exact ax_all g1
  have hth : thawAll 0 [Row.mix (eAx x), Row.mix (eAx (ownX x))] (.agg (eAx (ownX x))) = some (.agg (eAx (ownX x))) := by
    have h1 : ∀ (n : Nat) (σ : Store) (o : OI), thaw n σ (.p (eSl o)) = some (.p (eSl o)) := fun n σ o => (thaw_p n σ _).trans (by rw [loosen_sl])
    have h2 : ∀ (n : Nat) (σ : Store) (o : Option (List Edg)), thaw n σ (.p (eEs o)) = some (.p (eEs o)) := fun n σ o => (thaw_p n σ _).trans (by rw [loosen_es])
    have h4 : ∀ (n : Nat) (σ : Store) (v : Int), thaw n σ (.p (pI v)) = some (.p (pI v)) := fun n σ v => rfl
    show (mapO (thaw 0 [Row.mix (eAx x), Row.mix (eAx (ownX x))]) (eAx (ownX x))).map DV.agg = _
    simp only [eAx, mapO, h1, h2, h4, Option.map_some]
  refine pureV_free (by simp [ax_view]) rfl (F32_call (r := (.agg (eAx (ownX x)), [Row.mix (eAx x), Row.mix (eAx (ownX x))])) ?_) hth
  have hb : build PP 33 [(0, .agg (eGr (ownG x.g))), (1, .p (eSl (some (L x.b)))), (2, .p (eSl (some (L x.a))))] = some (.agg (eAx (ownX x))) := bld33c _ _ _ _ _
  rw [F32_eq]
  simp only [box_ax, zero33, guard_tt, guard_ff, guard_tf, guard_ft, guard_sk, obind, omap, pickV_true, pickV_false, condK_true, condK_false, decide_true, decide_false, Bool.not_true, Bool.not_false, not_bool, List.length_nil, List.nil_append, List.length_cons, List.cons_append, Nat.reduceAdd, fa33_0, fa33_1, fa33_2, shift_ptr, shift_pptr, Nat.zero_add, Nat.add_zero, pureFn_fn, List.append_nil, List.singleton_append, List.cons_append, List.nil_append, ax_g g0, ax_b g0, ax_a g0, S13 h.i h.e, S16 h.b, S16 h.a, hb, hst, hcv]
theorem hidU_own (x : Ax) (p : List Int) : ∀ i, hidU (ownX x) p i = hidU x p i
  | 0 => rfl
  | i + 1 => by
    have e : skp (ownX x) p i = skp x p i := rfl
    have e2 : ∀ s, bAt (ownX x) s = bAt x s := fun s => rfl
    rw [hidU, hidU, e, e2, hidU_own x p i]
theorem isG_own (g : Gr) : isG (ownG g) = isG g := rfl
theorem extE_own (x : Ax) : extE (ownX x) = extE x := by
  have e1 : isG (ownX x).g = isG x.g := isG_own x.g
  have e2 : lenX (ownX x) = lenX x := rfl
  have e3 : badX (ownX x) = badX x := rfl
  have e4 : L (ownX x).b = L x.b := rfl
  have e5 : L (ownX x).a = L x.a := rfl
  rw [extE, extE, e1, e2, e3, e4, e5]
theorem pthE_own (g : Gr) (p : List Int) : pthE (ownG g) p = pthE g p := by
  have e1 : p.any (badN (ownG g)) = p.any (badN g) := rfl
  have e2 : hasI (L (ownG g).init) (p.getD 0 0) = hasI (L g.init) (p.getD 0 0) := rfl
  have e3 : allFrom (stpK (ownG g) p) 1 (p.length - 1) = allFrom (stpK g p) 1 (p.length - 1) := rfl
  rw [pthE, pthE, e1, e2, e3]
theorem resH_own (x : Ax) (p : List Int) : resH (ownX x) p = resH x p := by
  have e : pthE (ownX x).g p = pthE x.g p := pthE_own x.g p
  rw [resH, resH, extE_own, e, hidU_own]
theorem law5 (hawake : ∀ σ, pureV CC 9 [] σ = some (.p (.bool true))) (x : Ax) (o : OI) : ∃ σ', F5 guardT 0 (.agg (eAx x)) (.p (eSl o)) [] = some (.p (.bool true), σ') := by
  have g0 : ([Row.mix (eAx x)] : Store)[0]? = some (.mix (eAx x)) := rfl
  rw [F5_eq]
  simp only [box_ax, guard_tt, guard_ff, guard_tf, guard_ft, guard_sk, obind, omap, pickV_true, pickV_false, condK_true, condK_false, decide_true, decide_false, Bool.not_true, Bool.not_false, not_bool, List.length_nil, List.nil_append]
  generalize ([Row.mix (eAx x)] : Store) = τ at *
  refine ⟨τ, ?_⟩
  simp only [pureFn_fn, List.append_nil, hawake, guard_tt, guard_ff, guard_tf, guard_ft, guard_sk, obind, omap, pickV_true, pickV_false, condK_true, condK_false, decide_true, decide_false, Bool.not_true, Bool.not_false, not_bool, fa33_0, fa25_0, shift_ptr, shift_pptr, Nat.zero_add, Nat.add_zero, pureFn_fn, List.append_nil, List.singleton_append, List.cons_append, List.nil_append, ax_n g0, b_gtr]
  by_cases h1 : x.g.n > 30
  · simp only [decide_eq_true h1, guard_tt, guard_ff, guard_tf, guard_ft, guard_sk, obind, omap, pickV_true, pickV_false, condK_true, condK_false, decide_true, decide_false, Bool.not_true, Bool.not_false, not_bool]
  · simp only [decide_eq_false h1, guard_tt, guard_ff, guard_tf, guard_ft, guard_sk, obind, omap, pickV_true, pickV_false, condK_true, condK_false, decide_true, decide_false, Bool.not_true, Bool.not_false, not_bool, fa33_0, fa25_1, shift_ptr, shift_pptr, Nat.zero_add, Nat.add_zero, pureFn_fn, List.append_nil, List.singleton_append, List.cons_append, List.nil_append, ax_i g0, len22, b_gtr]
    by_cases h2 : ((L x.g.init).length : Int) > 40
    · simp only [decide_eq_true h2, guard_tt, guard_ff, guard_tf, guard_ft, guard_sk, obind, omap, pickV_true, pickV_false, condK_true, condK_false, decide_true, decide_false, Bool.not_true, Bool.not_false, not_bool]
    · simp only [decide_eq_false h2, guard_tt, guard_ff, guard_tf, guard_ft, guard_sk, obind, omap, pickV_true, pickV_false, condK_true, condK_false, decide_true, decide_false, Bool.not_true, Bool.not_false, not_bool, fa33_0, fa25_2, shift_ptr, shift_pptr, Nat.zero_add, Nat.add_zero, pureFn_fn, List.append_nil, List.singleton_append, List.cons_append, List.nil_append, ax_e g0, len23, b_gtr]
      by_cases h3 : ((L x.g.edges).length : Int) > 60
      · simp only [decide_eq_true h3, guard_tt, guard_ff, guard_tf, guard_ft, guard_sk, obind, omap, pickV_true, pickV_false, condK_true, condK_false, decide_true, decide_false, Bool.not_true, Bool.not_false, not_bool]
      · simp only [decide_eq_false h3, guard_tt, guard_ff, guard_tf, guard_ft, guard_sk, obind, omap, pickV_true, pickV_false, condK_true, condK_false, decide_true, decide_false, Bool.not_true, Bool.not_false, not_bool, fa33_1, shift_ptr, shift_pptr, Nat.zero_add, Nat.add_zero, pureFn_fn, List.append_nil, List.singleton_append, List.cons_append, List.nil_append, ax_b g0, len22, b_gtr]
        by_cases h4 : ((L x.b).length : Int) > 40
        · simp only [decide_eq_true h4, guard_tt, guard_ff, guard_tf, guard_ft, guard_sk, obind, omap, pickV_true, pickV_false, condK_true, condK_false, decide_true, decide_false, Bool.not_true, Bool.not_false, not_bool]
        · simp only [decide_eq_false h4, guard_tt, guard_ff, guard_tf, guard_ft, guard_sk, obind, omap, pickV_true, pickV_false, condK_true, condK_false, decide_true, decide_false, Bool.not_true, Bool.not_false, not_bool, fa33_2, shift_ptr, shift_pptr, Nat.zero_add, Nat.add_zero, pureFn_fn, List.append_nil, List.singleton_append, List.cons_append, List.nil_append, ax_a g0, len22, b_gtr]
          by_cases h5 : ((L x.a).length : Int) > 40
          · simp only [decide_eq_true h5, guard_tt, guard_ff, guard_tf, guard_ft, guard_sk, obind, omap, pickV_true, pickV_false, condK_true, condK_false, decide_true, decide_false, Bool.not_true, Bool.not_false, not_bool]
          · simp only [decide_eq_false h5, guard_tt, guard_ff, guard_tf, guard_ft, guard_sk, obind, omap, pickV_true, pickV_false, condK_true, condK_false, decide_true, decide_false, Bool.not_true, Bool.not_false, not_bool, len22, b_gtr]
            by_cases h6 : ((L o).length : Int) > 62
            · simp only [decide_eq_true h6, guard_tt, guard_ff, guard_tf, guard_ft, guard_sk, obind, omap, pickV_true, pickV_false, condK_true, condK_false, decide_true, decide_false, Bool.not_true, Bool.not_false, not_bool]
            · have hs : XSm x := ⟨by omega, by omega, by omega, by omega⟩
              have hp : (L o).length ≤ 1000 := by omega
              have h31 := fun σ => S31 (x := ownX x) (o := some (L o)) (σ := σ) (xsm_own hs) hp
              simp only [resH_own] at h31
              have e31 : resH x (L (some (L o))) = resH x (L o) := rfl
              rw [e31] at h31
              by_cases e1 : extE x = 0
              · by_cases e2 : pthE x.g (L o) = 0
                · have hr : resH x (L o) = .tuple [.p (eSl (oI (hidU x (L o) (L o).length))), .p (pI 0)] := by rw [resH, if_pos e1, if_pos e2]
                  rw [hr] at h31
                  have hl := hidU_len x (L o) (L o).length
                  have h34 := fun σ => S34 (a := oI (hidU x (L o) (L o).length)) (b := oI (hidU x (L o) (L o).length)) (σ := σ) rfl (by rw [L_oI]; omega)
                  simp only [decide_eq_false h6, guard_tt, guard_ff, guard_tf, guard_ft, guard_sk, obind, omap, pickV_true, pickV_false, condK_true, condK_false, decide_true, decide_false, Bool.not_true, Bool.not_false, not_bool, ax_all g0, shift_ptr, shift_pptr, Nat.zero_add, Nat.add_zero, pureFn_fn, List.append_nil, List.singleton_append, List.cons_append, List.nil_append, S32 hs, S16 hp, h31, ex0, ex1, S33 hs, e1, b_eql, eqT (rfl : (0 : Int) = 0), fa33_0, ax_g g0, S22 hp hs.i hs.e, e2, f5_J0_eq, b_neq, S35 hs hp (inB_of e1 e2), h34]
                · have hr : resH x (L o) = .tuple [.p .nilsl, .p (pI (pthE x.g (L o)))] := by rw [resH, if_pos e1, if_neg e2]
                  rw [hr] at h31
                  simp only [decide_eq_false h6, guard_tt, guard_ff, guard_tf, guard_ft, guard_sk, obind, omap, pickV_true, pickV_false, condK_true, condK_false, decide_true, decide_false, Bool.not_true, Bool.not_false, not_bool, ax_all g0, shift_ptr, shift_pptr, Nat.zero_add, Nat.add_zero, pureFn_fn, List.append_nil, List.singleton_append, List.cons_append, List.nil_append, S32 hs, S16 hp, h31, ex0, ex1, S33 hs, e1, b_eql, eqT (rfl : (0 : Int) = 0), fa33_0, ax_g g0, S22 hp hs.i hs.e, f5_J0_eq, b_neq, eqF e2, eqT (rfl : pthE x.g (L o) = pthE x.g (L o)), len22_nil]
              · have hr : resH x (L o) = .tuple [.p .nilsl, .p (pI (extE x))] := by rw [resH, if_neg e1]
                rw [hr] at h31
                simp only [decide_eq_false h6, guard_tt, guard_ff, guard_tf, guard_ft, guard_sk, obind, omap, pickV_true, pickV_false, condK_true, condK_false, decide_true, decide_false, Bool.not_true, Bool.not_false, not_bool, ax_all g0, shift_ptr, shift_pptr, Nat.zero_add, Nat.add_zero, pureFn_fn, List.append_nil, List.singleton_append, List.cons_append, List.nil_append, S32 hs, S16 hp, h31, ex0, ex1, S33 hs, b_eql, eqF e1, f5_J0_eq, b_neq, eqT (rfl : extE x = extE x), eqT (rfl : (0 : Int) = 0), len22_nil]
theorem call5 (hawake : ∀ σ, pureV CC 9 [] σ = some (.p (.bool true))) (x : Ax) (o : OI) : ∃ σ', CC 0 5 [.agg (eAx x), .p (eSl o)] [] = some (.p (.bool true), σ') := by
  obtain ⟨σ', h⟩ := law5 hawake x o
  exact ⟨σ', F5_call h⟩
end Go.D
end
/- AuxiliaryHides: for every extended graph and every path the law answers true and leaves its arguments as they were: the given statement, without conditions. -/
section
set_option linter.unusedVariables false
set_option linter.unusedSimpArgs false
set_option maxRecDepth 100000
namespace Go.D
open Go.ChangeShapes Go.WideShapes Go.ChangeAt Go.RowKit

theorem auxiliaryHides_calls (hawake : Awake) {H : Type} {enc : TypeId × Value → H} {W : World} {base : Nat} {args : Array Value} {ds : List (DataW H)} {ps : List MemPlace}
    (hval : ∀ (j : Nat) t v, ([33, 22] : List TypeId).toArray[j]? = some t → args[j]? = some v → Value.okWide PP W .any base t v)
    (hA : DataW.TrodAll enc PP W 0 (fun _ => true) true [33, 22] args.toList ds ps) :
    Calls PP 5 args W fun e W' => e = .returned (.bool true) ∧ Below W.heap.size W W' := by
  obtain ⟨v0, v1, d0, d1, p0, p1, rfl, rfl, rfl, h0, h1⟩ := trodAll_two hA
  obtain ⟨o0, ho0⟩ := read_ax (hval 0 33 v0 rfl rfl) h0
  obtain ⟨o1, ho1⟩ := read_sl (hval 1 22 v1 rfl rfl) h1
  obtain ⟨σ', hc⟩ := call5 hawake o0 o1
  refine calls_of hc ⟨rfl, fun j h1 h2 => ?_⟩
  match j, h1 with
  | 0, _ => exact ho0
  | 1, _ => exact ho1

end Go.D
namespace Go.Proofs.YtkpdgafinpedgaaGreat
open Go.D Go.ChangeShapes Go.WideShapes Go.ChangeAt Go.RowKit

set_option maxRecDepth 100000 in
theorem auxiliaryHides_lifted (hawake : Awake) (os : Os) (started : os.Started) (H : Type) (enc : TypeId × Value → H) :
    ReturnsInHanded {} Tryz.checked os 5 .any (Rows.auxiliaryHidesSpec.pre6 enc Tryz.prog Tryz.f5 Rows.auxiliaryHidesRow.domain false) (Rows.auxiliaryHidesSpec.post enc Tryz.prog Tryz.f5 false true false false) := by
  refine returnsInHanded_of_change_sized (C := Tryz.checked) own_ok started (by kernel_rfl) Tryz.func5
    (ChangeSpec.witness6 (enc := enc) (C := Tryz.checked) false ⟨#[], #[.agg #[.int .i64 0, .slice none 0 0, .slice none 0 0, .slice none 0 0, .slice none 0 0], .slice none 0 0], []⟩ 8 (by kernel_rfl) (by kernel_rfl) (by kernel_rfl) (by kernel_rfl)) ?_
  intro W base args ds gs before hval0 hW _ hsz0 _
  have hval : ∀ (j : Nat) t v, Tryz.f5.params[j]? = some t → args[j]? = some v → Value.okWide Tryz.prog W .any base t v := hval0
  have hW' := hW
  obtain ⟨p, q, hA0, hV, rfl, _, _⟩ := hW
  have hA : DataW.TrodAll enc Tryz.prog W 0 (fun _ => true) true Tryz.f5.params.toList args.toList ds p := hA0
  rw [Tryz.params5] at hA hval
  have hA2 := hA
  obtain ⟨v0, v1, d0, d1, p0, p1, rfl, rfl, rfl, h0, h1⟩ := trodAll_two hA
  obtain ⟨rfl, rfl⟩ := trodVars_none hV
  have hlt : ∀ x ∈ p0 ++ p1, x.block < W.heap.size := fun x hx => by
    have := hW'.lt x (by simpa using hx)
    exact this
  have e0 : ∀ x ∈ p0, x.block < W.heap.size := fun x hx => hlt x (List.mem_append_left _ hx)
  have e1 : ∀ x ∈ p1, x.block < W.heap.size := fun x hx => hlt x (List.mem_append_right _ hx)
  refine (auxiliaryHides_calls hawake (base := base) hval hA2).mono ?_
  rintro e W2 ⟨rfl, hnx⟩
  refine ⟨_, rfl, _, _, _, [], p0 ++ p1, [], hW', ?_, ?_, rfl, hnx.frame _, fun h => by cases h⟩
  · exact trodAll_mk1 (shut_bool ul4 true)
  · exact trodAll_mk2 (Below.trod laidOut_ok (by kernel_rfl) (of_decide_eq_true (by kernel_rfl)) h0 hnx e0) (Below.trod laidOut_ok (by kernel_rfl) (of_decide_eq_true (by kernel_rfl)) h1 hnx e1)

theorem auxiliaryHides_holds : Rows.AuxiliaryHidesSaid :=
  OpenClaim.holds_of_wide 5 Tryz.f5 rfl rfl rfl rfl rfl rfl rfl ⟨rfl, rfl, rfl, rfl, rfl⟩ rfl rfl rfl rfl rfl (by kernel_rfl) Tryz.func5 (by kernel_rfl)
    (of_decide_eq_true (by kernel_rfl)) (by unfold Func.isWrapper; first | (rw [if_pos (by decide +kernel)]; kernel_rfl) | (rw [if_neg (by decide +kernel)]; exact ⟨rfl, rfl⟩))
    (fun os started H enc _ => auxiliaryHides_lifted awake_true os started H enc)

end Go.Proofs.YtkpdgafinpedgaaGreat
end
