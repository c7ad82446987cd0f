/- Components: errors, copies, bounds. -/
import Derived.Test.YthddgnfaaccgjaaQc
section
set_option linter.unusedVariables false
set_option linter.unusedSimpArgs false
namespace Go.D

structure Cmp where
  n : Int
  init : OI
  out : OI
  mv : Option (List Edg)
def eCmp (c : Cmp) : List DV := [.p (pI c.n), .p (eSl c.init), .p (eSl c.out), .p (eEs c.mv)]
abbrev pred (n : Int) : Int := IntKind.wrap .i64 (n - 1)
theorem fa25_0 (x : DV) : fieldAddr PP 25 x 0 = shiftPtr x 0 := Eq.trans (by kernel_rfl) rfl
theorem fa25_1 (x : DV) : fieldAddr PP 25 x 1 = shiftPtr x 1 := Eq.trans (by kernel_rfl) rfl
theorem fa25_2 (x : DV) : fieldAddr PP 25 x 2 = shiftPtr x 2 := Eq.trans (by kernel_rfl) rfl
theorem fa25_3 (x : DV) : fieldAddr PP 25 x 3 = shiftPtr x 3 := Eq.trans (by kernel_rfl) rfl
theorem load25 (x : DV) (σ : Store) : load PP 25 x σ = (loadN σ 4 x).map .agg := Eq.trans (by kernel_rfl) rfl
theorem zero25 : zeroOf PP 25 = some [.p (pI 0), .p .nilsl, .p .nilsl, .p .nilsl] := Eq.trans (by kernel_rfl) rfl
theorem box_cmp (c : Cmp) : boxV (.agg (eCmp c)) = some (eCmp c) := rfl
theorem cmp_view (c : Cmp) : view (.agg (eCmp c)) = .agg (eCmp c) := by simp [view, viewCell, eCmp, loosen_sl, loosen_es, loosen]
section
variable {c : Cmp} {σ : Store} {r : Nat} (h : σ[r]? = some (.mix (eCmp c)))
include h
theorem cm_0 : load1 (.ptr r 0) σ = some (.p (pI c.n)) := load1_ptr h rfl
theorem cm_1 : load1 (.ptr r 1) σ = some (.p (eSl c.init)) := load1_ptr h rfl
theorem cm_2 : load1 (.ptr r 2) σ = some (.p (eSl c.out)) := load1_ptr h rfl
theorem cm_3 : load1 (.ptr r 3) σ = some (.p (eEs c.mv)) := load1_ptr h rfl
end

/-- Bounds of lists. -/
structure CSm (c : Cmp) : Prop where
  i : (L c.init).length ≤ 1000
  o : (L c.out).length ≤ 1000
  m : (L c.mv).length ≤ 10000
def ltr (v : Int) : Bool := inR v 0 2
theorem S82 (v : Int) (σ : Store) : pureV CC 82 [.p (pI v)] σ = some (.p (.bool (ltr v))) := by
  refine pureV_free rfl rfl (F82_call (r := (.p (.bool (ltr v)), [])) ?_) rfl
  rw [F82_eq]
  simp only [pureFn_fn, List.append_nil, S79, obind, ltr]
theorem S58 (v : Int) (σ : Store) : pureV CC 58 [.p (pI v)] σ = some (.p (.bool (ltr v))) := by
  refine pureV_free rfl rfl (F58_call (r := (.p (.bool (ltr v)), [])) ?_) rfl
  rw [F58_eq]
  simp only [pureFn_fn, List.append_nil, S57, obind, ltr]
theorem S81 (v : Int) (σ : Store) : pureV CC 81 [.p (pI v)] σ = some (.p (.bool (!ltr v))) := by
  refine pureV_free rfl rfl (F81_call (r := (.p (.bool (!ltr v)), [])) ?_) rfl
  rw [F81_eq]
  simp only [pureFn_fn, List.append_nil, S82, obind, not_bool]
theorem S78 {c : Cmp} {σ : Store} {r : Nat} {v : Int} (h : σ[r]? = some (.mix (eCmp c))) : pureV CC 78 [.p (pI v), .ptr r 0] σ = some (.p (.bool (inR v 0 (pred c.n)))) := by
  refine pureV_rows rfl rfl (F78_call (r := (.p (.bool (inR v 0 (pred c.n))), σ)) ?_) rfl
  rw [F78_eq]
  simp only [fa25_0, fa25_1, fa25_2, fa25_3, load3, load22, load23, load25, len22, len23, shift_ptr, shift_pptr, Nat.zero_add, Nat.add_zero, pureFn_fn, List.append_nil, List.singleton_append, List.cons_append, List.nil_append, cm_0 (h), cm_1 (h), cm_2 (h), cm_3 (h), obind, b_sub, S79]
def iniB (c : Cmp) (i : Nat) : Bool := inR ((L c.init).getD i 0) 0 (pred c.n) && (decide (i = 0) || decide ((L c.init).getD (i - 1) 0 < (L c.init).getD i 0))
def mvE (c : Cmp) (i : Nat) : Int := if (inR ((L c.mv).getD i default).f 0 (pred c.n) && inR ((L c.mv).getD i default).a 0 (pred c.n) && ltr ((L c.mv).getD i default).t) = true then if (decide (i = 0) || decide (ordE ((L c.mv).getD (i - 1) default) ((L c.mv).getD i default) < 0)) = true then 0 else 13 else 3
def firstE (q : Nat → Int) : Nat → Nat → Int
  | _, 0 => 0
  | i, k + 1 => if q i = 0 then firstE q (i + 1) k else q i
def cmpE5 (c : Cmp) : Int := orL [if inR c.n 0 10 then 0 else 3, if decide ((L c.mv).length ≤ 60) then 0 else 2, if decide (((L c.out).length : Int) = c.n) then 0 else 6, if (L c.out).all ltr then 0 else 3, if allFrom (iniB c) 0 (L c.init).length then 0 else 5]
def cmpE (c : Cmp) : Int := if cmpE5 c = 0 then firstE (mvE c) 0 (L c.mv).length else cmpE5 c
theorem L29_0 {c : Cmp} {σ : Store} {r lo : Nat} {b4 : DV} (h0 : σ[r]? = some (.mix (eCmp c))) (hc : CSm c) :
    ∀ (k i : Nat) (b : Bool), (L c.init).length - i = k → i ≤ (L c.init).length → f29_L0 guardT lo (.ptr r 0) (.fn 78 [.ptr r 0]) b4 (.p (.bool b)) (.p (eSl c.init)) (.p (pI ((L c.init).length : Nat))) (.p (pI (i : Nat))) σ =
      f29_L0 guardT lo (.ptr r 0) (.fn 78 [.ptr r 0]) b4 (.p (.bool (b && allFrom (iniB c) i k))) (.p (eSl c.init)) (.p (pI ((L c.init).length : Nat))) (.p (pI ((L c.init).length : Nat))) σ
  | 0, i, b, hk, hi => by
    have : i = (L c.init).length := by omega
    rw [this, allFrom, Bool.and_true]
  | k + 1, i, b, hk, hi => by
    have hl := hc.i
    have h : i < (L c.init).length := by omega
    have h' : (i : Int) < ((L c.init).length : Nat) := by omega
    have w := wrap_succ (show i ≤ 1000000 by omega)
    rw [f29_L0_eq guardT rfl]
    simp only [b_lss, b_eql, b_neq, b_leq, b_geq, b_gtr, gG, h', idx22 h, load3, load1_getD h]
    have ih := fun b => L29_0 (lo := lo) (b4 := b4) h0 hc k (i + 1) b (by omega) (by omega)
    cases b with
    | false =>
      simp only [gG, b_add, w, Bool.false_and]
      rw [ih]
      simp
    | true =>
      simp only [gG, shift_ptr, shift_pptr, Nat.zero_add, Nat.add_zero, pureFn_fn, List.append_nil, List.singleton_append, List.cons_append, List.nil_append, S78 h0, allFrom, iniB]
      cases hst : inR ((L c.init).getD i 0) 0 (pred c.n) with
      | false =>
        simp only [gG, b_add, w, Bool.false_and, Bool.and_false]
        rw [ih]
        simp
      | true =>
        simp only [gG, b_eql]
        by_cases hz : i = 0
        · have hd : decide ((i : Int) = 0) = true := by simp [hz]
          simp only [hd, gG, b_add, w]
          rw [ih]
          simp [hz]
        · have hz' : ¬ (i : Int) = 0 := by omega
          simp only [hz', gG, fa25_0, fa25_1, fa25_2, fa25_3, load3, load22, load23, load25, len22, len23, shift_ptr, shift_pptr, Nat.zero_add, Nat.add_zero, pureFn_fn, List.append_nil, List.singleton_append, List.cons_append, List.nil_append, cm_0 (h0), cm_1 (h0), cm_2 (h0), cm_3 (h0), b_sub, wrap_pred (show 0 < i by omega) (show i ≤ 1000000 by omega), idx22 (show i - 1 < (L c.init).length by omega), load1_getD (show i - 1 < (L c.init).length by omega), b_lss, b_add, w]
          rw [ih]
          simp [hz]
theorem bs160_2 (x y : Int) (σ : Store) : buildSlice PP none 160 2 [(0, .p (pI x)), (1, .p (pI y))] σ = some (.p (.sl true 2 (eInts [x, y])), σ) := Eq.trans (by kernel_rfl) rfl
theorem bs160_5 (x y z u v : Int) (σ : Store) : buildSlice PP none 160 5 [(0, .p (pI x)), (1, .p (pI y)), (2, .p (pI z)), (3, .p (pI u)), (4, .p (pI v))] σ = some (.p (.sl true 5 (eInts [x, y, z, u, v])), σ) := Eq.trans (by kernel_rfl) rfl
theorem either2 (x y : Int) (σ : Store) : pureV CC 52 [.p (.sl true 2 (eInts [x, y]))] σ = some (.p (pI (orL [x, y]))) := S52t (l := [x, y]) rfl (by simp)
theorem either5 (x y z u v : Int) (σ : Store) : pureV CC 52 [.p (.sl true 5 (eInts [x, y, z, u, v]))] σ = some (.p (pI (orL [x, y, z, u, v]))) := S52t (l := [x, y, z, u, v]) rfl (by simp)
theorem L29_1 {c : Cmp} {r : Nat} (hc : CSm c) :
    ∀ (k i : Nat) (σ : Store), σ[r]? = some (.mix (eCmp c)) → (L c.mv).length - i = k → i ≤ (L c.mv).length → ∃ σ', f29_L1 guardT 0 (.ptr r 0) (.fn 78 [.ptr r 0]) (.p (eEs c.mv)) (.p (pI ((L c.mv).length : Nat))) (.p (pI (i : Nat))) σ = some (.p (pI (firstE (mvE c) i k)), σ')
  | 0, i, σ, h0, hk, hi => by
    have : ¬ (i : Int) < ((L c.mv).length : Nat) := by omega
    refine ⟨σ, ?_⟩
    rw [f29_L1_eq guardT rfl]
    simp only [b_lss, b_eql, b_neq, b_leq, b_geq, b_gtr, this, gG, firstE]
  | k + 1, i, σ, h0, hk, hi => by
    have hl := hc.m
    have h : i < (L c.mv).length := by omega
    have h' : (i : Int) < ((L c.mv).length : Nat) := by omega
    have w := wrap_succ (show i ≤ 1000000 by omega)
    have hg1 : (σ ++ [Row.mix (edgD ((L c.mv).getD i default))])[r]? = some (.mix (eCmp c)) := get_old h0
    have hx : (σ ++ [Row.mix (edgD ((L c.mv).getD i default))])[σ.length]? = some (.mix (edgD ((L c.mv).getD i default))) := get_snoc
    obtain ⟨σ', ih⟩ := L29_1 hc k (i + 1) _ hg1 (by omega) (by omega)
    have hfe : firstE (mvE c) i (k + 1) = if mvE c i = 0 then firstE (mvE c) (i + 1) k else mvE c i := rfl
    rw [hfe, f29_L1_eq guardT rfl, mvE]
    simp only [b_lss, b_eql, b_neq, b_leq, b_geq, b_gtr, h', gG, idx23 h, load106, load106_D h, zero106, store_new106 σ ((L c.mv).getD i default) [.p (pI 0), .p (pI 0), .p (pI 0)] rfl]
    generalize hρ : σ ++ [Row.mix (edgD ((L c.mv).getD i default))] = ρ at *
    by_cases hz : i = 0
    · have hd : decide ((i : Int) = 0) = true := by simp [hz]
      have hd2 : decide (i = 0) = true := by simp [hz]
      cases h1 : inR ((L c.mv).getD i default).f 0 (pred c.n) <;> cases h3 : inR ((L c.mv).getD i default).a 0 (pred c.n) <;> cases h4 : ltr ((L c.mv).getD i default).t <;>
        simp only [fa106_0, fa106_1, fa106_2, load106, load3, shift_ptr, shift_pptr, Nat.zero_add, Nat.add_zero, pureFn_fn, List.append_nil, List.singleton_append, List.cons_append, List.nil_append, gG, load1_ptr (off := 0) (hx) rfl, load1_ptr (off := 1) (hx) rfl, load1_ptr (off := 2) (hx) rfl, S78 hg1, S82, S54, h1, h3, h4, hd, hd2, b_lss, b_eql, b_neq, b_leq, b_geq, b_gtr, bs160_2, either2, orL, Bool.true_and, Bool.and_true, Bool.and_false, Bool.false_and, Bool.true_or, Bool.false_eq_true, if_true, if_false, Int.reduceEq, reduceIte, b_add, w, ih] <;> exact ⟨_, rfl⟩
    · have hd : decide ((i : Int) = 0) = false := by simp; omega
      have hd2 : decide (i = 0) = false := by simp [hz]
      have hi1 : i - 1 < (L c.mv).length := by omega
      cases h1 : inR ((L c.mv).getD i default).f 0 (pred c.n) <;> cases h3 : inR ((L c.mv).getD i default).a 0 (pred c.n) <;> cases h4 : ltr ((L c.mv).getD i default).t <;> cases h5 : decide (ordE ((L c.mv).getD (i - 1) default) ((L c.mv).getD i default) < 0) <;>
        simp only [fa106_0, fa106_1, fa106_2, load106, load3, shift_ptr, shift_pptr, Nat.zero_add, Nat.add_zero, pureFn_fn, List.append_nil, List.singleton_append, List.cons_append, List.nil_append, gG, load1_ptr (off := 0) (hx) rfl, load1_ptr (off := 1) (hx) rfl, load1_ptr (off := 2) (hx) rfl, S78 hg1, S82, S54, h1, h3, h4, h5, hd, hd2, b_lss, b_eql, b_neq, b_leq, b_geq, b_gtr, fa25_0, fa25_1, fa25_2, fa25_3, load3, load22, load23, load25, len22, len23, cm_0 (hg1), cm_1 (hg1), cm_2 (hg1), cm_3 (hg1), b_sub, wrap_pred (show 0 < i by omega) (show i ≤ 1000000 by omega), idx23 hi1, load106_D hi1, loadN_ptr (off := 0) (n := 3) (vs := edgD ((L c.mv).getD i default)) hx rfl (by simp [edgD]), S83, bs160_2, either2, orL, Bool.true_and, Bool.and_true, Bool.and_false, Bool.false_and, Bool.true_or, Bool.false_or, Bool.false_eq_true, if_true, if_false, Int.reduceEq, reduceIte, b_add, w, ih] <;> exact ⟨_, rfl⟩
theorem any_all_not (q : Int → Bool) : ∀ l : List Int, (!l.any fun v => !q v) = l.all q
  | [] => rfl
  | a :: l => by simp only [List.any_cons, List.all_cons, Bool.not_or, Bool.not_not, any_all_not q l]
theorem S29 {c : Cmp} {σ : Store} (hc : CSm c) : pureV CC 29 [.agg (eCmp c)] σ = some (.p (pI (cmpE c))) := by
  refine pureV_any (by simp [cmp_view]) fun lo σ0 hs => ?_
  rcases hs with ⟨rfl, rfl, _⟩ | ⟨_, _, h⟩
  case inr => exact absurd h (by simp [rowFree, rowFree1, eCmp])
  have g0 : ([Row.mix (eCmp c)] : Store)[0]? = some (.mix (eCmp c)) := rfl
  have hb : ∀ σ, pureV CC 80 [.p (eSl c.out), .fn 81 []] σ = some (.p (.bool ((L c.out).any fun v => !ltr v))) := fun σ => S80 hc.o fun σ0 _ v => S81 v σ0
  have hn : ¬ (((L c.init).length : Nat) : Int) < ((L c.init).length : Nat) := by omega
  have e60 : decide (((L c.mv).length : Int) ≤ 60) = decide ((L c.mv).length ≤ 60) := by rw [decide_eq_decide]; omega
  obtain ⟨σ', hL⟩ := L29_1 hc (r := 0) _ 0 [Row.mix (eCmp c)] g0 (Nat.sub_zero _) (Nat.zero_le _)
  have hF : ∃ σ', F29 guardT 0 (.agg (eCmp c)) [] = some (.p (pI (cmpE c)), σ') := by
    rw [F29_eq]
    simp only [box_cmp, gG, List.length_nil, fa25_0, fa25_1, fa25_2, fa25_3, load3, load22, load23, load25, len22, len23, shift_ptr, shift_pptr, Nat.zero_add, Nat.add_zero, pureFn_fn, List.append_nil, List.singleton_append, List.cons_append, List.nil_append, cm_0 (g0), cm_1 (g0), cm_2 (g0), cm_3 (g0), hb]
    rw [show (DV.p (PV.int IntKind.i64 0)) = (.p (pI ((0 : Nat) : Int))) from rfl, L29_0 g0 hc _ 0 true (Nat.sub_zero _) (Nat.zero_le _), f29_L0_eq guardT rfl]
    simp only [b_lss, b_eql, b_neq, b_leq, b_geq, b_gtr, hn, gG, fa25_0, fa25_1, fa25_2, fa25_3, load3, load22, load23, load25, len22, len23, shift_ptr, shift_pptr, Nat.zero_add, Nat.add_zero, pureFn_fn, List.append_nil, List.singleton_append, List.cons_append, List.nil_append, cm_0 (g0), cm_1 (g0), cm_2 (g0), cm_3 (g0), S79, S54, any_all_not, Bool.true_and, bs160_5, either5, e60]
    rw [show orL _ = cmpE5 c from rfl]
    by_cases hz : cmpE5 c = 0
    · have hce : cmpE c = firstE (mvE c) 0 (L c.mv).length := by unfold cmpE; rw [if_pos hz]
      refine ⟨σ', ?_⟩
      rw [hce]
      simp only [hz, gG]
      exact hL
    · have hce : cmpE c = cmpE5 c := by unfold cmpE; rw [if_neg hz]
      rw [hce]
      exact ⟨_, by simp only [hz, gG]; rfl⟩
  obtain ⟨σ', h⟩ := hF
  exact ⟨_, σ', F29_call h, rfl⟩
theorem ordE_first (a b : Edg) : decide (firstI [a.f, a.t, a.a] [b.f, b.t, b.a] ≥ 0) = !decide (ordE a b < 0) := by
  simp only [firstI, ordE, orL, cmpI, List.length_nil]
  by_cases h1 : a.f < b.f
  · have : ¬ a.f = b.f := by omega
    simp [h1, this]
  · by_cases h2 : a.f > b.f
    · have : ¬ a.f = b.f := by omega
      simp [h1, h2, this]
    · have e1 : a.f = b.f := by omega
      by_cases h3 : a.t < b.t
      · have : ¬ a.t = b.t := by omega
        simp [h3, this, e1]
      · by_cases h4 : a.t > b.t
        · have : ¬ a.t = b.t := by omega
          simp [h3, h4, this, e1]
        · have e2 : a.t = b.t := by omega
          by_cases h5 : a.a < b.a
          · have : ¬ a.a = b.a := by omega
            simp [h5, this, e1, e2]
          · by_cases h6 : a.a > b.a
            · have : ¬ a.a = b.a := by omega
              simp [h5, h6, this, e1, e2]
            · have e3 : a.a = b.a := by omega
              simp [e1, e2, e3]
theorem L16_2 {c : Cmp} {r : Nat} (hc : CSm c) :
    ∀ (k i : Nat) (σ : Store), σ[r]? = some (.mix (eCmp c)) → (L c.mv).length - i = k → i ≤ (L c.mv).length → ∃ σ', f16_L2 guardT 0 (.ptr r 0) (.p (pI (i : Nat))) σ = some (.p (pI (firstE (mvE c) i k)), σ')
  | 0, i, σ, h0, hk, hi => by
    have : ¬ (i : Int) < ((L c.mv).length : Nat) := by omega
    refine ⟨σ, ?_⟩
    rw [f16_L2_eq guardT rfl]
    simp only [fa25_0, fa25_1, fa25_2, fa25_3, load3, load22, load23, load25, len22, len23, shift_ptr, shift_pptr, Nat.zero_add, Nat.add_zero, pureFn_fn, List.append_nil, List.singleton_append, List.cons_append, List.nil_append, cm_0 (h0), cm_1 (h0), cm_2 (h0), cm_3 (h0), b_lss, b_eql, b_neq, b_leq, b_geq, b_gtr, this, gG, firstE]
  | k + 1, i, σ, h0, hk, hi => by
    have hl := hc.m
    have h : i < (L c.mv).length := by omega
    have h' : (i : Int) < ((L c.mv).length : Nat) := by omega
    have w := wrap_succ (show i ≤ 1000000 by omega)
    have hg1 : (σ ++ [Row.mix (edgD ((L c.mv).getD i default))])[r]? = some (.mix (eCmp c)) := get_old h0
    have hx : (σ ++ [Row.mix (edgD ((L c.mv).getD i default))])[σ.length]? = some (.mix (edgD ((L c.mv).getD i default))) := get_snoc
    obtain ⟨σ', ih⟩ := L16_2 hc k (i + 1) _ hg1 (by omega) (by omega)
    have hfe : firstE (mvE c) i (k + 1) = if mvE c i = 0 then firstE (mvE c) (i + 1) k else mvE c i := rfl
    rw [hfe, f16_L2_eq guardT rfl, mvE]
    simp only [fa25_0, fa25_1, fa25_2, fa25_3, load3, load22, load23, load25, len22, len23, shift_ptr, shift_pptr, Nat.zero_add, Nat.add_zero, pureFn_fn, List.append_nil, List.singleton_append, List.cons_append, List.nil_append, cm_0 (h0), cm_1 (h0), cm_2 (h0), cm_3 (h0), b_lss, b_eql, b_neq, b_leq, b_geq, b_gtr, h', gG, idx23 h, load106, load106_D h, zero106, store_new106 σ ((L c.mv).getD i default) [.p (pI 0), .p (pI 0), .p (pI 0)] rfl]
    generalize hρ : σ ++ [Row.mix (edgD ((L c.mv).getD i default))] = ρ at *
    by_cases hz : i = 0
    · have hd : decide ((i : Int) > 0) = false := by simp [hz]
      have hd2 : decide (i = 0) = true := by simp [hz]
      cases h1 : inR ((L c.mv).getD i default).f 0 (pred c.n) <;> cases h3 : inR ((L c.mv).getD i default).a 0 (pred c.n) <;> cases h4 : ltr ((L c.mv).getD i default).t <;>
        simp only [fa106_0, fa106_1, fa106_2, load106, load3, shift_ptr, shift_pptr, Nat.zero_add, Nat.add_zero, pureFn_fn, List.append_nil, List.singleton_append, List.cons_append, List.nil_append, gG, fa25_0, fa25_1, fa25_2, fa25_3, load3, load22, load23, load25, len22, len23, cm_0 (hg1), cm_1 (hg1), cm_2 (hg1), cm_3 (hg1), b_sub, load1_ptr (off := 0) (hx) rfl, load1_ptr (off := 1) (hx) rfl, load1_ptr (off := 2) (hx) rfl, S57, S58, h1, h3, h4, hd, hd2, b_lss, b_eql, b_neq, b_leq, b_geq, b_gtr, Bool.true_and, Bool.and_true, Bool.and_false, Bool.false_and, Bool.true_or, Bool.false_eq_true, if_true, if_false, Int.reduceEq, reduceIte, b_add, w, ih] <;> exact ⟨_, rfl⟩
    · have hd : decide ((i : Int) > 0) = true := by simp; omega
      have hd2 : decide (i = 0) = false := by simp [hz]
      have hi1 : i - 1 < (L c.mv).length := by omega
      have hor : decide (firstI [((L c.mv).getD (i - 1) default).f, ((L c.mv).getD (i - 1) default).t, ((L c.mv).getD (i - 1) default).a] [((L c.mv).getD i default).f, ((L c.mv).getD i default).t, ((L c.mv).getD i default).a] ≥ 0) = _ := ordE_first _ _
      cases h1 : inR ((L c.mv).getD i default).f 0 (pred c.n) <;> cases h3 : inR ((L c.mv).getD i default).a 0 (pred c.n) <;> cases h4 : ltr ((L c.mv).getD i default).t <;> cases h5 : decide (ordE ((L c.mv).getD (i - 1) default) ((L c.mv).getD i default) < 0) <;>
        simp only [fa106_0, fa106_1, fa106_2, load106, load3, shift_ptr, shift_pptr, Nat.zero_add, Nat.add_zero, pureFn_fn, List.append_nil, List.singleton_append, List.cons_append, List.nil_append, gG, load1_ptr (off := 0) (hx) rfl, load1_ptr (off := 1) (hx) rfl, load1_ptr (off := 2) (hx) rfl, S57, S58, S59 (a := some [_, _, _]) (b := some [_, _, _]) (by simp) (by simp), S60, hor, h1, h3, h4, h5, hd, hd2, b_lss, b_eql, b_neq, b_leq, b_geq, b_gtr, fa25_0, fa25_1, fa25_2, fa25_3, load3, load22, load23, load25, len22, len23, cm_0 (hg1), cm_1 (hg1), cm_2 (hg1), cm_3 (hg1), b_sub, wrap_pred (show 0 < i by omega) (show i ≤ 1000000 by omega), idx23 hi1, load106_D hi1, loadN_ptr (off := 0) (n := 3) (vs := edgD ((L c.mv).getD i default)) hx rfl (by simp [edgD]), Option.getD_some, Bool.true_and, Bool.and_true, Bool.and_false, Bool.false_and, Bool.true_or, Bool.false_or, Bool.false_eq_true, if_true, if_false, Int.reduceEq, reduceIte, b_add, w, ih] <;> exact ⟨_, rfl⟩
theorem L16_1 {c : Cmp} {r : Nat} {σ : Store} (hc : CSm c) (h0 : σ[r]? = some (.mix (eCmp c))) :
    ∀ (k i : Nat), (L c.init).length - i = k → i ≤ (L c.init).length → f16_L1 guardT 0 (.ptr r 0) (.p (pI (i : Nat))) σ = if allFrom (iniB c) i k = true then f16_L2 guardT 0 (.ptr r 0) (.p (pI (0 : Nat))) σ else some (.p (pI 5), σ)
  | 0, i, hk, hi => by
    have : ¬ (i : Int) < ((L c.init).length : Nat) := by omega
    rw [f16_L1_eq guardT rfl]
    simp only [fa25_0, fa25_1, fa25_2, fa25_3, load3, load22, load23, load25, len22, len23, shift_ptr, shift_pptr, Nat.zero_add, Nat.add_zero, pureFn_fn, List.append_nil, List.singleton_append, List.cons_append, List.nil_append, cm_0 (h0), cm_1 (h0), cm_2 (h0), cm_3 (h0), b_lss, b_eql, b_neq, b_leq, b_geq, b_gtr, this, gG, allFrom, if_true]
    rfl
  | k + 1, i, hk, hi => by
    have hl := hc.i
    have h : i < (L c.init).length := by omega
    have h' : (i : Int) < ((L c.init).length : Nat) := by omega
    have w := wrap_succ (show i ≤ 1000000 by omega)
    have ih := L16_1 hc h0 k (i + 1) (by omega) (by omega)
    rw [f16_L1_eq guardT rfl, allFrom, iniB]
    by_cases hz : i = 0
    · have hd : decide ((i : Int) > 0) = false := by simp [hz]
      have hd2 : decide (i = 0) = true := by simp [hz]
      cases h1 : inR ((L c.init).getD i 0) 0 (pred c.n) <;>
        simp only [fa25_0, fa25_1, fa25_2, fa25_3, load3, load22, load23, load25, len22, len23, shift_ptr, shift_pptr, Nat.zero_add, Nat.add_zero, pureFn_fn, List.append_nil, List.singleton_append, List.cons_append, List.nil_append, cm_0 (h0), cm_1 (h0), cm_2 (h0), cm_3 (h0), b_lss, b_eql, b_neq, b_leq, b_geq, b_gtr, h', gG, idx22 h, load1_getD h, b_sub, S57, h1, hd, hd2, Bool.true_and, Bool.false_and, Bool.true_or, Bool.false_eq_true, if_false, b_add, w, ih]
    · have hd : decide ((i : Int) > 0) = true := by simp; omega
      have hd2 : decide (i = 0) = false := by simp [hz]
      have hi1 : i - 1 < (L c.init).length := by omega
      have hle : decide ((L c.init).getD i 0 ≤ (L c.init).getD (i - 1) 0) = !decide ((L c.init).getD (i - 1) 0 < (L c.init).getD i 0) := by
        rw [← decide_not, decide_eq_decide]; omega
      cases h1 : inR ((L c.init).getD i 0) 0 (pred c.n) <;> cases h2 : decide ((L c.init).getD (i - 1) 0 < (L c.init).getD i 0) <;>
        simp only [fa25_0, fa25_1, fa25_2, fa25_3, load3, load22, load23, load25, len22, len23, shift_ptr, shift_pptr, Nat.zero_add, Nat.add_zero, pureFn_fn, List.append_nil, List.singleton_append, List.cons_append, List.nil_append, cm_0 (h0), cm_1 (h0), cm_2 (h0), cm_3 (h0), b_lss, b_eql, b_neq, b_leq, b_geq, b_gtr, h', gG, idx22 h, load1_getD h, b_sub, wrap_pred (show 0 < i by omega) (show i ≤ 1000000 by omega), idx22 hi1, load1_getD hi1, hle, S57, h1, h2, hd, hd2, Bool.true_and, Bool.false_and, Bool.true_or, Bool.false_or, Bool.false_eq_true, if_false, b_add, w, ih]
theorem L16_0 {c : Cmp} {r : Nat} {σ : Store} (hc : CSm c) (h0 : σ[r]? = some (.mix (eCmp c))) :
    ∀ (k i : Nat), (L c.out).length - i = k → i ≤ (L c.out).length → f16_L0 guardT 0 (.ptr r 0) (.p (pI (i : Nat))) σ = if ((L c.out).drop i).all ltr = true then f16_L1 guardT 0 (.ptr r 0) (.p (pI (0 : Nat))) σ else some (.p (pI 3), σ)
  | 0, i, hk, hi => by
    have : ¬ (i : Int) < ((L c.out).length : Nat) := by omega
    rw [f16_L0_eq guardT rfl, List.drop_eq_nil_of_le (by omega)]
    simp only [fa25_0, fa25_1, fa25_2, fa25_3, load3, load22, load23, load25, len22, len23, shift_ptr, shift_pptr, Nat.zero_add, Nat.add_zero, pureFn_fn, List.append_nil, List.singleton_append, List.cons_append, List.nil_append, cm_0 (h0), cm_1 (h0), cm_2 (h0), cm_3 (h0), b_lss, b_eql, b_neq, b_leq, b_geq, b_gtr, this, gG, List.all_nil, if_true]
    rfl
  | k + 1, i, hk, hi => by
    have hl := hc.o
    have h : i < (L c.out).length := by omega
    have h' : (i : Int) < ((L c.out).length : Nat) := by omega
    have w := wrap_succ (show i ≤ 1000000 by omega)
    have ih := L16_0 hc h0 k (i + 1) (by omega) (by omega)
    rw [f16_L0_eq guardT rfl, drop_cons h, List.all_cons]
    cases h1 : ltr (L c.out)[i] <;>
      simp only [fa25_0, fa25_1, fa25_2, fa25_3, load3, load22, load23, load25, len22, len23, shift_ptr, shift_pptr, Nat.zero_add, Nat.add_zero, pureFn_fn, List.append_nil, List.singleton_append, List.cons_append, List.nil_append, cm_0 (h0), cm_1 (h0), cm_2 (h0), cm_3 (h0), b_lss, b_eql, b_neq, b_leq, b_geq, b_gtr, h', gG, idx22 h, load1_ints h, S58, h1, Bool.true_and, Bool.false_and, Bool.false_eq_true, if_false, b_add, w, ih]
theorem S16 {c : Cmp} {σ : Store} (hc : CSm c) : pureV CC 16 [.agg (eCmp c)] σ = some (.p (pI (cmpE c))) := by
  refine pureV_any (by simp [cmp_view]) fun lo σ0 hs => ?_
  rcases hs with ⟨rfl, rfl, _⟩ | ⟨_, _, h⟩
  case inr => exact absurd h (by simp [rowFree, rowFree1, eCmp])
  have g0 : ([Row.mix (eCmp c)] : Store)[0]? = some (.mix (eCmp c)) := rfl
  obtain ⟨σ', hL⟩ := L16_2 hc (r := 0) _ 0 [Row.mix (eCmp c)] g0 (Nat.sub_zero _) (Nat.zero_le _)
  have hL1 := L16_1 hc (r := 0) g0 _ 0 (Nat.sub_zero _) (Nat.zero_le _)
  have hL0 := L16_0 hc (r := 0) g0 _ 0 (Nat.sub_zero _) (Nat.zero_le _)
  rw [hL1, hL, List.drop_zero] at hL0
  have e60 : decide (((L c.mv).length : Int) > 60) = !decide ((L c.mv).length ≤ 60) := by rw [← decide_not, decide_eq_decide]; omega
  have hF : ∃ σ', F16 guardT 0 (.agg (eCmp c)) [] = some (.p (pI (cmpE c)), σ') := by
    rw [F16_eq, cmpE, cmpE5]
    cases h1 : inR c.n 0 10 <;> cases h2 : decide ((L c.mv).length ≤ 60) <;> cases h3 : decide (((L c.out).length : Int) = c.n) <;> cases h4 : (L c.out).all ltr <;> cases h5 : allFrom (iniB c) 0 (L c.init).length <;>
      simp only [h4, h5, if_true, Bool.false_eq_true, if_false] at hL0 <;>
      simp only [box_cmp, gG, List.length_nil, fa25_0, fa25_1, fa25_2, fa25_3, load3, load22, load23, load25, len22, len23, shift_ptr, shift_pptr, Nat.zero_add, Nat.add_zero, pureFn_fn, List.append_nil, List.singleton_append, List.cons_append, List.nil_append, cm_0 (g0), cm_1 (g0), cm_2 (g0), cm_3 (g0), b_lss, b_eql, b_neq, b_leq, b_geq, b_gtr, S57, e60, h1, h2, h3, orL, if_true, Bool.false_eq_true, if_false, Int.reduceEq, reduceIte] <;>
      first | exact ⟨_, rfl⟩ | exact ⟨_, hL0⟩
  obtain ⟨σ', h⟩ := hF
  exact ⟨_, σ', F16_call h, rfl⟩
def ownC (c : Cmp) : Cmp := ⟨c.n, some (L c.init), some (L c.out), some (L c.mv)⟩
theorem cmpE_own (c : Cmp) : cmpE (ownC c) = cmpE c := rfl
theorem csm_own {c : Cmp} (h : CSm c) : CSm (ownC c) := ⟨h.i, h.o, h.m⟩
theorem bld25p (a b d x : PV) : build PP 25 [(0, .p a), (1, .p b), (2, .p d), (3, .p x)] = some (.agg [.p a, .p b, .p d, .p x]) := Eq.trans (by kernel_rfl) rfl
theorem bld25o (a b d : PV) (r ver sz n : Nat) (cs : List PV) : build PP 25 [(0, .p a), (1, .p b), (2, .p d), (3, .osl r ver sz n cs)] = some (.agg [.p a, .p b, .p d, .osl r ver sz n cs]) := Eq.trans (by kernel_rfl) rfl
theorem st25_p (a b d x : PV) (z : List DV) (hz : z.length = 4) (m : Row) (rest : Store) : store PP 0 25 (.ptr 1 0) (.agg [.p a, .p b, .p d, .p x]) (m :: .mix z :: rest) = some (m :: .mix [.p a, .p b, .p d, .p x] :: rest) := by
  match z, hz with
  | [z0, z1, z2, z3], _ => exact Eq.trans (by kernel_rfl) rfl
theorem st25_o (a b d : PV) (r ver sz n : Nat) (cs : List PV) (z : List DV) (hz : z.length = 4) (m : Row) (rest : Store) : store PP 0 25 (.ptr 1 0) (.agg [.p a, .p b, .p d, .osl r ver sz n cs]) (m :: .mix z :: rest) = some (m :: .mix [.p a, .p b, .p d, .osl r ver sz n cs] :: rest) := by
  match z, hz with
  | [z0, z1, z2, z3], _ => exact Eq.trans (by kernel_rfl) rfl
theorem cv25 (a b c d : DV) (m : Row) (rest : Store) : cellV PP 25 (.ptr 1 0) (m :: .mix [a, b, c, d] :: rest) = some (.agg [a, b, c, d]) := Eq.trans (by kernel_rfl) rfl
theorem S14 {c : Cmp} {σ : Store} (hc : CSm c) : pureV CC 14 [.agg (eCmp c)] σ = some (.agg (eCmp (ownC c))) := by
  refine pureV_any (by simp [cmp_view]) fun lo σ0 hs => ?_
  rcases hs with ⟨rfl, rfl, _⟩ | ⟨_, _, h⟩
  case inr => exact absurd h (by simp [rowFree, rowFree1, eCmp])
  have g0 : ∀ r, ([Row.mix (eCmp c), r] : Store)[0]? = some (.mix (eCmp c)) := fun _ => rfl
  have z4 : ([.p (pI 0), .p .nilsl, .p .nilsl, .p .nilsl] : List DV).length = 4 := rfl
  by_cases h : (L c.mv).length = 0
  · refine ⟨.agg [.p (pI c.n), .p (eSl (some (L c.init))), .p (eSl (some (L c.out))), .p (.sl true 0 [])], [.mix (eCmp c), .mix [.p (pI c.n), .p (eSl (some (L c.init))), .p (eSl (some (L c.out))), .p (.sl true 0 [])]], F14_call ?_, ?_⟩
    · rw [F14_eq]
      simp only [box_cmp, zero25, gG, List.length_nil, List.length_cons, fa25_0, fa25_1, fa25_2, fa25_3, load3, load22, load23, load25, len22, len23, shift_ptr, shift_pptr, Nat.zero_add, Nat.add_zero, pureFn_fn, List.append_nil, List.singleton_append, List.cons_append, List.nil_append, cm_0 (g0 _), cm_1 (g0 _), cm_2 (g0 _), cm_3 (g0 _), S55 hc.i, S55 hc.o, bs23_0, app23 hc.m, h, if_true, bld25p, st25_p _ _ _ _ _ z4, cv25]
    · have : L c.mv = [] := List.length_eq_zero_iff.1 h
      simp [thawAll, thawPart, mapO, thaw, thaw1, thawP, loosen, loosens, loosen_sl, eCmp, ownC, eEs, this, eEdgs]
  · refine ⟨.agg [.p (pI c.n), .p (eSl (some (L c.init))), .p (eSl (some (L c.out))), .osl 2 0 3 (L c.mv).length (eEdgs (L c.mv))], [.mix (eCmp c), .mix [.p (pI c.n), .p (eSl (some (L c.init))), .p (eSl (some (L c.out))), .osl 2 0 3 (L c.mv).length (eEdgs (L c.mv))], .tok 0], F14_call ?_, ?_⟩
    · rw [F14_eq]
      simp only [box_cmp, zero25, gG, List.length_nil, List.length_cons, fa25_0, fa25_1, fa25_2, fa25_3, load3, load22, load23, load25, len22, len23, shift_ptr, shift_pptr, Nat.zero_add, Nat.add_zero, pureFn_fn, List.append_nil, List.singleton_append, List.cons_append, List.nil_append, cm_0 (g0 _), cm_1 (g0 _), cm_2 (g0 _), cm_3 (g0 _), S55 hc.i, S55 hc.o, bs23_0, app23 hc.m, h, if_false, bld25o, Nat.reduceAdd, st25_o _ _ _ _ _ _ _ _ _ z4, cv25]
    · simp [thawAll, thawPart, mapO, thaw, thaw1, thawP, loosen, loosen_sl, eCmp, ownC, eEs, loosens_edgs]
def fewC (c : Cmp) : Bool := decide ((L c.init).length ≤ 14) && decide ((L c.out).length ≤ 14) && (decide ((L c.mv).length ≤ 24) || (decide ((L c.mv).length > 60) && decide ((L c.mv).length ≤ 62)))
theorem dec_le (n m : Nat) : decide ((n : Int) ≤ (m : Int)) = decide (n ≤ m) := by rw [decide_eq_decide]; omega
theorem dec_gt (n m : Nat) : decide ((n : Int) > (m : Int)) = decide (n > m) := by rw [decide_eq_decide]; omega
theorem S11 {c : Cmp} {σ : Store} : pureV CC 11 [.agg (eCmp c)] σ = some (.p (.bool (fewC c))) := by
  refine pureV_any (by simp [cmp_view]) fun lo σ0 hs => ?_
  rcases hs with ⟨rfl, rfl, _⟩ | ⟨_, _, h⟩
  case inr => exact absurd h (by simp [rowFree, rowFree1, eCmp])
  have g0 : ([Row.mix (eCmp c)] : Store)[0]? = some (.mix (eCmp c)) := rfl
  have e1 := dec_le (L c.init).length 14
  have e2 := dec_le (L c.out).length 14
  have e3 := dec_le (L c.mv).length 24
  have e4 := dec_gt (L c.mv).length 60
  have e5 := dec_le (L c.mv).length 62
  simp only [Int.cast_ofNat_Int] at e1 e2 e3 e4 e5
  have hF : F11 guardT 0 (.agg (eCmp c)) [] = some (.p (.bool (fewC c)), [Row.mix (eCmp c)]) := by
    rw [F11_eq, fewC]
    cases h1 : decide ((L c.init).length ≤ 14) <;> cases h2 : decide ((L c.out).length ≤ 14) <;> cases h3 : decide ((L c.mv).length ≤ 24) <;> cases h4 : decide ((L c.mv).length > 60) <;>
      simp only [box_cmp, gG, List.length_nil, fa25_0, fa25_1, fa25_2, fa25_3, load3, load22, load23, load25, len22, len23, shift_ptr, shift_pptr, Nat.zero_add, Nat.add_zero, pureFn_fn, List.append_nil, List.singleton_append, List.cons_append, List.nil_append, cm_0 (g0), cm_1 (g0), cm_2 (g0), cm_3 (g0), b_lss, b_eql, b_neq, b_leq, b_geq, b_gtr, e1, e2, e3, e4, e5, h1, h2, h3, h4, Bool.true_and, Bool.false_and, Bool.true_or, Bool.false_or]
  exact ⟨_, _, F11_call hF, rfl⟩
theorem csm_of {c : Cmp} (h : fewC c = true) : CSm c := by
  simp only [fewC, Bool.and_eq_true, Bool.or_eq_true, decide_eq_true_eq] at h
  exact ⟨by omega, by omega, by omega⟩
end Go.D
end
/- Pairs and runs: errors, copies. -/
section
set_option linter.unusedVariables false
set_option linter.unusedSimpArgs false
namespace Go.D

structure Pr where
  i : Int
  o : Int
  deriving DecidableEq, Inhabited
def prD (p : Pr) : List DV := [.p (pI p.i), .p (pI p.o)]
def ePrs : List Pr → List PV
  | [] => []
  | e :: l => pI e.i :: pI e.o :: ePrs l
abbrev OP := Option (List Pr)
def ePs : OP → PV
  | none => .nilsl
  | some l => .sl false l.length (ePrs l)
structure Run where
  st : OI
  ps : OP
def eRun (r : Run) : List DV := [.p (eSl r.st), .p (ePs r.ps)]
theorem u31 : PP.underlying 31 = some (.slice 98) := Eq.trans (by kernel_rfl) rfl
theorem s98 : size? PP 98 = some 2 := Eq.trans (by kernel_rfl) rfl
theorem bytes98 : bytes? PP 98 = some 16 := Eq.trans (by kernel_rfl) rfl
theorem zero98 : zeroOf PP 98 = some [.p (pI 0), .p (pI 0)] := Eq.trans (by kernel_rfl) rfl
theorem src31 : srcType PP 31 = true := Eq.trans (by kernel_rfl) rfl
theorem load31 (x : DV) (σ : Store) : load PP 31 x σ = load1 x σ := Eq.trans (by kernel_rfl) rfl
theorem load98 (x : DV) (σ : Store) : load PP 98 x σ = (loadN σ 2 x).map .agg := Eq.trans (by kernel_rfl) rfl
theorem load33 (x : DV) (σ : Store) : load PP 33 x σ = (loadN σ 2 x).map .agg := Eq.trans (by kernel_rfl) rfl
theorem zero33 : zeroOf PP 33 = some [.p .nilsl, .p .nilsl] := Eq.trans (by kernel_rfl) rfl
theorem s33 : size? PP 33 = some 2 := Eq.trans (by kernel_rfl) rfl
theorem fa98_0 (x : DV) : fieldAddr PP 98 x 0 = shiftPtr x 0 := Eq.trans (by kernel_rfl) rfl
theorem fa98_1 (x : DV) : fieldAddr PP 98 x 1 = shiftPtr x 1 := Eq.trans (by kernel_rfl) rfl
theorem fa33_0 (x : DV) : fieldAddr PP 33 x 0 = shiftPtr x 0 := Eq.trans (by kernel_rfl) rfl
theorem fa33_1 (x : DV) : fieldAddr PP 33 x 1 = shiftPtr x 1 := Eq.trans (by kernel_rfl) rfl
theorem loosens_prs (l : List Pr) : loosens (ePrs l) = ePrs l := by
  induction l with
  | nil => rfl
  | cons a l ih => simp only [ePrs, loosens, loosen, ih]
theorem loosen_ps (o : OP) : loosen (ePs o) = ePs o := by
  cases o <;> simp [ePs, loosen, loosens_prs]
theorem box_pr (r : Pr) : boxV (.agg (prD r)) = some (prD r) := rfl
theorem bld98 (a b : Int) : build PP 98 [(0, .p (pI a)), (1, .p (pI b))] = some (.agg (prD ⟨a, b⟩)) := Eq.trans (by kernel_rfl) rfl
section
variable {p : Run} {σ : Store} {r : Nat} (h : σ[r]? = some (.mix (eRun p)))
include h
end
structure RSm (r : Run) : Prop where
  s : (L r.st).length ≤ 1000
  p : (L r.ps).length ≤ 1000
def badP (p : Pr) : Bool := !ltr p.i || !ltr p.o
theorem e60 (n : Nat) : decide ((n : Int) ≤ 60) = decide (n ≤ 60) := dec_le n 60
/-- A right component. -/
structure COk (c : Cmp) (n : Nat) : Prop where
  sm : CSm c
  nn : c.n = (n : Nat)
  n10 : n ≤ 10
  o : (L c.out).length = n
  ol : ∀ i, i < n → ltr ((L c.out).getD i 0) = true
  m60 : (L c.mv).length ≤ 60
  il : ∀ s ∈ L c.init, 0 ≤ s ∧ s < n
  inc : ∀ i, i + 1 < (L c.init).length → (L c.init).getD i 0 < (L c.init).getD (i + 1) 0
  ml : ∀ e ∈ L c.mv, (0 ≤ e.f ∧ e.f < n) ∧ (0 ≤ e.a ∧ e.a < n) ∧ ltr e.t = true
  mo : ∀ i, i + 1 < (L c.mv).length → ordE ((L c.mv).getD i default) ((L c.mv).getD (i + 1) default) < 0
theorem firstE_zero {q : Nat → Int} : ∀ (k i : Nat), firstE q i k = 0 → ∀ j, i ≤ j → j < i + k → q j = 0
  | 0, i, h, j, h1, h2 => by omega
  | k + 1, i, h, j, h1, h2 => by
    unfold firstE at h
    by_cases e : q i = 0
    · rw [if_pos e] at h
      rcases Nat.eq_or_lt_of_le h1 with e2 | e2
      · rw [← e2]; exact e
      · exact firstE_zero k (i + 1) h j e2 (by omega)
    · rw [if_neg e] at h
      exact absurd h e
theorem cok_of {c : Cmp} (hc : CSm c) (h : cmpE c = 0) : COk c c.n.toNat := by
  unfold cmpE at h
  split at h
  case isFalse h1 => exact absurd h h1
  rename_i h5
  unfold cmpE5 at h5
  have a1 := orL_zero h5 _ (by simp : (if inR c.n 0 10 then (0 : Int) else 3) ∈ _)
  have a2 := orL_zero h5 _ (by simp : (if decide ((L c.mv).length ≤ 60) then (0 : Int) else 2) ∈ _)
  have a3 := orL_zero h5 _ (by simp : (if decide (((L c.out).length : Int) = c.n) then (0 : Int) else 6) ∈ _)
  have a4 := orL_zero h5 _ (by simp : (if (L c.out).all ltr then (0 : Int) else 3) ∈ _)
  have a5 := orL_zero h5 _ (by simp : (if allFrom (iniB c) 0 (L c.init).length then (0 : Int) else 5) ∈ _)
  have b1 : inR c.n 0 10 = true := by
    cases e : inR c.n 0 10 with
    | true => rfl
    | false => rw [e] at a1; exact absurd a1 (by decide)
  have b2 : (L c.mv).length ≤ 60 := by
    by_cases e : (L c.mv).length ≤ 60
    · exact e
    · rw [decide_eq_false e] at a2; exact absurd a2 (by decide)
  have b3 : ((L c.out).length : Int) = c.n := by
    by_cases e : ((L c.out).length : Int) = c.n
    · exact e
    · rw [decide_eq_false e] at a3; exact absurd a3 (by decide)
  have b4 : (L c.out).all ltr = true := by
    cases e : (L c.out).all ltr with
    | true => rfl
    | false => rw [e] at a4; exact absurd a4 (by decide)
  have b5 : allFrom (iniB c) 0 (L c.init).length = true := by
    cases e : allFrom (iniB c) 0 (L c.init).length with
    | true => rfl
    | false => rw [e] at a5; exact absurd a5 (by decide)
  have nn : 0 ≤ c.n ∧ c.n ≤ 10 := by simpa [inR] using b1
  have pn : pred c.n = c.n - 1 := wrap_ok (by omega) (by omega)
  rw [allFrom_iff] at b5
  have hm := firstE_zero _ _ h
  refine ⟨hc, by omega, by omega, by omega, ?_, b2, ?_, ?_, ?_, ?_⟩
  · intro i hi
    have hi2 : i < (L c.out).length := by omega
    rw [getD_at 0 hi2]
    exact List.all_eq_true.1 b4 _ (List.getElem_mem hi2)
  · intro s hs
    obtain ⟨i, hi, rfl⟩ := List.getElem_of_mem hs
    have := b5 i (Nat.zero_le _) (by omega)
    rw [iniB, getD_at 0 hi] at this
    simp only [inR, pn, Bool.and_eq_true, decide_eq_true_eq] at this
    omega
  · intro i hi
    have := b5 (i + 1) (Nat.zero_le _) (by omega)
    rw [iniB] at this
    simp only [Bool.and_eq_true, Bool.or_eq_true, decide_eq_true_eq, Nat.add_sub_cancel] at this
    omega
  · intro e he
    obtain ⟨i, hi, rfl⟩ := List.getElem_of_mem he
    have := hm i (Nat.zero_le _) (by omega)
    rw [mvE, getD_at default hi] at this
    split at this
    · rename_i h1
      simp only [inR, pn, Bool.and_eq_true, decide_eq_true_eq] at h1
      exact ⟨by omega, by omega, h1.2⟩
    · exact absurd this (by decide)
  · intro i hi
    have := hm (i + 1) (Nat.zero_le _) (by omega)
    rw [mvE] at this
    split at this
    · split at this
      · rename_i h2
        simp only [Bool.or_eq_true, decide_eq_true_eq, Nat.add_sub_cancel] at h2
        omega
      · exact absurd this (by decide)
    · exact absurd this (by decide)
end Go.D
end
