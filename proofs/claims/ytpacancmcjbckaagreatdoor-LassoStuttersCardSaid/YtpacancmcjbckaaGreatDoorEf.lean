/- Chapter 13: the steps of a labelled graph; which behaviours are right, by the program and by the reference. -/
import Derived.Test.YtpacancmcjbckaaGreatDoorEe
import Derived.Test.YtpacancmcjbckaaGreatDoorEd
import Derived.Test.YtpacancmcjbckaaGreatDoorEc
section
set_option linter.unusedVariables false
set_option linter.unusedSimpArgs false
set_option maxRecDepth 8000
namespace Go.D
open Las
theorem Out.ext {σ : Store} {lo sz n : Nat} {cs : List PV} {x : DV} (h : Out σ lo sz n cs x) (r : Row) : Out (σ ++ [r]) lo sz n cs x := by
  obtain ⟨h1, h2⟩ := h
  refine ⟨h1, ?_⟩
  rcases h2 with h2 | ⟨h0, r', v, h2, h3, h4⟩
  · exact .inl h2
  · exact .inr ⟨h0, r', v, h2, get_old h3, h4⟩
def oI (l : List Int) : OI := if l.length = 0 then none else some l
theorem L_oI (l : List Int) : L (oI l) = l := by
  unfold oI
  split
  · rename_i h; rw [List.length_eq_zero_iff.1 h]; rfl
  · rfl
theorem Out.twI {σ : Store} {lo : Nat} {l : List Int} {x : DV} (ho : Out σ lo 1 l.length (eInts l) x) (m : Nat) : thawAll m σ x = some (.p (eSl (oI l))) := by
  rw [Out.twAll ho]
  unfold oI
  split
  · rfl
  · rw [loosens_ints]; rfl
def qst (s t : Int) (e : Edg) : Bool := decide (e.f = s) && (decide (e.t = t) && !decide (s = t))
def actsL (l : List Edg) (s t : Int) : List Int := (l.filter (qst s t)).map (·.a)
theorem drop_edg {l : List Edg} {i : Nat} (h : i < l.length) : l.drop i = l.getD i default :: l.drop (i + 1) := by
  rw [List.drop_eq_getElem_cons h, List.getD_eq_getElem?_getD, List.getElem?_eq_getElem h]; rfl
theorem L142 {x : Lb} (hx : LSm x) (s t : Int) : ∀ (k i : Nat) (acc : List Int) (y : DV) (σ : Store), (L x.g.edges).length - i = k → i ≤ (L x.g.edges).length → acc.length ≤ i → Out σ 0 1 acc.length (eInts acc) y →
    ∃ y' σ', f142_L0 guardT 0 (.p (.int .i64 s)) (.p (.int .i64 t)) y (.p (eEs x.g.edges)) (N (L x.g.edges).length) (N i) σ = some (y', σ') ∧ Out σ' 0 1 (acc ++ actsL ((L x.g.edges).drop i) s t).length (eInts (acc ++ actsL ((L x.g.edges).drop i) s t)) y'
  | 0, i, acc, y, σ, hk, hi, ha, ho => by
    refine ⟨y, σ, ?_, ?_⟩
    · rw [f142_L0_eq guardT rfl]
      simp (disch := omega) only [N, b_lss, ltF, gG]
    · rw [List.drop_eq_nil_of_le (by omega)]
      simpa [actsL] using ho
  | k + 1, i, acc, y, σ, hk, hi, ha, ho => by
    have he := hx.e
    have h : i < (L x.g.edges).length := by omega
    have hr : (σ ++ [Row.mix (edgD ((L x.g.edges).getD i default))])[σ.length]? = some (.mix (edgD ((L x.g.edges).getD i default))) := get_snoc
    have d := ld129 h σ
    have r0 := load1_ptr (off := 0) hr rfl
    have r1 := load1_ptr (off := 1) hr rfl
    have r2 := load1_ptr (off := 2) hr rfl
    have ho1 := ho.ext (Row.mix (edgD ((L x.g.edges).getD i default)))
    obtain ⟨y2, σ2, a1, a2, _, _⟩ := Out.pushI (v := ((L x.g.edges).getD i default).a) ho1 (by omega) (Nat.zero_le _)
    rw [drop_edg h]
    cases c : qst s t ((L x.g.edges).getD i default) with
    | true =>
      obtain ⟨y', σ', b1, b2⟩ := L142 hx s t k (i + 1) (acc ++ [((L x.g.edges).getD i default).a]) y2 σ2 (by omega) (by omega) (by simp; omega) a2
      refine ⟨y', σ', ?_, ?_⟩
      · unfold qst at c
        rw [Bool.and_eq_true, Bool.and_eq_true, decide_eq_true_iff, decide_eq_true_iff, Bool.not_eq_true', decide_eq_false_iff_not] at c
        obtain ⟨c1, c2, c3⟩ := c
        simp only [N] at b1
        rw [f142_L0_eq guardT rfl]
        simp (disch := omega) only [N, b_lss, ltT, gG, idx43 h, load129, d, zero129, st129, fa129_0, fa129_1, fa129_2, shift_ptr, shift_pptr, Nat.zero_add, Nat.add_zero, pureFn_fn, List.append_nil, List.singleton_append, List.cons_append, List.nil_append, load3, r0, r1, r2, b_eql, eqT c1, eqT c2, b_neq, eqF c3, bs24_1, a1, f142_J0_eq, add1, b1]
      · have e : acc ++ actsL ((L x.g.edges).getD i default :: (L x.g.edges).drop (i + 1)) s t = acc ++ [((L x.g.edges).getD i default).a] ++ actsL ((L x.g.edges).drop (i + 1)) s t := by
          unfold actsL; rw [List.filter_cons_of_pos c]; simp
        rw [e]; exact b2
    | false =>
      obtain ⟨y', σ', b1, b2⟩ := L142 hx s t k (i + 1) acc y (σ ++ [Row.mix (edgD ((L x.g.edges).getD i default))]) (by omega) (by omega) (by omega) ho1
      refine ⟨y', σ', ?_, ?_⟩
      · simp only [N] at b1
        rw [f142_L0_eq guardT rfl]
        by_cases c1 : ((L x.g.edges).getD i default).f = s
        · by_cases c2 : ((L x.g.edges).getD i default).t = t
          · have c3 : s = t := by
              unfold qst at c
              rw [decide_eq_true c1, decide_eq_true c2] at c
              simpa using c
            simp (disch := omega) only [N, b_lss, ltT, gG, idx43 h, load129, d, zero129, st129, fa129_0, fa129_1, fa129_2, shift_ptr, shift_pptr, Nat.zero_add, Nat.add_zero, pureFn_fn, List.append_nil, List.singleton_append, List.cons_append, List.nil_append, load3, r0, r1, r2, b_eql, eqT c1, eqT c2, b_neq, eqT c3, f142_J0_eq, add1, b1]
          · simp (disch := omega) only [N, b_lss, ltT, gG, idx43 h, load129, d, zero129, st129, fa129_0, fa129_1, fa129_2, shift_ptr, shift_pptr, Nat.zero_add, Nat.add_zero, pureFn_fn, List.append_nil, List.singleton_append, List.cons_append, List.nil_append, load3, r0, r1, r2, b_eql, eqT c1, eqF c2, f142_J0_eq, add1, b1]
        · simp (disch := omega) only [N, b_lss, ltT, gG, idx43 h, load129, d, zero129, st129, fa129_0, fa129_1, fa129_2, shift_ptr, shift_pptr, Nat.zero_add, Nat.add_zero, pureFn_fn, List.append_nil, List.singleton_append, List.cons_append, List.nil_append, load3, r0, r1, r2, b_eql, eqF c1, f142_J0_eq, add1, b1]
      · have e : actsL ((L x.g.edges).getD i default :: (L x.g.edges).drop (i + 1)) s t = actsL ((L x.g.edges).drop (i + 1)) s t := by
          unfold actsL; rw [List.filter_cons_of_neg (by rw [c]; simp)]
        rw [e]; exact b2
section
variable {x : Lb} (hx : LSm x)
include hx
theorem S142 (s t : Int) (σ : Store) : pureV CC 142 [vLb x, .p (.int .i64 s), .p (.int .i64 t)] σ = some (.p (eSl (oI (actsL (L x.g.edges) s t)))) := by
  obtain ⟨y', σ', h1, h2⟩ := L142 hx s t _ 0 [] (.p .nilsl) [] rfl (Nat.zero_le _) (Nat.zero_le _) Out.zero
  rw [List.drop_zero, List.nil_append] at h2
  simp only [N] at h1
  refine pureV_free (by simp only [List.map_cons, List.map_nil, lb_view, int_view]) rfl (F142_call (r := (y', σ')) ?_) (Out.twI h2 0)
  rw [F142_eq]
  simp only [box_lb, gG, fa47_0, fa45_2, shift_ptr, shift_pptr, Nat.zero_add, Nat.add_zero, pureFn_fn, List.append_nil, List.singleton_append, List.cons_append, List.nil_append, load43, lb_2, len43]
  exact h1
def prm (x : Lb) (s t : Int) : Bool := decide (s = t) || decide (0 < (actsL (L x.g.edges) s t).length)
theorem S92 (s t : Int) (σ : Store) : pureV CC 92 [vLb x, .p (.int .i64 s), .p (.int .i64 t)] σ = some (.p (.bool (prm x s t))) := by
  refine pureV_free (by simp only [List.map_cons, List.map_nil, lb_view, int_view]) rfl (F92_call (r := (.p (.bool (prm x s t)), [])) ?_) rfl
  have h := fun σ => S142 hx s t σ
  have hl := len24 (oI (actsL (L x.g.edges) s t))
  rw [L_oI] at hl
  rw [F92_eq]
  unfold prm
  by_cases c : s = t
  · rw [decide_eq_true c]
    simp only [box_lb, gG, b_eql, eqT c, Bool.true_or]
  · have e : decide (((actsL (L x.g.edges) s t).length : Int) > 0) = decide (0 < (actsL (L x.g.edges) s t).length) := by
      rw [decide_eq_decide]; omega
    rw [decide_eq_false c]
    simp only [box_lb, gG, b_eql, eqF c, load47, lb_all, shift_ptr, shift_pptr, Nat.zero_add, Nat.add_zero, pureFn_fn, List.append_nil, List.singleton_append, List.cons_append, List.nil_append, h, hl, b_gtr, e, Bool.false_or]
omit hx in
theorem acts_any (l : List Edg) {s t : Int} (c : ¬ s = t) : decide (0 < (actsL l s t).length) = l.any fun e => decide (e.f = s) && decide (e.t = t) := by
  rw [Bool.eq_iff_iff, decide_eq_true_iff, List.any_eq_true]
  unfold actsL qst
  rw [decide_eq_false c]
  simp only [Bool.not_false, Bool.and_true, List.length_map]
  rw [List.length_pos_iff_exists_mem]
  constructor
  · rintro ⟨e, he⟩
    rw [List.mem_filter] at he
    exact ⟨e, he.1, he.2⟩
  · rintro ⟨e, h1, h2⟩
    exact ⟨e, List.mem_filter.2 ⟨h1, h2⟩⟩
end
theorem L96 {g : Gr} (he : (L g.edges).length ≤ 10000) (s t : Int) : ∀ (k i : Nat) (σ : Store), (L g.edges).length - i = k → i ≤ (L g.edges).length →
    f96_L0 guardT 0 (.p (.int .i64 s)) (.p (.int .i64 t)) (.pptr (eGrP g) 0) (N i) σ = some (.p (.bool (((L g.edges).drop i).any fun e => decide (e.f = s) && decide (e.t = t))), σ)
  | 0, i, σ, hk, hi => by
    rw [f96_L0_eq guardT rfl, List.drop_eq_nil_of_le (by omega)]
    simp (disch := omega) only [N, fa45_2, shift_ptr, shift_pptr, Nat.zero_add, Nat.add_zero, pureFn_fn, List.append_nil, List.singleton_append, List.cons_append, List.nil_append, load43, gr_2, len43, b_lss, ltF, gG, List.any_nil]
  | k + 1, i, σ, hk, hi => by
    have h : i < (L g.edges).length := by omega
    have ih := L96 he s t k (i + 1) σ (by omega) (by omega)
    simp only [N] at ih
    have d0 : load1 (.pptr (eEdgs (L g.edges)) (i * 3)) σ = some (.p (.int .i64 ((L g.edges).getD i default).f)) := by
      rw [List.getD_eq_getElem?_getD, List.getElem?_eq_getElem h]
      exact load1_pptr (edgs_get _ _ h).1 σ
    have d1 : load1 (.pptr (eEdgs (L g.edges)) (i * 3 + 1)) σ = some (.p (.int .i64 ((L g.edges).getD i default).t)) := by
      rw [List.getD_eq_getElem?_getD, List.getElem?_eq_getElem h]
      exact load1_pptr (edgs_get _ _ h).2.1 σ
    rw [f96_L0_eq guardT rfl, drop_edg h, List.any_cons]
    by_cases c1 : ((L g.edges).getD i default).f = s
    · by_cases c2 : ((L g.edges).getD i default).t = t
      · simp (disch := omega) only [N, fa45_2, shift_ptr, shift_pptr, Nat.zero_add, Nat.add_zero, pureFn_fn, List.append_nil, List.singleton_append, List.cons_append, List.nil_append, load43, gr_2, len43, b_lss, ltT, gG, idx43 h, fa129_0, fa129_1, load3, d0, d1, b_eql, eqT c1, eqT c2, decide_eq_true c1, decide_eq_true c2, Bool.true_and, Bool.true_or]
      · simp (disch := omega) only [N, fa45_2, shift_ptr, shift_pptr, Nat.zero_add, Nat.add_zero, pureFn_fn, List.append_nil, List.singleton_append, List.cons_append, List.nil_append, load43, gr_2, len43, b_lss, ltT, gG, idx43 h, fa129_0, fa129_1, load3, d0, d1, b_eql, eqT c1, eqF c2, decide_eq_true c1, decide_eq_false c2, Bool.true_and, Bool.false_or, add1, ih]
    · simp (disch := omega) only [N, fa45_2, shift_ptr, shift_pptr, Nat.zero_add, Nat.add_zero, pureFn_fn, List.append_nil, List.singleton_append, List.cons_append, List.nil_append, load43, gr_2, len43, b_lss, ltT, gG, idx43 h, fa129_0, fa129_1, load3, d0, d1, b_eql, eqF c1, decide_eq_false c1, Bool.false_and, Bool.false_or, add1, ih]
theorem S96 {x : Lb} (he : (L x.g.edges).length ≤ 10000) (s t : Int) (σ : Store) : pureV CC 96 [vGr x.g, .p (.int .i64 s), .p (.int .i64 t)] σ = some (.p (.bool (prm x s t))) := by
  refine pureV_free (by simp only [List.map_cons, List.map_nil, gr_view, int_view]) rfl (F96_call (r := (.p (.bool (prm x s t)), [])) ?_) rfl
  rw [F96_eq]
  unfold prm
  by_cases c : s = t
  · rw [decide_eq_true c]
    simp only [box_gr, gG, b_eql, eqT c, Bool.true_or]
  · have h := L96 he s t _ 0 [] rfl (Nat.zero_le _)
    rw [List.drop_zero] at h
    rw [decide_eq_false c, acts_any _ c, Bool.false_or]
    simp only [box_gr, gG, b_eql, eqF c]
    exact h
theorem ws_all (w : Wd) (σ : Store) : (loadN σ 2 (.pptr (eWd w) 0)).map DV.agg = some (vWd w) := rfl
theorem S94 {w : Wd} (hl : (L w.p).length + (L w.l).length ≤ 1000) {i : Nat} (hi : i < (L w.p).length + (L w.l).length) (σ : Store) : pureV CC 94 [vWd w, .p (.int .i64 (i : Nat))] σ = some (.p (.int .i64 ((L w.p ++ L w.l).getD i 0))) := by
  refine pureV_free (by simp only [List.map_cons, List.map_nil, wd_view, int_view]) rfl (F94_call (r := (.p (.int .i64 ((L w.p ++ L w.l).getD i 0)), [])) ?_) rfl
  rw [F94_eq]
  by_cases h : i < (L w.p).length
  · have e : (L w.p ++ L w.l).getD i 0 = (L w.p).getD i 0 := by
      rw [List.getD_eq_getElem?_getD, List.getElem?_append_left h, ← List.getD_eq_getElem?_getD]
    rw [e]
    simp (disch := omega) only [box_wd, gG, fa52_0, shift_ptr, shift_pptr, Nat.zero_add, Nat.add_zero, pureFn_fn, List.append_nil, List.singleton_append, List.cons_append, List.nil_append, load24, wd_0, len24, b_lss, ltT, (PL.sl w.p).idx h, load3, load1_getD h]
  · have h2 : i - (L w.p).length < (L w.l).length := by omega
    have e : (L w.p ++ L w.l).getD i 0 = (L w.l).getD (i - (L w.p).length) 0 := by
      rw [List.getD_eq_getElem?_getD, List.getElem?_append_right (by omega), ← List.getD_eq_getElem?_getD]
    rw [e]
    simp (disch := omega) only [box_wd, gG, fa52_0, fa52_1, shift_ptr, shift_pptr, Nat.zero_add, Nat.add_zero, pureFn_fn, List.append_nil, List.singleton_append, List.cons_append, List.nil_append, load24, wd_0, wd_1, len24, b_lss, ltF, subN, (PL.sl w.l).idx h2, load3, load1_getD h2]
theorem S97 {w : Wd} (hl : (L w.p).length + (L w.l).length ≤ 1000) {i : Nat} (hi : i < (L w.p).length + (L w.l).length) (σ : Store) : pureV CC 97 [vWd w, .p (.int .i64 (i : Nat))] σ = some (.p (.int .i64 ((nx ((L w.p).length + (L w.l).length) (L w.p).length i : Nat)))) := by
  refine pureV_free (by simp only [List.map_cons, List.map_nil, wd_view, int_view]) rfl (F97_call (r := (.p (.int .i64 ((nx ((L w.p).length + (L w.l).length) (L w.p).length i : Nat))), [])) ?_) rfl
  rw [F97_eq]
  unfold nx
  by_cases h : i + 1 < (L w.p).length + (L w.l).length
  · rw [if_neg (by omega)]
    simp (disch := omega) only [box_wd, gG, fa52_0, fa52_1, shift_ptr, shift_pptr, Nat.zero_add, Nat.add_zero, pureFn_fn, List.append_nil, List.singleton_append, List.cons_append, List.nil_append, load24, wd_0, wd_1, len24, add1, addN, b_lss, ltT]
  · rw [if_pos (by omega)]
    simp (disch := omega) only [box_wd, gG, fa52_0, fa52_1, shift_ptr, shift_pptr, Nat.zero_add, Nat.add_zero, pureFn_fn, List.append_nil, List.singleton_append, List.cons_append, List.nil_append, load24, wd_0, wd_1, len24, add1, addN, b_lss, ltF]
section
variable {x : Lb} (hx : LSm x)
include hx
theorem S76 (σ : Store) : pureV CC 76 [vLb x] σ = some (.p (.int .i64 (chkLb x).2)) := by
  refine pureV_free (by simp only [List.map_cons, List.map_nil, lb_view]) rfl (F76_call (r := (.p (.int .i64 (chkLb x).2), [])) ?_) rfl
  rw [F76_eq]
  have h := fun σ => S39 hx σ
  simp only [box_lb, gG, load47, lb_all, shift_ptr, shift_pptr, Nat.zero_add, Nat.add_zero, pureFn_fn, List.append_nil, List.singleton_append, List.cons_append, List.nil_append, h, px0, px1]
theorem S24 (σ : Store) : pureV CC 24 [vLb x] σ = some (.p (.int .i64 (chkLb x).2)) := by
  refine pureV_free (by simp only [List.map_cons, List.map_nil, lb_view]) rfl (F24_call (r := (.p (.int .i64 (chkLb x).2), [])) ?_) rfl
  rw [F24_eq]
  have h := fun σ => S40 hx σ
  simp only [box_lb, gG, load47, lb_all, shift_ptr, shift_pptr, Nat.zero_add, Nat.add_zero, pureFn_fn, List.append_nil, List.singleton_append, List.cons_append, List.nil_append, h, px0, px1]
end
def badZ (x : Lb) (A : List Int) (i : Nat) : Bool := !inR (A.getD i 0) 0 (x.g.n - 1)
def badT (x : Lb) (A : List Int) (b : Nat) (i : Nat) : Bool := !prm x (A.getD i 0) (A.getD (nx A.length b i) 0)
def lst1 (x : Lb) (A : List Int) (b : Nat) : Nat → Nat → Int × Int := scnP (badT x A b) 10 (0, 0)
def lst0 (x : Lb) (A : List Int) (b : Nat) : Nat → Nat → Int × Int := scnP (badZ x A) 3 (if decide (A.getD 0 0 ∈ L x.g.init) = false then (0, 30) else lst1 x A b 0 A.length)
def chkLs (x : Lb) (w : Wd) : Int × Int :=
  if (chkLb x).2 = 0 then if L w.l = [] then (0, 1) else if (L w.p).length + (L w.l).length > 60 then (0, 2) else lst0 x (L w.p ++ L w.l) (L w.p).length 0 (L w.p ++ L w.l).length else (0, (chkLb x).2)
theorem isG_n {g : Gr} (h : isG g = true) : 0 ≤ g.n ∧ g.n ≤ 400 := by
  unfold isG at h
  rw [Bool.and_eq_true, Bool.and_eq_true, Bool.and_eq_true] at h
  exact (inR_iff _ _ _).1 h.1.1.1
theorem chkLb_g {x : Lb} (h : (chkLb x).2 = 0) : isG x.g = true := by
  unfold chkLb at h
  cases hg : isG x.g with
  | true => rfl
  | false => rw [hg, if_pos rfl] at h; exact absurd h (by decide)
section
variable {x : Lb} (hx : LSm x) {w : Wd} (hl : (L w.p).length + (L w.l).length ≤ 1000) (hn : 0 ≤ x.g.n ∧ x.g.n ≤ 400) (hq : 0 < (L w.l).length)
include hx hl
theorem L41_1 {r : Nat} {σ : Store} (hr : σ[r]? = some (.mix [.p (pI ((L w.p).length + (L w.l).length : Nat)), .p (pI ((L w.p).length : Nat))])) (hq : 0 < (L w.l).length) :
    ∀ (k i : Nat), (L w.p ++ L w.l).length - i = k → i ≤ (L w.p ++ L w.l).length →
    f41_L1 guardT 0 (.pptr (eLb x) 0) (.p (eSl (some (L w.p ++ L w.l)))) (.ptr r 0) (.p (eSl (some (L w.p ++ L w.l)))) (N (L w.p ++ L w.l).length) (N i) σ = some (pr2 (lst1 x (L w.p ++ L w.l) (L w.p).length i k), σ)
  | 0, i, hk, hi => by
    rw [f41_L1_eq guardT rfl]
    rw [List.length_append] at hk hi ⊢
    simp (disch := omega) only [N, b_lss, ltF, gG, lst1, scnP, z00]
  | k + 1, i, hk, hi => by
    have ih := L41_1 hr hq k (i + 1) (by omega) (by omega)
    have h : i < (L w.p ++ L w.l).length := by omega
    have hlen : (L w.p ++ L w.l).length = (L w.p).length + (L w.l).length := List.length_append
    have hnx : nx (L w.p ++ L w.l).length (L w.p).length i < (L w.p ++ L w.l).length := nx_lt (by omega) h
    have ld : (loadN σ 2 (.ptr r 0)).map DV.agg = some (vRg ((L w.p).length + (L w.l).length) (L w.p).length) := by
      rw [loadN_ptr (off := 0) (n := 2) (vs := [.p (pI ((L w.p).length + (L w.l).length : Nat)), .p (pI ((L w.p).length : Nat))]) hr rfl (by simp)]; rfl
    have s93 := fun σ => S93 (n := (L w.p).length + (L w.l).length) (back := (L w.p).length) (i := i) (by omega) hl (by omega) σ
    rw [← hlen] at s93 ld
    have ix := (PL.some (L w.p ++ L w.l)).idx h
    have ix2 := (PL.some (L w.p ++ L w.l)).idx hnx
    have s92 := fun s t σ => S92 hx s t σ
    simp only [N] at ih
    rw [f41_L1_eq guardT rfl]
    unfold lst1 scnP
    cases c : prm x ((L w.p ++ L w.l).getD i 0) ((L w.p ++ L w.l).getD (nx (L w.p ++ L w.l).length (L w.p).length i) 0) with
    | false =>
      rw [if_pos (by unfold badT; rw [c]; rfl)]
      simp (disch := omega) only [N, b_lss, ltT, gG, ix, load3, load1_getD h, load47, lb_all, load135, ld, shift_ptr, shift_pptr, Nat.zero_add, Nat.add_zero, pureFn_fn, List.append_nil, List.singleton_append, List.cons_append, List.nil_append, s93, ix2, load1_getD hnx, s92, c]
      rfl
    | true =>
      rw [if_neg (by unfold badT; rw [c]; simp)]
      simp (disch := omega) only [N, b_lss, ltT, gG, ix, load3, load1_getD h, load47, lb_all, load135, ld, shift_ptr, shift_pptr, Nat.zero_add, Nat.add_zero, pureFn_fn, List.append_nil, List.singleton_append, List.cons_append, List.nil_append, s93, ix2, load1_getD hnx, s92, c, add1]
      exact ih
include hn hq
theorem L41_0 : ∀ (k i : Nat) (σ : Store), (L w.p ++ L w.l).length - i = k → i ≤ (L w.p ++ L w.l).length →
    ∃ σ', f41_L0 guardT 0 (.pptr (eLb x) 0) (.pptr (eWd w) 0) (.p (eSl (some (L w.p ++ L w.l)))) (.p (eSl (some (L w.p ++ L w.l)))) (N (L w.p ++ L w.l).length) (N i) σ = some (pr2 (lst0 x (L w.p ++ L w.l) (L w.p).length i k), σ')
  | 0, i, σ, hk, hi => by
    have hlen : (L w.p ++ L w.l).length = (L w.p).length + (L w.l).length := List.length_append
    have h0 : 0 < (L w.p ++ L w.l).length := by omega
    have ix := (PL.some (L w.p ++ L w.l)).idx h0
    have z0 : (.p (.int .i64 ((0 : Nat) : Int)) : DV) = .p (.int .i64 0) := rfl
    rw [z0] at ix
    have hi0 := hx.i
    have s91 := fun v σ => S91 (o := x.g.init) (by omega) v σ
    rw [f41_L0_eq guardT rfl]
    unfold lst0 scnP
    cases c : decide ((L w.p ++ L w.l).getD 0 0 ∈ L x.g.init) with
    | false =>
      refine ⟨σ, ?_⟩
      rw [if_pos rfl]
      simp (disch := omega) only [N, b_lss, ltF, gG, fa47_0, fa45_1, shift_ptr, shift_pptr, Nat.zero_add, Nat.add_zero, pureFn_fn, List.append_nil, List.singleton_append, List.cons_append, List.nil_append, load24, lb_1, ix, load3, load1_getD h0, s91, c]
      rfl
    | true =>
      rw [if_neg (by simp)]
      have b135 : ∀ a b : Int, build PP 135 [(0, .p (.int .i64 a)), (1, .p (.int .i64 b))] = some (.agg [.p (pI a), .p (pI b)]) := fun a b => Eq.trans (by kernel_rfl) rfl
      have z135 : zeroOf PP 135 = some [.p (pI 0), .p (pI 0)] := Eq.trans (by kernel_rfl) rfl
      have s135 : size? PP 135 = some 2 := Eq.trans (by kernel_rfl) rfl
      have st : ∀ a b : Int, store PP 0 135 (.ptr σ.length 0) (.agg [.p (pI a), .p (pI b)]) (σ ++ [.mix [.p (pI 0), .p (pI 0)]]) = some (σ ++ [.mix [.p (pI a), .p (pI b)]]) := fun a b => by
        have hone : ([DV.p (pI a), .p (pI b)] : List DV).all DV.one = true := rfl
        simp [store, s135, DV.cells, storeN, hone, splice]
      have h1 := L41_1 hx hl (r := σ.length) (σ := σ ++ [.mix [.p (pI ((L w.p).length + (L w.l).length : Nat)), .p (pI ((L w.p).length : Nat))]]) get_snoc hq (L w.p ++ L w.l).length 0 rfl (Nat.zero_le _)
      rw [← hlen] at h1
      simp only [N] at h1
      have ls := (PL.some (L w.p ++ L w.l)).len
      refine ⟨σ ++ [.mix [.p (pI ((L w.p ++ L w.l).length : Nat)), .p (pI ((L w.p).length : Nat))]], ?_⟩
      simp (disch := omega) only [N, b_lss, ltF, gG, fa47_0, fa45_1, shift_ptr, shift_pptr, Nat.zero_add, Nat.add_zero, pureFn_fn, List.append_nil, List.singleton_append, List.cons_append, List.nil_append, load24, lb_1, ix, load3, load1_getD h0, s91, c, ls, fa52_0, wd_0, len24, b135, z135, st]
      exact h1
  | k + 1, i, σ, hk, hi => by
    have hlen : (L w.p ++ L w.l).length = (L w.p).length + (L w.l).length := List.length_append
    have h : i < (L w.p ++ L w.l).length := by omega
    obtain ⟨σ', ih⟩ := L41_0 k (i + 1) σ (by omega) (by omega)
    have ix := (PL.some (L w.p ++ L w.l)).idx h
    have sn := subn hn
    simp only [N] at ih
    rw [f41_L0_eq guardT rfl]
    unfold lst0 scnP badZ
    cases c : inR ((L w.p ++ L w.l).getD i 0) 0 (x.g.n - 1) with
    | false =>
      refine ⟨σ, ?_⟩
      rw [Bool.not_false, if_pos rfl]
      simp (disch := omega) only [N, b_lss, ltT, gG, ix, load3, load1_getD h, fa47_0, fa45_0, shift_ptr, shift_pptr, Nat.zero_add, Nat.add_zero, pureFn_fn, List.append_nil, List.singleton_append, List.cons_append, List.nil_append, lb_0, sn, S65, c]
      rfl
    | true =>
      refine ⟨σ', ?_⟩
      rw [Bool.not_true, if_neg (by simp)]
      simp (disch := omega) only [N, b_lss, ltT, gG, ix, load3, load1_getD h, fa47_0, fa45_0, shift_ptr, shift_pptr, Nat.zero_add, Nat.add_zero, pureFn_fn, List.append_nil, List.singleton_append, List.cons_append, List.nil_append, lb_0, sn, S65, c, add1]
      exact ih
omit hn hq
theorem S41 (σ : Store) : pureV CC 41 [vLb x, vWd w] σ = some (pr2 (chkLs x w)) := by
  have key : ∃ σ', F41 guardT 0 (vLb x) (vWd w) [] = some (pr2 (chkLs x w), σ') := by
    have s76 := fun σ => S76 hx σ
    have hE : orL [(chkLb x).2, wrg (decide (((L w.l).length : Int) = 0)) 1, wrg (decide ((((L w.p).length + (L w.l).length : Nat) : Int) > 60)) 2] = if (chkLb x).2 = 0 then if L w.l = [] then 1 else if (L w.p).length + (L w.l).length > 60 then 2 else 0 else (chkLb x).2 := by
      by_cases h1 : (chkLb x).2 = 0
      · by_cases h2 : L w.l = []
        · simp [orL, wrg, h1, h2]
        · have h2' : ¬ ((L w.l).length : Int) = 0 := by
            have := List.length_pos_iff.2 h2; omega
          rw [if_pos h1, if_neg h2]
          unfold wrg
          rw [decide_eq_false h2', if_neg (by simp), h1]
          by_cases h3 : (L w.p).length + (L w.l).length > 60
          · rw [if_pos h3, decide_eq_true (by omega), if_pos rfl]; rfl
          · rw [if_neg h3, decide_eq_false (by omega), if_neg (by simp)]; rfl
      · rw [if_neg h1]
        simp [orL, h1]
    unfold chkLs
    by_cases h1 : (chkLb x).2 = 0
    · rw [if_pos h1] at hE ⊢
      by_cases h2 : L w.l = []
      · rw [if_pos h2] at hE ⊢
        have q := fun σ => S66_3 (chkLb x).2 (wrg (decide (((L w.l).length : Int) = 0)) 1) (wrg (decide ((((L w.p).length + (L w.l).length : Nat) : Int) > 60)) 2) σ
        rw [hE] at q
        refine ⟨[], ?_⟩
        rw [F41_eq]
        simp (disch := omega) only [box_lb, box_wd, gG, load47, lb_all, shift_ptr, shift_pptr, Nat.zero_add, Nat.add_zero, pureFn_fn, List.append_nil, List.singleton_append, List.cons_append, List.nil_append, s76, fa52_0, fa52_1, load24, wd_0, wd_1, len24, b_eql, S67, addN, b_gtr, bs160_3, q, b_neq, eqF (show ¬ (1 : Int) = 0 by decide)]
        rfl
      · rw [if_neg h2] at hE ⊢
        by_cases h3 : (L w.p).length + (L w.l).length > 60
        · rw [if_pos h3] at hE ⊢
          have q := fun σ => S66_3 (chkLb x).2 (wrg (decide (((L w.l).length : Int) = 0)) 1) (wrg (decide ((((L w.p).length + (L w.l).length : Nat) : Int) > 60)) 2) σ
          rw [hE] at q
          refine ⟨[], ?_⟩
          rw [F41_eq]
          simp (disch := omega) only [box_lb, box_wd, gG, load47, lb_all, shift_ptr, shift_pptr, Nat.zero_add, Nat.add_zero, pureFn_fn, List.append_nil, List.singleton_append, List.cons_append, List.nil_append, s76, fa52_0, fa52_1, load24, wd_0, wd_1, len24, b_eql, S67, addN, b_gtr, bs160_3, q, b_neq, eqF (show ¬ (2 : Int) = 0 by decide)]
          rfl
        · rw [if_neg h3] at hE ⊢
          have q := fun σ => S66_3 (chkLb x).2 (wrg (decide (((L w.l).length : Int) = 0)) 1) (wrg (decide ((((L w.p).length + (L w.l).length : Nat) : Int) > 60)) 2) σ
          rw [hE] at q
          have hp := List.length_pos_iff.2 h2
          have hn := isG_n (chkLb_g h1)
          obtain ⟨σ', h4⟩ := L41_0 hx hl hn hp (L w.p ++ L w.l).length 0 [] rfl (Nat.zero_le _)
          have s84 := fun σ => S84p (a := w.p) (b := w.l) (by omega) (by omega) σ
          have ls := (PL.some (L w.p ++ L w.l)).len
          simp only [N] at h4
          refine ⟨σ', ?_⟩
          rw [F41_eq]
          simp (disch := omega) only [box_lb, box_wd, gG, load47, lb_all, shift_ptr, shift_pptr, Nat.zero_add, Nat.add_zero, pureFn_fn, List.append_nil, List.singleton_append, List.cons_append, List.nil_append, s76, fa52_0, fa52_1, load24, wd_0, wd_1, len24, b_eql, S67, addN, b_gtr, bs160_3, q, b_neq, eqT (rfl : (0 : Int) = 0), bs130_2, s84, ls]
          exact h4
    · rw [if_neg h1] at hE ⊢
      have q := fun σ => S66_3 (chkLb x).2 (wrg (decide (((L w.l).length : Int) = 0)) 1) (wrg (decide ((((L w.p).length + (L w.l).length : Nat) : Int) > 60)) 2) σ
      rw [hE] at q
      refine ⟨[], ?_⟩
      rw [F41_eq]
      simp (disch := omega) only [box_lb, box_wd, gG, load47, lb_all, shift_ptr, shift_pptr, Nat.zero_add, Nat.add_zero, pureFn_fn, List.append_nil, List.singleton_append, List.cons_append, List.nil_append, s76, fa52_0, fa52_1, load24, wd_0, wd_1, len24, b_eql, S67, addN, b_gtr, bs160_3, q, b_neq, eqF h1]
      rfl
  obtain ⟨σ', h⟩ := key
  exact pureV_free (by simp only [List.map_cons, List.map_nil, lb_view, wd_view]) rfl (F41_call h) rfl
include hn hq
omit hn in
theorem L43_1 : ∀ (k i : Nat) (σ : Store), (L w.p ++ L w.l).length - i = k → i ≤ (L w.p ++ L w.l).length →
    f43_L1 guardT 0 (.pptr (eLb x) 0) (.pptr (eWd w) 0) (N (L w.p ++ L w.l).length) (N i) σ = some (pr2 (lst1 x (L w.p ++ L w.l) (L w.p).length i k), σ)
  | 0, i, σ, hk, hi => by
    rw [f43_L1_eq guardT rfl]
    rw [List.length_append] at hk hi ⊢
    simp (disch := omega) only [N, b_lss, ltF, gG, lst1, scnP, z00]
  | k + 1, i, σ, hk, hi => by
    have hlen : (L w.p ++ L w.l).length = (L w.p).length + (L w.l).length := List.length_append
    have h : i < (L w.p ++ L w.l).length := by omega
    have ih := L43_1 k (i + 1) σ (by omega) (by omega)
    have hnx : nx (L w.p ++ L w.l).length (L w.p).length i < (L w.p ++ L w.l).length := nx_lt (by omega) h
    rw [hlen] at hnx
    have s94 := fun σ => S94 (w := w) hl (i := i) (by omega) σ
    have s94' := fun σ => S94 (w := w) hl hnx σ
    have s97 := fun σ => S97 (w := w) hl (i := i) (by omega) σ
    have s96 := fun s t σ => S96 (x := x) hx.e s t σ
    simp only [N] at ih
    rw [f43_L1_eq guardT rfl]
    unfold lst1 scnP
    have eT : badT x (L w.p ++ L w.l) (L w.p).length i = !prm x ((L w.p ++ L w.l).getD i 0) ((L w.p ++ L w.l).getD (nx ((L w.p).length + (L w.l).length) (L w.p).length i) 0) := by unfold badT; rw [hlen]
    rw [eT]
    cases c : prm x ((L w.p ++ L w.l).getD i 0) ((L w.p ++ L w.l).getD (nx ((L w.p).length + (L w.l).length) (L w.p).length i) 0) with
    | false =>
      rw [Bool.not_false, if_pos rfl]
      simp (disch := omega) only [N, b_lss, ltT, gG, fa47_0, shift_ptr, shift_pptr, Nat.zero_add, Nat.add_zero, pureFn_fn, List.append_nil, List.singleton_append, List.cons_append, List.nil_append, load45, lb_g, load52, ws_all, s94, s97, s94', s96, c]
      rfl
    | true =>
      rw [Bool.not_true, if_neg (by simp)]
      simp (disch := omega) only [N, b_lss, ltT, gG, fa47_0, shift_ptr, shift_pptr, Nat.zero_add, Nat.add_zero, pureFn_fn, List.append_nil, List.singleton_append, List.cons_append, List.nil_append, load45, lb_g, load52, ws_all, s94, s97, s94', s96, c, add1]
      exact ih
theorem L43_0 : ∀ (k i : Nat) (σ : Store), (L w.p ++ L w.l).length - i = k → i ≤ (L w.p ++ L w.l).length →
    f43_L0 guardT 0 (.pptr (eLb x) 0) (.pptr (eWd w) 0) (N (L w.p ++ L w.l).length) (N i) σ = some (pr2 (lst0 x (L w.p ++ L w.l) (L w.p).length i k), σ)
  | 0, i, σ, hk, hi => by
    have hlen : (L w.p ++ L w.l).length = (L w.p).length + (L w.l).length := List.length_append
    have s94 := fun σ => S94 (w := w) hl (i := 0) (by omega) σ
    have z0 : (.p (.int .i64 ((0 : Nat) : Int)) : DV) = .p (.int .i64 0) := rfl
    rw [z0] at s94
    have hi0 := hx.i
    have s95 := fun v σ => S95 (o := x.g.init) (by omega) v σ
    have h1 := L43_1 hx hl hq (L w.p ++ L w.l).length 0 σ rfl (Nat.zero_le _)
    simp only [N] at h1
    rw [f43_L0_eq guardT rfl]
    unfold lst0 scnP
    cases c : decide ((L w.p ++ L w.l).getD 0 0 ∈ L x.g.init) with
    | false =>
      rw [if_pos rfl]
      simp (disch := omega) only [N, b_lss, ltF, gG, fa47_0, fa45_1, shift_ptr, shift_pptr, Nat.zero_add, Nat.add_zero, pureFn_fn, List.append_nil, List.singleton_append, List.cons_append, List.nil_append, load24, lb_1, load52, ws_all, s94, s95, c]
      rfl
    | true =>
      rw [if_neg (by simp)]
      simp (disch := omega) only [N, b_lss, ltF, gG, fa47_0, fa45_1, shift_ptr, shift_pptr, Nat.zero_add, Nat.add_zero, pureFn_fn, List.append_nil, List.singleton_append, List.cons_append, List.nil_append, load24, lb_1, load52, ws_all, s94, s95, c]
      exact h1
  | k + 1, i, σ, hk, hi => by
    have hlen : (L w.p ++ L w.l).length = (L w.p).length + (L w.l).length := List.length_append
    have h : i < (L w.p ++ L w.l).length := by omega
    have ih := L43_0 k (i + 1) σ (by omega) (by omega)
    have s94 := fun σ => S94 (w := w) hl (i := i) (by omega) σ
    have sn := subn hn
    simp only [N] at ih
    rw [f43_L0_eq guardT rfl]
    unfold lst0 scnP badZ
    cases c : inR ((L w.p ++ L w.l).getD i 0) 0 (x.g.n - 1) with
    | false =>
      rw [Bool.not_false, if_pos rfl]
      simp (disch := omega) only [N, b_lss, ltT, gG, load52, ws_all, s94, load3, fa47_0, fa45_0, shift_ptr, shift_pptr, Nat.zero_add, Nat.add_zero, pureFn_fn, List.append_nil, List.singleton_append, List.cons_append, List.nil_append, lb_0, sn, S26, c]
      rfl
    | true =>
      rw [Bool.not_true, if_neg (by simp)]
      simp (disch := omega) only [N, b_lss, ltT, gG, load52, ws_all, s94, load3, fa47_0, fa45_0, shift_ptr, shift_pptr, Nat.zero_add, Nat.add_zero, pureFn_fn, List.append_nil, List.singleton_append, List.cons_append, List.nil_append, lb_0, sn, S26, c, add1]
      exact ih
omit hn hq
theorem S43 (σ : Store) : pureV CC 43 [vLb x, vWd w] σ = some (pr2 (chkLs x w)) := by
  refine pureV_free (by simp only [List.map_cons, List.map_nil, lb_view, wd_view]) rfl (F43_call (r := (pr2 (chkLs x w), [])) ?_) rfl
  have s24 := fun σ => S24 hx σ
  rw [F43_eq]
  unfold chkLs
  by_cases h1 : (chkLb x).2 = 0
  · rw [if_pos h1]
    by_cases h2 : L w.l = []
    · rw [if_pos h2]
      have h2' : ((L w.l).length : Int) = 0 := by rw [h2]; rfl
      simp (disch := omega) only [box_lb, box_wd, gG, load47, lb_all, shift_ptr, shift_pptr, Nat.zero_add, Nat.add_zero, pureFn_fn, List.append_nil, List.singleton_append, List.cons_append, List.nil_append, s24, b_neq, eqT h1, fa52_1, load24, wd_1, len24, b_eql, eqT h2']
      rfl
    · rw [if_neg h2]
      have hp := List.length_pos_iff.2 h2
      have h2' : ¬ ((L w.l).length : Int) = 0 := by omega
      by_cases h3 : (L w.p).length + (L w.l).length > 60
      · rw [if_pos h3]
        have h3' : (((L w.p).length + (L w.l).length : Nat) : Int) > 60 := by omega
        simp (disch := omega) only [box_lb, box_wd, gG, load47, lb_all, shift_ptr, shift_pptr, Nat.zero_add, Nat.add_zero, pureFn_fn, List.append_nil, List.singleton_append, List.cons_append, List.nil_append, s24, b_neq, eqT h1, fa52_0, fa52_1, load24, wd_0, wd_1, len24, b_eql, eqF h2', addN, b_gtr, gtT h3']
        rfl
      · rw [if_neg h3]
        have h3' : ¬ (((L w.p).length + (L w.l).length : Nat) : Int) > 60 := by omega
        have h4 := L43_0 hx hl (isG_n (chkLb_g h1)) hp (L w.p ++ L w.l).length 0 [] rfl (Nat.zero_le _)
        rw [List.length_append] at h4 ⊢
        simp only [N] at h4
        simp (disch := omega) only [box_lb, box_wd, gG, load47, lb_all, shift_ptr, shift_pptr, Nat.zero_add, Nat.add_zero, pureFn_fn, List.append_nil, List.singleton_append, List.cons_append, List.nil_append, s24, b_neq, eqT h1, fa52_0, fa52_1, load24, wd_0, wd_1, len24, b_eql, eqF h2', addN, b_gtr, gtF h3']
        exact h4
  · rw [if_neg h1]
    simp (disch := omega) only [box_lb, box_wd, gG, load47, lb_all, shift_ptr, shift_pptr, Nat.zero_add, Nat.add_zero, pureFn_fn, List.append_nil, List.singleton_append, List.cons_append, List.nil_append, s24, b_neq, eqF h1]
    rfl
end
end Go.D
end
/- Equations of functions 10, 55, 56, 57, 58, 59, 116, 117, 118, 119, 120, 121, 157, 158, 159, 160, 161, 162, 163, 164, 175, 176, 184, printed by gen.py. -/
section
set_option linter.unusedVariables false
set_option maxRecDepth 10000
namespace Go.D
open Go.Proofs
noncomputable section
variable (G : GuardT) (lo : Nat) {σ : Store} {r : DV × Store}
open _root_.Go.D.Code (fstC sndC)
open _root_.Go.D.Ann (left right)
def c55_0 : Code := bodyOf Tryz.f55
def a55_0 : Ann := (pol 55).ann
def F55 (x0 x1 : DV) (σ : Store) : RS :=
 codeF G PP (pol 55) CC lo c55_0 a55_0 (x0 :: x1 :: zn 15 []) σ (finR PP Tryz.f55.results.toList)
theorem F55_eq (G : GuardT) (lo : Nat) (x0 x1 : DV) (σ : Store) : F55 G lo x0 x1 σ =
 (boxP x0).bind fun x2 =>
 (boxP x1).bind fun x3 =>
 (zeroOf PP 26).bind fun z4 =>
 (load PP 47 x2 (σ ++ [Row.mix z4])).bind fun x7 =>
 (load PP 52 x3 (σ ++ [Row.mix z4])).bind fun x8 =>
 (pureFn CC (DV.fn 116 []) [x7, x8] (σ ++ [Row.mix z4])).bind fun x9 =>
 (binOp PP .neq 30 x9 I0).bind fun x11 =>
 condK x11
 (
 (build PP 26 []).bind fun x12 =>
 (store PP lo 26 (DV.ptr (List.length σ) 0) x12 (σ ++ [Row.mix z4])).bind fun σ1 =>
 (cellV PP 26 (DV.ptr (List.length σ) 0) σ1).bind fun v0 =>
 some ((DV.tuple [v0, x9]), σ1)
 )
 (
 (load PP 47 x2 (σ ++ [Row.mix z4])).bind fun x14 =>
 (load PP 52 x3 (σ ++ [Row.mix z4])).bind fun x15 =>
 (pureFn CC (DV.fn 117 []) [x14, x15] (σ ++ [Row.mix z4])).bind fun x16 =>
 (store PP lo 26 (DV.ptr (List.length σ) 0) x16 (σ ++ [Row.mix z4])).bind fun σ2 =>
 (cellV PP 26 (DV.ptr (List.length σ) 0) σ2).bind fun v0 =>
 some ((DV.tuple [v0, I0]), σ2)
 ) := by kernel_rfl
theorem F55_call {lo : Nat} {x0 x1 : DV} (h : F55 guardT lo x0 x1 σ = some r) : CC lo 55 [x0, x1] σ = some r :=
 callL_run Tryz.func55 (by decide +kernel) rfl (by decide +kernel) h
def c56_0 : Code := bodyOf Tryz.f56
def a56_0 : Ann := (pol 56).ann
def F56 (x0 x1 : DV) (σ : Store) : RS :=
 codeF G PP (pol 56) CC lo c56_0 a56_0 (x0 :: x1 :: zn 14 []) σ (finR PP Tryz.f56.results.toList)
theorem F56_eq (G : GuardT) (lo : Nat) (x0 x1 : DV) (σ : Store) : F56 G lo x0 x1 σ =
 (boxP x0).bind fun x2 =>
 (boxP x1).bind fun x3 =>
 (load PP 47 x2 σ).bind fun x7 =>
 (load PP 52 x3 σ).bind fun x8 =>
 (pureFn CC (DV.fn 116 []) [x7, x8] σ).bind fun x9 =>
 (binOp PP .neq 30 x9 I0).bind fun x11 =>
 condK x11
 (
 some ((DV.tuple [(DV.p (PV.bool false)), x9]), σ)
 )
 (
 (load PP 47 x2 σ).bind fun x13 =>
 (load PP 52 x3 σ).bind fun x14 =>
 (pureFn CC (DV.fn 118 []) [x13, x14] σ).bind fun x15 =>
 some ((DV.tuple [x15, I0]), σ)
 ) := by kernel_rfl
theorem F56_call {lo : Nat} {x0 x1 : DV} (h : F56 guardT lo x0 x1 σ = some r) : CC lo 56 [x0, x1] σ = some r :=
 callL_run Tryz.func56 (by decide +kernel) rfl (by decide +kernel) h
def c57_0 : Code := bodyOf Tryz.f57
def a57_0 : Ann := (pol 57).ann
def F57 (x0 x1 : DV) (σ : Store) : RS :=
 codeF G PP (pol 57) CC lo c57_0 a57_0 (x0 :: x1 :: zn 12 []) σ (finR PP Tryz.f57.results.toList)
theorem F57_eq (G : GuardT) (lo : Nat) (x0 x1 : DV) (σ : Store) : F57 G lo x0 x1 σ =
 (boxP x0).bind fun x2 =>
 (boxP x1).bind fun x3 =>
 (load PP 47 x2 σ).bind fun x8 =>
 (load PP 52 x3 σ).bind fun x9 =>
 (pureFn CC (DV.fn 43 []) [x8, x9] σ).bind fun x10 =>
 (extractV x10 0).bind fun x11 =>
 (extractV x10 1).bind fun x12 =>
 some (x12, σ) := by kernel_rfl
theorem F57_call {lo : Nat} {x0 x1 : DV} (h : F57 guardT lo x0 x1 σ = some r) : CC lo 57 [x0, x1] σ = some r :=
 callL_run Tryz.func57 (by decide +kernel) rfl (by decide +kernel) h
def c116_0 : Code := bodyOf Tryz.f116
def a116_0 : Ann := (pol 116).ann
def F116 (x0 x1 : DV) (σ : Store) : RS :=
 codeF G PP (pol 116) CC lo c116_0 a116_0 (x0 :: x1 :: zn 12 []) σ (finR PP Tryz.f116.results.toList)
theorem F116_eq (G : GuardT) (lo : Nat) (x0 x1 : DV) (σ : Store) : F116 G lo x0 x1 σ =
 (boxP x0).bind fun x2 =>
 (boxP x1).bind fun x3 =>
 (load PP 47 x2 σ).bind fun x8 =>
 (load PP 52 x3 σ).bind fun x9 =>
 (pureFn CC (DV.fn 41 []) [x8, x9] σ).bind fun x10 =>
 (extractV x10 0).bind fun x11 =>
 (extractV x10 1).bind fun x12 =>
 some (x12, σ) := by kernel_rfl
theorem F116_call {lo : Nat} {x0 x1 : DV} (h : F116 guardT lo x0 x1 σ = some r) : CC lo 116 [x0, x1] σ = some r :=
 callL_run Tryz.func116 (by decide +kernel) rfl (by decide +kernel) h
def c117_0 : Code := bodyOf Tryz.f117
def a117_0 : Ann := (pol 117).ann
def a117_11 : Ann := right (left (right (right (right (right a117_0)))))
def a117_12 : Ann := left a117_11
def c117_13 : Code := fstC (fstC (sndC (fstC (sndC (sndC (sndC (sndC c117_0)))))))
def a117_20 : Ann := left (right (right (left a117_12)))
def a117_28 : Ann := right (left (right (right (left a117_20))))
def a117_29 : Ann := left a117_28
def c117_30 : Code := fstC (fstC (sndC (fstC (sndC (sndC (fstC (fstC (sndC (sndC c117_13)))))))))
def c117_42 : Code := sndC (sndC (sndC (fstC (fstC (sndC (sndC c117_13))))))
def a117_42 : Ann := right (right (right (left a117_20)))
def a117_45 : Ann := right (left a117_42)
def a117_46 : Ann := left a117_45
def c117_47 : Code := fstC (fstC (sndC (fstC c117_42)))
def a117_54 : Ann := left (right (right (left a117_46)))
def c117_62 : Code := sndC (sndC (sndC c117_47))
def a117_62 : Ann := right (right (right (left a117_46)))
def c117_63 : Code := sndC c117_42
def a117_63 : Ann := right a117_42
def c117_64 : Code := sndC (sndC (sndC c117_13))
def a117_64 : Ann := right (right (right (left a117_12)))
def c117_65 : Code := sndC (sndC (sndC (sndC (sndC c117_0))))
def a117_65 : Ann := right (right (right (right (right a117_0))))
def f117_L0 (x2 x4 x5 x6 x7 x27 x28 x29 : DV) (σ : Store) : RS :=
 codeF G PP (pol 117) CC lo (.loop c117_13) a117_12 (Z :: Z :: x2 :: Z :: x4 :: x5 :: x6 :: x7 :: zn 19 (x27 :: x28 :: x29 :: zn 63 [])) σ
 (blockC 0 a117_11 (seqC G PP (pol 117) CC lo c117_65 a117_65 (finR PP Tryz.f117.results.toList)))
def f117_L1 (x2 x4 x5 x6 x7 x9 x10 x27 x28 x29 x47 x48 x49 : DV) (σ : Store) : RS :=
 codeF G PP (pol 117) CC lo (.loop c117_30) a117_29 (Z :: Z :: x2 :: Z :: x4 :: x5 :: x6 :: x7 :: Z :: x9 :: x10 :: zn 16 (x27 :: x28 :: x29 :: zn 17 (x47 :: x48 :: x49 :: zn 43 []))) σ
 (blockC 2 a117_28 (seqC G PP (pol 117) CC lo c117_42 a117_42 (blockC 1 a117_20 (seqC G PP (pol 117) CC lo c117_64 a117_64 (loopC G PP (pol 117) CC lo c117_13 a117_12 (blockC 0 a117_11 (seqC G PP (pol 117) CC lo c117_65 a117_65 (finR PP Tryz.f117.results.toList))))))))
def f117_L2 (x2 x4 x5 x6 x7 x9 x10 x27 x28 x29 x62 x63 x64 : DV) (σ : Store) : RS :=
 codeF G PP (pol 117) CC lo (.loop c117_47) a117_46 (Z :: Z :: x2 :: Z :: x4 :: x5 :: x6 :: x7 :: Z :: x9 :: x10 :: zn 16 (x27 :: x28 :: x29 :: zn 32 (x62 :: x63 :: x64 :: zn 28 []))) σ
 (blockC 4 a117_45 (seqC G PP (pol 117) CC lo c117_63 a117_63 (blockC 1 a117_20 (seqC G PP (pol 117) CC lo c117_64 a117_64 (loopC G PP (pol 117) CC lo c117_13 a117_12 (blockC 0 a117_11 (seqC G PP (pol 117) CC lo c117_65 a117_65 (finR PP Tryz.f117.results.toList))))))))
def f117_J0_fr (x2 x4 x5 x6 x7 x9 x10 x13 x14 x27 x28 x29 x62 x63 x64 x65 x66 x67 x68 x69 x70 x71 x72 x73 x74 x75 : DV) : Frame := (Z :: Z :: x2 :: Z :: x4 :: x5 :: x6 :: x7 :: Z :: x9 :: x10 :: Z :: Z :: x13 :: x14 :: zn 12 (x27 :: x28 :: x29 :: zn 32 (x62 :: x63 :: x64 :: x65 :: x66 :: x67 :: x68 :: x69 :: x70 :: x71 :: x72 :: x73 :: x74 :: x75 :: zn 17 [])))
def f117_J0 (x2 x4 x5 x6 x7 x9 x10 x13 x14 x27 x28 x29 x62 x63 x64 x65 x66 x67 x68 x69 x70 x71 x72 x73 x74 x75 : DV) (σ : Store) : RS :=
 (blockC 5 a117_54 (seqC G PP (pol 117) CC lo c117_62 a117_62 (loopC G PP (pol 117) CC lo c117_47 a117_46 (blockC 4 a117_45 (seqC G PP (pol 117) CC lo c117_63 a117_63 (blockC 1 a117_20 (seqC G PP (pol 117) CC lo c117_64 a117_64 (loopC G PP (pol 117) CC lo c117_13 a117_12 (blockC 0 a117_11 (seqC G PP (pol 117) CC lo c117_65 a117_65 (finR PP Tryz.f117.results.toList))))))))))) .normal (f117_J0_fr x2 x4 x5 x6 x7 x9 x10 x13 x14 x27 x28 x29 x62 x63 x64 x65 x66 x67 x68 x69 x70 x71 x72 x73 x74 x75) σ
def F117 (x0 x1 : DV) (σ : Store) : RS :=
 codeF G PP (pol 117) CC lo c117_0 a117_0 (x0 :: x1 :: zn 91 []) σ (finR PP Tryz.f117.results.toList)
theorem f117_L0_eq (G : GuardT) (hG : GuardOk G) (lo : Nat) (x2 x4 x5 x6 x7 x27 x28 x29 : DV) (σ : Store) : f117_L0 G lo x2 x4 x5 x6 x7 x27 x28 x29 σ =
 (binOp PP .lss 3 x29 x28).bind fun x30 =>
 condK x30
 (
 (indexAddr PP 24 x27 x29).bind fun x32 =>
 (load PP 3 x32 σ).bind fun x33 =>
 (fieldAddr PP 47 x2 1).bind fun x34 =>
 (load PP 24 x34 σ).bind fun x35 =>
 (indexAddr PP 24 x35 x33).bind fun x37 =>
 (load PP 3 x37 σ).bind fun x38 =>
 (load PP 47 x2 σ).bind fun x39 =>
 (load PP 135 x6 σ).bind fun x42 =>
 (pureFn CC (DV.fn 93 []) [x42, x29] σ).bind fun x44 =>
 (indexAddr PP 24 x5 x44).bind fun x45 =>
 (load PP 3 x45 σ).bind fun x46 =>
 (pureFn CC (DV.fn 142 []) [x39, x33, x46] σ).bind fun x47 =>
 (len PP 24 x47 σ).bind fun x48 =>
 f117_L1 G lo x2 x4 x5 x6 x7 x33 x38 x27 x28 x29 x47 x48 I0 σ
 )
 (
 (fieldAddr PP 135 x6 1).bind fun x83 =>
 (load PP 3 x83 σ).bind fun x84 =>
 (sliceOp PP 24 x7 none (some x84) none).bind fun x85 =>
 (pureFn CC (DV.fn 78 []) [x85] σ).bind fun x86 =>
 (fieldAddr PP 135 x6 1).bind fun x88 =>
 (load PP 3 x88 σ).bind fun x89 =>
 (sliceOp PP 24 x7 (some x89) none none).bind fun x90 =>
 (pureFn CC (DV.fn 78 []) [x90] σ).bind fun x91 =>
 (build PP 26 [(0, x86), (1, x91)]).bind fun x92 =>
 (store PP lo 26 x4 x92 σ).bind fun σ5 =>
 (cellV PP 26 x4 σ5).bind fun v0 =>
 some (v0, σ5)
 ) := (loopF_eq G hG).trans (by kernel_rfl)
theorem f117_L1_eq (G : GuardT) (hG : GuardOk G) (lo : Nat) (x2 x4 x5 x6 x7 x9 x10 x27 x28 x29 x47 x48 x49 : DV) (σ : Store) : f117_L1 G lo x2 x4 x5 x6 x7 x9 x10 x27 x28 x29 x47 x48 x49 σ =
 (binOp PP .lss 3 x49 x48).bind fun x50 =>
 condK x50
 (
 (indexAddr PP 24 x47 x49).bind fun x51 =>
 (load PP 3 x51 σ).bind fun x52 =>
 (fieldAddr PP 47 x2 2).bind fun x54 =>
 (load PP 24 x54 σ).bind fun x55 =>
 (indexAddr PP 24 x55 x52).bind fun x57 =>
 (load PP 3 x57 σ).bind fun x58 =>
 (pureFn CC (DV.fn 157 []) [x10, x58] σ).bind fun x59 =>
 (binOp PP .add 3 x49 I1).bind fun x60 =>
 f117_L1 G lo x2 x4 x5 x6 x7 x9 x59 x27 x28 x29 x47 x48 x60 σ
 )
 (
 (fieldAddr PP 47 x2 3).bind fun x61 =>
 (load PP 24 x61 σ).bind fun x62 =>
 (len PP 24 x62 σ).bind fun x63 =>
 f117_L2 G lo x2 x4 x5 x6 x7 x9 x10 x27 x28 x29 x62 x63 I0 σ
 ) := (loopF_eq G hG).trans (by kernel_rfl)
theorem f117_L2_eq (G : GuardT) (hG : GuardOk G) (lo : Nat) (x2 x4 x5 x6 x7 x9 x10 x27 x28 x29 x62 x63 x64 : DV) (σ : Store) : f117_L2 G lo x2 x4 x5 x6 x7 x9 x10 x27 x28 x29 x62 x63 x64 σ =
 (binOp PP .lss 3 x64 x63).bind fun x65 =>
 condK x65
 (
 (indexAddr PP 24 x62 x64).bind fun x67 =>
 (load PP 3 x67 σ).bind fun x68 =>
 (load PP 47 x2 σ).bind fun x69 =>
 (pureFn CC (DV.fn 158 []) [x69, x9, x64] σ).bind fun x72 =>
 condK x72
 (
 (pureFn CC (DV.fn 157 []) [x10, x68] σ).bind fun x75 =>
 f117_J0 G lo x2 x4 x5 x6 x7 x9 x75 x64 x68 x27 x28 x29 x62 x63 x64 x65 x64 x67 x68 x69 x9 x64 x72 x10 x68 x75 σ
 )
 (
 f117_J0 G lo x2 x4 x5 x6 x7 x9 x10 x64 x68 x27 x28 x29 x62 x63 x64 x65 x64 x67 x68 x69 x9 x64 x72 Z Z Z σ
 )
 )
 (
 (buildSlice PP none 24 1 [(0, x10)] σ).bind fun r79_3 =>
 (append PP lo false 24 24 x7 r79_3.1 r79_3.2).bind fun r80_4 =>
 (binOp PP .add 3 x29 I1).bind fun x81 =>
 f117_L0 G lo x2 x4 x5 x6 r80_4.1 x27 x28 x81 r80_4.2
 ) := (loopF_eq G hG).trans (by kernel_rfl)
theorem f117_J0_eq (G : GuardT) (lo : Nat) (x2 x4 x5 x6 x7 x9 x10 x13 x14 x27 x28 x29 x62 x63 x64 x65 x66 x67 x68 x69 x70 x71 x72 x73 x74 x75 : DV) (σ : Store) : f117_J0 G lo x2 x4 x5 x6 x7 x9 x10 x13 x14 x27 x28 x29 x62 x63 x64 x65 x66 x67 x68 x69 x70 x71 x72 x73 x74 x75 σ =
 (binOp PP .add 3 x64 I1).bind fun x76 =>
 f117_L2 G lo x2 x4 x5 x6 x7 x9 x10 x27 x28 x29 x62 x63 x76 σ := by kernel_rfl
theorem F117_eq (G : GuardT) (lo : Nat) (x0 x1 : DV) (σ : Store) : F117 G lo x0 x1 σ =
 (boxP x0).bind fun x2 =>
 (boxV x1).bind fun z3 =>
 (zeroOf PP 26).bind fun z4 =>
 (fieldAddr PP 52 (DV.ptr (List.length σ) 0) 0).bind fun x15 =>
 (load PP 24 x15 ((σ ++ [Row.mix z3]) ++ [Row.mix z4])).bind fun x16 =>
 (fieldAddr PP 52 (DV.ptr (List.length σ) 0) 1).bind fun x17 =>
 (load PP 24 x17 ((σ ++ [Row.mix z3]) ++ [Row.mix z4])).bind fun x18 =>
 (buildSlice PP (some true) 130 2 [(0, x16), (1, x18)] ((σ ++ [Row.mix z3]) ++ [Row.mix z4])).bind fun r19_1 =>
 (pureFn CC (DV.fn 84 []) [r19_1.1] r19_1.2).bind fun x20 =>
 (len PP 24 x20 r19_1.2).bind fun x22 =>
 (fieldAddr PP 52 (DV.ptr (List.length σ) 0) 0).bind fun x23 =>
 (load PP 24 x23 r19_1.2).bind fun x24 =>
 (len PP 24 x24 r19_1.2).bind fun x25 =>
 (build PP 135 [(0, x22), (1, x25)]).bind fun x26 =>
 (zeroOf PP 135).bind fun z6 =>
 (store PP lo 135 (DV.ptr (List.length r19_1.2) 0) x26 (r19_1.2 ++ [Row.mix z6])).bind fun σ2 =>
 (len PP 24 x20 σ2).bind fun x28 =>
 f117_L0 G lo x2 (DV.ptr (List.length (σ ++ [Row.mix z3])) 0) x20 (DV.ptr (List.length r19_1.2) 0) (DV.p PV.nilsl) x20 x28 I0 σ2 := by kernel_rfl
theorem F117_call {lo : Nat} {x0 x1 : DV} (h : F117 guardT lo x0 x1 σ = some r) : CC lo 117 [x0, x1] σ = some r :=
 callL_run Tryz.func117 (by decide +kernel) rfl (by decide +kernel) h
def c118_0 : Code := bodyOf Tryz.f118
def a118_0 : Ann := (pol 118).ann
def a118_5 : Ann := right (left (right a118_0))
def a118_6 : Ann := left a118_5
def c118_7 : Code := fstC (fstC (sndC (fstC (sndC c118_0))))
def c118_27 : Code := sndC (sndC c118_0)
def a118_27 : Ann := right (right a118_0)
def a118_30 : Ann := right (left a118_27)
def a118_31 : Ann := left a118_30
def c118_32 : Code := fstC (fstC (sndC (fstC c118_27)))
def c118_52 : Code := sndC c118_27
def a118_52 : Ann := right a118_27
def f118_L0 (x2 x3 x12 x13 x14 : DV) (σ : Store) : RS :=
 codeF G PP (pol 118) CC lo (.loop c118_7) a118_6 (Z :: Z :: x2 :: x3 :: zn 8 (x12 :: x13 :: x14 :: zn 39 [])) σ
 (blockC 0 a118_5 (seqC G PP (pol 118) CC lo c118_27 a118_27 (finR PP Tryz.f118.results.toList)))
def f118_L1 (x2 x3 x34 x35 x36 : DV) (σ : Store) : RS :=
 codeF G PP (pol 118) CC lo (.loop c118_32) a118_31 (Z :: Z :: x2 :: x3 :: zn 30 (x34 :: x35 :: x36 :: zn 17 [])) σ
 (blockC 2 a118_30 (seqC G PP (pol 118) CC lo c118_52 a118_52 (finR PP Tryz.f118.results.toList)))
def F118 (x0 x1 : DV) (σ : Store) : RS :=
 codeF G PP (pol 118) CC lo c118_0 a118_0 (x0 :: x1 :: zn 52 []) σ (finR PP Tryz.f118.results.toList)
theorem f118_L0_eq (G : GuardT) (hG : GuardOk G) (lo : Nat) (x2 x3 x12 x13 x14 : DV) (σ : Store) : f118_L0 G lo x2 x3 x12 x13 x14 σ =
 (binOp PP .lss 3 x14 x13).bind fun x15 =>
 condK x15
 (
 (indexAddr PP 24 x12 x14).bind fun x16 =>
 (load PP 3 x16 σ).bind fun x17 =>
 (zeroOf PP 3).bind fun z6 =>
 (store PP lo 3 (DV.ptr (List.length σ) 0) x17 (σ ++ [Row.mix z6])).bind fun σ1 =>
 (fieldAddr PP 52 x3 1).bind fun x18 =>
 (load PP 24 x18 σ1).bind fun x19 =>
 (pureFn CC (DV.fn 68 []) [x19, (DV.fn 159 [x2, (DV.ptr (List.length σ) 0)])] σ1).bind fun x21 =>
 (unOp .not x21).bind fun x23 =>
 G _ x23 true ((load PP 47 x2 σ1).bind fun v => some (v, σ1)) σ1 fun x25 σ2 =>
 G _ x23 true ((fieldAddr PP 52 x3 1).bind fun v => some (v, σ2)) σ2 fun x26 σ3 =>
 G _ x23 true ((load PP 24 x26 σ3).bind fun v => some (v, σ3)) σ3 fun x27 σ4 =>
 G _ x23 true ((load PP 3 (DV.ptr (List.length σ) 0) σ4).bind fun v => some (v, σ4)) σ4 fun x28 σ5 =>
 G _ x23 true ((pureFn CC (DV.fn 160 []) [x25, x27, x28] σ5).bind fun v => some (v, σ5)) σ5 fun x29 σ6 =>
 G _ x23 true ((unOp .not x29).bind fun v => some (v, σ6)) σ6 fun x30 σ7 =>
 (pickV x23 x30 (DV.p (PV.bool false))).bind fun x31 =>
 condK x31
 (
 some ((DV.p (PV.bool false)), σ7)
 )
 (
 (binOp PP .add 3 x14 I1).bind fun x32 =>
 f118_L0 G lo x2 x3 x12 x13 x32 σ7
 )
 )
 (
 (fieldAddr PP 47 x2 5).bind fun x33 =>
 (load PP 24 x33 σ).bind fun x34 =>
 (len PP 24 x34 σ).bind fun x35 =>
 f118_L1 G lo x2 x3 x34 x35 I0 σ
 ) := (loopF_eq G hG).trans (by kernel_rfl)
theorem f118_L1_eq (G : GuardT) (hG : GuardOk G) (lo : Nat) (x2 x3 x34 x35 x36 : DV) (σ : Store) : f118_L1 G lo x2 x3 x34 x35 x36 σ =
 (binOp PP .lss 3 x36 x35).bind fun x37 =>
 condK x37
 (
 (indexAddr PP 24 x34 x36).bind fun x38 =>
 (load PP 3 x38 σ).bind fun x39 =>
 (zeroOf PP 3).bind fun z9 =>
 (store PP lo 3 (DV.ptr (List.length σ) 0) x39 (σ ++ [Row.mix z9])).bind fun σ8 =>
 (fieldAddr PP 52 x3 1).bind fun x40 =>
 (load PP 24 x40 σ8).bind fun x41 =>
 (pureFn CC (DV.fn 68 []) [x41, (DV.fn 161 [x2, (DV.ptr (List.length σ) 0)])] σ8).bind fun x43 =>
 G _ x43 true ((load PP 47 x2 σ8).bind fun v => some (v, σ8)) σ8 fun x46 σ9 =>
 G _ x43 true ((fieldAddr PP 52 x3 1).bind fun v => some (v, σ9)) σ9 fun x47 σ10 =>
 G _ x43 true ((load PP 24 x47 σ10).bind fun v => some (v, σ10)) σ10 fun x48 σ11 =>
 G _ x43 true ((load PP 3 (DV.ptr (List.length σ) 0) σ11).bind fun v => some (v, σ11)) σ11 fun x49 σ12 =>
 G _ x43 true ((pureFn CC (DV.fn 160 []) [x46, x48, x49] σ12).bind fun v => some (v, σ12)) σ12 fun x50 σ13 =>
 G _ x43 true ((unOp .not x50).bind fun v => some (v, σ13)) σ13 fun x51 σ14 =>
 (pickV x43 x51 (DV.p (PV.bool false))).bind fun x52 =>
 condK x52
 (
 some ((DV.p (PV.bool false)), σ14)
 )
 (
 (binOp PP .add 3 x36 I1).bind fun x53 =>
 f118_L1 G lo x2 x3 x34 x35 x53 σ14
 )
 )
 (
 some ((DV.p (PV.bool true)), σ)
 ) := (loopF_eq G hG).trans (by kernel_rfl)
theorem F118_eq (G : GuardT) (lo : Nat) (x0 x1 : DV) (σ : Store) : F118 G lo x0 x1 σ =
 (boxP x0).bind fun x2 =>
 (boxV x1).bind fun z3 =>
 (fieldAddr PP 47 x2 4).bind fun x11 =>
 (load PP 24 x11 (σ ++ [Row.mix z3])).bind fun x12 =>
 (len PP 24 x12 (σ ++ [Row.mix z3])).bind fun x13 =>
 f118_L0 G lo x2 (DV.ptr (List.length σ) 0) x12 x13 I0 (σ ++ [Row.mix z3]) := by kernel_rfl
theorem F118_call {lo : Nat} {x0 x1 : DV} (h : F118 guardT lo x0 x1 σ = some r) : CC lo 118 [x0, x1] σ = some r :=
 callL_run Tryz.func118 (by decide +kernel) rfl (by decide +kernel) h
def c157_0 : Code := bodyOf Tryz.f157
def a157_0 : Ann := (pol 157).ann
def F157 (x0 x1 : DV) (σ : Store) : RS :=
 codeF G PP (pol 157) CC lo c157_0 a157_0 (x0 :: x1 :: zn 10 []) σ (finR PP Tryz.f157.results.toList)
theorem F157_eq (G : GuardT) (lo : Nat) (x0 x1 : DV) (σ : Store) : F157 G lo x0 x1 σ =
 (binOp PP .eql 3 x1 (DV.p (PV.int IntKind.i64 (-1)))).bind fun x6 =>
 condK x6
 (
 some (x0, σ)
 )
 (
 (binOp PP .shl 3 I1 x1).bind fun x10 =>
 (binOp PP .or 3 x0 x10).bind fun x11 =>
 some (x11, σ)
 ) := by kernel_rfl
theorem F157_call {lo : Nat} {x0 x1 : DV} (h : F157 guardT lo x0 x1 σ = some r) : CC lo 157 [x0, x1] σ = some r :=
 callL_run Tryz.func157 (by decide +kernel) rfl (by decide +kernel) h
def c158_0 : Code := bodyOf Tryz.f158
def a158_0 : Ann := (pol 158).ann
def F158 (x0 x1 x2 : DV) (σ : Store) : RS :=
 codeF G PP (pol 158) CC lo c158_0 a158_0 (x0 :: x1 :: x2 :: zn 9 []) σ (finR PP Tryz.f158.results.toList)
theorem F158_eq (G : GuardT) (lo : Nat) (x0 x1 x2 : DV) (σ : Store) : F158 G lo x0 x1 x2 σ =
 (boxP x0).bind fun x3 =>
 (boxP x1).bind fun x4 =>
 (boxP x2).bind fun x5 =>
 (fieldAddr PP 47 x3 0).bind fun x7 =>
 (fieldAddr PP 45 x7 2).bind fun x8 =>
 (load PP 43 x8 σ).bind fun x9 =>
 (pureFn CC (DV.fn 175 []) [x9, (DV.fn 176 [x4, x5])] σ).bind fun x11 =>
 some (x11, σ) := by kernel_rfl
theorem F158_call {lo : Nat} {x0 x1 x2 : DV} (h : F158 guardT lo x0 x1 x2 σ = some r) : CC lo 158 [x0, x1, x2] σ = some r :=
 callL_run Tryz.func158 (by decide +kernel) rfl (by decide +kernel) h
def c159_0 : Code := bodyOf Tryz.f159
def a159_0 : Ann := (pol 159).ann
def F159 (x0 x1 x2 : DV) (σ : Store) : RS :=
 codeF G PP (pol 159) CC lo c159_0 a159_0 (x0 :: x1 :: x2 :: zn 7 []) σ (finR PP Tryz.f159.results.toList)
theorem F159_eq (G : GuardT) (lo : Nat) (x0 x1 x2 : DV) (σ : Store) : F159 G lo x0 x1 x2 σ =
 (load PP 47 x1 σ).bind fun x5 =>
 (load PP 3 x2 σ).bind fun x7 =>
 (pureFn CC (DV.fn 158 []) [x5, x0, x7] σ).bind fun x8 =>
 (unOp .not x8).bind fun x9 =>
 some (x9, σ) := by kernel_rfl
theorem F159_call {lo : Nat} {x0 x1 x2 : DV} (h : F159 guardT lo x0 x1 x2 σ = some r) : CC lo 159 [x0, x1, x2] σ = some r :=
 callL_run Tryz.func159 (by decide +kernel) rfl (by decide +kernel) h
def c160_0 : Code := bodyOf Tryz.f160
def a160_0 : Ann := (pol 160).ann
def a160_7 : Ann := right (left (right (right a160_0)))
def a160_8 : Ann := left a160_7
def c160_9 : Code := fstC (fstC (sndC (fstC (sndC (sndC c160_0)))))
def c160_27 : Code := sndC (sndC (sndC c160_0))
def a160_27 : Ann := right (right (right a160_0))
def f160_L0 (x1 x2 x3 x7 x13 x14 x15 : DV) (σ : Store) : RS :=
 codeF G PP (pol 160) CC lo (.loop c160_9) a160_8 (Z :: x1 :: x2 :: x3 :: Z :: Z :: Z :: x7 :: zn 5 (x13 :: x14 :: x15 :: zn 16 [])) σ
 (blockC 0 a160_7 (seqC G PP (pol 160) CC lo c160_27 a160_27 (finR PP Tryz.f160.results.toList)))
def F160 (x0 x1 x2 : DV) (σ : Store) : RS :=
 codeF G PP (pol 160) CC lo c160_0 a160_0 (x0 :: x1 :: x2 :: zn 29 []) σ (finR PP Tryz.f160.results.toList)
theorem f160_L0_eq (G : GuardT) (hG : GuardOk G) (lo : Nat) (x1 x2 x3 x7 x13 x14 x15 : DV) (σ : Store) : f160_L0 G lo x1 x2 x3 x7 x13 x14 x15 σ =
 (binOp PP .lss 3 x15 x14).bind fun x16 =>
 condK x16
 (
 (indexAddr PP 24 x13 x15).bind fun x18 =>
 (load PP 3 x18 σ).bind fun x19 =>
 (load PP 47 x3 σ).bind fun x20 =>
 (load PP 135 x7 σ).bind fun x23 =>
 (pureFn CC (DV.fn 93 []) [x23, x15] σ).bind fun x25 =>
 (indexAddr PP 24 x1 x25).bind fun x26 =>
 (load PP 3 x26 σ).bind fun x27 =>
 (pureFn CC (DV.fn 142 []) [x20, x19, x27] σ).bind fun x28 =>
 (pureFn CC (DV.fn 91 []) [x28, x2] σ).bind fun x30 =>
 condK x30
 (
 some ((DV.p (PV.bool true)), σ)
 )
 (
 (binOp PP .add 3 x15 I1).bind fun x31 =>
 f160_L0 G lo x1 x2 x3 x7 x13 x14 x31 σ
 )
 )
 (
 some ((DV.p (PV.bool false)), σ)
 ) := (loopF_eq G hG).trans (by kernel_rfl)
theorem F160_eq (G : GuardT) (lo : Nat) (x0 x1 x2 : DV) (σ : Store) : F160 G lo x0 x1 x2 σ =
 (boxP x0).bind fun x3 =>
 (len PP 24 x1 σ).bind fun x11 =>
 (build PP 135 [(0, x11)]).bind fun x12 =>
 (zeroOf PP 135).bind fun z7 =>
 (store PP lo 135 (DV.ptr (List.length σ) 0) x12 (σ ++ [Row.mix z7])).bind fun σ1 =>
 (len PP 24 x1 σ1).bind fun x14 =>
 f160_L0 G lo x1 x2 x3 (DV.ptr (List.length σ) 0) x1 x14 I0 σ1 := by kernel_rfl
theorem F160_call {lo : Nat} {x0 x1 x2 : DV} (h : F160 guardT lo x0 x1 x2 σ = some r) : CC lo 160 [x0, x1, x2] σ = some r :=
 callL_run Tryz.func160 (by decide +kernel) rfl (by decide +kernel) h
def c161_0 : Code := bodyOf Tryz.f161
def a161_0 : Ann := (pol 161).ann
def F161 (x0 x1 x2 : DV) (σ : Store) : RS :=
 codeF G PP (pol 161) CC lo c161_0 a161_0 (x0 :: x1 :: x2 :: zn 6 []) σ (finR PP Tryz.f161.results.toList)
theorem F161_eq (G : GuardT) (lo : Nat) (x0 x1 x2 : DV) (σ : Store) : F161 G lo x0 x1 x2 σ =
 (load PP 47 x1 σ).bind fun x5 =>
 (load PP 3 x2 σ).bind fun x7 =>
 (pureFn CC (DV.fn 158 []) [x5, x0, x7] σ).bind fun x8 =>
 some (x8, σ) := by kernel_rfl
theorem F161_call {lo : Nat} {x0 x1 x2 : DV} (h : F161 guardT lo x0 x1 x2 σ = some r) : CC lo 161 [x0, x1, x2] σ = some r :=
 callL_run Tryz.func161 (by decide +kernel) rfl (by decide +kernel) h
def c175_0 : Code := bodyOf Tryz.f175
def a175_0 : Ann := (pol 175).ann
def F175 (x0 x1 : DV) (σ : Store) : RS :=
 codeF G PP (pol 175) CC lo c175_0 a175_0 (x0 :: x1 :: zn 7 []) σ (finR PP Tryz.f175.results.toList)
theorem F175_eq (G : GuardT) (lo : Nat) (x0 x1 : DV) (σ : Store) : F175 G lo x0 x1 σ =
 (pureFn CC (DV.fn 184 []) [x0, x1] σ).bind fun x7 =>
 (binOp PP .geq 3 x7 I0).bind fun x8 =>
 some (x8, σ) := by kernel_rfl
theorem F175_call {lo : Nat} {x0 x1 : DV} (h : F175 guardT lo x0 x1 σ = some r) : CC lo 175 [x0, x1] σ = some r :=
 callL_run Tryz.func175 (by decide +kernel) rfl (by decide +kernel) h
def c176_0 : Code := bodyOf Tryz.f176
def a176_0 : Ann := (pol 176).ann
def F176 (x0 x1 x2 : DV) (σ : Store) : RS :=
 codeF G PP (pol 176) CC lo c176_0 a176_0 (x0 :: x1 :: x2 :: zn 18 []) σ (finR PP Tryz.f176.results.toList)
theorem F176_eq (G : GuardT) (lo : Nat) (x0 x1 x2 : DV) (σ : Store) : F176 G lo x0 x1 x2 σ =
 (boxP x0).bind fun x3 =>
 (fieldAddr PP 129 x3 0).bind fun x5 =>
 (load PP 3 x5 σ).bind fun x6 =>
 (load PP 3 x1 σ).bind fun x7 =>
 (binOp PP .eql 3 x6 x7).bind fun x8 =>
 G _ x8 true ((fieldAddr PP 129 x3 1).bind fun v => some (v, σ)) σ fun x10 σ1 =>
 G _ x8 true ((load PP 3 x10 σ1).bind fun v => some (v, σ1)) σ1 fun x11 σ2 =>
 G _ x8 true ((load PP 3 x1 σ2).bind fun v => some (v, σ2)) σ2 fun x12 σ3 =>
 G _ x8 true ((binOp PP .neq 3 x11 x12).bind fun v => some (v, σ3)) σ3 fun x13 σ4 =>
 (pickV x8 x13 (DV.p (PV.bool false))).bind fun x14 =>
 G _ x14 true ((fieldAddr PP 129 x3 2).bind fun v => some (v, σ4)) σ4 fun x16 σ5 =>
 G _ x14 true ((load PP 3 x16 σ5).bind fun v => some (v, σ5)) σ5 fun x17 σ6 =>
 G _ x14 true ((load PP 3 x2 σ6).bind fun v => some (v, σ6)) σ6 fun x18 σ7 =>
 G _ x14 true ((binOp PP .eql 3 x17 x18).bind fun v => some (v, σ7)) σ7 fun x19 σ8 =>
 (pickV x14 x19 (DV.p (PV.bool false))).bind fun x20 =>
 some (x20, σ8) := by kernel_rfl
theorem F176_call {lo : Nat} {x0 x1 x2 : DV} (h : F176 guardT lo x0 x1 x2 σ = some r) : CC lo 176 [x0, x1, x2] σ = some r :=
 callL_run Tryz.func176 (by decide +kernel) rfl (by decide +kernel) h
def c184_0 : Code := bodyOf Tryz.f184
def a184_0 : Ann := (pol 184).ann
def a184_5 : Ann := right (left (right a184_0))
def a184_6 : Ann := left a184_5
def c184_7 : Code := fstC (fstC (sndC (fstC (sndC c184_0))))
def c184_25 : Code := sndC (sndC c184_0)
def a184_25 : Ann := right (right a184_0)
def f184_L0 (x0 x1 x7 x8 : DV) (σ : Store) : RS :=
 codeF G PP (pol 184) CC lo (.loop c184_7) a184_6 (x0 :: x1 :: zn 5 (x7 :: x8 :: zn 10 [])) σ
 (blockC 0 a184_5 (seqC G PP (pol 184) CC lo c184_25 a184_25 (finR PP Tryz.f184.results.toList)))
def F184 (x0 x1 : DV) (σ : Store) : RS :=
 codeF G PP (pol 184) CC lo c184_0 a184_0 (x0 :: x1 :: zn 17 []) σ (finR PP Tryz.f184.results.toList)
theorem f184_L0_eq (G : GuardT) (hG : GuardOk G) (lo : Nat) (x0 x1 x7 x8 : DV) (σ : Store) : f184_L0 G lo x0 x1 x7 x8 σ =
 (binOp PP .lss 3 x8 x7).bind fun x9 =>
 condK x9
 (
 (indexAddr PP 43 x0 x8).bind fun x14 =>
 (load PP 129 x14 σ).bind fun x15 =>
 (pureFn CC x1 [x15] σ).bind fun x16 =>
 condK x16
 (
 some (x8, σ)
 )
 (
 (binOp PP .add 3 x8 I1).bind fun x18 =>
 f184_L0 G lo x0 x1 x7 x18 σ
 )
 )
 (
 some ((DV.p (PV.int IntKind.i64 (-1))), σ)
 ) := (loopF_eq G hG).trans (by kernel_rfl)
theorem F184_eq (G : GuardT) (lo : Nat) (x0 x1 : DV) (σ : Store) : F184 G lo x0 x1 σ =
 (len PP 43 x0 σ).bind fun x7 =>
 f184_L0 G lo x0 x1 x7 I0 σ := by kernel_rfl
theorem F184_call {lo : Nat} {x0 x1 : DV} (h : F184 guardT lo x0 x1 σ = some r) : CC lo 184 [x0, x1] σ = some r :=
 callL_run Tryz.func184 (by decide +kernel) rfl (by decide +kernel) h
end
end Go.D
end
/- Chapter 13: lists that are values or slices of rows. -/
section
set_option linter.unusedVariables false
set_option linter.unusedSimpArgs false
set_option maxRecDepth 8000
namespace Go.D
open Las
def RL (σ : Store) (x : DV) (l : List Int) : Prop := (∃ o, x = .p (eSl o) ∧ L o = l) ∨ ∃ r off, x = .rsl r 1 off l.length ∧ RowS σ r off l
theorem RL.sl (σ : Store) (o : OI) : RL σ (.p (eSl o)) (L o) := .inl ⟨o, rfl, rfl⟩
section
variable {σ : Store} {x : DV} {l : List Int}
theorem RL.vw (h : RL σ x l) : view x = x := by
  rcases h with ⟨o, rfl, _⟩ | ⟨r, off, rfl, _⟩
  · exact sl_view o
  · rfl
theorem RL.vc (h : RL σ x l) : viewCell x = x := by
  rcases h with ⟨o, rfl, _⟩ | ⟨r, off, rfl, _⟩
  · simp [viewCell, loosen_sl]
  · rfl
theorem RL.len (h : RL σ x l) (τ : Store) : D.len PP 24 x τ = some (.p (.int .i64 (l.length : Nat))) := by
  rcases h with ⟨o, rfl, rfl⟩ | ⟨r, off, rfl, _⟩
  · exact len24 o τ
  · exact rs_len _ _ _ _
theorem RL.get (h : RL σ x l) {i : Nat} (hi : i < l.length) : ∃ p, indexAddr PP 24 x (.p (.int .i64 (i : Nat))) = some p ∧ load1 p σ = some (.p (.int .i64 (l.getD i 0))) := by
  rcases h with ⟨o, rfl, rfl⟩ | ⟨r, off, rfl, ⟨A, h1, h2, h3⟩⟩
  · exact ⟨_, (PL.sl o).idx hi, load1_getD hi σ⟩
  · refine ⟨_, rs_idx hi, ?_⟩
    rw [rs_ld h1 (by omega)]
    have e : l.getD i 0 = A.getD (off + i) 0 := by
      have : ((A.drop off).take l.length).getD i 0 = l.getD i 0 := by rw [h2]
      rw [← this, List.getD_eq_getElem?_getD, List.getD_eq_getElem?_getD, List.getElem?_take, if_pos hi, List.getElem?_drop]
    rw [e]
theorem RL.src (h : RL σ x l) : source σ 1 x = some (l.length, ints l) := by
  rcases h with ⟨o, rfl, rfl⟩ | ⟨r, off, rfl, ⟨A, h1, h2, h3⟩⟩
  · exact (PL.sl o).src σ
  · have h4 : off + l.length * 1 ≤ (ints A).length := by rw [ints_len]; omega
    have h5 : ((ints A).drop off).take (l.length * 1) = ints l := by rw [Nat.mul_one, ints_drop, ints_take, h2]
    simp only [source, if_true, loadN, h1, if_pos h4, h5, Option.map_some]
theorem RL.ext (h : RL σ x l) (τ : Store) : RL (σ ++ τ) x l := by
  rcases h with h | ⟨r, off, rfl, ⟨A, h1, h2, h3⟩⟩
  · exact .inl h
  · exact .inr ⟨r, off, rfl, ⟨A, by rw [List.getElem?_append_left (List.getElem?_eq_some_iff.1 h1).1]; exact h1, h2, h3⟩⟩
theorem RL.free (h : RL σ x l) (hf : rowFree1 x = true) (τ : Store) : RL τ x l := by
  rcases h with h | ⟨r, off, rfl, _⟩
  · exact .inl h
  · exact absurd hf (by simp [rowFree1])
theorem RL.one (h : RL σ x l) : x.one = true := by
  rcases h with ⟨o, rfl, _⟩ | ⟨r, off, rfl, _⟩ <;> rfl
theorem RL.undef (h : RL σ x l) : x.isUndef = false := by
  rcases h with ⟨o, rfl, _⟩ | ⟨r, off, rfl, _⟩ <;> rfl
end
theorem rs_appR {σ : Store} {r k lo : Nat} {A l : List Int} {x : DV} (h : σ[r]? = some (.mix (ints A))) (hs : source σ 1 x = some (l.length, ints l)) (hk : k + l.length ≤ A.length) (hA : A.length ≤ 100000) (hlo : lo ≤ r) :
    append PP lo true 24 24 (.rsl r 1 0 k) x σ = some (.rsl r 1 0 (k + l.length), σ.set r (.mix (ints (A.take k ++ l ++ A.drop (k + l.length))))) := by
  have e : splice (ints A) k (ints l) = ints (A.take k ++ l ++ A.drop (k + l.length)) := by
    unfold splice
    rw [ints_take, ints_len, ints_drop, ints_app, ints_app]
  have h2 : (k + l.length) * 8 ≤ 140737488355328 ∧ k + l.length ≤ 140737488355328 ∧ 0 < 8 ∧ 1 = 1 ∧ lo ≤ r := ⟨by omega, by omega, by decide, rfl, hlo⟩
  simp only [append, src24, Bool.true_eq_false, if_false, u24, s3, bytes3, zero3, List.length_singleton, ne_eq, not_true_eq_false, Nat.one_ne_zero, or_self, hs, appRow, h, ints_all, if_true, Nat.zero_add, Nat.mul_one, e]
  rw [if_pos ⟨h2.1, h2.2.1, h2.2.2.1, trivial, hlo⟩, if_pos (by rw [ints_len]; omega)]
theorem S84r {σ : Store} {rr : Nat} {a b : DV} {A B : List Int} (hr : σ[rr]? = some (.mix [a, b])) (ha : RL σ a A) (hb : RL σ b B) (h0 : 0 < A.length + B.length) (hl : A.length + B.length ≤ 10000) (lo : Nat) (hlo : lo ≤ σ.length) :
    CC lo 84 [.rsl rr 1 0 2] σ = some (.rsl σ.length 1 0 (A ++ B).length, σ ++ [.mix (ints (A ++ B))]) := by
  refine F84_call ?_
  have ln : ∀ σ, len PP 130 (.rsl rr 1 0 2) σ = some (.p (.int .i64 2)) := fun σ => by simp [len, u130]
  have i0 : indexAddr PP 130 (.rsl rr 1 0 2) (.p (.int .i64 0)) = some (.ptr rr 0) := by simp [indexAddr, u130, s24]
  have i1 : indexAddr PP 130 (.rsl rr 1 0 2) (.p (.int .i64 1)) = some (.ptr rr 1) := by simp [indexAddr, u130, s24]
  have d0 : ∀ τ, load1 (.ptr rr 0) (σ ++ τ) = some a := fun τ => load1_ptr (by rw [List.getElem?_append_left (List.getElem?_eq_some_iff.1 hr).1]; exact hr) rfl
  have d1 : ∀ τ, load1 (.ptr rr 1) (σ ++ τ) = some b := fun τ => load1_ptr (by rw [List.getElem?_append_left (List.getElem?_eq_some_iff.1 hr).1]; exact hr) rfl
  have d0' : load1 (.ptr rr 0) σ = some a := load1_ptr hr rfl
  have d1' : load1 (.ptr rr 1) σ = some b := load1_ptr hr rfl
  have z0 : binOp PP .add 3 (.p (.int .i64 0)) (.p (.int .i64 (A.length : Nat))) = some (.p (.int .i64 (A.length : Nat))) := by
    rw [b_add, Int.zero_add, wrap_ok (by omega) (by omega)]
  have n0 : ¬ ((A.length : Int) < 0) := by omega
  have n1 : ¬ (((A.length + B.length : Nat) : Int) < 0) := by omega
  have p0 : binOp PP .add 3 (.p (.int .i64 0)) (.p (.int .i64 1)) = some (.p (.int .i64 1)) := Eq.trans (by kernel_rfl) rfl
  have p1 : binOp PP .add 3 (.p (.int .i64 1)) (.p (.int .i64 1)) = some (.p (.int .i64 2)) := Eq.trans (by kernel_rfl) rfl
  have t0 : (0 : Int) < 2 := by decide
  have t1 : (1 : Int) < 2 := by decide
  have t2 : ¬ (2 : Int) < 2 := by decide
  have hz : (List.replicate (A.length + B.length) (0 : Int)).length = A.length + B.length := by simp
  have a1 := rs_appR (σ := σ ++ [.mix (ints (List.replicate (A.length + B.length) 0))]) (r := σ.length) (k := 0) (lo := lo) (x := a) (l := A) get_snoc (ha.ext _).src (by rw [hz]; omega) (by rw [hz]; omega) hlo
  simp only [List.take_zero, List.nil_append, Nat.zero_add, List.set_append_right _ _ (Nat.le_refl _), Nat.sub_self, List.set_cons_zero] at a1
  have hz2 : (A ++ (List.replicate (A.length + B.length) (0 : Int)).drop A.length).length = A.length + B.length := by simp
  have a2 := rs_appR (σ := σ ++ [.mix (ints (A ++ (List.replicate (A.length + B.length) 0).drop A.length))]) (r := σ.length) (k := A.length) (lo := lo) (x := b) (l := B) get_snoc (hb.ext _).src (by rw [hz2]; omega) (by rw [hz2]; omega) hlo
  have e1 : (A ++ (List.replicate (A.length + B.length) (0 : Int)).drop A.length).take A.length = A := by rw [List.take_append_of_le_length (Nat.le_refl _), List.take_length]
  have e2 : (A ++ (List.replicate (A.length + B.length) (0 : Int)).drop A.length).drop (A.length + B.length) = [] := List.drop_eq_nil_of_le (by rw [hz2]; omega)
  rw [e1, e2, List.append_nil] at a2
  simp only [List.set_append_right _ _ (Nat.le_refl _), Nat.sub_self, List.set_cons_zero] at a2
  rw [F84_eq, ln]
  simp only [obind]
  rw [f84_L0_eq guardT rfl]
  simp only [b_lss, ltT t0, gG, i0, load24, d0', ha.len, z0, ltF n0, f84_J0_eq, p0]
  rw [f84_L0_eq guardT rfl]
  simp only [b_lss, ltT t1, gG, i1, load24, d1', hb.len, addN (show A.length + B.length ≤ 1000000 by omega), ltF n1, f84_J0_eq, p1]
  rw [f84_L0_eq guardT rfl]
  simp only [b_lss, ltF t2, gG, plainFn, List.append_nil, S137 h0 (by omega), ln]
  rw [f84_L1_eq guardT rfl]
  simp only [b_lss, ltT t0, gG, i0, load24, d0, a1, p0]
  rw [f84_L1_eq guardT rfl]
  simp only [b_lss, ltT t1, gG, i1, load24, d1, a2, p1]
  rw [f84_L1_eq guardT rfl]
  simp only [b_lss, ltF t2, gG, List.length_append]
theorem ints_thaw (σ : Store) (m : Nat) (W : List Int) (hm : m ≤ σ.length) : thawAll m (σ ++ [Row.mix (ints W)]) (.rsl σ.length 1 0 W.length) = some (.p (eSl (some W))) := by
  have hb : 0 + W.length * 1 ≤ (ints W).length := by rw [ints_len]; omega
  have ht : ((ints W).drop 0).take (W.length * 1) = ints W := by rw [List.drop_zero, Nat.mul_one, List.take_of_length_le (by rw [ints_len]; exact Nat.le_refl _)]
  have hmm : ∀ (d : Nat) (l : List Int), mapO (thawP m (σ ++ [Row.mix (ints W)]) d) (ints l) = some (eInts l) := by
    intro d l
    induction l with
    | nil => rfl
    | cons a l ih =>
      have : ints (a :: l) = .p (.int .i64 a) :: ints l := rfl
      rw [this]
      cases d <;> simp [mapO, thawP, loosen, ih, eInts]
  have hg : (σ ++ [Row.mix (ints W)])[σ.length]? = some (.mix (ints W)) := get_snoc
  simp only [thawAll, thawPart, thaw, thaw1, thawP, hm, if_true, hg, if_pos hb, ht, hmm, Option.map_some]
  rfl
theorem S84q {σ : Store} {rr : Nat} {a b : DV} {A B : List Int} (hr : σ[rr]? = some (.mix [a, b])) (ha : RL σ a A) (hb : RL σ b B) (h0 : 0 < A.length + B.length) (hl : A.length + B.length ≤ 10000) :
    pureV CC 84 [.rsl rr 1 0 2] σ = some (.p (eSl (some (A ++ B)))) :=
  pureV_rows rfl rfl (S84r hr ha hb h0 hl σ.length (Nat.le_refl _)) (ints_thaw σ _ _ (Nat.le_refl _))
section
variable {x : DV} {l : List Int} {f : FuncId} {caps : List DV} {σ : Store} {q : Int → Bool} (hx : RL σ x l) (hl : l.length ≤ 100000) (hc : caps.all rowFree1 = false) (hq : ∀ v, pureV CC f (.p (.int .i64 v) :: caps) σ = some (.p (.bool (q v))))
include hx hl hq
theorem L122r {lo : Nat} : ∀ (k i : Nat), l.length - i = k → i ≤ l.length → f122_L0 guardT lo x (.fn f caps) (N l.length) (N i) σ = some (.p (.int .i64 (idxFrom q (l.drop i) i)), σ)
  | 0, i, hk, hi => by
    rw [f122_L0_eq guardT rfl, List.drop_eq_nil_of_le (by omega)]
    simp (disch := omega) only [N, b_lss, ltF, gG, idxFrom]
  | k + 1, i, hk, hi => by
    have h : i < l.length := by omega
    have ih := L122r (lo := lo) k (i + 1) (by omega) (by omega)
    obtain ⟨p, i1, l1⟩ := hx.get h
    rw [f122_L0_eq guardT rfl, drop_cons h]
    simp (disch := omega) only [N, b_lss, ltT, gG, i1, load3, l1, pureFn_fn, List.singleton_append, hq, idxFrom]
    cases q (l.getD i 0) with
    | true => simp only [gG, if_true]
    | false =>
      simp (disch := omega) only [gG, add1, Bool.false_eq_true, if_false]
      exact ih
include hc
theorem S122r : pureV CC 122 [x, .fn f caps] σ = some (.p (.int .i64 (idxFrom q l 0))) := by
  refine pureV_rows (by simp only [List.map_cons, List.map_nil, hx.vw, fn_view]) (by simp [rowFree] at hc ⊢; exact fun _ => hc) (F122_call (r := (.p (.int .i64 (idxFrom q l 0)), σ)) ?_) rfl
  rw [F122_eq]
  simp only [hx.len, obind]
  have := L122r (lo := σ.length) hx hl hq _ 0 rfl (Nat.zero_le _)
  simpa [N] using this
theorem S68r : pureV CC 68 [x, .fn f caps] σ = some (.p (.bool (l.any q))) := by
  refine pureV_rows (by simp only [List.map_cons, List.map_nil, hx.vw, fn_view]) (by simp [rowFree] at hc ⊢; exact fun _ => hc) (F68_call (r := (.p (.bool (l.any q)), σ)) ?_) rfl
  have h := S122r hx hl hc hq
  rw [F68_eq]
  simp only [shift_ptr, shift_pptr, Nat.zero_add, Nat.add_zero, pureFn_fn, List.append_nil, List.singleton_append, List.cons_append, List.nil_append, h, gG, b_geq, idxFrom_ge]
end
section
variable {o : Option (List Edg)} {f : FuncId} {caps : List DV} {σ : Store} {q : Edg → Bool} (hl : (L o).length ≤ 100000) (hc : caps.all rowFree1 = true) (hq : ∀ e, pureV CC f (.agg (edgD e) :: caps) σ = some (.p (.bool (q e))))
include hl hq
theorem L184 {lo : Nat} : ∀ (k i : Nat), (L o).length - i = k → i ≤ (L o).length → f184_L0 guardT lo (.p (eEs o)) (.fn f caps) (N (L o).length) (N i) σ = some (.p (.int .i64 (idxFrom q ((L o).drop i) i)), σ)
  | 0, i, hk, hi => by
    rw [f184_L0_eq guardT rfl, List.drop_eq_nil_of_le (by omega)]
    simp (disch := omega) only [N, b_lss, ltF, gG, idxFrom]
  | k + 1, i, hk, hi => by
    have h : i < (L o).length := by omega
    have ih := L184 (lo := lo) k (i + 1) (by omega) (by omega)
    have d := ld129 h σ
    rw [f184_L0_eq guardT rfl, drop_edg h]
    simp (disch := omega) only [N, b_lss, ltT, gG, idx43 h, load129, d, pureFn_fn, List.singleton_append, hq, idxFrom]
    cases q ((L o).getD i default) with
    | true => simp only [gG, if_true]
    | false =>
      simp (disch := omega) only [gG, add1, Bool.false_eq_true, if_false]
      exact ih
end
theorem es_view (o : Option (List Edg)) : view (.p (eEs o)) = .p (eEs o) := by simp [view, viewCell, loosen_es]
section
variable {o : Option (List Edg)} {f : FuncId} {caps : List DV} {q : Edg → Bool} (hl : (L o).length ≤ 100000) (hc : caps.all rowFree1 = true) (hq : ∀ e, pureV CC f (.agg (edgD e) :: caps) [] = some (.p (.bool (q e))))
include hl hq hc
theorem S184 (σ : Store) : pureV CC 184 [.p (eEs o), .fn f caps] σ = some (.p (.int .i64 (idxFrom q (L o) 0))) := by
  refine pureV_free (by simp only [List.map_cons, List.map_nil, es_view, fn_view]) (by simp [rowFree, rowFree1] at hc ⊢; exact hc) (F184_call (r := (.p (.int .i64 (idxFrom q (L o) 0)), [])) ?_) rfl
  rw [F184_eq]
  simp only [len43, obind]
  have := L184 (lo := 0) hl hq _ 0 rfl (Nat.zero_le _)
  simpa [N] using this
theorem S175 (σ : Store) : pureV CC 175 [.p (eEs o), .fn f caps] σ = some (.p (.bool ((L o).any q))) := by
  refine pureV_free (by simp only [List.map_cons, List.map_nil, es_view, fn_view]) (by simp [rowFree, rowFree1] at hc ⊢; exact hc) (F175_call (r := (.p (.bool ((L o).any q)), [])) ?_) rfl
  have h := fun σ => S184 hl hc hq σ
  rw [F175_eq]
  simp only [shift_ptr, shift_pptr, Nat.zero_add, Nat.add_zero, pureFn_fn, List.append_nil, List.singleton_append, List.cons_append, List.nil_append, h, gG, b_geq, idxFrom_ge]
end
def qE (s a : Int) (e : Edg) : Bool := decide (e.f = s) && (!decide (e.t = s) && decide (e.a = a))
def enb (x : Lb) (s a : Int) : Bool := (L x.g.edges).any (qE s a)
theorem box_int (n : Int) : boxP (.p (.int .i64 n)) = some (.pptr [pI n] 0) := rfl
theorem int_0 (n : Int) (σ : Store) : load1 (.pptr [pI n] 0) σ = some (.p (.int .i64 n)) := load1_pptr rfl σ
theorem S176 (e : Edg) (s a : Int) (σ : Store) : pureV CC 176 [.agg (edgD e), .pptr [pI s] 0, .pptr [pI a] 0] σ = some (.p (.bool (qE s a e))) := by
  refine pureV_free rfl rfl (F176_call (r := (.p (.bool (qE s a e)), [])) ?_) rfl
  rw [F176_eq]
  unfold qE
  by_cases c1 : e.f = s
  · by_cases c2 : e.t = s
    · simp only [box_edgP, gG, fa129_0, fa129_1, fa129_2, shift_ptr, shift_pptr, Nat.zero_add, Nat.add_zero, pureFn_fn, List.append_nil, List.singleton_append, List.cons_append, List.nil_append, load3, edg_0, edg_1, edg_2, int_0, b_eql, b_neq, eqT c1, eqT c2, decide_eq_true c1, decide_eq_true c2, Bool.false_and, Bool.and_false]
    · simp only [box_edgP, gG, fa129_0, fa129_1, fa129_2, shift_ptr, shift_pptr, Nat.zero_add, Nat.add_zero, pureFn_fn, List.append_nil, List.singleton_append, List.cons_append, List.nil_append, load3, edg_0, edg_1, edg_2, int_0, b_eql, b_neq, eqT c1, eqF c2, decide_eq_true c1, decide_eq_false c2, Bool.true_and]
  · simp only [box_edgP, gG, fa129_0, fa129_1, fa129_2, shift_ptr, shift_pptr, Nat.zero_add, Nat.add_zero, pureFn_fn, List.append_nil, List.singleton_append, List.cons_append, List.nil_append, load3, edg_0, edg_1, edg_2, int_0, b_eql, b_neq, eqF c1, decide_eq_false c1, Bool.false_and]
theorem S158 {x : Lb} (hx : LSm x) (s a : Int) (σ : Store) : pureV CC 158 [vLb x, .p (.int .i64 s), .p (.int .i64 a)] σ = some (.p (.bool (enb x s a))) := by
  refine pureV_free (by simp only [List.map_cons, List.map_nil, lb_view, int_view]) rfl (F158_call (r := (.p (.bool (enb x s a)), [])) ?_) rfl
  have h := fun σ => S175 (o := x.g.edges) (f := 176) (caps := [.pptr [pI s] 0, .pptr [pI a] 0]) (q := qE s a) (by have := hx.e; omega) rfl (fun e => S176 e s a []) σ
  rw [F158_eq]
  simp only [box_lb, box_int, gG, fa47_0, fa45_2, shift_ptr, shift_pptr, Nat.zero_add, Nat.add_zero, pureFn_fn, List.append_nil, List.singleton_append, List.cons_append, List.nil_append, load43, lb_2, h]
  rfl
def stA (x : Lb) (s t a : Int) : Bool := decide (a ∈ actsL (L x.g.edges) s t)
def anyF (p : Nat → Bool) : Nat → Nat → Bool
  | _, 0 => false
  | i, k + 1 => p i || anyF p (i + 1) k
def tkn (x : Lb) (Q : List Int) (a : Int) : Bool := anyF (fun i => stA x (Q.getD i 0) (Q.getD (nx Q.length 0 i) 0) a) 0 Q.length
section
variable {x : Lb} (hx : LSm x) {q : DV} {Q : List Int}
include hx
theorem L160 {lo : Nat} {σ : Store} (hq : RL σ q Q) (hl : Q.length ≤ 1000) (a : Int) {r : Nat} (hr : σ[r]? = some (.mix (rgD Q.length 0))) : ∀ (k i : Nat), Q.length - i = k → i ≤ Q.length →
    f160_L0 guardT lo q (.p (.int .i64 a)) (.pptr (eLb x) 0) (.ptr r 0) q (N Q.length) (N i) σ = some (.p (.bool (anyF (fun i => stA x (Q.getD i 0) (Q.getD (nx Q.length 0 i) 0) a) i k)), σ)
  | 0, i, hk, hi => by
    rw [f160_L0_eq guardT rfl]
    simp (disch := omega) only [N, b_lss, ltF, gG, anyF]
  | k + 1, i, hk, hi => by
    have ih := L160 (lo := lo) hq hl a hr k (i + 1) (by omega) (by omega)
    have h : i < Q.length := by omega
    have hnx : nx Q.length 0 i < Q.length := nx_lt (by omega) h
    have ld : (loadN σ 2 (.ptr r 0)).map DV.agg = some (vRg Q.length 0) := by
      rw [loadN_ptr (off := 0) (n := 2) (vs := rgD Q.length 0) hr rfl (by simp [rgD])]; rfl
    have s93 := fun σ => S93 (n := Q.length) (back := 0) (i := i) (by omega) hl h σ
    obtain ⟨p1, i1, l1⟩ := hq.get h
    obtain ⟨p2, i2, l2⟩ := hq.get hnx
    have s142 := fun s t σ => S142 hx s t σ
    have hle : (actsL (L x.g.edges) (Q.getD i 0) (Q.getD (nx Q.length 0 i) 0)).length ≤ 100000 := by
      have h1 : (actsL (L x.g.edges) (Q.getD i 0) (Q.getD (nx Q.length 0 i) 0)).length ≤ (L x.g.edges).length := by
        unfold actsL; rw [List.length_map]; exact List.length_filter_le _ _
      have := hx.e
      omega
    have s91 := fun σ => S91 (o := oI (actsL (L x.g.edges) (Q.getD i 0) (Q.getD (nx Q.length 0 i) 0))) (by rw [L_oI]; exact hle) a σ
    rw [L_oI] at s91
    simp only [N] at ih
    rw [f160_L0_eq guardT rfl]
    unfold anyF
    cases c : stA x (Q.getD i 0) (Q.getD (nx Q.length 0 i) 0) a with
    | true =>
      unfold stA at c
      simp (disch := omega) only [N, b_lss, ltT, gG, i1, load3, l1, load47, lb_all, load135, ld, shift_ptr, shift_pptr, Nat.zero_add, Nat.add_zero, pureFn_fn, List.append_nil, List.singleton_append, List.cons_append, List.nil_append, s93, i2, l2, s142, s91, c, Bool.true_or]
    | false =>
      unfold stA at c
      simp (disch := omega) only [N, b_lss, ltT, gG, i1, load3, l1, load47, lb_all, load135, ld, shift_ptr, shift_pptr, Nat.zero_add, Nat.add_zero, pureFn_fn, List.append_nil, List.singleton_append, List.cons_append, List.nil_append, s93, i2, l2, s142, s91, c, Bool.false_or, add1]
      exact ih
end
end Go.D
end
/- Chapter 13: formulas put together, in plain Lean. -/
section
set_option linter.unusedVariables false
set_option linter.unusedSimpArgs false
namespace Go.D
namespace Las
structure Emb (F : List Nd) (d : Nat) (H : List Nd) : Prop where
  le : d + F.length ≤ H.length
  k : ∀ i, i < F.length → (H.getD (d + i) default).k = (F.getD i default).k
  n : ∀ i, i < F.length → (H.getD (d + i) default).n = (F.getD i default).n
  a : ∀ i, i < F.length → nA H (d + i) = (nA F i).map (· + (d : Int))
section
variable {F H : List Nd} {d : Nat} (he : Emb F d H)
include he
end
noncomputable def sem (u : Nat → Int) (F : List Nd) : NB := tv (skB u) F (F.length - 1)
theorem ok_chk {F : List Nd} (h : Ok F) : (chk F).2 = 0 := by
  have key : ∀ (d i : Nat), i + d = F.length → (chkF F d i).2 = 0 := by
    intro d
    induction d with
    | zero => intro i _; unfold chkF; rw [if_pos h.fst]
    | succ d ih =>
      intro i hi
      have hg := h.good i (by omega)
      unfold chkF
      rw [if_pos hg.k, if_pos ⟨hg.a, hg.s⟩, if_neg (by rw [hg.b]; simp)]
      exact ih (i + 1) (by omega)
  have hp := h.pos
  have hl := h.le
  unfold chk
  rw [if_neg (by omega), if_neg (by omega)]
  exact key _ 0 (Nat.zero_add _)
theorem says_sem {F : List Nd} {P Q : List Int} (hk : Ok F) (hq : 0 < Q.length) : (says F P Q).getD 0 false = sem (atW P Q) F 0 := by
  have hb : P.length < P.length + Q.length := by omega
  have hp := hk.pos
  unfold says sem
  rw [tab_get (by omega)]
  have hu : ∀ s, (P ++ Q).getD (pl (P.length + Q.length) P.length s) 0 = atW P Q s := fun s => by
    unfold pl atW
    by_cases c : s < P.length
    · rw [if_pos c, if_pos c, List.getD_eq_getElem?_getD, List.getElem?_append_left c, ← List.getD_eq_getElem?_getD]
    · rw [if_neg c, if_neg c, List.getD_eq_getElem?_getD, List.getElem?_append_right (by omega), ← List.getD_eq_getElem?_getD, Nat.add_sub_cancel_left, Nat.add_sub_cancel_left]
  have := tv_pl hb hu hk.good (F.length - 1) (by omega) 0
  rw [pl_lt (by omega)] at this
  exact this
end Las
end Go.D
end
/- Chapter 13: fairness, by the program and by the reference. -/
section
set_option linter.unusedVariables false
set_option linter.unusedSimpArgs false
set_option maxRecDepth 8000
namespace Go.D
open Las
theorem st135g {lo : Nat} {σ : Store} (hlo : lo ≤ σ.length) (n b : Nat) : store PP lo 135 (.ptr σ.length 0) (.agg (rgD n b)) (σ ++ [.mix [.p (pI 0), .p (pI 0)]]) = some (σ ++ [.mix (rgD n b)]) := by
  have s135 : size? PP 135 = some 2 := Eq.trans (by kernel_rfl) rfl
  have hone : (rgD n b).all DV.one = true := rfl
  have hs : splice [DV.p (pI 0), .p (pI 0)] 0 (rgD n b) = rgD n b := rfl
  simp [store, s135, DV.cells, storeN, hone, rgD, hlo]
  exact ⟨⟨rfl, rfl⟩, by simpa [rgD] using hs⟩
theorem b135_0 (n : Nat) : build PP 135 [(0, .p (.int .i64 (n : Nat)))] = some (.agg (rgD n 0)) := Eq.trans (by kernel_rfl) rfl
theorem st3n {lo : Nat} {σ : Store} (hlo : lo ≤ σ.length) (v : Int) : store PP lo 3 (.ptr σ.length 0) (.p (.int .i64 v)) (σ ++ [.mix [.p (pI 0)]]) = some (σ ++ [.mix [.p (pI v)]]) := by
  simp [store, s3, DV.cells, storeN, DV.one, hlo, splice]
section
variable {x : Lb} (hx : LSm x) {q : DV} {Q : List Int} {σ : Store} (hq : RL σ q Q) (hl : Q.length ≤ 1000)
include hx hq hl
theorem S160 (a : Int) : pureV CC 160 [vLb x, q, .p (.int .i64 a)] σ = some (.p (.bool (tkn x Q a))) := by
  refine pureV_any (by simp only [List.map_cons, List.map_nil, lb_view, int_view, hq.vw]) fun lo σ0 hs => ?_
  have h0 : RL σ0 q Q ∧ lo ≤ σ0.length := by
    rcases hs with ⟨rfl, rfl, h⟩ | ⟨rfl, rfl, _⟩
    · refine ⟨hq.free ?_ [], Nat.le_refl _⟩
      simp only [List.all_cons, Bool.and_eq_true] at h
      rcases hq with ⟨o, rfl, _⟩ | ⟨r, off, rfl, _⟩
      · rfl
      · exact absurd h.2.1 (by simp [rowFree, rowFree1])
    · exact ⟨hq, Nat.le_refl _⟩
  obtain ⟨hq0, hlo⟩ := h0
  have h := L160 hx (hq0.ext [.mix (rgD Q.length 0)]) hl a (lo := lo) (r := σ0.length) get_snoc Q.length 0 rfl (Nat.zero_le _)
  simp only [N] at h
  refine ⟨_, σ0 ++ [.mix (rgD Q.length 0)], F160_call (r := (.p (.bool (tkn x Q a)), σ0 ++ [.mix (rgD Q.length 0)])) ?_, rfl⟩
  rw [F160_eq]
  simp only [box_lb, gG, hq0.len, b135_0, zero135, st135g hlo]
  exact h
omit hq hl in
theorem S159 {r : Nat} {a : Int} (hr : σ[r]? = some (.mix [.p (pI a)])) (v : Int) : pureV CC 159 [.p (.int .i64 v), .pptr (eLb x) 0, .ptr r 0] σ = some (.p (.bool (!enb x v a))) := by
  have h := fun σ => S158 hx v a σ
  refine pureV_rows rfl rfl (F159_call (r := (.p (.bool (!enb x v a)), σ)) ?_) rfl
  rw [F159_eq]
  simp only [load47, lb_all, gG, load3, load1_ptr (off := 0) hr rfl, shift_ptr, shift_pptr, Nat.zero_add, Nat.add_zero, pureFn_fn, List.append_nil, List.singleton_append, List.cons_append, List.nil_append, h]
omit hq hl in
theorem S161 {r : Nat} {a : Int} (hr : σ[r]? = some (.mix [.p (pI a)])) (v : Int) : pureV CC 161 [.p (.int .i64 v), .pptr (eLb x) 0, .ptr r 0] σ = some (.p (.bool (enb x v a))) := by
  have h := fun σ => S158 hx v a σ
  refine pureV_rows rfl rfl (F161_call (r := (.p (.bool (enb x v a)), σ)) ?_) rfl
  rw [F161_eq]
  simp only [load47, lb_all, gG, load3, load1_ptr (off := 0) hr rfl, shift_ptr, shift_pptr, Nat.zero_add, Nat.add_zero, pureFn_fn, List.append_nil, List.singleton_append, List.cons_append, List.nil_append, h]
end
def okW (x : Lb) (Q : List Int) (a : Int) : Bool := Q.any (fun s => !enb x s a) || tkn x Q a
def okS (x : Lb) (Q : List Int) (a : Int) : Bool := !(Q.any fun s => enb x s a) || tkn x Q a
def isF (x : Lb) (Q : List Int) : Bool := (L x.we).all (okW x Q) && (L x.sr).all (okS x Q)
section
variable {x : Lb} (hx : LSm x) {p q : DV} {Q : List Int} (hl : Q.length ≤ 1000)
include hx hl
theorem L118_1 {lo rl : Nat} : ∀ (k i : Nat) (σ : Store), lo ≤ σ.length → RL σ q Q → σ[rl]? = some (.mix [p, q]) → (L x.sr).length - i = k → i ≤ (L x.sr).length →
    ∃ σ', f118_L1 guardT lo (.pptr (eLb x) 0) (.ptr rl 0) (.p (eSl x.sr)) (N (L x.sr).length) (N i) σ = some (.p (.bool (((L x.sr).drop i).all (okS x Q))), σ')
  | 0, i, σ, hlo, hq, hr, hk, hi => by
    refine ⟨σ, ?_⟩
    rw [f118_L1_eq guardT rfl, List.drop_eq_nil_of_le (by omega)]
    simp (disch := omega) only [N, b_lss, ltF, gG, List.all_nil]
  | k + 1, i, σ, hlo, hq, hr, hk, hi => by
    have he := hx.sr
    have h : i < (L x.sr).length := by omega
    have hq1 := hq.ext [.mix [.p (pI ((L x.sr).getD i 0))]]
    obtain ⟨σ', ih⟩ := L118_1 (lo := lo) (rl := rl) k (i + 1) (σ ++ [.mix [.p (pI ((L x.sr).getD i 0))]]) (by simp; omega) hq1 (get_old hr) (by omega) (by omega)
    have ra : (σ ++ [Row.mix [.p (pI ((L x.sr).getD i 0))]])[σ.length]? = some (.mix [.p (pI ((L x.sr).getD i 0))]) := get_snoc
    have l1 : load1 (.ptr rl 1) (σ ++ [Row.mix [.p (pI ((L x.sr).getD i 0))]]) = some q := load1_ptr (get_old hr) rfl
    have la : load1 (.ptr σ.length 0) (σ ++ [Row.mix [.p (pI ((L x.sr).getD i 0))]]) = some (.p (pI ((L x.sr).getD i 0))) := load1_ptr ra rfl
    have s68 := S68r (f := 161) (caps := [.pptr (eLb x) 0, .ptr σ.length 0]) (q := fun s => enb x s ((L x.sr).getD i 0)) hq1 (by omega) rfl (fun v => S161 hx ra v)
    have s160 := S160 hx hq1 hl ((L x.sr).getD i 0)
    simp only [N] at ih
    rw [f118_L1_eq guardT rfl, drop_cons h, List.all_cons]
    cases c1 : Q.any (fun s => enb x s ((L x.sr).getD i 0)) with
    | false =>
      have e : okS x Q ((L x.sr).getD i 0) = true := by unfold okS; rw [c1]; rfl
      refine ⟨σ', ?_⟩
      rw [c1] at s68
      simp (disch := omega) only [N, b_lss, ltT, gG, (PL.sl x.sr).idx h, load3, load1_getD h, zero3, st3n, fa52_1, shift_ptr, shift_pptr, Nat.zero_add, Nat.add_zero, pureFn_fn, List.append_nil, List.singleton_append, List.cons_append, List.nil_append, load24, l1, s68, e, Bool.true_and, add1, ih]
    | true =>
      rw [c1] at s68
      cases c2 : tkn x Q ((L x.sr).getD i 0) with
      | true =>
        have e : okS x Q ((L x.sr).getD i 0) = true := by unfold okS; rw [c1, c2]; rfl
        refine ⟨σ', ?_⟩
        simp (disch := omega) only [N, b_lss, ltT, gG, (PL.sl x.sr).idx h, load3, load1_getD h, zero3, st3n, fa52_1, shift_ptr, shift_pptr, Nat.zero_add, Nat.add_zero, pureFn_fn, List.append_nil, List.singleton_append, List.cons_append, List.nil_append, load24, l1, s68, load47, lb_all, la, s160, c2, e, Bool.true_and, add1, ih]
      | false =>
        have e : okS x Q ((L x.sr).getD i 0) = false := by unfold okS; rw [c1, c2]; rfl
        refine ⟨σ ++ [.mix [.p (pI ((L x.sr).getD i 0))]], ?_⟩
        simp (disch := omega) only [N, b_lss, ltT, gG, (PL.sl x.sr).idx h, load3, load1_getD h, zero3, st3n, fa52_1, shift_ptr, shift_pptr, Nat.zero_add, Nat.add_zero, pureFn_fn, List.append_nil, List.singleton_append, List.cons_append, List.nil_append, load24, l1, s68, load47, lb_all, la, s160, c2, e, Bool.false_and]
theorem L118_0 {lo rl : Nat} : ∀ (k i : Nat) (σ : Store), lo ≤ σ.length → RL σ q Q → σ[rl]? = some (.mix [p, q]) → (L x.we).length - i = k → i ≤ (L x.we).length →
    ∃ σ', f118_L0 guardT lo (.pptr (eLb x) 0) (.ptr rl 0) (.p (eSl x.we)) (N (L x.we).length) (N i) σ = some (.p (.bool (((L x.we).drop i).all (okW x Q) && (L x.sr).all (okS x Q))), σ')
  | 0, i, σ, hlo, hq, hr, hk, hi => by
    obtain ⟨σ', h1⟩ := L118_1 hx hl (lo := lo) (rl := rl) (p := p) _ 0 σ hlo hq hr rfl (Nat.zero_le _)
    refine ⟨σ', ?_⟩
    rw [List.drop_zero] at h1
    simp only [N] at h1
    rw [f118_L0_eq guardT rfl, List.drop_eq_nil_of_le (by omega)]
    simp (disch := omega) only [N, b_lss, ltF, gG, List.all_nil, Bool.true_and, fa47_5, shift_ptr, shift_pptr, Nat.zero_add, Nat.add_zero, pureFn_fn, List.append_nil, List.singleton_append, List.cons_append, List.nil_append, load24, lb_7, len24]
    exact h1
  | k + 1, i, σ, hlo, hq, hr, hk, hi => by
    have he := hx.we
    have h : i < (L x.we).length := by omega
    have hq1 := hq.ext [.mix [.p (pI ((L x.we).getD i 0))]]
    obtain ⟨σ', ih⟩ := L118_0 (lo := lo) (rl := rl) k (i + 1) (σ ++ [.mix [.p (pI ((L x.we).getD i 0))]]) (by simp; omega) hq1 (get_old hr) (by omega) (by omega)
    have ra : (σ ++ [Row.mix [.p (pI ((L x.we).getD i 0))]])[σ.length]? = some (.mix [.p (pI ((L x.we).getD i 0))]) := get_snoc
    have l1 : load1 (.ptr rl 1) (σ ++ [Row.mix [.p (pI ((L x.we).getD i 0))]]) = some q := load1_ptr (get_old hr) rfl
    have la : load1 (.ptr σ.length 0) (σ ++ [Row.mix [.p (pI ((L x.we).getD i 0))]]) = some (.p (pI ((L x.we).getD i 0))) := load1_ptr ra rfl
    have s68 := S68r (f := 159) (caps := [.pptr (eLb x) 0, .ptr σ.length 0]) (q := fun s => !enb x s ((L x.we).getD i 0)) hq1 (by omega) rfl (fun v => S159 hx ra v)
    have s160 := S160 hx hq1 hl ((L x.we).getD i 0)
    simp only [N] at ih
    rw [f118_L0_eq guardT rfl, drop_cons h, List.all_cons]
    cases c1 : Q.any (fun s => !enb x s ((L x.we).getD i 0)) with
    | true =>
      have e : okW x Q ((L x.we).getD i 0) = true := by unfold okW; rw [c1]; rfl
      refine ⟨σ', ?_⟩
      rw [c1] at s68
      simp (disch := omega) only [N, b_lss, ltT, gG, (PL.sl x.we).idx h, load3, load1_getD h, zero3, st3n, fa52_1, shift_ptr, shift_pptr, Nat.zero_add, Nat.add_zero, pureFn_fn, List.append_nil, List.singleton_append, List.cons_append, List.nil_append, load24, l1, s68, e, Bool.true_and, add1, ih]
    | false =>
      rw [c1] at s68
      cases c2 : tkn x Q ((L x.we).getD i 0) with
      | true =>
        have e : okW x Q ((L x.we).getD i 0) = true := by unfold okW; rw [c1, c2]; rfl
        refine ⟨σ', ?_⟩
        simp (disch := omega) only [N, b_lss, ltT, gG, (PL.sl x.we).idx h, load3, load1_getD h, zero3, st3n, fa52_1, shift_ptr, shift_pptr, Nat.zero_add, Nat.add_zero, pureFn_fn, List.append_nil, List.singleton_append, List.cons_append, List.nil_append, load24, l1, s68, load47, lb_all, la, s160, c2, e, Bool.true_and, add1, ih]
      | false =>
        have e : okW x Q ((L x.we).getD i 0) = false := by unfold okW; rw [c1, c2]; rfl
        refine ⟨σ ++ [.mix [.p (pI ((L x.we).getD i 0))]], ?_⟩
        simp (disch := omega) only [N, b_lss, ltT, gG, (PL.sl x.we).idx h, load3, load1_getD h, zero3, st3n, fa52_1, shift_ptr, shift_pptr, Nat.zero_add, Nat.add_zero, pureFn_fn, List.append_nil, List.singleton_append, List.cons_append, List.nil_append, load24, l1, s68, load47, lb_all, la, s160, c2, e, Bool.false_and]
omit hx hl in
theorem two_free {σ σ0 : Store} {lo : Nat} {P : List Int} (hp : RL σ p P) (hq : RL σ q Q) (hs : (σ0 = [] ∧ lo = 0 ∧ ([vLb x, .agg [p, q]] : List DV).all rowFree = true) ∨ (σ0 = σ ∧ lo = σ.length ∧ ([vLb x, .agg [p, q]] : List DV).all rowFree = false)) : RL σ0 p P ∧ RL σ0 q Q ∧ lo ≤ σ0.length := by
  rcases hs with ⟨rfl, rfl, h⟩ | ⟨rfl, rfl, _⟩
  · simp only [List.all_cons, List.all_nil, rowFree, Bool.and_true, Bool.and_eq_true] at h
    exact ⟨hp.free h.2.1 [], hq.free h.2.2 [], Nat.le_refl _⟩
  · exact ⟨hp, hq, Nat.le_refl _⟩
omit hx hl in
theorem box_two {σ : Store} {P : List Int} (hp : RL σ p P) (hq : RL σ q Q) : boxV (.agg [p, q]) = some [p, q] := by
  unfold boxV
  simp only [DV.cells, List.all_cons, List.all_nil, hp.one, hq.one, Bool.and_self, if_true]
omit hx hl in
theorem ls_view {σ : Store} {P : List Int} (hp : RL σ p P) (hq : RL σ q Q) : view (.agg [p, q]) = .agg [p, q] := by
  show DV.agg [viewCell p, viewCell q] = _
  rw [hp.vc, hq.vc]
theorem S118 {σ : Store} {P : List Int} (hp : RL σ p P) (hq : RL σ q Q) : pureV CC 118 [vLb x, .agg [p, q]] σ = some (.p (.bool (isF x Q))) := by
  refine pureV_any (by simp only [List.map_cons, List.map_nil, lb_view, ls_view hp hq]) fun lo σ0 hs => ?_
  obtain ⟨hp0, hq0, hlo⟩ := two_free hp hq hs
  obtain ⟨σ', h⟩ := L118_0 hx hl (lo := lo) (rl := σ0.length) (p := p) _ 0 (σ0 ++ [.mix [p, q]]) (by simp; omega) (hq0.ext _) get_snoc rfl (Nat.zero_le _)
  rw [List.drop_zero] at h
  simp only [N] at h
  refine ⟨_, σ', F118_call (r := (.p (.bool (isF x Q)), σ')) ?_, rfl⟩
  rw [F118_eq]
  simp only [box_lb, box_two hp0 hq0, gG, fa47_4, shift_ptr, shift_pptr, Nat.zero_add, Nat.add_zero, pureFn_fn, List.append_nil, List.singleton_append, List.cons_append, List.nil_append, load24, lb_6, len24]
  exact h
end
section
variable {x : Lb} (hx : LSm x) {w : Wd} (hl : (L w.l).length ≤ 1000)
include hx hl
end
end Go.D
end
/- Chapter 13: letters of steps: plain terms, and atoms put into letters. -/
section
set_option linter.unusedVariables false
set_option linter.unusedSimpArgs false
set_option maxRecDepth 8000
namespace Go.D
open Las
def wA (c n : Int) : Int := if n = -1 then c else ((c.toNat ||| 2 ^ n.toNat : Nat) : Int)
def okL (c : Int) : Prop := 0 ≤ c ∧ c ≤ 4095
def okAt (n : Int) : Prop := -1 ≤ n ∧ n ≤ 11
theorem pow_le {m : Nat} (h : m ≤ 11) : 2 ^ m < 4096 := by
  have : 2 ^ m ≤ 2 ^ 11 := Nat.pow_le_pow_right (by decide) h
  omega
theorem wA_ok {c n : Int} (hc : okL c) (hn : okAt n) : okL (wA c n) := by
  unfold wA
  split
  · exact hc
  · obtain ⟨h0, h1⟩ := hc
    obtain ⟨h2, h3⟩ := hn
    have h4 : c.toNat < 2 ^ 12 := by omega
    have h5 : 2 ^ n.toNat < 2 ^ 12 := pow_le (by omega)
    have := Nat.or_lt_two_pow h4 h5
    unfold okL
    omega
def tb (c : Int) (k : Nat) : Bool := c.toNat.testBit k
theorem wA_tb {c n : Int} (hn : okAt n) (k : Nat) : tb (wA c n) k = (tb c k || decide (n = (k : Int))) := by
  unfold wA tb
  split
  · rename_i h
    have : ¬ n = (k : Int) := by omega
    rw [decide_eq_false this, Bool.or_false]
  · rename_i h
    obtain ⟨h2, h3⟩ := hn
    rw [Int.toNat_natCast, Nat.testBit_or, Nat.testBit_two_pow]
    congr 1
    rw [decide_eq_decide]
    omega
theorem okL_ext {a b : Int} (ha : okL a) (hb : okL b) (h : ∀ k, tb a k = tb b k) : a = b := by
  have : a.toNat = b.toNat := Nat.eq_of_testBit_eq h
  obtain ⟨h1, _⟩ := ha
  obtain ⟨h2, _⟩ := hb
  omega
theorem orN {a b : Nat} (ha : a < 4096) (hb : b < 4096) (t : TypeId) : binOp PP .or t (.p (.int .i64 (a : Nat))) (.p (.int .i64 (b : Nat))) = some (.p (.int .i64 ((a ||| b : Nat) : Int))) := by
  have e : (BitVec.ofInt IntKind.i64.bits (a : Int) ||| BitVec.ofInt IntKind.i64.bits (b : Int)).toNat = (a ||| b) := by
    have h1 : IntKind.i64.bits = 64 := rfl
    rw [h1, BitVec.ofInt_natCast, BitVec.ofInt_natCast, BitVec.toNat_or, BitVec.toNat_ofNat, BitVec.toNat_ofNat, Nat.mod_eq_of_lt (by omega), Nat.mod_eq_of_lt (by omega)]
  have hlt : a ||| b < 2 ^ 12 := Nat.or_lt_two_pow ha hb
  show ((some (PV.int .i64 (IntKind.wrap .i64 ((BitVec.ofInt IntKind.i64.bits (a : Int) ||| BitVec.ofInt IntKind.i64.bits (b : Int)).toNat : Int)))) : Option PV).map DV.p = _
  rw [e, wrap_ok (by omega) (by omega)]
  rfl
theorem shlN {m : Nat} (hm : m ≤ 11) (t : TypeId) : binOp PP .shl t (.p (.int .i64 1)) (.p (.int .i64 (m : Nat))) = some (.p (.int .i64 ((2 ^ m : Nat) : Int))) := by
  have hm0 : ¬ ((m : Int) < 0) := by omega
  have e1 : min (m : Int).toNat IntKind.i64.bits = m := by
    have : IntKind.i64.bits = 64 := rfl
    rw [this]; omega
  have hp := pow_le hm
  have e : (1 : Int) * 2 ^ m = ((2 ^ m : Nat) : Int) := by norm_cast; omega
  show (binShift .shl .i64 1 (m : Int)).map DV.p = _
  unfold binShift
  rw [if_neg hm0]
  simp only [e1, e, Option.map_some]
  rw [wrap_ok (Int.le_trans (by decide) (Int.natCast_nonneg _)) (Int.le_trans (Int.ofNat_le.2 (Nat.le_of_lt hp)) (by decide))]
theorem S157 {c n : Int} (hc : okL c) (hn : okAt n) (σ : Store) : pureV CC 157 [.p (.int .i64 c), .p (.int .i64 n)] σ = some (.p (.int .i64 (wA c n))) := by
  refine pureV_free rfl rfl (F157_call (r := (.p (.int .i64 (wA c n)), [])) ?_) rfl
  rw [F157_eq]
  unfold wA
  by_cases h : n = -1
  · rw [if_pos h]
    simp only [b_eql, eqT h, gG]
  · rw [if_neg h]
    obtain ⟨h0, h1⟩ := hc
    obtain ⟨h2, h3⟩ := hn
    have en : n = ((n.toNat : Nat) : Int) := by omega
    have ec : c = ((c.toNat : Nat) : Int) := by omega
    have s1 := shlN (m := n.toNat) (by omega) 3
    have o1 := orN (a := c.toNat) (b := 2 ^ n.toNat) (by omega) (pow_le (by omega)) 3
    rw [← en] at s1
    rw [← ec] at o1
    simp only [b_eql, eqF h, gG, s1, o1]
theorem bit_tb {c m : Int} : bit c m = c.toNat.testBit m.toNat := by
  unfold bit
  rw [Nat.testBit_eq_decide_div_mod_eq]
def lt1 (x : Lb) (l : List Int) (c : Int) : Int := l.foldl (fun c a => wA c ((L x.st).getD a.toNat 0)) c
def lt2 (x : Lb) (s : Int) : Nat → Nat → Int → Int
  | _, 0, c => c
  | i, k + 1, c => lt2 x s (i + 1) k (if enb x s (i : Nat) = true then wA c ((L x.en).getD i 0) else c)
def ltR (x : Lb) (s t : Int) : Nat → Nat → Int → Int
  | _, 0, c => c
  | i, k + 1, c => ltR x s t (i + 1) k (let c1 := if stA x s t (i : Nat) = true then wA c ((L x.st).getD i 0) else c; if enb x s (i : Nat) = true then wA c1 ((L x.en).getD i 0) else c1)
def ltr (x : Lb) (s t : Int) : Int := lt2 x s 0 (L x.en).length (lt1 x (actsL (L x.g.edges) s t) ((L x.la).getD s.toNat 0))
structure LbOk (x : Lb) : Prop where
  g : isG x.g = true
  n : x.g.n ≤ 60
  la : ((L x.la).length : Int) = x.g.n
  se : (L x.st).length = (L x.en).length
  s12 : (L x.st).length ≤ 12
  lv : ∀ i, i < (L x.la).length → okL ((L x.la).getD i 0)
  sv : ∀ i, i < (L x.st).length → okAt ((L x.st).getD i 0)
  ev : ∀ i, i < (L x.en).length → okAt ((L x.en).getD i 0)
  av : ∀ i, i < (L x.g.edges).length → 0 ≤ ((L x.g.edges).getD i default).a ∧ ((L x.g.edges).getD i default).a < (L x.st).length
theorem scnP_zero {p : Nat → Bool} {e : Int} {s : Int × Int} (he : e ≠ 0) : ∀ (k i : Nat), (scnP p e s i k).2 = 0 → s.2 = 0 ∧ ∀ j, i ≤ j → j < i + k → p j = false
  | 0, i, h => ⟨h, fun j h1 h2 => by omega⟩
  | k + 1, i, h => by
    unfold scnP at h
    split at h
    · exact absurd h he
    · rename_i hp
      obtain ⟨h1, h2⟩ := scnP_zero he k (i + 1) h
      refine ⟨h1, fun j h3 h4 => ?_⟩
      rcases Nat.eq_or_lt_of_le h3 with rfl | h5
      · exact eq_false_of_ne_true hp
      · exact h2 j h5 (by omega)
theorem lbOk {x : Lb} (h : (chkLb x).2 = 0) : LbOk x := by
  have hg := chkLb_g h
  unfold chkLb at h
  rw [hg, if_neg (by simp)] at h
  split at h
  · exact absurd h (by decide)
  rename_i hn
  split at h
  · exact absurd h (by decide)
  rename_i hs
  obtain ⟨h1, h2⟩ := scnP_zero (by decide) _ _ h
  obtain ⟨h3, h4⟩ := scnP_zero (by decide) _ _ h1
  obtain ⟨h5, h6⟩ := scnP_zero (by decide) _ _ h3
  unfold shp at hs
  simp only [Bool.or_eq_true, Bool.not_eq_true', decide_eq_false_iff_not, decide_eq_true_iff, not_or, Decidable.not_not] at hs
  obtain ⟨s1, s2, s3⟩ := hs
  have hok : ∀ a b : Int, inR a b 4095 = inR a b 4095 := fun _ _ => rfl
  refine ⟨hg, by omega, s1, by omega, by omega, fun i hi => ?_, fun i hi => ?_, fun i hi => ?_, fun i hi => ?_⟩
  · have := h2 i (Nat.zero_le _) (by omega)
    unfold badL at this
    rw [Bool.not_eq_false'] at this
    exact (inR_iff _ _ _).1 this
  · have := h4 i (Nat.zero_le _) (by omega)
    unfold badS at this
    rw [Bool.or_eq_false_iff, Bool.not_eq_false', Bool.not_eq_false'] at this
    exact (inR_iff _ _ _).1 this.1
  · have := h4 i (Nat.zero_le _) (by omega)
    unfold badS at this
    rw [Bool.or_eq_false_iff, Bool.not_eq_false', Bool.not_eq_false'] at this
    exact (inR_iff _ _ _).1 this.2
  · have h7 := h6 i (Nat.zero_le _) (by omega)
    unfold badE at h7
    rw [decide_eq_false_iff_not] at h7
    unfold isG at hg
    rw [Bool.and_eq_true, Bool.and_eq_true, Bool.and_eq_true] at hg
    have h8 := (allFrom_iff _ _).1 hg.2 i (Nat.zero_le _) (by omega)
    unfold okE at h8
    rw [Bool.and_eq_true, Bool.and_eq_true, Bool.and_eq_true] at h8
    have h9 := (inR_iff _ _ _).1 h8.2.2.1
    omega
section
variable {x : Lb} (hk : LbOk x)
include hk
theorem acts_in {s t a : Int} (h : a ∈ actsL (L x.g.edges) s t) : 0 ≤ a ∧ a < (L x.st).length := by
  unfold actsL at h
  obtain ⟨e, he, rfl⟩ := List.mem_map.1 h
  have h1 := (List.mem_filter.1 he).1
  obtain ⟨i, hi, rfl⟩ := List.getElem_of_mem h1
  have := hk.av i hi
  rwa [List.getD_eq_getElem?_getD, List.getElem?_eq_getElem hi] at this
theorem lt1_ok : ∀ (l : List Int) (c : Int), (∀ a ∈ l, 0 ≤ a ∧ a < (L x.st).length) → okL c → okL (lt1 x l c) ∧ ∀ k, tb (lt1 x l c) k = (tb c k || l.any fun a => decide ((L x.st).getD a.toNat 0 = (k : Int)))
  | [], c, _, hc => ⟨hc, fun k => by simp [lt1]⟩
  | a :: l, c, ha, hc => by
    have h1 := ha a List.mem_cons_self
    have h2 := hk.sv a.toNat (by omega)
    obtain ⟨h3, h4⟩ := lt1_ok l (wA c ((L x.st).getD a.toNat 0)) (fun b hb => ha b (List.mem_cons_of_mem _ hb)) (wA_ok hc h2)
    refine ⟨h3, fun k => ?_⟩
    have h5 := h4 k
    have e : lt1 x (a :: l) c = lt1 x l (wA c ((L x.st).getD a.toNat 0)) := rfl
    rw [e, h5, wA_tb h2, List.any_cons, Bool.or_assoc]
theorem lt2_ok (s : Int) : ∀ (k i : Nat) (c : Int), i + k ≤ (L x.en).length → okL c → okL (lt2 x s i k c) ∧ ∀ j, tb (lt2 x s i k c) j = (tb c j || anyF (fun i => enb x s (i : Nat) && decide ((L x.en).getD i 0 = (j : Int))) i k)
  | 0, i, c, _, hc => ⟨hc, fun k => by simp [lt2, anyF]⟩
  | k + 1, i, c, hi, hc => by
    have h2 := hk.ev i (by omega)
    unfold lt2 anyF
    cases he : enb x s (i : Nat) with
    | true =>
      obtain ⟨h3, h4⟩ := lt2_ok s k (i + 1) (wA c ((L x.en).getD i 0)) (by omega) (wA_ok hc h2)
      refine ⟨by rw [if_pos rfl]; exact h3, fun j => ?_⟩
      rw [if_pos rfl, h4 j, wA_tb h2, Bool.true_and, Bool.or_assoc]
    | false =>
      obtain ⟨h3, h4⟩ := lt2_ok s k (i + 1) c (by omega) hc
      refine ⟨by rw [if_neg (by simp)]; exact h3, fun j => ?_⟩
      rw [if_neg (by simp), h4 j, Bool.false_and, Bool.false_or]
theorem ltR_ok (s t : Int) : ∀ (k i : Nat) (c : Int), i + k ≤ (L x.st).length → okL c → okL (ltR x s t i k c) ∧ ∀ j, tb (ltR x s t i k c) j = (tb c j || anyF (fun i => (stA x s t (i : Nat) && decide ((L x.st).getD i 0 = (j : Int))) || (enb x s (i : Nat) && decide ((L x.en).getD i 0 = (j : Int)))) i k)
  | 0, i, c, _, hc => ⟨hc, fun k => by simp [ltR, anyF]⟩
  | k + 1, i, c, hi, hc => by
    have hse := hk.se
    have h1 := hk.sv i (by omega)
    have h2 := hk.ev i (by omega)
    unfold ltR anyF
    have step : ∀ c', okL c' → (∀ j, tb c' j = (tb c j || ((stA x s t (i : Nat) && decide ((L x.st).getD i 0 = (j : Int))) || (enb x s (i : Nat) && decide ((L x.en).getD i 0 = (j : Int)))))) →
        okL (ltR x s t (i + 1) k c') ∧ ∀ j, tb (ltR x s t (i + 1) k c') j = (tb c j || (((stA x s t (i : Nat) && decide ((L x.st).getD i 0 = (j : Int))) || (enb x s (i : Nat) && decide ((L x.en).getD i 0 = (j : Int)))) || anyF (fun i => (stA x s t (i : Nat) && decide ((L x.st).getD i 0 = (j : Int))) || (enb x s (i : Nat) && decide ((L x.en).getD i 0 = (j : Int)))) (i + 1) k)) := by
      intro c' g1 g2
      obtain ⟨h3, h4⟩ := ltR_ok s t k (i + 1) c' (by omega) g1
      exact ⟨h3, fun j => by rw [h4 j, g2 j, Bool.or_assoc]⟩
    refine step _ ?_ fun j => ?_
    · cases stA x s t (i : Nat) <;> cases enb x s (i : Nat) <;> simp only [Bool.false_eq_true, if_true, if_false]
      · exact hc
      · exact wA_ok hc h2
      · exact wA_ok hc h1
      · exact wA_ok (wA_ok hc h1) h2
    · cases stA x s t (i : Nat) <;> cases enb x s (i : Nat) <;> simp only [Bool.false_eq_true, if_true, if_false, Bool.false_and, Bool.true_and, Bool.or_false, Bool.false_or]
      · rw [wA_tb h2]
      · rw [wA_tb h1]
      · rw [wA_tb h2, wA_tb h1, Bool.or_assoc]
omit hk in
theorem anyF_iff {p : Nat → Bool} : ∀ (k i : Nat), anyF p i k = true ↔ ∃ j, i ≤ j ∧ j < i + k ∧ p j = true
  | 0, i => by simp [anyF]; omega
  | k + 1, i => by
    simp only [anyF, Bool.or_eq_true, anyF_iff k (i + 1)]
    constructor
    · rintro (h | ⟨j, h1, h2, h3⟩)
      · exact ⟨i, Nat.le_refl _, by omega, h⟩
      · exact ⟨j, by omega, by omega, h3⟩
    · rintro ⟨j, h1, h2, h3⟩
      rcases Nat.eq_or_lt_of_le h1 with rfl | h4
      · exact .inl h3
      · exact .inr ⟨j, h4, by omega, h3⟩
theorem ltr_eq {s : Int} (t : Int) (hs : 0 ≤ s ∧ s < x.g.n) : ltR x s t 0 (L x.st).length ((L x.la).getD s.toNat 0) = ltr x s t ∧ okL (ltr x s t) := by
  have hla := hk.la
  have hse := hk.se
  have h0 := hk.lv s.toNat (by omega)
  obtain ⟨r1, r2⟩ := ltR_ok hk s t (L x.st).length 0 _ (by omega) h0
  obtain ⟨p1, p2⟩ := lt1_ok hk (actsL (L x.g.edges) s t) _ (fun a ha => acts_in hk ha) h0
  obtain ⟨q1, q2⟩ := lt2_ok hk s (L x.en).length 0 _ (by omega) p1
  refine ⟨okL_ext r1 q1 fun k => ?_, q1⟩
  rw [r2, show tb (ltr x s t) k = _ from q2 k, p2, Bool.or_assoc]
  congr 1
  rw [Bool.eq_iff_iff, Bool.or_eq_true, anyF_iff, anyF_iff, List.any_eq_true]
  constructor
  · rintro ⟨j, h1, h2, h3⟩
    rw [Bool.or_eq_true] at h3
    rcases h3 with h3 | h3
    · rw [Bool.and_eq_true] at h3
      refine .inl ⟨(j : Int), by unfold stA at h3; exact decide_eq_true_iff.1 h3.1, by simpa using h3.2⟩
    · exact .inr ⟨j, h1, by omega, h3⟩
  · rintro (⟨a, h1, h2⟩ | ⟨j, h1, h2, h3⟩)
    · obtain ⟨h3, h4⟩ := acts_in hk h1
      refine ⟨a.toNat, Nat.zero_le _, by omega, ?_⟩
      have e : ((a.toNat : Nat) : Int) = a := by omega
      rw [e]
      unfold stA
      rw [decide_eq_true h1, h2]; rfl
    · exact ⟨j, h1, by omega, by rw [h3, Bool.or_true]⟩
end
end Go.D
end
/- Chapter 13: the word of a behaviour, by the program and by the reference. -/
section
set_option linter.unusedVariables false
set_option linter.unusedSimpArgs false
set_option maxRecDepth 8000
namespace Go.D
open Las
def wl (x : Lb) (A : List Int) (b : Nat) : List Int := (List.range A.length).map fun i => ltr x (A.getD i 0) (A.getD (nx A.length b i) 0)
theorem wl_len (x : Lb) (A : List Int) (b : Nat) : (wl x A b).length = A.length := by simp [wl]
theorem wl_get (x : Lb) (A : List Int) (b : Nat) {i : Nat} (h : i < A.length) : (wl x A b).getD i 0 = ltr x (A.getD i 0) (A.getD (nx A.length b i) 0) := by
  simp [wl, List.getD_eq_getElem?_getD, h]
theorem take_getD {l : List Int} {i : Nat} (h : i < l.length) : l.take (i + 1) = l.take i ++ [l.getD i 0] := by
  rw [List.take_add_one, List.getElem?_eq_getElem h, List.getD_eq_getElem?_getD, List.getElem?_eq_getElem h]; rfl
theorem pl_drop {x : DV} {l : List Int} (h : PL x l) {k : Nat} (hk : k ≤ l.length) : ∃ y, sliceOp PP 24 x (some (.p (.int .i64 (k : Nat)))) none none = some y ∧ PL y (l.drop k) := by
  have hl : (l.drop k).length = l.length - k := by simp
  have ht : (l.drop k).take (l.length - k) = l.drop k := List.take_of_length_le (by rw [hl]; exact Nat.le_refl _)
  have hb : ∀ d, bound (some (.p (.int .i64 (k : Nat)))) d l.length = some k := fun d => bound_nat hk d
  rcases h with ⟨rfl, rfl⟩ | ⟨ex, rfl⟩ | ⟨r, v, rfl⟩
  · have : k = 0 := by simpa using hk
    subst this
    exact ⟨.p .nilsl, by simp [sliceOp, u24, s3, bound], .inl ⟨rfl, by simp⟩⟩
  · refine ⟨.p (.sl ex (l.length - k) (eInts (l.drop k))), ?_, .inr (.inl ⟨ex, by rw [hl]⟩)⟩
    simp only [sliceOp, u24, s3, Option.isSome_none, Bool.false_and, if_false, Bool.false_eq_true, show bound none l.length l.length = some l.length from rfl, hb, Nat.mul_one, eInts_drop, eInts_take, ht, beq_self_eq_true, Bool.and_true]
  · by_cases hf : k < l.length
    · refine ⟨.osl r v 1 (l.length - k) (eInts (l.drop k)), ?_, .inr (.inr ⟨r, v, by rw [hl]⟩)⟩
      simp only [sliceOp, u24, s3, Option.isSome_none, Bool.false_and, if_false, Bool.false_eq_true, show bound none l.length l.length = some l.length from rfl, hb, Nat.mul_one, eInts_drop, ne_eq, not_true_eq_false, beq_self_eq_true, Bool.true_and, decide_eq_true hf, if_true]
    · refine ⟨.p (.sl false (l.length - k) (eInts (l.drop k))), ?_, .inr (.inl ⟨false, by rw [hl]⟩)⟩
      simp only [sliceOp, u24, s3, Option.isSome_none, Bool.false_and, if_false, Bool.false_eq_true, show bound none l.length l.length = some l.length from rfl, hb, Nat.mul_one, eInts_drop, eInts_take, ht, ne_eq, not_true_eq_false, beq_self_eq_true, Bool.true_and, decide_eq_false hf]
theorem S78p {y : DV} {l : List Int} (h : PL y l) (hl : l.length ≤ 1000000) (σ : Store) : ∃ o, pureV CC 78 [y] σ = some (.p (eSl o)) ∧ L o = l := by
  obtain ⟨o, h1, h2⟩ := h.vw
  refine ⟨o, ?_, h2⟩
  rw [pureV_view (args' := [.p (eSl o)]) (by simp [h1]) (by simp [sl_view])]
  exact S78 (by rw [h2]; exact hl) σ
section
variable {x : Lb} (hx : LSm x) (hk : LbOk x)
include hx hk
theorem L117_2 {lo : Nat} {x4 x5 x6 x7 x27 : DV} {n j : Nat} (s : Int) : ∀ (k i : Nat) (c : Int) (σ : Store), (L x.en).length - i = k → i ≤ (L x.en).length → okL c →
    f117_L2 guardT lo (.pptr (eLb x) 0) x4 x5 x6 x7 (.p (.int .i64 s)) (.p (.int .i64 c)) x27 (N n) (N j) (.p (eSl x.en)) (N (L x.en).length) (N i) σ =
    f117_L2 guardT lo (.pptr (eLb x) 0) x4 x5 x6 x7 (.p (.int .i64 s)) (.p (.int .i64 (lt2 x s i k c))) x27 (N n) (N j) (.p (eSl x.en)) (N (L x.en).length) (N (L x.en).length) σ
  | 0, i, c, σ, hd, hi, hc => by
    have e : i = (L x.en).length := by omega
    rw [e]; rfl
  | k + 1, i, c, σ, hd, hi, hc => by
    have he := hx.en
    have h : i < (L x.en).length := by omega
    have hev := hk.ev i h
    have s158 := fun σ => S158 hx s (i : Nat) σ
    have s157 := fun σ => S157 hc hev σ
    rw [f117_L2_eq guardT rfl]
    unfold lt2
    cases c1 : enb x s (i : Nat) with
    | true =>
      have ih := L117_2 (lo := lo) (x4 := x4) (x5 := x5) (x6 := x6) (x7 := x7) (x27 := x27) (n := n) (j := j) s k (i + 1) (wA c ((L x.en).getD i 0)) σ (by omega) (by omega) (wA_ok hc hev)
      simp only [N] at ih
      rw [if_pos rfl, N, N, N, N, ← ih]
      simp (disch := omega) only [b_lss, ltT, gG, (PL.sl x.en).idx h, load3, load1_getD h, load47, lb_all, shift_ptr, shift_pptr, Nat.zero_add, Nat.add_zero, pureFn_fn, List.append_nil, List.singleton_append, List.cons_append, List.nil_append, s158, c1, s157, f117_J0_eq, add1]
    | false =>
      have ih := L117_2 (lo := lo) (x4 := x4) (x5 := x5) (x6 := x6) (x7 := x7) (x27 := x27) (n := n) (j := j) s k (i + 1) c σ (by omega) (by omega) hc
      simp only [N] at ih
      rw [if_neg (by simp), N, N, N, N, ← ih]
      simp (disch := omega) only [b_lss, ltT, gG, (PL.sl x.en).idx h, load3, load1_getD h, load47, lb_all, shift_ptr, shift_pptr, Nat.zero_add, Nat.add_zero, pureFn_fn, List.append_nil, List.singleton_append, List.cons_append, List.nil_append, s158, c1, f117_J0_eq, add1]
omit hx in
theorem L117_1 {lo : Nat} {x4 x5 x6 x7 x9 x27 x28 x29 : DV} {l : List Int} (hl : l.length ≤ 100000) (ha : ∀ a ∈ l, 0 ≤ a ∧ a < (L x.st).length) : ∀ (k i : Nat) (c : Int) (σ : Store), l.length - i = k → i ≤ l.length → okL c →
    f117_L1 guardT lo (.pptr (eLb x) 0) x4 x5 x6 x7 x9 (.p (.int .i64 c)) x27 x28 x29 (.p (eSl (oI l))) (N l.length) (N i) σ =
    f117_L1 guardT lo (.pptr (eLb x) 0) x4 x5 x6 x7 x9 (.p (.int .i64 (lt1 x (l.drop i) c))) x27 x28 x29 (.p (eSl (oI l))) (N l.length) (N l.length) σ
  | 0, i, c, σ, hd, hi, hc => by
    have e : i = l.length := by omega
    rw [e, List.drop_length]; rfl
  | k + 1, i, c, σ, hd, hi, hc => by
    have h : i < l.length := by omega
    have hm : l.getD i 0 ∈ l := by rw [List.getD_eq_getElem?_getD, List.getElem?_eq_getElem h]; exact List.getElem_mem h
    obtain ⟨a0, a1⟩ := ha _ hm
    have hsv := hk.sv (l.getD i 0).toNat (by omega)
    have ih := L117_1 (lo := lo) (x4 := x4) (x5 := x5) (x6 := x6) (x7 := x7) (x9 := x9) (x27 := x27) (x28 := x28) (x29 := x29) hl ha k (i + 1) (wA c ((L x.st).getD (l.getD i 0).toNat 0)) σ (by omega) (by omega) (wA_ok hc hsv)
    have s157 := fun σ => S157 hc hsv σ
    have ix := (PL.sl (oI l)).idx (i := i) (by rw [L_oI]; exact h)
    rw [L_oI] at ix
    have ix2 := (PL.sl x.st).idx (i := (l.getD i 0).toNat) (by omega)
    have ld2 := load1_getD (l := L x.st) (i := (l.getD i 0).toNat) (by omega)
    rw [Int.toNat_of_nonneg a0] at ix2
    have e : lt1 x (l.drop i) c = lt1 x (l.drop (i + 1)) (wA c ((L x.st).getD (l.getD i 0).toNat 0)) := by rw [drop_cons h]; rfl
    simp only [N] at ih
    rw [f117_L1_eq guardT rfl, e, N, N, ← ih]
    simp (disch := omega) only [b_lss, ltT, gG, ix, load3, load1_getD h, fa47_2, shift_ptr, shift_pptr, Nat.zero_add, Nat.add_zero, pureFn_fn, List.append_nil, List.singleton_append, List.cons_append, List.nil_append, load24, lb_4, ix2, ld2, s157, add1]
theorem L117_0 {lo rw rr : Nat} {A : List Int} {b : Nat} (hA : A.length ≤ 1000) (hb : b < A.length) (hin : ∀ i, i < A.length → 0 ≤ A.getD i 0 ∧ A.getD i 0 < x.g.n) (z : List DV) (hz : z.length = 2) (hlw : lo ≤ rw) :
    ∀ (k i : Nat) (y : DV) (σ : Store), A.length - i = k → i ≤ A.length → lo ≤ σ.length → Out σ lo 1 ((wl x A b).take i).length (eInts ((wl x A b).take i)) y → σ[rr]? = some (.mix (rgD A.length b)) → σ[rw]? = some (.mix z) →
    ∃ (o1 o2 : OI) (σ' : Store), f117_L0 guardT lo (.pptr (eLb x) 0) (.ptr rw 0) (.p (eSl (some A))) (.ptr rr 0) y (.p (eSl (some A))) (N A.length) (N i) σ = some (vWd ⟨o1, o2⟩, σ') ∧ L o1 = (wl x A b).take b ∧ L o2 = (wl x A b).drop b
  | 0, i, y, σ, hd, hi, hlo, ho, hr, hw => by
    have hwl := wl_len x A b
    rw [List.take_of_length_le (by omega)] at ho
    have hy := out_pl ho
    obtain ⟨y1, t1, t2⟩ := hy.take (k := b) (by omega)
    obtain ⟨y2, d1, d2⟩ := pl_drop hy (k := b) (by omega)
    obtain ⟨o1, c1, c2⟩ := S78p t2 (by simp; omega) σ
    obtain ⟨o2, e1, e2⟩ := S78p d2 (by simp; omega) σ
    have lr : load1 (.ptr rr 1) σ = some (.p (.int .i64 (b : Nat))) := load1_ptr hr rfl
    have bl := bld26 (x := .p (eSl o1)) (y := .p (eSl o2)) rfl rfl
    have sw := st_wd (lo := lo) (⟨o1, o2⟩ : Wd) hw hlw hz
    have cw := ce_wd (⟨o1, o2⟩ : Wd) (get_lt hw)
    refine ⟨o1, o2, σ.set rw (.mix [.p (eSl o1), .p (eSl o2)]), ?_, c2, e2⟩
    rw [f117_L0_eq guardT rfl]
    simp (disch := omega) only [N, b_lss, ltF, gG, fa135_1, shift_ptr, shift_pptr, Nat.zero_add, Nat.add_zero, pureFn_fn, List.append_nil, List.singleton_append, List.cons_append, List.nil_append, load3, lr, t1, c1, d1, e1, bl]
    have e3 : (DV.agg [.p (eSl o1), .p (eSl o2)]) = vWd ⟨o1, o2⟩ := rfl
    rw [e3, sw]
    simp only [obind, cw]
  | k + 1, i, y, σ, hd, hi, hlo, ho, hr, hw => by
    have h : i < A.length := by omega
    have hwl := wl_len x A b
    have hnx : nx A.length b i < A.length := nx_lt hb h
    obtain ⟨i0, i1⟩ := hin i h
    have hla := hk.la
    have ld : (loadN σ 2 (.ptr rr 0)).map DV.agg = some (vRg A.length b) := by
      rw [loadN_ptr (off := 0) (n := 2) (vs := rgD A.length b) hr rfl (by simp [rgD])]; rfl
    have s93 := fun σ => S93 (n := A.length) (back := b) (i := i) (by omega) hA h σ
    have s142 := fun s t σ => S142 hx s t σ
    have ix := (PL.some A).idx h
    have ix2 := (PL.some A).idx hnx
    have ix3 := (PL.sl x.la).idx (i := (A.getD i 0).toNat) (by omega)
    have ld3 := load1_getD (l := L x.la) (i := (A.getD i 0).toNat) (by omega)
    rw [Int.toNat_of_nonneg i0] at ix3
    have hlv := hk.lv (A.getD i 0).toNat (by omega)
    have hall : ∀ a ∈ actsL (L x.g.edges) (A.getD i 0) (A.getD (nx A.length b i) 0), 0 ≤ a ∧ a < (L x.st).length := fun a ha => acts_in hk ha
    have hle : (actsL (L x.g.edges) (A.getD i 0) (A.getD (nx A.length b i) 0)).length ≤ 100000 := by
      have h1 : (actsL (L x.g.edges) (A.getD i 0) (A.getD (nx A.length b i) 0)).length ≤ (L x.g.edges).length := by
        unfold actsL; rw [List.length_map]; exact List.length_filter_le _ _
      have := hx.e
      omega
    have len3 := fun σ => len24 (oI (actsL (L x.g.edges) (A.getD i 0) (A.getD (nx A.length b i) 0))) σ
    rw [L_oI] at len3
    obtain ⟨p1, _⟩ := lt1_ok hk _ _ hall hlv
    have hll : ((wl x A b).take i).length = i := by simp; omega
    obtain ⟨y2, σ2, a1, a2, a3, a4⟩ := Out.pushI (v := ltr x (A.getD i 0) (A.getD (nx A.length b i) 0)) ho (by omega) hlo
    rw [← wl_get x A b h, ← take_getD (by omega)] at a2
    have hr2 := a3.mix ho hr (fun v hv => by cases hv)
    have hw2 := a3.mix ho hw (fun v hv => by cases hv)
    obtain ⟨o1, o2, σ', g1, g2, g3⟩ := L117_0 hA hb hin z hz hlw k (i + 1) y2 σ2 (by omega) (by omega) (by omega) a2 hr2 hw2
    refine ⟨o1, o2, σ', ?_, g2, g3⟩
    simp only [N] at g1
    rw [f117_L0_eq guardT rfl]
    simp (disch := omega) only [N, b_lss, ltT, gG, ix, load3, load1_getD h, fa47_1, shift_ptr, shift_pptr, Nat.zero_add, Nat.add_zero, pureFn_fn, List.append_nil, List.singleton_append, List.cons_append, List.nil_append, load24, lb_3, ix3, ld3, load47, lb_all, load135, ld, s93, ix2, load1_getD hnx, s142, len3]
    have q1 := L117_1 hk (lo := lo) (x4 := .ptr rw 0) (x5 := .p (eSl (some A))) (x6 := .ptr rr 0) (x7 := y) (x9 := .p (.int .i64 (A.getD i 0))) (x27 := .p (eSl (some A))) (x28 := N A.length) (x29 := N i) hle hall _ 0 ((L x.la).getD (A.getD i 0).toNat 0) σ rfl (Nat.zero_le _) hlv
    simp only [N] at q1
    have q1' := q1
    rw [show (((0 : Nat) : Int)) = 0 from rfl] at q1'
    rw [q1', f117_L1_eq guardT rfl]
    have hnlt : ∀ m : Nat, ¬ (m : Int) < (m : Nat) := fun m => by omega
    simp (disch := omega) only [b_lss, ltF (hnlt _), gG, fa47_3, shift_ptr, shift_pptr, Nat.zero_add, Nat.add_zero, pureFn_fn, List.append_nil, List.singleton_append, List.cons_append, List.nil_append, load24, lb_5, len24, List.drop_zero]
    have q2 := L117_2 hx hk (lo := lo) (x4 := .ptr rw 0) (x5 := .p (eSl (some A))) (x6 := .ptr rr 0) (x7 := y) (x27 := .p (eSl (some A))) (n := A.length) (j := i) (A.getD i 0) _ 0 (lt1 x (actsL (L x.g.edges) (A.getD i 0) (A.getD (nx A.length b i) 0)) ((L x.la).getD (A.getD i 0).toNat 0)) σ rfl (Nat.zero_le _) p1
    simp only [N] at q2
    rw [show (((0 : Nat) : Int)) = 0 from rfl] at q2
    rw [q2, f117_L2_eq guardT rfl]
    have e5 : lt2 x (A.getD i 0) 0 ((L x.en).length - 0) (lt1 x (actsL (L x.g.edges) (A.getD i 0) (A.getD (nx A.length b i) 0)) ((L x.la).getD (A.getD i 0).toNat 0)) = ltr x (A.getD i 0) (A.getD (nx A.length b i) 0) := rfl
    simp (disch := omega) only [b_lss, ltF (hnlt _), gG, e5, bs24_1, a1, add1]
    exact g1
end
end Go.D
end
/- Chapter 13: a state that is repeated; a guarded formula says the same. Plain Lean. -/
section
set_option linter.unusedVariables false
set_option linter.unusedSimpArgs false
namespace Go.D
namespace Las
theorem pl_succ {n back : Nat} (hb : back < n) (t : Nat) : pl n back (t + 1) = nx n back (pl n back t) := by
  unfold pl nx
  by_cases h : t < back
  · rw [if_pos h]
    by_cases h2 : t + 1 < back
    · rw [if_pos h2, if_neg (by omega)]
    · have e : t + 1 = back := by omega
      rw [if_neg h2, if_neg (by omega), e, Nat.sub_self, Nat.zero_mod, Nat.add_zero]
  · rw [if_neg h, if_neg (by omega), show t + 1 - back = (t - back) + 1 by omega]
    have hp : 0 < n - back := by omega
    have hm := Nat.mod_lt (t - back) hp
    by_cases h3 : (t - back) % (n - back) + 1 = n - back
    · rw [if_pos (by omega)]
      have : (t - back + 1) % (n - back) = 0 := by
        rw [Nat.add_mod, ← Nat.mod_add_mod, Nat.mod_mod]
        rcases Nat.lt_or_ge 1 (n - back) with c | c
        · rw [Nat.mod_eq_of_lt c, h3, Nat.mod_self]
        · have : n - back = 1 := by omega
          rw [this]; exact Nat.mod_one _
      rw [this]; rfl
    · rw [if_neg (by omega)]
      have : (t - back + 1) % (n - back) = (t - back) % (n - back) + 1 := by
        rw [← Nat.mod_add_mod]
        exact Nat.mod_eq_of_lt (by omega)
      rw [this]; omega
structure Walk (φ : Nat → Nat) (still : Nat → Prop) : Prop where
  stay : ∀ t, still t → φ (t + 1) = φ t ∧ ¬ still (t + 1)
  go : ∀ t, ¬ still t → φ (t + 1) = φ t + 1
theorem Walk.mono {φ : Nat → Nat} {S : Nat → Prop} (h : Walk φ S) {i j : Nat} (hij : i ≤ j) : φ i ≤ φ j := by
  induction j with
  | zero => rw [show i = 0 by omega]; exact Nat.le_refl _
  | succ j ih =>
    rcases Nat.lt_or_ge j i with c | c
    · rw [show i = j + 1 by omega]; exact Nat.le_refl _
    · have := ih c
      by_cases hs : S j
      · rw [(h.stay j hs).1]; exact this
      · rw [h.go j hs]; omega
theorem Walk.onto {φ : Nat → Nat} {S : Nat → Prop} (h : Walk φ S) (i : Nat) : ∀ d, ∃ i', i ≤ i' ∧ φ i' = φ i + d ∧ ¬ S i'
  | 0 => by
    by_cases hs : S i
    · exact ⟨i + 1, by omega, (h.stay i hs).1, (h.stay i hs).2⟩
    · exact ⟨i, Nat.le_refl _, rfl, hs⟩
  | d + 1 => by
    obtain ⟨i', h1, h2, h3⟩ := Walk.onto h i d
    have h4 := h.go i' h3
    by_cases hs : S (i' + 1)
    · exact ⟨i' + 2, by omega, by rw [(h.stay _ hs).1, h4, h2]; omega, (h.stay _ hs).2⟩
    · exact ⟨i' + 1, by omega, by rw [h4, h2]; omega, hs⟩
theorem Walk.mid {φ : Nat → Nat} {S : Nat → Prop} (h : Walk φ S) {i : Nat} : ∀ (i' m : Nat), i ≤ i' → φ i ≤ m → m < φ i' → ∃ k, i ≤ k ∧ k < i' ∧ φ k = m := by
  intro i'
  induction i' with
  | zero => intro m h1 h2 h3; rw [show i = 0 by omega] at h2; omega
  | succ i' ih =>
    intro m h1 h2 h3
    rcases Nat.lt_or_ge i' i with c | c
    · rw [show i = i' + 1 by omega] at h2; omega
    · by_cases c2 : m < φ i'
      · obtain ⟨k, k1, k2, k3⟩ := ih m c h2 c2
        exact ⟨k, k1, by omega, k3⟩
      · refine ⟨i', c, by omega, ?_⟩
        by_cases hs : S i'
        · rw [(h.stay _ hs).1] at h3; omega
        · rw [h.go _ hs] at h3; omega
theorem Walk.bis {φ : Nat → Nat} {S : Nat → Prop} (h : Walk φ S) : Bis (fun i j => φ i = j) where
  fw := by
    rintro i j rfl i' hi
    exact ⟨φ i', h.mono hi, rfl, fun m' h1 h2 => h.mid i' m' hi h1 h2⟩
  bw := by
    rintro i j rfl j' hj
    obtain ⟨i0, h1, h2, _⟩ := h.onto i (j' - φ i)
    obtain ⟨i', ⟨g1, g2⟩, g3⟩ := least (P := fun i' => i ≤ i' ∧ φ i' = j') ⟨i0, h1, by rw [h2]; omega⟩
    refine ⟨i', g1, g2, fun m m1 m2 => ⟨φ m, h.mono m1, ?_, rfl⟩⟩
    have h3 := h.mono (show m ≤ i' by omega)
    rcases Nat.lt_or_ge (φ m) j' with c | c
    · exact c
    · exact absurd ⟨m1, by omega⟩ (g3 m m2)
theorem tv_walk {φ : Nat → Nat} {S : Nat → Prop} (h : Walk φ S) {u v : Nat → Int} {st : List Int} (ha : ∀ i m, 0 ≤ m → m ∉ st → bit (v i) m = bit (u (φ i)) m) (hb : ∀ i m, bit (v i) m = true → bit (u (φ i)) m = true) (hc : ∀ i, ¬ S i → v i = u (φ i))
    {F : List Nd} (hk : ∀ j, j < F.length → Good F j) : ∀ (m r : Nat), r < m → r < F.length → gR F st m r = true → ∀ i, tv (skB v) F r i = tv (skB u) F r (φ i)
  | 0, r, h0, _, _, i => by omega
  | m + 1, r, hm, hr, hg, i => by
    have hgd := hk r hr
    have atom : ∀ i p, soI (fun j => bit (v j) p) i = soI (fun j => bit (u j) p) (φ i) := fun i p => by
      refine dec_congr ⟨?_, ?_⟩
      · rintro ⟨j, h1, h2, _⟩
        exact ⟨φ j, h.mono h1, hb j p h2, fun _ _ _ => rfl⟩
      · rintro ⟨j, h1, h2, _⟩
        obtain ⟨i', g1, g2, g3⟩ := h.onto i (j - φ i)
        refine ⟨i', g1, ?_, fun _ _ _ => rfl⟩
        show bit (v i') p = true
        rw [hc i' g3, g2, show φ i + (j - φ i) = j by omega]; exact h2
    have leafB : ∀ (w : Nat → Int) (q : Nat), (F.getD q default).k = 1 → tv (skB w) F q = fun i => bit (w i) (F.getD q default).n := fun w q h1 => by
      rw [skB_leaf (.inr h1) (fun _ => false) (fun _ => false), h1]; rfl
    unfold gR at hg
    by_cases k1 : kd F r = 1
    · rw [if_pos k1] at hg
      have hn : (F.getD r default).n ∉ st := by simpa using hg
      have h9 := hgd.b
      unfold bad at h9
      rw [if_pos (show (F.getD r default).k = 1 from k1), Bool.not_eq_false'] at h9
      rw [leafB v r k1, leafB u r k1]
      exact ha i _ ((inR_iff _ _ _).1 h9).1 hn
    · rw [if_neg k1] at hg
      by_cases h0 : nA F r = []
      · have hl := hgd.leaf h0
        rcases hl with hl | hl
        · rw [skB_leaf (.inl hl) (fun _ => false) (fun _ => false), skB_leaf (.inl hl) (fun _ => false) (fun _ => false), hl]; rfl
        · exact absurd hl k1
      · obtain ⟨h1, h2, h3, h4⟩ := hgd.args h0
        by_cases c : c7 F r = true
        · -- sometime an atom
          unfold c7 at c
          rw [Bool.and_eq_true, decide_eq_true_iff, decide_eq_true_iff] at c
          have k7 : (F.getD r default).k = 7 := c.1
          rw [tv_eq hgd h0, tv_eq hgd h0, k7]
          show soI (opA (skB v) F r) i = soI (opA (skB u) F r) (φ i)
          have eA : ∀ w, opA (skB w) F r = fun i => bit (w i) (F.getD ((nA F r).getD 0 0).toNat default).n := fun w => leafB w _ c.2
          rw [eA, eA]
          exact atom i _
        · rw [if_neg c] at hg
          by_cases c' : c6 F r = true
          · -- never an atom
            unfold c6 at c'
            rw [Bool.and_eq_true, Bool.and_eq_true, decide_eq_true_iff, decide_eq_true_iff, decide_eq_true_iff] at c'
            obtain ⟨⟨d1, d2⟩, d3⟩ := c'
            have k6 : (F.getD r default).k = 6 := d1
            rw [tv_eq hgd h0, tv_eq hgd h0, k6]
            show (!soI (fun j => !opA (skB v) F r j) i) = !soI (fun j => !opA (skB u) F r j) (φ i)
            have hq : ((nA F r).getD 0 0).toNat < F.length := by omega
            have hgq := hk _ hq
            have hq0 : nA F ((nA F r).getD 0 0).toNat ≠ [] := fun e => by
              have h5 := hgq.a
              have d2' : (F.getD ((nA F r).getD 0 0).toNat default).k = 2 := d2
              rw [e, d2'] at h5
              exact absurd h5 (by decide)
            have eA : ∀ w, opA (skB w) F r = fun i => !bit (w i) (F.getD ((nA F ((nA F r).getD 0 0).toNat).getD 0 0).toNat default).n := fun w => by
              show tv (skB w) F ((nA F r).getD 0 0).toNat = _
              have d2' : (F.getD ((nA F r).getD 0 0).toNat default).k = 2 := d2
              rw [tv_eq hgq hq0, d2']
              show (fun i => !opA (skB w) F ((nA F r).getD 0 0).toNat i) = _
              have : opA (skB w) F ((nA F r).getD 0 0).toNat = fun i => bit (w i) (F.getD ((nA F ((nA F r).getD 0 0).toNat).getD 0 0).toNat default).n := leafB w _ d3
              rw [this]
            rw [eA, eA]
            simp only [Bool.not_not]
            rw [atom i _]
          · rw [if_neg c'] at hg
            have hall : ∀ a ∈ nA F r, gR F st m a.toNat = true := fun a hm => List.all_eq_true.1 hg a hm
            have hp := List.length_pos_iff.2 h0
            have m0 : (nA F r).getD 0 0 ∈ nA F r := by rw [List.getD_eq_getElem?_getD, List.getElem?_eq_getElem hp]; exact List.getElem_mem hp
            have hl1 : (nA F r).length - 1 < (nA F r).length := by omega
            have m1 : (nA F r).getD ((nA F r).length - 1) 0 ∈ nA F r := by rw [List.getD_eq_getElem?_getD, List.getElem?_eq_getElem hl1]; exact List.getElem_mem hl1
            rw [tv_eq hgd h0, tv_eq hgd h0]
            refine sk_bis (u := v) (v := u) h.bis (fun k1' => absurd k1' k1) (fun i j hij => ?_) (fun i j hij => ?_) rfl
            · subst hij
              exact tv_walk h ha hb hc hk m _ (by omega) (by omega) (hall _ m0) i
            · subst hij
              exact tv_walk h ha hb hc hk m _ (by omega) (by omega) (hall _ m1) i
def gz (at' i : Nat) : Nat := if i ≤ at' then i else i - 1
def rpA (A : List Int) (k : Nat) : List Int := A.take (k + 1) ++ A.drop k
theorem rpA_len {A : List Int} {k : Nat} (h : k < A.length) : (rpA A k).length = A.length + 1 := by
  unfold rpA; rw [List.length_append, List.length_take, List.length_drop]; omega
theorem rpA_get {A : List Int} {k i : Nat} (h : k < A.length) (hi : i < A.length + 1) : (rpA A k).getD i 0 = A.getD (gz k i) 0 := by
  unfold rpA gz
  have ht : (A.take (k + 1)).length = k + 1 := by rw [List.length_take]; omega
  by_cases c : i ≤ k
  · rw [if_pos c, List.getD_eq_getElem?_getD, List.getElem?_append_left (by omega), List.getElem?_take, if_pos (by omega), ← List.getD_eq_getElem?_getD]
  · rw [if_neg c, List.getD_eq_getElem?_getD, List.getElem?_append_right (by omega), ht, List.getElem?_drop, show k + (i - (k + 1)) = i - 1 by omega, ← List.getD_eq_getElem?_getD]
def bk (b at' : Nat) : Nat := if at' < b then b + 1 else b
theorem nx_or (n b i : Nat) : (i = n - 1 ∧ nx n b i = b) ∨ (i ≠ n - 1 ∧ nx n b i = i + 1) := by
  unfold nx; by_cases c : i = n - 1
  · exact .inl ⟨c, if_pos c⟩
  · exact .inr ⟨c, if_neg c⟩
theorem gz_or (k i : Nat) : (i ≤ k ∧ gz k i = i) ∨ (k < i ∧ gz k i = i - 1) := by
  unfold gz; by_cases c : i ≤ k
  · exact .inl ⟨c, if_pos c⟩
  · exact .inr ⟨by omega, if_neg c⟩
theorem bk_or (b k : Nat) : (k < b ∧ bk b k = b + 1) ∨ (b ≤ k ∧ bk b k = b) := by
  unfold bk; by_cases c : k < b
  · exact .inl ⟨c, if_pos c⟩
  · exact .inr ⟨by omega, if_neg c⟩
theorem gz_nx {n b at' i : Nat} (hb : b < n) (ha : at' < n) (hi : i < n + 1) : gz at' (nx (n + 1) (bk b at') i) = if i = at' then at' else nx n b (gz at' i) := by
  have h1 := nx_or (n + 1) (bk b at') i
  have h2 := gz_or at' (nx (n + 1) (bk b at') i)
  have h3 := bk_or b at'
  have h4 := gz_or at' i
  have h5 := nx_or n b (gz at' i)
  by_cases c : i = at'
  · rw [if_pos c]; omega
  · rw [if_neg c]; omega
def phi (n b at' : Nat) : Nat → Nat
  | 0 => 0
  | t + 1 => if pl (n + 1) (bk b at') t = at' then phi n b at' t else phi n b at' t + 1
theorem bk_lt {n b at' : Nat} (hb : b < n) : bk b at' < n + 1 := by unfold bk; split <;> omega
theorem phi_walk {n b at' : Nat} (hb : b < n) (ha : at' < n) : Walk (phi n b at') (fun t => pl (n + 1) (bk b at') t = at') where
  stay t h := by
    refine ⟨by rw [phi, if_pos h], fun h2 => ?_⟩
    rw [pl_succ (bk_lt hb), h] at h2
    unfold nx at h2
    rw [if_neg (by omega)] at h2
    omega
  go t h := by rw [phi, if_neg h]
theorem phi_pl {n b at' : Nat} (hb : b < n) (ha : at' < n) : ∀ t, gz at' (pl (n + 1) (bk b at') t) = pl n b (phi n b at' t)
  | 0 => by
    have e1 : pl (n + 1) (bk b at') 0 = 0 := pl_lt (by omega)
    have e2 : pl n b 0 = 0 := pl_lt (by omega)
    rw [e1]
    show gz at' 0 = pl n b 0
    rw [e2]; rfl
  | t + 1 => by
    have ih := phi_pl hb ha t
    have hlt : pl (n + 1) (bk b at') t < n + 1 := pl_bd' (bk_lt hb)
    rw [pl_succ (bk_lt hb), gz_nx hb ha hlt, phi]
    by_cases c : pl (n + 1) (bk b at') t = at'
    · rw [if_pos c, if_pos c, ← ih, c]
      unfold gz; rw [if_pos (Nat.le_refl _)]
    · rw [if_neg c, if_neg c, ih, pl_succ hb]
theorem atW_wl {x : Lb} {A : List Int} {b : Nat} (hb : b < A.length) (t : Nat) : atW ((wl x A b).take b) ((wl x A b).drop b) t = ltr x (A.getD (pl A.length b t) 0) (A.getD (nx A.length b (pl A.length b t)) 0) := by
  have hl := wl_len x A b
  have h1 : ((wl x A b).take b).length = b := by rw [List.length_take]; omega
  have h2 : ((wl x A b).drop b).length = A.length - b := by rw [List.length_drop]; omega
  have hp := pl_bd' (t := t) hb
  rw [← wl_get x A b hp]
  unfold atW
  rw [h1, h2]
  by_cases c : t < b
  · rw [if_pos c, pl_lt (show t < A.length by omega), List.getD_eq_getElem?_getD, List.getElem?_take, if_pos c, ← List.getD_eq_getElem?_getD]
  · rw [if_neg c, List.getD_eq_getElem?_getD, List.getElem?_drop, ← List.getD_eq_getElem?_getD]
    unfold pl; rw [if_neg c]
def stL (x : Lb) : List Int := (L x.st).filter fun v => !decide (v = -1)
section
variable {x : Lb} (hk : LbOk x)
include hk
theorem ltr_tb {s : Int} (t : Int) (hs : 0 ≤ s ∧ s < x.g.n) (k : Nat) : tb (ltr x s t) k = ((tb ((L x.la).getD s.toNat 0) k || (actsL (L x.g.edges) s t).any fun a => decide ((L x.st).getD a.toNat 0 = (k : Int))) || anyF (fun i => enb x s (i : Nat) && decide ((L x.en).getD i 0 = (k : Int))) 0 (L x.en).length) := by
  have hla := hk.la
  have h0 := hk.lv s.toNat (by omega)
  obtain ⟨p1, p2⟩ := lt1_ok hk (actsL (L x.g.edges) s t) _ (fun a ha => acts_in hk ha) h0
  obtain ⟨q1, q2⟩ := lt2_ok hk s (L x.en).length 0 _ (by omega) p1
  rw [show tb (ltr x s t) k = _ from q2 k, p2]
omit hk in
theorem acts_self (s : Int) : actsL (L x.g.edges) s s = [] := by
  unfold actsL
  rw [List.filter_eq_nil_iff.2 (fun e _ => by unfold qst; simp)]; rfl
omit hk in
theorem bit_nat (c : Int) (m : Int) : bit c m = tb c m.toNat := bit_tb
theorem self_le {s : Int} (t : Int) (hs : 0 ≤ s ∧ s < x.g.n) (m : Int) (h : bit (ltr x s s) m = true) : bit (ltr x s t) m = true := by
  rw [bit_nat, ltr_tb hk _ hs, acts_self] at h
  rw [bit_nat, ltr_tb hk _ hs]
  simp only [List.any_nil, Bool.or_false, Bool.or_eq_true] at h
  rcases h with h | h
  · rw [h]; simp
  · rw [h]; simp
theorem self_eq {s : Int} (t : Int) (hs : 0 ≤ s ∧ s < x.g.n) (m : Int) (hm0 : 0 ≤ m) (hm : m ∉ stL x) : bit (ltr x s s) m = bit (ltr x s t) m := by
  rw [bit_nat, bit_nat, ltr_tb hk _ hs, ltr_tb hk _ hs, acts_self]
  have e : ((actsL (L x.g.edges) s t).any fun a => decide ((L x.st).getD a.toNat 0 = ((m.toNat : Nat) : Int))) = false := by
    rw [List.any_eq_false]
    intro a ha
    obtain ⟨a0, a1⟩ := acts_in hk ha
    rw [decide_eq_true_iff]
    intro e
    refine hm ?_
    unfold stL
    have hlt : a.toNat < (L x.st).length := by omega
    refine List.mem_filter.2 ⟨?_, ?_⟩
    · rw [show m = (L x.st).getD a.toNat 0 by omega, List.getD_eq_getElem?_getD, List.getElem?_eq_getElem hlt]; exact List.getElem_mem hlt
    · have : ¬ m = -1 := by omega
      rw [decide_eq_false this]; rfl
  rw [e]; rfl
theorem sem_rep {F : List Nd} (hF : Ok F) {A : List Int} {b at' : Nat} (hb : b < A.length) (ha : at' < A.length) (hin : ∀ i, i < A.length → 0 ≤ A.getD i 0 ∧ A.getD i 0 < x.g.n) (hg : gR F (stL x) F.length (F.length - 1) = true) :
    sem (atW ((wl x (rpA A at') (bk b at')).take (bk b at')) ((wl x (rpA A at') (bk b at')).drop (bk b at'))) F 0 = sem (atW ((wl x A b).take b) ((wl x A b).drop b)) F 0 := by
  have hp := hF.pos
  have hlen := rpA_len ha
  have hb2 : bk b at' < (rpA A at').length := by rw [hlen]; exact bk_lt hb
  have hw := phi_walk (n := A.length) (b := b) (at' := at') hb ha
  -- the letters
  have hv : ∀ t, atW ((wl x (rpA A at') (bk b at')).take (bk b at')) ((wl x (rpA A at') (bk b at')).drop (bk b at')) t = if pl (A.length + 1) (bk b at') t = at' then ltr x (A.getD (pl A.length b (phi A.length b at' t)) 0) (A.getD (pl A.length b (phi A.length b at' t)) 0) else ltr x (A.getD (pl A.length b (phi A.length b at' t)) 0) (A.getD (nx A.length b (pl A.length b (phi A.length b at' t))) 0) := fun t => by
    have hlt : pl (A.length + 1) (bk b at') t < A.length + 1 := pl_bd' (bk_lt hb)
    have hnx : nx (A.length + 1) (bk b at') (pl (A.length + 1) (bk b at') t) < A.length + 1 := by
      unfold nx; have := bk_lt (at' := at') hb; split <;> omega
    rw [atW_wl hb2, hlen, rpA_get ha hlt, rpA_get ha hnx, gz_nx hb ha hlt, phi_pl hb ha]
    by_cases c : pl (A.length + 1) (bk b at') t = at'
    · rw [if_pos c, if_pos c]
      have := phi_pl hb ha t
      rw [c] at this
      unfold gz at this
      rw [if_pos (Nat.le_refl _)] at this
      rw [← this]
    · rw [if_neg c, if_neg c]
  have hu : ∀ t, atW ((wl x A b).take b) ((wl x A b).drop b) t = ltr x (A.getD (pl A.length b t) 0) (A.getD (nx A.length b (pl A.length b t)) 0) := fun t => atW_wl hb t
  have hst : ∀ t, 0 ≤ A.getD (pl A.length b t) 0 ∧ A.getD (pl A.length b t) 0 < x.g.n := fun t => hin _ (pl_bd' hb)
  have := tv_walk hw (u := atW ((wl x A b).take b) ((wl x A b).drop b)) (v := atW ((wl x (rpA A at') (bk b at')).take (bk b at')) ((wl x (rpA A at') (bk b at')).drop (bk b at'))) (st := stL x)
    (fun i m hm0 hm => by
      rw [hv, hu]
      by_cases c : pl (A.length + 1) (bk b at') i = at'
      · rw [if_pos c]; exact self_eq hk _ (hst _) m hm0 hm
      · rw [if_neg c])
    (fun i m h => by
      rw [hv] at h
      rw [hu]
      by_cases c : pl (A.length + 1) (bk b at') i = at'
      · rw [if_pos c] at h; exact self_le hk _ (hst _) m h
      · rw [if_neg c] at h; exact h)
    (fun i h => by rw [hv, hu, if_neg h]) hF.good F.length (F.length - 1) (by omega) (by omega) hg 0
  exact this
end
theorem stA_self (x : Lb) (s a : Int) : stA x s s a = false := by
  unfold stA; rw [acts_self]; simp
theorem tkn_iff {x : Lb} {Q : List Int} {a : Int} : tkn x Q a = true ↔ ∃ i, i < Q.length ∧ stA x (Q.getD i 0) (Q.getD (nx Q.length 0 i) 0) a = true := by
  unfold tkn
  rw [anyF_iff]
  constructor
  · rintro ⟨j, _, h2, h3⟩; exact ⟨j, by omega, h3⟩
  · rintro ⟨j, h2, h3⟩; exact ⟨j, Nat.zero_le _, by omega, h3⟩
theorem tkn_rep (x : Lb) {Q : List Int} {k : Nat} (h : k < Q.length) (a : Int) : tkn x (rpA Q k) a = tkn x Q a := by
  have hlen := rpA_len h
  have hb : 0 < Q.length := by omega
  have eb : bk 0 k = 0 := by unfold bk; rw [if_neg (by omega)]
  have key : ∀ i, i < Q.length + 1 → stA x ((rpA Q k).getD i 0) ((rpA Q k).getD (nx (Q.length + 1) 0 i) 0) a = if i = k then false else stA x (Q.getD (gz k i) 0) (Q.getD (nx Q.length 0 (gz k i)) 0) a := fun i hi => by
    have hnx : nx (Q.length + 1) 0 i < Q.length + 1 := by unfold nx; split <;> omega
    have hg := gz_nx (b := 0) hb h hi
    rw [eb] at hg
    rw [rpA_get h hi, rpA_get h hnx, hg]
    by_cases c : i = k
    · subst c
      rw [if_pos rfl, if_pos rfl]
      have : gz i i = i := by unfold gz; rw [if_pos (Nat.le_refl _)]
      rw [this]; exact stA_self x _ a
    · rw [if_neg c, if_neg c]
  rw [Bool.eq_iff_iff, tkn_iff, tkn_iff, hlen]
  constructor
  · rintro ⟨i, h1, h2⟩
    rw [key i h1] at h2
    by_cases c : i = k
    · rw [if_pos c] at h2; exact absurd h2 (by simp)
    · rw [if_neg c] at h2
      exact ⟨gz k i, by unfold gz; split <;> omega, h2⟩
  · rintro ⟨j, h1, h2⟩
    by_cases c : j < k
    · refine ⟨j, by omega, ?_⟩
      rw [key j (by omega), if_neg (by omega)]
      have : gz k j = j := by unfold gz; rw [if_pos (by omega)]
      rw [this]; exact h2
    · refine ⟨j + 1, by omega, ?_⟩
      rw [key (j + 1) (by omega), if_neg (by omega)]
      have : gz k (j + 1) = j := by unfold gz; rw [if_neg (by omega)]; omega
      rw [this]; exact h2
theorem any_rep (q : Int → Bool) {Q : List Int} {k : Nat} (h : k < Q.length) : (rpA Q k).any q = Q.any q := by
  rw [Bool.eq_iff_iff, List.any_eq_true, List.any_eq_true]
  unfold rpA
  constructor
  · rintro ⟨s, h1, h2⟩
    rcases List.mem_append.1 h1 with h1 | h1
    · exact ⟨s, List.mem_of_mem_take h1, h2⟩
    · exact ⟨s, List.mem_of_mem_drop h1, h2⟩
  · rintro ⟨s, h1, h2⟩
    refine ⟨s, ?_, h2⟩
    rw [← List.take_append_drop k Q] at h1
    rcases List.mem_append.1 h1 with h1 | h1
    · refine List.mem_append_left _ ?_
      exact (List.take_subset_take_left Q (show k ≤ k + 1 by omega)) h1
    · exact List.mem_append_right _ h1
theorem isF_rep (x : Lb) {Q : List Int} {k : Nat} (h : k < Q.length) : isF x (rpA Q k) = isF x Q := by
  have e1 : okW x (rpA Q k) = okW x Q := funext fun a => by unfold okW; rw [any_rep _ h, tkn_rep x h]
  have e2 : okS x (rpA Q k) = okS x Q := funext fun a => by unfold okS; rw [any_rep _ h, tkn_rep x h]
  unfold isF
  rw [e1, e2]
theorem scnP_none {p : Nat → Bool} {e : Int} {s : Int × Int} : ∀ (k i : Nat), (∀ j, i ≤ j → j < i + k → p j = false) → scnP p e s i k = s
  | 0, i, h => rfl
  | k + 1, i, h => by
    unfold scnP
    rw [if_neg (by rw [h i (Nat.le_refl _) (by omega)]; simp)]
    exact scnP_none k (i + 1) fun j h1 h2 => h j (by omega) (by omega)
theorem prm_self (x : Lb) (s : Int) : prm x s s = true := by unfold prm; rw [decide_eq_true rfl, Bool.true_or]
end Las
end Go.D
end
/- Equations of functions 12, printed by gen.py. -/
section
set_option linter.unusedVariables false
set_option maxRecDepth 10000
namespace Go.D
open Go.Proofs
noncomputable section
variable (G : GuardT) (lo : Nat) {σ : Store} {r : DV × Store}
open _root_.Go.D.Code (fstC sndC)
open _root_.Go.D.Ann (left right)
def lstr0 : ByteArray := ⟨#[40, 112, 48, 32, 126, 62, 32, 60, 62, 112, 49, 41]⟩
def c12_0 : Code := bodyOf Tryz.f12
def a12_0 : Ann := (pol 12).ann
def F12 (σ : Store) : RS :=
 codeF G PP (pol 12) CC lo c12_0 a12_0 (zn 80 []) σ (finR PP Tryz.f12.results.toList)
theorem F12_eq (G : GuardT) (lo : Nat) (σ : Store) : F12 G lo σ =
 (pureFn CC (DV.fn 48 []) [(DV.p (PV.str lstr0))] σ).bind fun x11 =>
 (extractV x11 0).bind fun x12 =>
 (extractV x11 1).bind fun x13 =>
 (extractV x11 2).bind fun x14 =>
 (pureFn CC (DV.fn 62 []) [I0] σ).bind fun x16 =>
 (pureFn CC (DV.fn 62 []) [I1] σ).bind fun x17 =>
 (buildSlice PP none 64 2 [(0, x16), (1, x17)] σ).bind fun r18_1 =>
 (pureFn CC (DV.fn 38 []) [(DV.p (PV.int IntKind.i64 (8))), r18_1.1] r18_1.2).bind fun x19 =>
 (buildSlice PP none 24 2 [(0, I0), (1, I1)] r18_1.2).bind fun r20_2 =>
 (buildSlice PP none 24 2 [(0, (DV.p (PV.int IntKind.i64 (2)))), (1, I0)] r20_2.2).bind fun r21_3 =>
 (build PP 26 [(0, r20_2.1), (1, r21_3.1)]).bind fun x22 =>
 (pureFn CC (DV.fn 20 []) [x19, x22] r21_3.2).bind fun x23 =>
 (extractV x23 0).bind fun x24 =>
 (extractV x23 1).bind fun x25 =>
 (buildSlice PP none 24 3 [(0, I1), (1, I1), (2, (DV.p (PV.int IntKind.i64 (2))))] r21_3.2).bind fun r27_4 =>
 (buildSlice PP none 24 3 [(0, (DV.p (PV.int IntKind.i64 (3)))), (1, (DV.p (PV.int IntKind.i64 (2)))), (2, (DV.p (PV.int IntKind.i64 (2))))] r27_4.2).bind fun r28_5 =>
 (build PP 26 [(0, r27_4.1), (1, r28_5.1)]).bind fun x29 =>
 (pureFn CC (DV.fn 32 []) [x29] r28_5.2).bind fun x30 =>
 (extractV x30 0).bind fun x31 =>
 (extractV x30 1).bind fun x32 =>
 (zeroOf PP 26).bind fun z6 =>
 (store PP lo 26 (DV.ptr (List.length r28_5.2) 0) x31 (r28_5.2 ++ [Row.mix z6])).bind fun σ6 =>
 (pureFn CC (DV.fn 63 []) [(DV.p PV.nilsl)] σ6).bind fun x34 =>
 (pureFn CC (DV.fn 62 []) [I0] σ6).bind fun x35 =>
 (buildSlice PP none 64 1 [(0, x35)] σ6).bind fun r36_7 =>
 (pureFn CC (DV.fn 38 []) [(DV.p (PV.int IntKind.i64 (7))), r36_7.1] r36_7.2).bind fun x37 =>
 (pureFn CC (DV.fn 27 []) [x34, x37, (DV.p (PV.int IntKind.i64 (2)))] r36_7.2).bind fun x38 =>
 (extractV x38 0).bind fun x39 =>
 (extractV x38 1).bind fun x40 =>
 (zeroOf PP 52).bind fun z8 =>
 (store PP lo 52 (DV.ptr (List.length r36_7.2) 0) x39 (r36_7.2 ++ [Row.mix z8])).bind fun σ8 =>
 (binOp PP .eql 30 x14 I0).bind fun x42 =>
 G _ x42 true (some (x13, σ8)) σ8 fun x44 σ9 =>
 G _ x42 true ((binOp PP .eql 3 x44 (DV.p (PV.int IntKind.i64 (12)))).bind fun v => some (v, σ9)) σ9 fun x45 σ10 =>
 (pickV x42 x45 (DV.p (PV.bool false))).bind fun x46 =>
 G _ x46 true (some (x12, σ10)) σ10 fun x48 σ11 =>
 G _ x46 true ((len PP 23 x48 σ11).bind fun v => some (v, σ11)) σ11 fun x49 σ12 =>
 G _ x46 true ((binOp PP .eql 3 x49 (DV.p (PV.int IntKind.i64 (4)))).bind fun v => some (v, σ12)) σ12 fun x50 σ13 =>
 (pickV x46 x50 (DV.p (PV.bool false))).bind fun x51 =>
 G _ x51 true (some (x25, σ13)) σ13 fun x53 σ14 =>
 G _ x51 true ((binOp PP .eql 30 x53 I0).bind fun v => some (v, σ14)) σ14 fun x54 σ15 =>
 (pickV x51 x54 (DV.p (PV.bool false))).bind fun x55 =>
 G _ x55 true (some (x24, σ15)) σ15 fun x57 σ16 =>
 (pickV x55 x57 (DV.p (PV.bool false))).bind fun x58 =>
 G _ x58 true (some (x32, σ16)) σ16 fun x60 σ17 =>
 G _ x58 true ((binOp PP .eql 30 x60 I0).bind fun v => some (v, σ17)) σ17 fun x61 σ18 =>
 (pickV x58 x61 (DV.p (PV.bool false))).bind fun x62 =>
 G _ x62 true ((load PP 26 (DV.ptr (List.length r28_5.2) 0) σ18).bind fun v => some (v, σ18)) σ18 fun x64 σ19 =>
 G _ x62 true ((buildSlice PP none 24 1 [(0, I1)] σ19).bind fun r => some (r.1, r.2)) σ19 fun x65 σ20 =>
 G _ x62 true ((buildSlice PP none 24 2 [(0, (DV.p (PV.int IntKind.i64 (2)))), (1, (DV.p (PV.int IntKind.i64 (3))))] σ20).bind fun r => some (r.1, r.2)) σ20 fun x66 σ21 =>
 G _ x62 true ((build PP 26 [(0, x65), (1, x66)]).bind fun v => some (v, σ21)) σ21 fun x67 σ22 =>
 G _ x62 true ((pureFn CC (DV.fn 33 []) [x64, x67] σ22).bind fun v => some (v, σ22)) σ22 fun x68 σ23 =>
 (pickV x62 x68 (DV.p (PV.bool false))).bind fun x69 =>
 G _ x69 true (some (x40, σ23)) σ23 fun x71 σ24 =>
 G _ x69 true ((binOp PP .eql 30 x71 I0).bind fun v => some (v, σ24)) σ24 fun x72 σ25 =>
 (pickV x69 x72 (DV.p (PV.bool false))).bind fun x73 =>
 G _ x73 true ((load PP 52 (DV.ptr (List.length r36_7.2) 0) σ25).bind fun v => some (v, σ25)) σ25 fun x75 σ26 =>
 G _ x73 true ((buildSlice PP none 24 1 [(0, I0)] σ26).bind fun r => some (r.1, r.2)) σ26 fun x76 σ27 =>
 G _ x73 true ((build PP 52 [(1, x76)]).bind fun v => some (v, σ27)) σ27 fun x77 σ28 =>
 G _ x73 true ((pureFn CC (DV.fn 29 []) [x75, x77] σ28).bind fun v => some (v, σ28)) σ28 fun x78 σ29 =>
 (pickV x73 x78 (DV.p (PV.bool false))).bind fun x79 =>
 some (x79, σ29) := by kernel_rfl
theorem F12_call {lo : Nat} (h : F12 guardT lo σ = some r) : CC lo 12 [] σ = some r :=
 callL_run Tryz.func12 (by decide +kernel) rfl (by decide +kernel) h
end
end Go.D
end
