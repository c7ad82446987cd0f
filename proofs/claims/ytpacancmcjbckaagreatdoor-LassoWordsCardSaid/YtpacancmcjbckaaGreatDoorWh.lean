/- LassoWords: for every word the law answers true and leaves its argument as it was: the given tied card, without further conditions. -/
import Derived.Test.YtpacancmcjbckaaGreatDoorWd
import Derived.Test.YtpacancmcjbckaaGreatDoorWf
import Derived.Test.YtpacancmcjbckaaGreatDoorWg
import Derived.Test.YtpacancmcjbckaaGreatDoorTie
import Derived.Test.YtpacancmcjbckaaGreatDoorCards
import Derived.SevenTiedAt
/- Chapter 13: errors of words, copies, comparisons, in the program and in the reference. -/
section
set_option linter.unusedVariables false
set_option linter.unusedSimpArgs false
namespace Go.D
open Las
theorem fn_view (f : FuncId) (caps : List DV) : view (.fn f caps) = .fn f caps := rfl
def idxFrom {α : Type} (q : α → Bool) : List α → Nat → Int
  | [], _ => -1
  | v :: l, i => if q v = true then (i : Int) else idxFrom q l (i + 1)
theorem idxFrom_ge {α : Type} (q : α → Bool) : ∀ (l : List α) (i : Nat), decide (idxFrom q l i ≥ 0) = l.any q
  | [], i => by simp [idxFrom]
  | v :: l, i => by
    unfold idxFrom
    by_cases h : q v = true
    · rw [if_pos h, List.any_cons, h]
      simp
    · rw [if_neg h, List.any_cons, (Bool.not_eq_true _).mp h, Bool.false_or]
      exact idxFrom_ge q l (i + 1)
theorem L122 {o : OI} {f : FuncId} {caps : List DV} {σ : Store} {lo : Nat} {q : Int → Bool} (hl : (L o).length ≤ 100000) (hq : ∀ v, pureV CC f (.p (.int .i64 v) :: caps) σ = some (.p (.bool (q v)))) :
    ∀ (k i : Nat), (L o).length - i = k → i ≤ (L o).length → f122_L0 guardT lo (.p (eSl o)) (.fn f caps) (N (L o).length) (N i) σ = some (.p (.int .i64 (idxFrom q ((L o).drop i) i)), σ)
  | 0, i, hk, hi => by
    rw [f122_L0_eq guardT rfl, List.drop_eq_nil_of_le (by omega)]
    simp (disch := omega) only [N, b_lss, ltF, gG, idxFrom]
  | k + 1, i, hk, hi => by
    have h : i < (L o).length := by omega
    have ih := L122 (lo := lo) hl hq k (i + 1) (by omega) (by omega)
    rw [f122_L0_eq guardT rfl, drop_cons h]
    simp (disch := omega) only [N, b_lss, ltT, gG, (PL.sl o).idx h, load3, load1_getD h, pureFn_fn, List.singleton_append, hq, idxFrom]
    cases q ((L o).getD i 0) with
    | true => simp only [gG, if_true]
    | false =>
      simp (disch := omega) only [gG, add1, Bool.false_eq_true, if_false]
      exact ih
theorem S122 {o : OI} {f : FuncId} {caps : List DV} {q : Int → Bool} (hl : (L o).length ≤ 100000) (hc : caps.all rowFree1 = true) (hq : ∀ v, pureV CC f (.p (.int .i64 v) :: caps) [] = some (.p (.bool (q v)))) (σ : Store) :
    pureV CC 122 [.p (eSl o), .fn f caps] σ = some (.p (.int .i64 (idxFrom q (L o) 0))) := by
  refine pureV_free (by simp [sl_view, fn_view]) (by simp [rowFree, rowFree1] at hc ⊢; exact hc) (F122_call (r := (.p (.int .i64 (idxFrom q (L o) 0)), [])) ?_) rfl
  rw [F122_eq]
  simp only [(PL.sl o).len, obind]
  have := L122 (lo := 0) hl hq _ 0 rfl (Nat.zero_le _)
  simpa [N] using this
theorem S68 {o : OI} {f : FuncId} {caps : List DV} {q : Int → Bool} (hl : (L o).length ≤ 100000) (hc : caps.all rowFree1 = true) (hq : ∀ v, pureV CC f (.p (.int .i64 v) :: caps) [] = some (.p (.bool (q v)))) (σ : Store) :
    pureV CC 68 [.p (eSl o), .fn f caps] σ = some (.p (.bool ((L o).any q))) := by
  refine pureV_free (by simp [sl_view, fn_view]) (by simp [rowFree, rowFree1] at hc ⊢; exact hc) (F68_call (r := (.p (.bool ((L o).any q)), [])) ?_) rfl
  rw [F68_eq]
  simp only [shift_ptr, shift_pptr, Nat.zero_add, Nat.add_zero, pureFn_fn, List.append_nil, List.singleton_append, List.cons_append, List.nil_append, S122 hl hc hq, gG, b_geq, idxFrom_ge]
def oddB (n : Int) : Bool := !inR n 0 4095
theorem S64 (n : Int) (σ : Store) : pureV CC 64 [.p (.int .i64 n)] σ = some (.p (.bool (oddB n))) := by
  refine pureV_free rfl rfl (F64_call (r := (.p (.bool (oddB n)), [])) ?_) rfl
  rw [F64_eq]
  simp only [shift_ptr, shift_pptr, Nat.zero_add, Nat.add_zero, pureFn_fn, List.append_nil, List.singleton_append, List.cons_append, List.nil_append, S65, gG]
  rfl
def wErr (P Q : List Int) : Int := if Q.length = 0 then 1 else if P.length + Q.length > 60 then 2 else if (P.any oddB || Q.any oddB) = true then 3 else 0
theorem S15 {w : Wd} (h0 : (L w.p).length ≤ 1000) (h1 : (L w.l).length ≤ 1000) (σ : Store) : pureV CC 15 [vWd w] σ = some (.p (.int .i64 (wErr (L w.p) (L w.l)))) := by
  refine pureV_free (by simp [wd_view]) (by simp [wd_free]) (F15_call (r := (.p (.int .i64 (wErr (L w.p) (L w.l))), [])) ?_) rfl
  have q0 := S68 (o := w.p) (f := 64) (caps := []) (q := oddB) (by omega) rfl (fun v => S64 v _) []
  have q1 := S68 (o := w.l) (f := 64) (caps := []) (q := oddB) (by omega) rfl (fun v => S64 v _) []
  have e2 : ∀ a b : Int, [pI a, pI b] = eInts [a, b] := fun _ _ => rfl
  have q2 : ∀ a b : Int, pureV CC 66 [.p (.sl true 2 [pI a, pI b])] [] = some (.p (.int .i64 (orL [a, b]))) := fun a b => S66 (ex := true) (l := [a, b]) (by simp) []
  rw [F15_eq]
  simp only [box_wd, gG, fa26_0, fa26_1, shift_ptr, shift_pptr, Nat.zero_add, Nat.add_zero, pureFn_fn, List.append_nil, List.singleton_append, List.cons_append, List.nil_append, load24, wd_0, wd_1, (PL.sl _).len, b_eql, S67, addN (show (L w.p).length + (L w.l).length ≤ 1000000 by omega), b_gtr, bs160_2, q2, b_neq]
  unfold wErr
  by_cases c1 : (L w.l).length = 0
  · have c1' : ((L w.l).length : Int) = 0 := by omega
    rw [if_pos c1, eqT c1']
    simp [wrg, orL, gG]
  · have c1' : ¬ ((L w.l).length : Int) = 0 := by omega
    rw [if_neg c1, eqF c1']
    by_cases c2 : (L w.p).length + (L w.l).length > 60
    · have c2' : (((L w.p).length + (L w.l).length : Nat) : Int) > 60 := by omega
      rw [if_pos c2, gtT c2']
      simp [wrg, orL, gG]
    · have c2' : ¬ (((L w.p).length + (L w.l).length : Nat) : Int) > 60 := by omega
      rw [if_neg c2, gtF c2']
      have e0 : decide (orL [wrg false 1, wrg false 2] = 0) = true := rfl
      simp only [e0, gG, q0]
      cases (L w.p).any oddB with
      | true =>
        simp only [gG, S67, Bool.true_or, wrg, if_true]
      | false =>
        simp only [gG, shift_ptr, shift_pptr, Nat.zero_add, Nat.add_zero, pureFn_fn, List.append_nil, List.singleton_append, List.cons_append, List.nil_append, load24, wd_1, q1, S67, Bool.false_or, wrg]
theorem app24 {x : DV} {l : List Int} (h : PL x l) (hl : l.length ≤ 1000000) (lo : Nat) (σ : Store) : ∃ y σ', append PP lo false 24 24 (.p (.sl true 0 [])) x σ = some (y, σ') ∧ PL y l ∧ thawAll lo σ' y = some (.p (eSl (some l))) := by
  by_cases hb : l = []
  · subst hb
    refine ⟨.p (.sl true 0 []), σ, ?_, .inr (.inl ⟨true, by simp; rfl⟩), rfl⟩
    simp [append, src24, u24, s3, bytes3, zero3, h.src σ, appLit]
  · have hb0 : ¬ (l.length = 0) := fun e => hb (List.length_eq_zero_iff.1 e)
    refine ⟨.osl σ.length 0 1 l.length (eInts l), σ ++ [.tok 0], ?_, .inr (.inr ⟨σ.length, 0, rfl⟩), by simp [thawAll, thawPart, thaw, thaw1, thawP, loosens_ints, eSl]⟩
    simp [append, src24, u24, s3, bytes3, zero3, h.src σ, appLit, hb0, pures_map, hb]
    omega
theorem S52 {o : OI} (hl : (L o).length ≤ 1000000) (σ : Store) : pureV CC 52 [.p (eSl o)] σ = some (.p (eSl (some (L o)))) := by
  obtain ⟨y, σ', h1, h2, h3⟩ := app24 (PL.sl o) hl 0 []
  refine pureV_free (by simp [sl_view]) rfl (F52_call (r := (y, σ')) ?_) h3
  rw [F52_eq]
  simp only [bs24_0, gG, h1]
theorem isnil_none (σ : Store) : binOp PP .eql 24 (.p (eSl none)) (.p .nilsl) = some (.p (.bool true)) := Eq.trans (by kernel_rfl) rfl
theorem isnil_some (n : Nat) (cs : List PV) : binOp PP .eql 24 (.p (.sl false n cs)) (.p .nilsl) = some (.p (.bool false)) := Eq.trans (by kernel_rfl) rfl
theorem isnil_rsl (r s o n : Nat) : binOp PP .eql 24 (.rsl r s o n) (.p .nilsl) = some (.p (.bool false)) := Eq.trans (by kernel_rfl) rfl
theorem S78 {o : OI} (hl : (L o).length ≤ 1000000) (σ : Store) : pureV CC 78 [.p (eSl o)] σ = some (.p (eSl o)) := by
  cases o with
  | none =>
    refine pureV_free rfl rfl (F78_call (r := (.p .nilsl, [])) ?_) rfl
    rw [F78_eq]
    simp only [isnil_none [], gG]
  | some l =>
    obtain ⟨y, σ', h1, h2, h3⟩ := app24 (PL.some l) hl 0 []
    refine pureV_free (by simp [sl_view]) rfl (F78_call (r := (y, σ')) ?_) h3
    rw [F78_eq]
    have e : eSl (some l) = .sl false l.length (eInts l) := rfl
    rw [e] at h1 ⊢
    simp only [isnil_some, gG, bs24_0, h1]
theorem S16 {w : Wd} (h0 : (L w.p).length ≤ 1000000) (h1 : (L w.l).length ≤ 1000000) (σ : Store) : pureV CC 16 [vWd w] σ = some (vWd ⟨some (L w.p), some (L w.l)⟩) := by
  have hst : store PP 0 26 (.ptr 0 0) (vWd ⟨some (L w.p), some (L w.l)⟩) [.mix [.p .nilsl, .p .nilsl]] = some [.mix [.p (eSl (some (L w.p))), .p (eSl (some (L w.l)))]] := st26 (σ := [.mix [.p .nilsl, .p .nilsl]]) rfl (Nat.le_refl _) rfl rfl rfl
  have hce : cellV PP 26 (.ptr 0 0) [.mix [.p (eSl (some (L w.p))), .p (eSl (some (L w.l)))]] = some (vWd ⟨some (L w.p), some (L w.l)⟩) := cell26 rfl rfl
  refine pureV_free (by simp [wd_view]) (by simp [wd_free]) (F16_call (r := (vWd ⟨some (L w.p), some (L w.l)⟩, [.mix [.p (eSl (some (L w.p))), .p (eSl (some (L w.l)))]])) ?_) (by simp [thawAll, thawPart, vWd, mapO, thaw, thaw1, thawP, loosen_sl])
  have hb : build PP 26 [(0, .p (eSl (some (L w.p)))), (1, .p (eSl (some (L w.l))))] = some (vWd ⟨some (L w.p), some (L w.l)⟩) := bld26 rfl rfl
  rw [F16_eq]
  simp only [box_wd, gG, zero26, List.nil_append, List.length_nil, fa26_0, fa26_1, shift_ptr, shift_pptr, Nat.zero_add, Nat.add_zero, pureFn_fn, List.append_nil, List.singleton_append, List.cons_append, List.nil_append, load24, wd_0, wd_1, S52 h0, S52 h1, hb, hst, hce]
theorem S14 (w : Wd) (σ : Store) : pureV CC 14 [vWd w] σ = some (.p (.bool (decide ((L w.p).length ≤ 70) && decide ((L w.l).length ≤ 70)))) := by
  refine pureV_free (by simp [wd_view]) (by simp [wd_free]) (F14_call (r := (.p (.bool (decide ((L w.p).length ≤ 70) && decide ((L w.l).length ≤ 70))), [])) ?_) rfl
  rw [F14_eq]
  simp only [box_wd, gG, fa26_0, fa26_1, shift_ptr, shift_pptr, Nat.zero_add, Nat.add_zero, pureFn_fn, List.append_nil, List.singleton_append, List.cons_append, List.nil_append, load24, wd_0, wd_1, (PL.sl _).len, b_leq]
  by_cases h : (L w.p).length ≤ 70
  · have h' : ((L w.p).length : Int) ≤ 70 := by omega
    simp only [leT h', gG, shift_ptr, shift_pptr, Nat.zero_add, Nat.add_zero, pureFn_fn, List.append_nil, List.singleton_append, List.cons_append, List.nil_append, load24, wd_1, (PL.sl _).len, b_leq, decide_eq_true h, Bool.true_and]
    congr 4
    exact decide_eq_decide.2 (by omega)
  · have h' : ¬ ((L w.p).length : Int) ≤ 70 := by omega
    simp only [leF h', gG, decide_eq_false h, Bool.false_and]
theorem S69 {w : Wd} {i : Nat} (hi : i < (L w.p).length + (L w.l).length) (hl : (L w.p).length + (L w.l).length ≤ 100000) (σ : Store) : pureV CC 69 [vWd w, .p (.int .i64 (i : Nat))] σ = some (.p (.int .i64 (atW (L w.p) (L w.l) i))) := by
  refine pureV_free (by simp only [List.map_cons, List.map_nil, wd_view]; rfl) (by simp only [List.all_cons, wd_free]; rfl) (F69_call (r := (.p (.int .i64 (atW (L w.p) (L w.l) i)), [])) ?_) rfl
  rw [F69_eq]
  simp only [box_wd, gG, fa26_0, fa26_1, shift_ptr, shift_pptr, Nat.zero_add, Nat.add_zero, pureFn_fn, List.append_nil, List.singleton_append, List.cons_append, List.nil_append, load24, wd_0, wd_1, (PL.sl _).len, b_lss]
  unfold atW
  by_cases h : i < (L w.p).length
  · have h' : (i : Int) < ((L w.p).length : Nat) := by omega
    simp only [ltT h', gG, (PL.sl w.p).idx h, load3, load1_getD h, if_pos h]
  · have h' : ¬ (i : Int) < ((L w.p).length : Nat) := by omega
    have hm : (i - (L w.p).length) % (L w.l).length < (L w.l).length := Nat.mod_lt _ (by omega)
    simp (disch := omega) only [ltF h', gG, subN, remN, (PL.sl w.l).idx hm, load3, load1_getD hm, if_neg h]
def anyAt (P Q : List Int) : Nat → Nat → Bool
  | 0, _ => false
  | d + 1, i => oddB (atW P Q i) || anyAt P Q d (i + 1)
theorem L17 {w : Wd} (hl : (L w.p).length + (L w.l).length ≤ 100000) (lo : Nat) (σ : Store) : ∀ (d i : Nat), (L w.p).length + (L w.l).length - i = d → i ≤ (L w.p).length + (L w.l).length →
    f17_L0 guardT lo (.pptr (eWd w) 0) (N i) σ = some (.p (.int .i64 (if anyAt (L w.p) (L w.l) d i = true then 3 else 0)), σ)
  | 0, i, hd, hi => by
    have e : i = (L w.p).length + (L w.l).length := by omega
    rw [f17_L0_eq guardT rfl]
    simp (disch := omega) only [N, fa26_0, fa26_1, shift_ptr, shift_pptr, Nat.zero_add, Nat.add_zero, pureFn_fn, List.append_nil, List.singleton_append, List.cons_append, List.nil_append, load24, wd_0, wd_1, (PL.sl _).len, gG, addN, b_lss, ltF, anyAt, Bool.false_eq_true, if_false]
  | d + 1, i, hd, hi => by
    have ih := L17 hl lo σ d (i + 1) (by omega) (by omega)
    have h69 := S69 (w := w) (i := i) (by omega) hl σ
    rw [f17_L0_eq guardT rfl]
    simp (disch := omega) only [N, fa26_0, fa26_1, shift_ptr, shift_pptr, Nat.zero_add, Nat.add_zero, pureFn_fn, List.append_nil, List.singleton_append, List.cons_append, List.nil_append, load24, wd_0, wd_1, (PL.sl _).len, gG, addN, b_lss, ltT, load26, wd_all, h69, S26, anyAt]
    have e : (!inR (atW (L w.p) (L w.l) i) 0 4095) = oddB (atW (L w.p) (L w.l) i) := rfl
    rw [e]
    by_cases ho : oddB (atW (L w.p) (L w.l) i) = true
    · simp only [ho, gG, Bool.true_or, if_true]
    · simp (disch := omega) only [(Bool.not_eq_true _).mp ho, gG, add1, Bool.false_or]
      exact ih
theorem anyAt_iff (P Q : List Int) : ∀ d i, anyAt P Q d i = true ↔ ∃ j, i ≤ j ∧ j < i + d ∧ oddB (atW P Q j) = true
  | 0, i => by
    simp only [anyAt, Bool.false_eq_true, false_iff]
    rintro ⟨j, h1, h2, _⟩
    omega
  | d + 1, i => by
    rw [anyAt, Bool.or_eq_true, anyAt_iff P Q d (i + 1)]
    constructor
    · rintro (h | ⟨j, h1, h2, h3⟩)
      · exact ⟨i, Nat.le_refl _, by omega, h⟩
      · exact ⟨j, by omega, by omega, h3⟩
    · rintro ⟨j, h1, h2, h3⟩
      by_cases e : j = i
      · subst e; exact .inl h3
      · exact .inr ⟨j, by omega, by omega, h3⟩
theorem anyAt_all (P Q : List Int) : anyAt P Q (P.length + Q.length) 0 = (P.any oddB || Q.any oddB) := by
  rw [Bool.eq_iff_iff, anyAt_iff, Bool.or_eq_true, List.any_eq_true, List.any_eq_true]
  constructor
  · rintro ⟨j, _, h2, h3⟩
    by_cases hj : j < P.length
    · unfold atW at h3
      rw [if_pos hj, List.getD_eq_getElem?_getD, List.getElem?_eq_getElem hj] at h3
      exact .inl ⟨_, List.getElem_mem hj, h3⟩
    · have hk : j - P.length < Q.length := by omega
      unfold atW at h3
      rw [if_neg hj, Nat.mod_eq_of_lt hk, List.getD_eq_getElem?_getD, List.getElem?_eq_getElem hk] at h3
      exact .inr ⟨_, List.getElem_mem hk, h3⟩
  · rintro (⟨v, hv, h⟩ | ⟨v, hv, h⟩)
    · obtain ⟨j, hj, rfl⟩ := List.getElem_of_mem hv
      refine ⟨j, Nat.zero_le _, by omega, ?_⟩
      unfold atW
      rw [if_pos hj, List.getD_eq_getElem?_getD, List.getElem?_eq_getElem hj]
      exact h
    · obtain ⟨j, hj, rfl⟩ := List.getElem_of_mem hv
      refine ⟨P.length + j, Nat.zero_le _, by omega, ?_⟩
      rw [atW_loop hj, List.getD_eq_getElem?_getD, List.getElem?_eq_getElem hj]
      exact h
theorem S17 {w : Wd} (h0 : (L w.p).length ≤ 1000) (h1 : (L w.l).length ≤ 1000) (σ : Store) : pureV CC 17 [vWd w] σ = some (.p (.int .i64 (wErr (L w.p) (L w.l)))) := by
  refine pureV_free (by simp [wd_view]) (by simp [wd_free]) (F17_call (r := (.p (.int .i64 (wErr (L w.p) (L w.l))), [])) ?_) rfl
  have hL := L17 (w := w) (by omega) 0 [] _ 0 rfl (Nat.zero_le _)
  rw [Nat.sub_zero, anyAt_all] at hL
  rw [F17_eq]
  simp only [box_wd, gG, fa26_0, fa26_1, shift_ptr, shift_pptr, Nat.zero_add, Nat.add_zero, pureFn_fn, List.append_nil, List.singleton_append, List.cons_append, List.nil_append, load24, wd_0, wd_1, (PL.sl _).len, b_eql, addN (show (L w.p).length + (L w.l).length ≤ 1000000 by omega), b_gtr]
  unfold wErr
  by_cases c1 : (L w.l).length = 0
  · have c1' : ((L w.l).length : Int) = 0 := by omega
    simp only [if_pos c1, eqT c1', gG]
  · have c1' : ¬ ((L w.l).length : Int) = 0 := by omega
    by_cases c2 : (L w.p).length + (L w.l).length > 60
    · have c2' : (((L w.p).length + (L w.l).length : Nat) : Int) > 60 := by omega
      simp only [if_neg c1, if_pos c2, eqF c1', gtT c2', gG]
    · have c2' : ¬ (((L w.p).length + (L w.l).length : Nat) : Int) > 60 := by omega
      simp only [if_neg c1, if_neg c2, eqF c1', gtF c2', gG]
      exact hL
def eqFrom (a b : List Int) : Nat → Nat → Bool
  | 0, _ => true
  | d + 1, i => decide (a.getD i 0 = b.getD i 0) && eqFrom a b d (i + 1)
theorem eqFrom_iff {a b : List Int} (h : a.length = b.length) : eqFrom a b a.length 0 = decide (a = b) := by
  have key : ∀ d i, a.length - i = d → i ≤ a.length → (eqFrom a b d i = true ↔ a.drop i = b.drop i) := by
    intro d
    induction d with
    | zero =>
      intro i hd hi
      rw [List.drop_eq_nil_of_le (by omega), List.drop_eq_nil_of_le (by omega)]
      simp [eqFrom]
    | succ d ih =>
      intro i hd hi
      rw [drop_cons (show i < a.length by omega), drop_cons (show i < b.length by omega), eqFrom, Bool.and_eq_true, decide_eq_true_iff, ih (i + 1) (by omega) (by omega), List.cons.injEq]
  rw [Bool.eq_iff_iff, key a.length 0 rfl (Nat.zero_le _), decide_eq_true_iff]
  simp
theorem L80 {o o' : OI} (h : (L o).length = (L o').length) (hl : (L o).length ≤ 100000) (lo : Nat) (σ : Store) : ∀ (d i : Nat), (L o).length - i = d → i ≤ (L o).length →
    f80_L0 guardT lo (.p (eSl o)) (.p (eSl o')) (N i) σ = some (.p (.bool (eqFrom (L o) (L o') d i)), σ)
  | 0, i, hd, hi => by
    rw [f80_L0_eq guardT rfl]
    simp (disch := omega) only [N, (PL.sl _).len, gG, b_lss, ltF, eqFrom]
  | d + 1, i, hd, hi => by
    have h1 : i < (L o).length := by omega
    have h2 : i < (L o').length := by omega
    have ih := L80 h hl lo σ d (i + 1) (by omega) (by omega)
    rw [f80_L0_eq guardT rfl]
    simp (disch := omega) only [N, (PL.sl _).len, gG, b_lss, ltT, (PL.sl o).idx h1, (PL.sl o').idx h2, load3, load1_getD h1, load1_getD h2, b_neq, eqFrom]
    by_cases e : (L o).getD i 0 = (L o').getD i 0
    · simp (disch := omega) only [eqT e, gG, add1, Bool.true_and]
      exact ih
    · simp only [eqF e, gG, Bool.false_and]
theorem S80 {o o' : OI} (hl : (L o).length ≤ 100000) (σ : Store) : pureV CC 80 [.p (eSl o), .p (eSl o')] σ = some (.p (.bool (decide (L o = L o')))) := by
  refine pureV_free (by simp [sl_view]) rfl (F80_call (r := (.p (.bool (decide (L o = L o'))), [])) ?_) rfl
  rw [F80_eq]
  simp only [(PL.sl _).len, gG, b_neq]
  by_cases h : (L o).length = (L o').length
  · have h' : ((L o).length : Int) = ((L o').length : Nat) := by omega
    have := L80 h hl 0 [] _ 0 rfl (Nat.zero_le _)
    rw [Nat.sub_zero, eqFrom_iff h] at this
    simp only [eqT h', gG]
    exact this
  · have h' : ¬ ((L o).length : Int) = ((L o').length : Nat) := by omega
    have hne : ¬ (L o = L o') := fun e => h (by rw [e])
    simp only [eqF h', gG, decide_eq_false hne]
theorem S33 {u w : Wd} (h0 : (L u.p).length ≤ 100000) (h1 : (L u.l).length ≤ 100000) (σ : Store) : pureV CC 33 [vWd u, vWd w] σ = some (.p (.bool (decide (L u.p = L w.p) && decide (L u.l = L w.l)))) := by
  refine pureV_free (by simp [wd_view]) (by simp [wd_free]) (F33_call (r := (.p (.bool (decide (L u.p = L w.p) && decide (L u.l = L w.l))), [])) ?_) rfl
  rw [F33_eq]
  simp only [box_wd, gG, fa26_0, fa26_1, shift_ptr, shift_pptr, Nat.zero_add, Nat.add_zero, pureFn_fn, List.append_nil, List.singleton_append, List.cons_append, List.nil_append, load24, wd_0, wd_1, S80 h0]
  cases decide (L u.p = L w.p) with
  | true => simp only [gG, shift_ptr, shift_pptr, Nat.zero_add, Nat.add_zero, pureFn_fn, List.append_nil, List.singleton_append, List.cons_append, List.nil_append, load24, wd_1, S80 h1, Bool.true_and]
  | false => simp only [gG, Bool.false_and]
end Go.D
end
/- Chapter 13: rows of numbers: concatenated, compacted in place, repeated. -/
section
set_option linter.unusedVariables false
set_option linter.unusedSimpArgs false
namespace Go.D
open Las
def ints (l : List Int) : List DV := (eInts l).map .p
theorem ints_len (l : List Int) : (ints l).length = l.length := by simp [ints, eInts]
theorem ints_app (a b : List Int) : ints a ++ ints b = ints (a ++ b) := by simp [ints, eInts]
theorem ints_take (l : List Int) (k : Nat) : (ints l).take k = ints (l.take k) := by simp [ints, eInts, List.map_take]
theorem ints_drop (l : List Int) (k : Nat) : (ints l).drop k = ints (l.drop k) := by simp [ints, eInts, List.map_drop]
theorem ints_all (l : List Int) : (ints l).all DV.one = true := by
  rw [List.all_eq_true]
  intro x hx
  simp only [ints, eInts, List.map_map, List.mem_map] at hx
  obtain ⟨v, _, rfl⟩ := hx
  rfl
theorem ints_pures (l : List Int) : pures (ints l) = some (eInts l) := pures_map _
theorem ints_get {l : List Int} {i : Nat} (h : i < l.length) : (ints l)[i]? = some (.p (.int .i64 (l.getD i 0))) := by
  simp [ints, eInts, List.getD_eq_getElem?_getD, h]
structure RowS (σ : Store) (r off : Nat) (l : List Int) : Prop where
  ex : ∃ A, σ[r]? = some (.mix (ints A)) ∧ (A.drop off).take l.length = l ∧ off + l.length ≤ A.length
theorem RowS.idx {σ : Store} {r off : Nat} {l : List Int} (h : RowS σ r off l) {i : Nat} (hi : i < l.length) : indexAddr PP 24 (.rsl r 1 off l.length) (.p (.int .i64 (i : Nat))) = some (.ptr r (off + i)) := by
  have h2 : (0 : Int) ≤ (i : Int) ∧ (i : Int) < (l.length : Nat) := by omega
  simp [indexAddr, u24, s3, h2]
theorem rs_len (r off n : Nat) (σ : Store) : len PP 24 (.rsl r 1 off n) σ = some (.p (.int .i64 (n : Nat))) := by simp [len, u24]
theorem rs_idx {r off n i : Nat} (hi : i < n) : indexAddr PP 24 (.rsl r 1 off n) (.p (.int .i64 (i : Nat))) = some (.ptr r (off + i)) := by
  have h2 : (0 : Int) ≤ (i : Int) ∧ (i : Int) < (n : Nat) := by omega
  simp [indexAddr, u24, s3, h2]
theorem rs_ld {σ : Store} {r i : Nat} {A : List Int} (h : σ[r]? = some (.mix (ints A))) (hi : i < A.length) : load1 (.ptr r i) σ = some (.p (.int .i64 (A.getD i 0))) :=
  load1_ptr h (ints_get hi)
theorem rs_st {σ : Store} {r i lo : Nat} {A : List Int} {v : Int} (h : σ[r]? = some (.mix (ints A))) (hi : i < A.length) (hlo : lo ≤ r) : store PP lo 3 (.ptr r i) (.p (.int .i64 v)) σ = some (σ.set r (.mix (ints (A.set i v)))) := by
  have e : splice (ints A) i [DV.p (.int .i64 v)] = ints (A.set i v) := by
    have h1 : [DV.p (.int .i64 v)] = ints [v] := rfl
    unfold splice
    rw [h1, ints_take, ints_len, ints_drop, ints_app, ints_app, List.set_eq_take_append_cons_drop, if_pos hi]
    simp
  have h2 : i + 1 ≤ (ints A).length := by rw [ints_len]; omega
  simp [store, s3, DV.cells, storeN, h, hlo, DV.one, h2, e]
theorem rs_take {r off n k : Nat} (hk : k ≤ n) : sliceOp PP 24 (.rsl r 1 off n) none (some (.p (.int .i64 (k : Nat)))) none = some (.rsl r 1 off k) := by
  have hb := bound_nat hk n
  simp [sliceOp, u24, s3, hb, show bound none 0 k = some 0 from rfl]
theorem rs_drop {r off n k : Nat} (hk : k ≤ n) : sliceOp PP 24 (.rsl r 1 off n) (some (.p (.int .i64 (k : Nat)))) none none = some (.rsl r 1 (off + k) (n - k)) := by
  have hb := bound_nat hk 0
  simp [sliceOp, u24, s3, hb, show bound none n n = some n from rfl]
theorem rs_app {σ : Store} {r k lo : Nat} {A l : List Int} {x : DV} (h : σ[r]? = some (.mix (ints A))) (hx : PL x l) (hk : k + l.length ≤ A.length) (hA : A.length ≤ 100000) (hlo : lo ≤ r) :
    append PP lo true 24 24 (.rsl r 1 0 k) x σ = some (.rsl r 1 0 (k + l.length), σ.set r (.mix (ints (A.take k ++ l ++ A.drop (k + l.length))))) := by
  have e : splice (ints A) k (ints l) = ints (A.take k ++ l ++ A.drop (k + l.length)) := by
    unfold splice
    rw [ints_take, ints_len, ints_drop, ints_app, ints_app]
  have h1 : 0 + (k + l.length) * 1 ≤ (ints A).length := by rw [ints_len]; omega
  have h2 : (k + l.length) * 8 ≤ 140737488355328 ∧ k + l.length ≤ 140737488355328 ∧ 0 < 8 ∧ 1 = 1 ∧ lo ≤ r := ⟨by omega, by omega, by decide, rfl, hlo⟩
  have hs : source σ 1 x = some (l.length, ints l) := hx.src σ
  simp only [append, src24, Bool.true_eq_false, if_false, u24, s3, bytes3, zero3, List.length_singleton, ne_eq, not_true_eq_false, Nat.one_ne_zero, or_self, hs, appRow, h, ints_all, if_true, Nat.zero_add, Nat.mul_one, e]
  rw [if_pos ⟨h2.1, h2.2.1, h2.2.2.1, trivial, hlo⟩, if_pos (by rw [ints_len]; omega)]
theorem rs_lit {a l : List Int} {x : DV} (hx : PL x l) (hl : a.length + l.length ≤ 100000) (h0 : l ≠ []) (lo : Nat) (σ : Store) :
    append PP lo true 24 24 (.p (.sl true a.length (eInts a))) x σ = some (.rsl σ.length 1 0 (a ++ l).length, σ ++ [.mix (ints (a ++ l))]) := by
  have hb0 : ¬ (l.length = 0) := fun e => h0 (List.length_eq_zero_iff.1 e)
  have h2 : (a.length + l.length) * 8 ≤ 140737488355328 ∧ a.length + l.length ≤ 140737488355328 ∧ 0 < 8 ∧ (eInts a).length = a.length * 1 := ⟨by omega, by omega, by decide, by rw [ints_length]; omega⟩
  have hs : source σ 1 x = some (l.length, ints l) := hx.src σ
  have e : (eInts a).map DV.p ++ ints l = ints (a ++ l) := ints_app a l
  simp only [append, src24, Bool.true_eq_false, if_false, u24, s3, bytes3, zero3, List.length_singleton, ne_eq, not_true_eq_false, Nat.one_ne_zero, or_self, hs, appLit, if_pos h2, if_neg hb0, if_true, e, List.length_append]
theorem dups_zero (n : Nat) : dups [DV.p (pI 0)] n = ints (List.replicate n 0) := by
  induction n with
  | zero => rfl
  | succ n ih => rw [dups, ih, List.replicate_succ]; rfl
theorem u3 : PP.underlying 3 = some (.int .i64) := Eq.trans (by kernel_rfl) rfl
theorem src3 : srcType PP 3 = false := Eq.trans (by kernel_rfl) rfl
theorem S137 {s : Nat} (h0 : 0 < s) (hs : s ≤ 100000) (lo : Nat) (σ : Store) : CC lo 137 [.p .nilsl, .p (.int .i64 (s : Nat))] σ = some (.rsl σ.length 1 0 0, σ ++ [.mix (ints (List.replicate s 0))]) := by
  refine F137_call ?_
  have q0 : ¬ ((s : Int) < 0) := by omega
  have q1 : (s : Int) > 0 := by omega
  have c1 : capOp PP 24 (.p .nilsl) = some (.p (.int .i64 0)) := Eq.trans (by kernel_rfl) rfl
  have l1 : ∀ σ, len PP 24 (.p .nilsl) σ = some (.p (.int .i64 0)) := fun σ => by simp [len, u24]
  have w1 : binOp PP .sub 3 (.p (.int .i64 0)) (.p (.int .i64 0)) = some (.p (.int .i64 0)) := Eq.trans (by kernel_rfl) rfl
  have w2 : binOp PP .sub 3 (.p (.int .i64 (s : Nat))) (.p (.int .i64 0)) = some (.p (.int .i64 (s : Nat))) := by
    rw [b_sub, Int.sub_zero, wrap_ok (by omega) (by omega)]
  have sl1 : sliceOp PP 24 (.p .nilsl) none (some (.p (.int .i64 0))) none = some (.p .nilsl) := Eq.trans (by kernel_rfl) rfl
  have ap : append PP lo true 24 3 (.p .nilsl) (.p (.int .i64 (s : Nat))) σ = some (.rsl σ.length 1 0 s, σ ++ [.mix (ints (List.replicate s 0))]) := by
    have hc : (1 : Nat) = 1 ∧ 0 < 1 ∧ 0 < 8 ∧ 0 < (s : Int) ∧ (s : Int) ≤ 140737488355328 ∧ s * 8 ≤ 140737488355328 := ⟨rfl, by decide, by decide, by omega, by omega, by omega⟩
    simp [append, src3, appMake, u3, u24, s3, bytes3, zero3, dups_zero]
    omega
  have sl2 := rs_take (r := σ.length) (off := 0) (n := s) (k := 0) (Nat.zero_le _)
  have sl2' : sliceOp PP 24 (.rsl σ.length 1 0 s) none (some (.p (.int .i64 0))) none = some (.rsl σ.length 1 0 0) := sl2
  rw [F137_eq]
  simp only [b_lss, ltF q0, gG, f137_J0_eq, c1, l1, w1, w2, b_gtr, gtT q1, sl1, ap, sl2', f137_J1_eq]
theorem u130 : PP.underlying 130 = some (.slice 24) := Eq.trans (by kernel_rfl) rfl
theorem bs130_2 (a b : OI) (σ : Store) : buildSlice PP none 130 2 [(0, .p (eSl a)), (1, .p (eSl b))] σ = some (.p (.sl true 2 [eSl a, eSl b]), σ) := by
  cases a <;> cases b <;> exact Eq.trans (by kernel_rfl) rfl
theorem S84 {a b : OI} (h0 : 0 < (L a).length + (L b).length) (hl : (L a).length + (L b).length ≤ 10000) (ex : Bool) (lo : Nat) (σ : Store) (hlo : lo ≤ σ.length) :
    CC lo 84 [.p (.sl ex 2 [eSl a, eSl b])] σ = some (.rsl σ.length 1 0 (L a ++ L b).length, σ ++ [.mix (ints (L a ++ L b))]) := by
  refine F84_call ?_
  have ln : ∀ σ, len PP 130 (.p (.sl ex 2 [eSl a, eSl b])) σ = some (.p (.int .i64 2)) := fun σ => by simp [len, u130]
  have i0 : indexAddr PP 130 (.p (.sl ex 2 [eSl a, eSl b])) (.p (.int .i64 0)) = some (.pptr [eSl a, eSl b] 0) := Eq.trans (by kernel_rfl) rfl
  have i1 : indexAddr PP 130 (.p (.sl ex 2 [eSl a, eSl b])) (.p (.int .i64 1)) = some (.pptr [eSl a, eSl b] 1) := Eq.trans (by kernel_rfl) rfl
  have d0 : ∀ σ, load1 (.pptr [eSl a, eSl b] 0) σ = some (.p (eSl a)) := fun σ => load1_pptr rfl σ
  have d1 : ∀ σ, load1 (.pptr [eSl a, eSl b] 1) σ = some (.p (eSl b)) := fun σ => load1_pptr rfl σ
  have z0 : binOp PP .add 3 (.p (.int .i64 0)) (.p (.int .i64 ((L a).length : Nat))) = some (.p (.int .i64 ((L a).length : Nat))) := by
    rw [b_add, Int.zero_add, wrap_ok (by omega) (by omega)]
  have n0 : ¬ (((L a).length : Int) < 0) := by omega
  have n1 : ¬ ((((L a).length + (L b).length : Nat) : Int) < 0) := by omega
  have p0 : binOp PP .add 3 (.p (.int .i64 0)) (.p (.int .i64 1)) = some (.p (.int .i64 1)) := Eq.trans (by kernel_rfl) rfl
  have p1 : binOp PP .add 3 (.p (.int .i64 1)) (.p (.int .i64 1)) = some (.p (.int .i64 2)) := Eq.trans (by kernel_rfl) rfl
  have t0 : (0 : Int) < 2 := by decide
  have t1 : (1 : Int) < 2 := by decide
  have t2 : ¬ (2 : Int) < 2 := by decide
  have hz : (List.replicate ((L a).length + (L b).length) (0 : Int)).length = (L a).length + (L b).length := by simp
  have a1 := rs_app (σ := σ ++ [.mix (ints (List.replicate ((L a).length + (L b).length) 0))]) (r := σ.length) (k := 0) (lo := lo) (x := .p (eSl a)) get_snoc (PL.sl a) (by rw [hz]; omega) (by rw [hz]; omega) hlo
  simp only [List.take_zero, List.nil_append, Nat.zero_add, List.set_append_right _ _ (Nat.le_refl _), Nat.sub_self, List.set_cons_zero] at a1
  have hz2 : (L a ++ (List.replicate ((L a).length + (L b).length) (0 : Int)).drop (L a).length).length = (L a).length + (L b).length := by simp
  have a2 := rs_app (σ := σ ++ [.mix (ints (L a ++ (List.replicate ((L a).length + (L b).length) 0).drop (L a).length))]) (r := σ.length) (k := (L a).length) (lo := lo) (x := .p (eSl b)) get_snoc (PL.sl b) (by rw [hz2]; omega) (by rw [hz2]; omega) hlo
  have e1 : (L a ++ (List.replicate ((L a).length + (L b).length) (0 : Int)).drop (L a).length).take (L a).length = L a := by rw [List.take_append_of_le_length (Nat.le_refl _), List.take_length]
  have e2 : (L a ++ (List.replicate ((L a).length + (L b).length) (0 : Int)).drop (L a).length).drop ((L a).length + (L b).length) = [] := List.drop_eq_nil_of_le (by rw [hz2]; omega)
  rw [e1, e2, List.append_nil] at a2
  simp only [List.set_append_right _ _ (Nat.le_refl _), Nat.sub_self, List.set_cons_zero] at a2
  rw [F84_eq, ln]
  simp only [obind]
  rw [f84_L0_eq guardT rfl]
  simp only [b_lss, ltT t0, gG, i0, load24, d0, (PL.sl a).len, z0, ltF n0, f84_J0_eq, p0]
  rw [f84_L0_eq guardT rfl]
  simp only [b_lss, ltT t1, gG, i1, load24, d1, (PL.sl b).len, addN (show (L a).length + (L b).length ≤ 1000000 by omega), ltF n1, f84_J0_eq, p1]
  rw [f84_L0_eq guardT rfl]
  simp only [b_lss, ltF t2, gG, plainFn, List.append_nil, S137 h0 (by omega), ln]
  rw [f84_L1_eq guardT rfl]
  simp only [b_lss, ltT t0, gG, i0, load24, d0, a1, p0]
  rw [f84_L1_eq guardT rfl]
  simp only [b_lss, ltT t1, gG, i1, load24, d1, a2, p1]
  rw [f84_L1_eq guardT rfl]
  simp only [b_lss, ltF t2, gG, List.length_append]
theorem rs_clear {σ : Store} {r off n lo : Nat} {A : List Int} (h : σ[r]? = some (.mix (ints A))) (hn : off + n ≤ A.length) (hlo : lo ≤ r) :
    clearOp PP lo 24 (.rsl r 1 off n) σ = some (if n = 0 then σ else σ.set r (.mix (ints (A.take off ++ List.replicate n 0 ++ A.drop (off + n))))) := by
  by_cases h0 : n = 0
  · simp [clearOp, u24, h0]
  · have e : splice (ints A) off (ints (List.replicate n 0)) = ints (A.take off ++ List.replicate n 0 ++ A.drop (off + n)) := by
      unfold splice
      rw [ints_take, ints_len, List.length_replicate, ints_drop, ints_app, ints_app]
    have h1 : off + (ints (List.replicate n 0)).length ≤ (ints A).length := by rw [ints_len, ints_len, List.length_replicate]; exact hn
    simp [clearOp, u24, h0, s3, zero3, dups_zero, storeN, hlo, h, h1, ints_all, e]
theorem once_take_succ {l : List Int} {k : Nat} (h0 : 0 < k) (hk : k < l.length) : once (l.take (k + 1)) = once (l.take k) ++ (if l.getD k 0 = l.getD (k - 1) 0 then [] else [l.getD k 0]) := by
  have e : l.take (k + 1) = l.take k ++ [l.getD k 0] := by
    rw [List.take_succ_eq_append_getElem hk, List.getD_eq_getElem?_getD, List.getElem?_eq_getElem hk]; rfl
  have hne : l.take k ≠ [] := fun e => by
    have := congrArg List.length e
    rw [List.length_take, List.length_nil] at this; omega
  have hlast : lastI (l.take k) = l.getD (k - 1) 0 := by
    unfold lastI
    rw [show (l.take k).length = k by rw [List.length_take]; omega]
    simp [List.getD_eq_getElem?_getD, List.getElem?_take, show k - 1 < k by omega]
  rw [e, once_append hne, hlast, dd]
  congr 1
theorem once_len (l : List Int) : (once l).length ≤ l.length := by
  have hd : ∀ (p : Int) (l : List Int), (dd p l).length ≤ l.length := by
    intro p l
    induction l generalizing p with
    | nil => exact Nat.le_refl _
    | cons x l ih =>
      rw [dd]
      split
      · have := ih p; simp; omega
      · have := ih x; simp; omega
  cases l with
  | nil => exact Nat.le_refl _
  | cons x l => have := hd x l; simp [once]; exact this
section
variable {l : List Int} {r lo : Nat} (hl : l.length ≤ 100000) (hlo : lo ≤ r)
include hl hlo
theorem L83_1 {k0 : Nat} (hk0 : 0 < k0) (hkl : k0 < l.length) : ∀ (d k2 k : Nat) (A : List Int) (σ : Store), l.length - k0 - k2 = d → 1 ≤ k2 → k0 + k2 ≤ l.length → A.length = l.length → σ[r]? = some (.mix (ints A)) →
    A.take k = once (l.take (k0 + k2)) → k = (once (l.take (k0 + k2))).length → k ≤ k0 + k2 - 1 → A.drop (k0 + k2 - 1) = l.drop (k0 + k2 - 1) →
    ∃ σ' Z, f83_L1 guardT lo (.rsl r 1 0 l.length) (N k) (.rsl r 1 k0 (l.length - k0)) (N k2) σ = some (.rsl r 1 0 (once l).length, σ') ∧ σ'[r]? = some (.mix (ints (once l ++ Z))) ∧ (∀ j, j ≠ r → σ'[j]? = σ[j]?) ∧ σ'.length = σ.length
  | 0, k2, k, A, σ, hd, h1, h2, hA, hr, hp, hk, hle, hs => by
    have e : k0 + k2 = l.length := by omega
    rw [e, List.take_length] at hp hk
    have hcl := rs_clear (σ := σ) (r := r) (off := k) (n := l.length - k) (lo := lo) hr (by omega) hlo
    have e2 : A.drop (k + (l.length - k)) = [] := List.drop_eq_nil_of_le (by omega)
    rw [e2, List.append_nil, hp] at hcl
    rw [f83_L1_eq guardT rfl, ← hk]
    have hlt := get_lt hr
    by_cases h0 : l.length - k = 0
    · rw [if_pos h0] at hcl
      refine ⟨σ, [], ?_, ?_, fun _ _ => rfl, rfl⟩
      · simp (disch := omega) only [N, rs_len, gG, b_lss, ltF, rs_drop, Nat.zero_add, hcl, rs_take]
      · rw [List.append_nil, ← hp, List.take_of_length_le (by omega)]; exact hr
    · rw [if_neg h0] at hcl
      refine ⟨_, List.replicate (l.length - k) 0, ?_, by rw [List.getElem?_set_self hlt], fun j hj => by rw [List.getElem?_set_ne (fun e => hj e.symm)], by simp⟩
      simp (disch := omega) only [N, rs_len, gG, b_lss, ltF, rs_drop, Nat.zero_add, hcl, rs_take]
  | d + 1, k2, k, A, σ, hd, h1, h2, hA, hr, hp, hk, hle, hs => by
    have hlt := get_lt hr
    have hb : k0 + k2 < l.length := by omega
    have g1 : A.getD (k0 + k2) 0 = l.getD (k0 + k2) 0 := by
      have := congrArg (fun q => List.getD q 1 0) hs
      simpa [List.getD_eq_getElem?_getD, List.getElem?_drop, show k0 + k2 - 1 + 1 = k0 + k2 by omega] using this
    have g0 : A.getD (k0 + (k2 - 1)) 0 = l.getD (k0 + k2 - 1) 0 := by
      have := congrArg (fun q => List.getD q 0 0) hs
      simpa [List.getD_eq_getElem?_getD, List.getElem?_drop, show k0 + (k2 - 1) = k0 + k2 - 1 by omega] using this
    have hsucc := once_take_succ (l := l) (k := k0 + k2) (by omega) hb
    have ld1 := rs_ld (i := k0 + k2) hr (by omega)
    have ld0 := rs_ld (i := k0 + (k2 - 1)) hr (by omega)
    rw [g1] at ld1
    rw [g0] at ld0
    have hdrop : ∀ B : List Int, B.drop (k0 + k2 - 1) = l.drop (k0 + k2 - 1) → B.drop (k0 + (k2 + 1) - 1) = l.drop (k0 + (k2 + 1) - 1) := fun B h => by
      have := congrArg (List.drop 1) h
      rw [List.drop_drop, List.drop_drop] at this
      rwa [show k0 + k2 - 1 + 1 = k0 + (k2 + 1) - 1 by omega] at this
    rw [f83_L1_eq guardT rfl]
    by_cases he : l.getD (k0 + k2) 0 = l.getD (k0 + k2 - 1) 0
    · rw [if_pos he, List.append_nil] at hsucc
      obtain ⟨σ', Z, r1, r2⟩ := L83_1 hk0 hkl d (k2 + 1) k A σ (by omega) (by omega) (by omega) hA hr (by rw [← Nat.add_assoc, hsucc]; exact hp) (by rw [← Nat.add_assoc, hsucc]; exact hk) (by omega) (hdrop A hs)
      refine ⟨σ', Z, ?_, r2⟩
      rw [← r1]
      simp (disch := omega) only [N, rs_len, gG, b_lss, ltT, rs_idx, load3, ld1, sub1, ld0, b_neq, eqT he, f83_J0_eq, add1]
    · rw [if_neg he] at hsucc
      have hkA : k < A.length := by omega
      have hst := rs_st (v := l.getD (k0 + k2) 0) hr hkA hlo
      have hAs : (A.set k (l.getD (k0 + k2) 0)).take (k + 1) = A.take k ++ [l.getD (k0 + k2) 0] := by
        rw [List.take_succ_eq_append_getElem (by simpa using hkA), List.take_set_of_le (Nat.le_refl _)]
        simp
      have hdr : (A.set k (l.getD (k0 + k2) 0)).drop (k0 + (k2 + 1) - 1) = l.drop (k0 + (k2 + 1) - 1) := by
        rw [List.drop_set_of_lt (by omega)]
        exact hdrop A hs
      obtain ⟨σ', Z, r1, r2, r3, r4⟩ := L83_1 hk0 hkl d (k2 + 1) (k + 1) (A.set k (l.getD (k0 + k2) 0)) (σ.set r (.mix (ints (A.set k (l.getD (k0 + k2) 0))))) (by omega) (by omega) (by omega) (by simpa using hA) (by rw [List.getElem?_set_self hlt])
        (by rw [← Nat.add_assoc, hsucc, hAs, hp]) (by rw [← Nat.add_assoc, hsucc, List.length_append, ← hk]; rfl) (by omega) hdr
      refine ⟨σ', Z, ?_, r2, fun j hj => by rw [r3 j hj, List.getElem?_set_ne (fun e => hj e.symm)], by rw [r4]; simp⟩
      rw [← r1]
      simp (disch := omega) only [N, rs_len, gG, b_lss, ltT, rs_idx, load3, ld1, sub1, ld0, b_neq, eqF he, Nat.zero_add, hst, f83_J0_eq, add1]
theorem L83_0 : ∀ (d k : Nat) (σ : Store), l.length - k = d → 1 ≤ k → k ≤ l.length → σ[r]? = some (.mix (ints l)) → once (l.take k) = l.take k →
    ∃ σ' Z, f83_L0 guardT lo (.rsl r 1 0 l.length) (N k) σ = some (.rsl r 1 0 (once l).length, σ') ∧ σ'[r]? = some (.mix (ints (once l ++ Z))) ∧ (∀ j, j ≠ r → σ'[j]? = σ[j]?) ∧ σ'.length = σ.length
  | 0, k, σ, hd, h1, h2, hr, ho => by
    have e : k = l.length := by omega
    subst e
    rw [List.take_length] at ho
    refine ⟨σ, [], ?_, by rw [List.append_nil, ho]; exact hr, fun _ _ => rfl, rfl⟩
    rw [f83_L0_eq guardT rfl]
    simp (disch := omega) only [N, rs_len, gG, b_lss, ltF, ho]
  | d + 1, k, σ, hd, h1, h2, hr, ho => by
    have hb : k < l.length := by omega
    have ld1 := rs_ld (i := k) hr hb
    have ld0 := rs_ld (i := k - 1) hr (by omega)
    have hsucc := once_take_succ (l := l) (k := k) (by omega) hb
    have ec : l.take (k + 1) = l.take k ++ [l.getD k 0] := by
      rw [List.take_succ_eq_append_getElem hb, List.getD_eq_getElem?_getD, List.getElem?_eq_getElem hb]; rfl
    rw [f83_L0_eq guardT rfl]
    by_cases he : l.getD k 0 = l.getD (k - 1) 0
    · rw [if_pos he, List.append_nil, ho] at hsucc
      obtain ⟨σ', Z, r1, r2⟩ := L83_1 hl hlo (k0 := k) (by omega) hb _ 1 k l σ rfl (Nat.le_refl _) (by omega) rfl hr (by rw [hsucc]) (by rw [hsucc]; simp; omega) (by omega) rfl
      refine ⟨σ', Z, ?_, r2⟩
      rw [← r1]
      simp (disch := omega) only [N, rs_len, gG, b_lss, ltT, rs_idx, Nat.zero_add, load3, ld1, sub1, ld0, b_eql, eqT he, rs_drop]
      rfl
    · rw [if_neg he, ho, ← ec] at hsucc
      obtain ⟨σ', Z, r1, r2⟩ := L83_0 d (k + 1) σ (by omega) (by omega) (by omega) hr hsucc
      refine ⟨σ', Z, ?_, r2⟩
      rw [← r1]
      simp (disch := omega) only [N, rs_len, gG, b_lss, ltT, rs_idx, Nat.zero_add, load3, ld1, sub1, ld0, b_eql, eqF he, add1]
theorem S83 {σ : Store} (hr : σ[r]? = some (.mix (ints l))) :
    ∃ σ' Z, CC lo 83 [.rsl r 1 0 l.length] σ = some (.rsl r 1 0 (once l).length, σ') ∧ σ'[r]? = some (.mix (ints (once l ++ Z))) ∧ (∀ j, j ≠ r → σ'[j]? = σ[j]?) ∧ σ'.length = σ.length := by
  by_cases h : l.length < 2
  · have ho : once l = l := by
      match l, h with
      | [], _ => rfl
      | [x], _ => rfl
    have h' : (l.length : Int) < 2 := by omega
    refine ⟨σ, [], F83_call ?_, by rw [List.append_nil, ho]; exact hr, fun _ _ => rfl, rfl⟩
    rw [F83_eq]
    simp only [rs_len, gG, b_lss, ltT h', ho]
  · have h' : ¬ (l.length : Int) < 2 := by omega
    have ho : once (l.take 1) = l.take 1 := by
      match l with
      | [] => rfl
      | x :: l => simp [once, dd]
    obtain ⟨σ', Z, r1, r2⟩ := L83_0 hl hlo _ 1 σ rfl (Nat.le_refl _) (by omega) hr ho
    refine ⟨σ', Z, F83_call ?_, r2⟩
    rw [F83_eq]
    simp only [rs_len, gG, b_lss, ltF h']
    exact r1
end
end Go.D
end
/- Chapter 13: the shortest form and the word without stuttering, in the program. -/
section
set_option linter.unusedVariables false
set_option linter.unusedSimpArgs false
namespace Go.D
open Las
theorem wrapU {n : Nat} (h : n ≤ 1000000) : IntKind.u64.wrap (n : Int) = (n : Int) := by
  unfold IntKind.wrap IntKind.bits IntKind.signed
  simp
  omega
theorem andU {a : Nat} (h : a ≤ 1000000) (t : TypeId) : binOp PP .and t (.p (.int .u64 (a : Nat))) (.p (.int .u64 4294967295)) = some (.p (.int .u64 (a : Nat))) := by
  have e : (BitVec.ofInt 64 (a : Int) &&& BitVec.ofInt 64 4294967295).toNat = a := by
    have h1 : (BitVec.ofInt 64 (a : Int)).toNat = a := by rw [BitVec.ofInt_natCast, BitVec.toNat_ofNat]; omega
    have h2 : (BitVec.ofInt 64 4294967295).toNat = 2 ^ 32 - 1 := by decide
    rw [BitVec.toNat_and, h1, h2, Nat.and_two_pow_sub_one_eq_mod]
    omega
  have e2 : binInt .and .u64 (a : Int) 4294967295 = some (.int .u64 (a : Nat)) := by
    show some (PV.int .u64 (IntKind.u64.wrap ((BitVec.ofInt 64 (a : Int) &&& BitVec.ofInt 64 4294967295).toNat : Int))) = _
    rw [e, wrapU h]
  show (if IntKind.u64 = IntKind.u64 then (binInt .and .u64 (a : Int) 4294967295).map DV.p else none) = _
  rw [if_pos rfl, e2]
  rfl
theorem shrU {a : Nat} (h : a ≤ 1000000) (t : TypeId) : binOp PP .shr t (.p (.int .u64 (a : Nat))) (.p (.int .u64 32)) = some (.p (.int .u64 ((0 : Nat) : Int))) := by
  have e : (a : Int).fdiv (2 ^ 32) = 0 := by
    rw [Int.fdiv_eq_ediv_of_nonneg _ (by decide)]
    omega
  show (some (PV.int .u64 ((a : Int).fdiv (2 ^ 32)))).map DV.p = _
  rw [e]
  rfl
theorem mulU {a b : Nat} (h : a * b ≤ 1000000) (t : TypeId) : binOp PP .mul t (.p (.int .u64 (a : Nat))) (.p (.int .u64 (b : Nat))) = some (.p (.int .u64 ((a * b : Nat) : Int))) := by
  have e : IntKind.u64.wrap ((a : Int) * (b : Int)) = ((a * b : Nat) : Int) := by rw [← Int.natCast_mul, wrapU h]
  show some (DV.p (PV.int .u64 (IntKind.u64.wrap ((a : Int) * (b : Int))))) = _
  rw [e]
theorem addU {a b : Nat} (h : a + b ≤ 1000000) (t : TypeId) : binOp PP .add t (.p (.int .u64 (a : Nat))) (.p (.int .u64 (b : Nat))) = some (.p (.int .u64 ((a + b : Nat) : Int))) := by
  have e : IntKind.u64.wrap ((a : Int) + (b : Int)) = ((a + b : Nat) : Int) := by rw [← Int.natCast_add, wrapU h]
  show some (DV.p (PV.int .u64 (IntKind.u64.wrap ((a : Int) + (b : Int))))) = _
  rw [e]
theorem S174 {a b : Nat} (ha : a ≤ 1000000) (hb : b ≤ 1000000) (h : a * b ≤ 1000000) (σ : Store) : pureV CC 174 [.p (.int .u64 (a : Nat)), .p (.int .u64 (b : Nat))] σ = some (.tuple [.p (.int .u64 ((0 : Nat) : Int)), .p (.int .u64 ((a * b : Nat) : Int))]) := by
  refine pureV_free rfl rfl (F174_call (r := (.tuple [.p (.int .u64 ((0 : Nat) : Int)), .p (.int .u64 ((a * b : Nat) : Int))], [])) ?_) rfl
  have m0 : ∀ n : Nat, 0 * n ≤ 1000000 := fun n => by omega
  have m1 : ∀ n : Nat, n * 0 ≤ 1000000 := fun n => by omega
  have z : (0 : Nat) ≤ 1000000 := by decide
  have zz : (0 : Nat) + 0 ≤ 1000000 := by decide
  have q1 := mulU (m0 b) 197
  have q2 := mulU (m1 a) 197
  have q3 := mulU (m0 0) 197
  rw [Nat.zero_mul] at q1
  rw [Nat.mul_zero] at q2
  have q4 := addU zz 197
  rw [F174_eq]
  simp only [andU ha, andU hb, shrU ha, shrU hb, obind, mulU h, q1, shrU h, q4, andU z, shrU z, q2, q3]
theorem S156 {a b : Nat} (ha : a ≤ 1000000) (hb : b ≤ 1000000) (h : a * b ≤ 1000000) (σ : Store) : pureV CC 156 [.p (.int .u64 (a : Nat)), .p (.int .u64 (b : Nat))] σ = some (.tuple [.p (.int .u64 0), .p (.int .u64 ((a * b : Nat) : Int))]) := by
  refine pureV_free rfl rfl (F156_call (r := (.tuple [.p (.int .u64 0), .p (.int .u64 ((a * b : Nat) : Int))], [])) ?_) rfl
  have e0 : ∀ a b : DV, extractV (.tuple [a, b]) 0 = some a := fun _ _ => Eq.trans rfl rfl
  have e1 : ∀ a b : DV, extractV (.tuple [a, b]) 1 = some b := fun _ _ => Eq.trans rfl rfl
  rw [F156_eq]
  simp only [gG, shift_ptr, shift_pptr, Nat.zero_add, Nat.add_zero, pureFn_fn, List.append_nil, List.singleton_append, List.cons_append, List.nil_append, S174 ha hb h, e0, e1]
  rfl
theorem u179 : PP.underlying 179 = some (.int .u64) := Eq.trans (by kernel_rfl) rfl
theorem cvU {n : Nat} (h : n ≤ 1000000) : convert PP 3 179 (.p (.int .i64 (n : Nat))) = some (.p (.int .u64 (n : Nat))) := by
  simp [convert, u3, u179, wrapU h]
theorem cvI {n : Nat} (h : n ≤ 1000000) : convert PP 179 3 (.p (.int .u64 (n : Nat))) = some (.p (.int .i64 (n : Nat))) := by
  have e : IntKind.i64.wrap (n : Int) = (n : Int) := wrap_ok (by omega) (by omega)
  simp [convert, u3, u179, e]
theorem b_gtrU (P : Program) (t : TypeId) (a b : Int) : binOp P .gtr t (.p (.int .u64 a)) (.p (.int .u64 b)) = some (.p (.bool (decide (a > b)))) := Eq.trans rfl rfl
theorem mk24 {n : Nat} (h : n ≤ 1000000) (σ : Store) : makeSlice PP false 24 (.p (.int .i64 (n : Nat))) (.p (.int .i64 (n : Nat))) σ = some (.rsl σ.length 1 0 n, σ ++ [.arr (eInts (List.replicate n 0))]) := by
  have hp : pures (ints (List.replicate n 0)) = some (eInts (List.replicate n 0)) := pures_map _
  have hc : (0 : Int) ≤ (n : Int) ∧ (n : Int) ≤ (n : Int) ∧ (n : Int) ≤ 140737488355328 ∧ ((8 : Nat) : Int) * (n : Int) ≤ 140737488355328 ∧ 1 = 1 := ⟨by omega, by omega, by omega, by omega, rfl⟩
  simp [makeSlice, u24, s3, bytes3, zero3, newRow, dups_zero, hp]
  omega
theorem splice_ints (A B : List Int) (k : Nat) : splice (eInts A) k (eInts B) = eInts (A.take k ++ B ++ A.drop (k + B.length)) := by
  unfold splice
  rw [eInts_take, ints_length, eInts_drop, eInts_app, eInts_app]
theorem cp_pl {σ : Store} {r lo T : Nat} {A l : List Int} {x : DV} (h : σ[r]? = some (.arr (eInts A))) (hx : PL x l) (h0 : 0 < l.length) (hl : l.length ≤ T) (hA : A.length = T) (hlo : lo ≤ r) :
    copyOp PP lo 24 (.rsl r 1 0 T) x σ = some (N l.length, σ.set r (.arr (eInts (l ++ A.drop l.length)))) := by
  have hs := hx.src σ
  have hm : min l.length T = l.length := Nat.min_eq_left hl
  have hn : ¬ (l.length * 1 = 0) := by omega
  have ht : ((eInts l).map DV.p).take (l.length * 1) = ints l := by
    show (ints l).take (l.length * 1) = ints l
    rw [Nat.mul_one, List.take_of_length_le (by rw [ints_len]; exact Nat.le_refl _)]
  have hb : 0 + (ints l).length ≤ (eInts A).length := by rw [ints_len, ints_length]; omega
  have e := splice_ints A l 0
  rw [List.take_zero, List.nil_append, Nat.zero_add] at e
  simp only [copyOp, u24, s3, hs, if_true, hm, if_neg hn, ht, storeN, if_pos hlo, h, ints_pures, if_pos hb, e, Option.map_some, N]
theorem cp_self {σ : Store} {r lo T n : Nat} {A : List Int} (h : σ[r]? = some (.arr (eInts A))) (h0 : 0 < n) (hn : n < T) (hA : A.length = T) (hlo : lo ≤ r) :
    copyOp PP lo 24 (.rsl r 1 n (T - n)) (.rsl r 1 0 n) σ = some (N (min n (T - n)), σ.set r (.arr (eInts (A.take n ++ A.take (min n (T - n)) ++ A.drop (n + min n (T - n)))))) := by
  generalize hk : min n (T - n) = k
  have hkn : k ≤ n := by omega
  have hkT : n + k ≤ T := by omega
  have hk0 : ¬ (k * 1 = 0) := by omega
  have hl : 0 + n * 1 ≤ (eInts A).length := by rw [ints_length]; omega
  have hs : source σ 1 (.rsl r 1 0 n) = some (n, ints (A.take n)) := by
    simp only [source, if_true, loadN, h, if_pos hl]
    simp only [List.drop_zero, Nat.mul_one, eInts_take, Option.map_some]
    rfl
  have ht : (ints (A.take n)).take (k * 1) = ints (A.take k) := by
    rw [Nat.mul_one, ints_take, List.take_take, Nat.min_eq_left hkn]
  have hlen : (A.take k).length = k := by rw [List.length_take]; omega
  have hb : n + (ints (A.take k)).length ≤ (eInts A).length := by rw [ints_len, ints_length, hlen]; omega
  have e := splice_ints A (A.take k) n
  rw [hlen] at e
  simp only [copyOp, u24, s3, hs, if_true, hk, if_neg hk0, ht, storeN, if_pos hlo, h, ints_pures, if_pos hb, e, Option.map_some, N]
theorem L113 {R : List Int} {r lo T : Nat} (hR : R.length = T) (hT : T ≤ 100000) (hlo : lo ≤ r) : ∀ (d n : Nat) (A : List Int) (σ : Store), T - n ≤ d → 0 < n → n ≤ T → A.length = T → σ[r]? = some (.arr (eInts A)) → A.take n = R.take n →
    (∀ i, n + i < T → R.getD (n + i) 0 = R.getD i 0) → ∃ σ', f113_L0 guardT lo (.rsl r 1 0 T) (N n) σ = some (.rsl r 1 0 T, σ') ∧ σ'[r]? = some (.arr (eInts R))
  | d, n, A, σ, hd, h0, hn, hA, hr, hp, hper => by
    by_cases hlt : n < T
    · cases d with
      | zero => omega
      | succ d =>
        have hc := cp_self (lo := lo) hr h0 hlt hA hlo
        generalize hk : min n (T - n) = k at hc
        have hkn : k ≤ n := by omega
        have hk0 : 0 < k := by omega
        have hl1 : (A.take n).length = n := by rw [List.length_take]; omega
        have hl2 : (A.take k).length = k := by rw [List.length_take]; omega
        have hAk : A.take k = R.take k := by
          have := congrArg (List.take k) hp
          rwa [List.take_take, List.take_take, Nat.min_eq_left hkn] at this
        have hnew : (A.take n ++ A.take k ++ A.drop (n + k)).take (n + k) = R.take (n + k) := by
          have ha : (A.take n ++ A.take k).length = n + k := by rw [List.length_append, hl1, hl2]
          have hb : (A.take n ++ A.take k ++ A.drop (n + k)).take (n + k) = A.take n ++ A.take k := by
            rw [List.take_append_of_le_length (by omega), List.take_of_length_le (by omega)]
          have hc2 : R.take (n + k) = R.take n ++ (R.drop n).take k := List.take_add
          have hd2 : R.take k = (R.drop n).take k := by
            refine List.ext_getElem (by rw [List.length_take, List.length_take, List.length_drop]; omega) fun i h1 h2 => ?_
            rw [List.length_take] at h1
            have := hper i (by omega)
            simp only [List.getElem_take, List.getElem_drop]
            simp only [List.getD_eq_getElem?_getD] at this
            rw [List.getElem?_eq_getElem (by omega), List.getElem?_eq_getElem (by omega)] at this
            exact this.symm
          rw [hb, hc2, hp, hAk, hd2]
        obtain ⟨σ', r1, r2⟩ := L113 hR hT hlo d (n + k) (A.take n ++ A.take k ++ A.drop (n + k)) (σ.set r (.arr (eInts (A.take n ++ A.take k ++ A.drop (n + k))))) (by omega) (by omega) (by omega) (by simp; omega) (by rw [List.getElem?_set_self (get_lt hr)]) hnew (fun i hi => by
          have hkk : k = n := by omega
          rw [hkk] at hi ⊢
          rw [show n + n + i = n + (n + i) by omega, hper (n + i) (by omega), hper i (by omega)])
        refine ⟨σ', ?_, r2⟩
        rw [← r1, f113_L0_eq guardT rfl]
        simp (disch := omega) only [N, rs_len, gG, b_lss, ltT, rs_drop, rs_take, Nat.zero_add, hc, addN]
    · have e : n = T := by omega
      subst e
      rw [List.take_of_length_le (by omega), List.take_of_length_le (by omega)] at hp
      subst hp
      refine ⟨σ, ?_, hr⟩
      rw [f113_L0_eq guardT rfl]
      simp (disch := omega) only [N, rs_len, gG, b_lss, ltF]
theorem S113 {x : DV} {l : List Int} {c : Nat} (hx : PL x l) (h0 : l ≠ []) (hc : 1 ≤ c) (h60 : l.length * c ≤ 60) (σ : Store) : pureV CC 113 [x, .p (.int .i64 (c : Nat))] σ = some (.p (eSl (some (rep l c)))) := by
  have hl := List.length_pos_iff.2 h0
  obtain ⟨o, ho, hol⟩ := hx.vw
  have hle : l.length ≤ l.length * c := Nat.le_mul_of_pos_right _ hc
  have hcle : c ≤ l.length * c := Nat.le_mul_of_pos_left _ hl
  have hRl : (rep l c).length = l.length * c := by rw [rep_len, Nat.mul_comm]
  have hpo : PL (.p (eSl o)) l := by rw [← hol]; exact PL.sl o
  have hr0 : ([Row.arr (eInts (List.replicate (l.length * c) 0))] : Store)[0]? = some (.arr (eInts (List.replicate (l.length * c) 0))) := rfl
  have hcp := cp_pl (σ := [.arr (eInts (List.replicate (l.length * c) 0))]) (r := 0) (lo := 0) (T := l.length * c) hr0 hpo hl hle (by simp) (Nat.le_refl _)
  have hmk := mk24 (n := l.length * c) (by omega) []
  simp only [List.length_nil, List.nil_append] at hmk
  simp only [List.set_cons_zero] at hcp
  obtain ⟨σ', r1, r2⟩ := L113 (R := rep l c) (r := 0) (lo := 0) (T := l.length * c) hRl (by omega) (Nat.le_refl _) _ l.length (l ++ (List.replicate (l.length * c) 0).drop l.length) [.arr (eInts (l ++ (List.replicate (l.length * c) 0).drop l.length))] (Nat.le_refl _) hl hle (by simp; omega) rfl
    (by
      rw [List.take_append_of_le_length (Nat.le_refl _), List.take_length]
      refine List.ext_getElem (by rw [List.length_take, hRl]; omega) fun i h1 h2 => ?_
      have := rep_get (l := l) (k := c) (i := i) (by rw [Nat.mul_comm]; omega)
      rw [Nat.mod_eq_of_lt h1, List.getD_eq_getElem?_getD, List.getD_eq_getElem?_getD, List.getElem?_eq_getElem h1, List.getElem?_eq_getElem (by rw [hRl]; omega)] at this
      simp only [List.getElem_take]
      exact this.symm) (fun i hi => by
      rw [rep_get (by rw [Nat.mul_comm]; exact hi), rep_get (by rw [Nat.mul_comm]; omega), Nat.add_mod_left])
  rw [pureV_view (args' := [.p (eSl o), .p (.int .i64 (c : Nat))]) (by simp only [List.map_cons, List.map_nil, ho]; rfl) (by simp only [List.map_cons, List.map_nil, sl_view]; rfl)]
  have ht : thawAll 0 σ' (.rsl 0 1 0 (l.length * c)) = some (.p (eSl (some (rep l c)))) := by
    have hb : 0 + l.length * c * 1 ≤ (eInts (rep l c)).length := by rw [ints_length, hRl]; omega
    have he : ((eInts (rep l c)).drop 0).take (l.length * c * 1) = eInts (rep l c) := by
      rw [List.drop_zero, List.take_of_length_le (by rw [ints_length, hRl]; omega)]
    simp only [thawAll, thawPart, thaw, thaw1, thawP, Nat.zero_le, if_true, r2, if_pos hb, he, loosens_ints, Option.map_some, eSl, hRl]
  refine pureV_free (by simp only [List.map_cons, List.map_nil, sl_view]; rfl) rfl (F113_call (r := (.rsl 0 1 0 (l.length * c), σ')) ?_) ht
  have q0 : ¬ ((c : Int) < 0) := by omega
  have q1 : ¬ ((0 : Int) > 0) := by decide
  have q2 : ¬ (((l.length * c : Nat) : Int) > 9223372036854775807) := by omega
  have e0 : ∀ a b : DV, extractV (.tuple [a, b]) 0 = some a := fun _ _ => Eq.trans rfl rfl
  have e1 : ∀ a b : DV, extractV (.tuple [a, b]) 1 = some b := fun _ _ => Eq.trans rfl rfl
  rw [F113_eq]
  simp (disch := omega) only [b_lss, ltF q0, gG, f113_J0_eq, hpo.len, cvU, shift_ptr, shift_pptr, Nat.zero_add, Nat.add_zero, pureFn_fn, List.append_nil, List.singleton_append, List.cons_append, List.nil_append, S156 (show l.length ≤ 1000000 by omega) (show c ≤ 1000000 by omega) (show l.length * c ≤ 1000000 by omega), e0, e1, b_gtrU, gtF q1, gtF q2, f113_J1_eq, cvI, hmk, hcp]
  exact r1
theorem L136 {o o' : OI} (h : (L o).length = (L o').length) (hl : (L o).length ≤ 100000) (lo : Nat) (σ : Store) : ∀ (d i : Nat), (L o).length - i = d → i ≤ (L o).length →
    f136_L0 guardT lo (.p (eSl o)) (.p (eSl o')) (N (L o).length) (N i) σ = some (.p (.bool (eqFrom (L o) (L o') d i)), σ)
  | 0, i, hd, hi => by
    rw [f136_L0_eq guardT rfl]
    simp (disch := omega) only [N, gG, b_lss, ltF, eqFrom]
  | d + 1, i, hd, hi => by
    have h1 : i < (L o).length := by omega
    have h2 : i < (L o').length := by omega
    have ih := L136 h hl lo σ d (i + 1) (by omega) (by omega)
    rw [f136_L0_eq guardT rfl]
    simp (disch := omega) only [N, gG, b_lss, ltT, (PL.sl o).idx h1, (PL.sl o').idx h2, load3, load1_getD h1, load1_getD h2, b_neq, eqFrom]
    by_cases e : (L o).getD i 0 = (L o').getD i 0
    · simp (disch := omega) only [eqT e, gG, add1, Bool.true_and]
      exact ih
    · simp only [eqF e, gG, Bool.false_and]
theorem S136 {o o' : OI} (hl : (L o).length ≤ 100000) (σ : Store) : pureV CC 136 [.p (eSl o), .p (eSl o')] σ = some (.p (.bool (decide (L o = L o')))) := by
  refine pureV_free (by simp [sl_view]) rfl (F136_call (r := (.p (.bool (decide (L o = L o'))), [])) ?_) rfl
  rw [F136_eq]
  simp only [(PL.sl _).len, gG, b_neq]
  by_cases h : (L o).length = (L o').length
  · have h' : ((L o).length : Int) = ((L o').length : Nat) := by omega
    have := L136 h hl 0 [] _ 0 rfl (Nat.zero_le _)
    rw [Nat.sub_zero, eqFrom_iff h] at this
    simp only [eqT h', gG]
    exact this
  · have h' : ¬ ((L o).length : Int) = ((L o').length : Nat) := by omega
    have hne : ¬ (L o = L o') := fun e => h (by rw [e])
    simp only [eqF h', gG, decide_eq_false hne]
theorem per_rep {l : List Int} {n : Nat} (h0 : 0 < n) (hn : n ≤ l.length) (hm : l.length % n = 0) : (rep (l.take n) (l.length / n) = l) ↔ Per l n := by
  have hl : (l.take n).length = n := by rw [List.length_take]; omega
  have hd := Nat.div_mul_cancel (Nat.dvd_of_mod_eq_zero hm)
  constructor
  · intro h
    refine ⟨hm, fun i hi hni => ?_⟩
    have g : ∀ j, j < l.length → l.getD j 0 = (l.take n).getD (j % n) 0 := fun j hj => by
      have := rep_get (l := l.take n) (k := l.length / n) (i := j) (by rw [hl, hd]; exact hj)
      rw [h, hl] at this
      exact this
    rw [g i hi, g (i - n) (by omega), Nat.mod_eq_sub_mod hni]
  · intro h
    exact (rep_take h0 hn h).symm
theorem f82_L0_ok {o : OI} (hl : (L o).length ≤ 60) {lo : Nat} {x2 x3 : DV} {σ : Store} : ∀ (d n : Nat), n + d = (L o).length → 1 ≤ n → ∃ y, f82_L0 guardT lo x2 x3 (.p (eSl o)) (N n) σ = f82_L1 guardT lo x2 x3 y σ ∧ PL y ((L o).take (minFrom (L o) d n))
  | 0, n, hd, hn => by
    refine ⟨.p (eSl o), ?_, ?_⟩
    · rw [f82_L0_eq guardT rfl]
      simp (disch := omega) only [N, (PL.sl o).len, gG, b_lss, ltF, f82_J0_eq]
    · unfold minFrom
      rw [List.take_of_length_le (by omega)]
      exact PL.sl o
  | d + 1, n, hd, hn => by
    have hlt : n < (L o).length := by omega
    obtain ⟨y, hy1, hy2⟩ := (PL.sl o).take (k := n) (by omega)
    have hne : (L o).take n ≠ [] := take_ne (fun e => by rw [e] at hlt; simp at hlt) hn
    have hlen : ((L o).take n).length = n := by rw [List.length_take]; omega
    rw [f82_L0_eq guardT rfl]
    simp (disch := omega) only [N, (PL.sl o).len, gG, b_lss, ltT, remN, b_eql]
    by_cases hm : (L o).length % n = 0
    · have hm' : (((L o).length % n : Nat) : Int) = 0 := by omega
      have hd2 := Nat.div_mul_cancel (Nat.dvd_of_mod_eq_zero hm)
      have hdp : 1 ≤ (L o).length / n := Nat.div_pos (by omega) (by omega)
      have h113 := S113 (c := (L o).length / n) hy2 hne hdp (by rw [hlen, Nat.mul_comm, hd2]; exact hl) σ
      have h136 := S136 (o := some (rep ((L o).take n) ((L o).length / n))) (o' := o) (by show (rep _ _).length ≤ _; rw [rep_len, hlen, hd2]; omega) σ
      have ed : decide (L (some (rep ((L o).take n) ((L o).length / n))) = L o) = decide (Per (L o) n) := decide_eq_decide.2 (per_rep (by omega) (by omega) hm)
      rw [ed] at h136
      simp (disch := omega) only [eqT hm', gG, (PL.sl o).len, quoN, hy1, shift_ptr, shift_pptr, Nat.zero_add, Nat.add_zero, pureFn_fn, List.append_nil, List.singleton_append, List.cons_append, List.nil_append, h113, h136]
      by_cases hp : Per (L o) n
      · refine ⟨y, ?_, ?_⟩
        · simp only [decide_eq_true hp, gG, f82_J0_eq]
        · unfold minFrom
          rw [if_pos hp]
          exact hy2
      · obtain ⟨y', h1, h2⟩ := f82_L0_ok (o := o) hl (lo := lo) (x2 := x2) (x3 := x3) (σ := σ) d (n + 1) (by omega) (by omega)
        refine ⟨y', ?_, ?_⟩
        · simp (disch := omega) only [decide_eq_false hp, gG, add1]
          exact h1
        · unfold minFrom
          rw [if_neg hp]
          exact h2
    · have hm' : ¬ (((L o).length % n : Nat) : Int) = 0 := by omega
      have hp : ¬ Per (L o) n := fun h => hm h.1
      obtain ⟨y', h1, h2⟩ := f82_L0_ok (o := o) hl (lo := lo) (x2 := x2) (x3 := x3) (σ := σ) d (n + 1) (by omega) (by omega)
      refine ⟨y', ?_, ?_⟩
      · simp (disch := omega) only [eqF hm', gG, add1]
        exact h1
      · unfold minFrom
        rw [if_neg hp]
        exact h2
theorem dl_take (l : List Int) : l.take (l.length - 1) = l.dropLast := by rw [List.dropLast_eq_take]
theorem thaw_wd {x y : DV} {P Q : List Int} (hx : PL x P) (hy : PL y Q) (m : Nat) (σ : Store) : ∃ u : Wd, thawAll m σ (.agg [x, y]) = some (vWd u) ∧ L u.p = P ∧ L u.l = Q := by
  obtain ⟨o, h1, h2⟩ := hx.thaw m σ
  obtain ⟨o', h3, h4⟩ := hy.thaw m σ
  exact ⟨⟨o, o'⟩, by simp [thawAll, thawPart, mapO, h1, h3, vWd], h2, h4⟩
theorem f82_L1_ok {lo t : Nat} (hlo : lo ≤ t) : ∀ (k : Nat) (x y : DV) (P Q : List Int) (σ : Store) (z : List DV), P.length ≤ k → PL x P → PL y Q → Q ≠ [] → P.length + Q.length ≤ 1000 → σ[t]? = some (.mix z) → z.length = 2 → lo ≤ σ.length →
    ∃ x' y' σ', f82_L1 guardT lo (.ptr t 0) x y σ = some (.agg [x', y'], σ') ∧ PL x' (rot P.length P Q).1 ∧ PL y' (rot P.length P Q).2
  | k, x, y, P, Q, σ, z, hk, hx, hy, hQ, hl, ht, hz, hls => by
    have hq := List.length_pos_iff.2 hQ
    have hend : ¬ (P ≠ [] ∧ lastI P = lastI Q) → ∀ b : Bool, b = false → ∃ x' y' σ', (condK (.p (.bool b)) (none : Option (DV × Store)) ((build PP 26 [(0, x), (1, y)]).bind fun x76 => (store PP lo 26 (.ptr t 0) x76 σ).bind fun σ26 => (cellV PP 26 (.ptr t 0) σ26).bind fun v0 => some (v0, σ26))) = some (.agg [x', y'], σ') ∧ PL x' (rot P.length P Q).1 ∧ PL y' (rot P.length P Q).2 := fun hc b hb => by
      subst hb
      have e : rot P.length P Q = (P, Q) := by
        cases hP : P.length with
        | zero => rfl
        | succ n => unfold rot; rw [if_neg hc]
      rw [e]
      refine ⟨x, y, σ.set t (.mix [x, y]), ?_, hx, hy⟩
      have h1 := st26 (c := [x, y]) ht hlo hz rfl (by simp [hx.one.1, hy.one.1])
      have h2 := cell26 (σ := σ.set t (.mix [x, y])) (r := t) (c := [x, y]) (by rw [List.getElem?_set_self (get_lt ht)]) rfl
      simp only [condK_false, bld26 hx.one.1 hy.one.1, obind, h1, h2]
    by_cases hP : P = []
    · subst hP
      have q0 : ¬ (((0 : Nat) : Int) > 0) := by decide
      obtain ⟨x', y', σ', r1, r2, r3⟩ := hend (fun h => h.1 rfl) false rfl
      refine ⟨x', y', σ', ?_, r2, r3⟩
      rw [f82_L1_eq guardT rfl]
      simp only [hx.len, gG, b_gtr, List.length_nil, gtF q0]
      simpa only [condK_false] using r1
    · have hp := List.length_pos_iff.2 hP
      have q0 : (P.length : Int) > 0 := by omega
      have i1 := hx.idx (i := P.length - 1) (by omega)
      have i2 := hy.idx (i := Q.length - 1) (by omega)
      have l1 := load1_getD (l := P) (i := P.length - 1) (by omega) σ
      have l2 := load1_getD (l := Q) (i := Q.length - 1) (by omega) σ
      have e1 : P.getD (P.length - 1) 0 = lastI P := rfl
      have e2 : Q.getD (Q.length - 1) 0 = lastI Q := rfl
      rw [e1] at l1
      rw [e2] at l2
      rw [f82_L1_eq guardT rfl]
      simp (disch := omega) only [hx.len, hy.len, gG, b_gtr, gtT q0, sub1, i1, load3, l1, i2, l2, b_eql]
      by_cases hc : lastI P = lastI Q
      · obtain ⟨p', hp1, hp2⟩ := hx.take (k := P.length - 1) (by omega)
        obtain ⟨q', hq1, hq2⟩ := hy.take (k := Q.length - 1) (by omega)
        rw [dl_take] at hp2 hq2
        obtain ⟨n', σ1, a1, a2, a3⟩ := hq2.app (a := [lastI Q]) (by simp; omega) σ.length σ
        have ht1 : σ1[t]? = some (.mix z) := by
          rcases a3 with rfl | rfl
          · exact ht
          · exact get_old ht
        have hl1 : lo ≤ σ1.length := by
          rcases a3 with rfl | rfl
          · exact hls
          · simp; omega
        cases k with
        | zero => omega
        | succ k =>
          obtain ⟨x', y', σ', r1, r2, r3⟩ := f82_L1_ok hlo k p' n' P.dropLast ([lastI Q] ++ Q.dropLast) σ1 z (by simp; omega) hp2 a2 (by simp) (by simp; omega) ht1 hz hl1
          have er : rot P.length P Q = rot P.dropLast.length P.dropLast ([lastI Q] ++ Q.dropLast) := by
            rw [List.length_dropLast]
            obtain ⟨m, hm⟩ : ∃ m, P.length = m + 1 := ⟨P.length - 1, by omega⟩
            rw [hm]
            conv => lhs; unfold rot
            rw [if_pos ⟨hP, hc⟩]
            rfl
          rw [er]
          refine ⟨x', y', σ', ?_, r2, r3⟩
          rw [← r1]
          have ab : append PP σ.length false 24 24 (.p (.sl true 1 [.int .i64 (lastI Q)])) q' σ = some (n', σ1) := a1
          simp (disch := omega) only [eqT hc, gG, hy.len, hx.len, sub1, hp1, i2, load3, l2, bs24_1, hq1, ab]
      · obtain ⟨x', y', σ', r1, r2, r3⟩ := hend (fun h => hc h.2) false rfl
        refine ⟨x', y', σ', ?_, r2, r3⟩
        simp only [eqF hc, gG]
        simpa only [condK_false] using r1
theorem C82 {x y : DV} {oa ob : OI} {lo : Nat} {σ : Store} (hlo : lo ≤ σ.length) (hx : x.one = true) (hy : y.one = true)
    (h1 : ∀ ext, pureV CC 78 [x] (σ ++ ext) = some (.p (eSl oa))) (h2 : ∀ ext, pureV CC 78 [y] (σ ++ ext) = some (.p (eSl ob))) (hne : L ob ≠ []) (hl : (L oa).length + (L ob).length ≤ 1000) (hb : (L ob).length ≤ 60) :
    ∃ x' y' σ', CC lo 82 [.agg [x, y]] σ = some (.agg [x', y'], σ') ∧ PL x' (short (L oa) (L ob)).1 ∧ PL y' (short (L oa) (L ob)).2 := by
  have hlb := List.length_pos_iff.2 hne
  have g0 : ((σ ++ [Row.mix [x, y]]) ++ [Row.mix [.p .nilsl, .p .nilsl]])[σ.length]? = some (.mix [x, y]) := get_old get_snoc
  have g1 : ((σ ++ [Row.mix [x, y]]) ++ [Row.mix [.p .nilsl, .p .nilsl]])[(σ ++ [Row.mix [x, y]]).length]? = some (.mix [.p .nilsl, .p .nilsl]) := get_snoc
  have p1 : pureV CC 78 [x] ((σ ++ [Row.mix [x, y]]) ++ [Row.mix [.p .nilsl, .p .nilsl]]) = some (.p (eSl oa)) := by rw [List.append_assoc]; exact h1 _
  have p2 : pureV CC 78 [y] ((σ ++ [Row.mix [x, y]]) ++ [Row.mix [.p .nilsl, .p .nilsl]]) = some (.p (eSl ob)) := by rw [List.append_assoc]; exact h2 _
  obtain ⟨q, q1, q2⟩ := f82_L0_ok (o := ob) hb (lo := lo) (x2 := .ptr (σ ++ [Row.mix [x, y]]).length 0) (x3 := .p (eSl oa)) (σ := (σ ++ [Row.mix [x, y]]) ++ [Row.mix [.p .nilsl, .p .nilsl]]) ((L ob).length - 1) 1 (by omega) (Nat.le_refl _)
  have hm := minP_ok hne
  obtain ⟨x', y', σ', r1, r2, r3⟩ := f82_L1_ok (lo := lo) (t := (σ ++ [Row.mix [x, y]]).length) (by simp; omega) _ (.p (eSl oa)) q (L oa) ((L ob).take (minP (L ob))) _ _ (Nat.le_refl _) (PL.sl oa) q2 (take_ne hne hm.1) (by rw [List.length_take]; omega) g1 rfl (by simp; omega)
  refine ⟨x', y', σ', F82_call ?_, r2, r3⟩
  have hbx : boxV (.agg [x, y]) = some [x, y] := by
    have e : (DV.agg [x, y]).cells = [x, y] := rfl
    simp [boxV, e, hx, hy]
  rw [F82_eq]
  simp only [hbx, gG, zero26, fa26_0, fa26_1, shift_ptr, shift_pptr, Nat.zero_add, Nat.add_zero, pureFn_fn, List.append_nil, List.singleton_append, List.cons_append, List.nil_append, load24, load1_ptr (off := 0) g0 (v := x) rfl, load1_ptr (off := 1) g0 (v := y) rfl, p1, p2]
  exact q1.trans r1
theorem S82 {w : Wd} (hne : L w.l ≠ []) (hl : (L w.p).length + (L w.l).length ≤ 60) (σ : Store) : ∃ u : Wd, pureV CC 82 [vWd w] σ = some (vWd u) ∧ (L u.p, L u.l) = short (L w.p) (L w.l) := by
  obtain ⟨x', y', σ', h1, h2, h3⟩ := C82 (x := .p (eSl w.p)) (y := .p (eSl w.l)) (oa := w.p) (ob := w.l) (lo := 0) (σ := []) (Nat.le_refl _) rfl rfl (fun _ => S78 (by omega) _) (fun _ => S78 (by omega) _) hne (by omega) (by omega)
  obtain ⟨u, u1, u2, u3⟩ := thaw_wd h2 h3 0 σ'
  exact ⟨u, pureV_free (by simp [wd_view]) (by simp [wd_free]) h1 u1, by rw [u2, u3]⟩
end Go.D
end
/- Chapter 13: Shortest and Unstuttered, in the program and in the reference. -/
section
set_option linter.unusedVariables false
set_option linter.unusedSimpArgs false
namespace Go.D
open Las
def Out (σ : Store) (lo sz n : Nat) (cs : List PV) (x : DV) : Prop :=
  cs.length = n * sz ∧ ((n = 0 ∧ x = .p .nilsl) ∨ (n ≠ 0 ∧ ∃ r ver, x = .osl r ver sz n cs ∧ σ[r]? = some (.tok ver) ∧ lo ≤ r))
def Others (σ σ' : Store) (x : DV) : Prop := ∀ i row, σ[i]? = some row → (∀ r ver sz n cs, x = .osl r ver sz n cs → i ≠ r) → σ'[i]? = some row
theorem Out.zero {σ : Store} {lo sz : Nat} : Out σ lo sz 0 [] (.p .nilsl) := ⟨by simp, .inl ⟨rfl, rfl⟩⟩
theorem Others.mix {σ σ' : Store} {lo sz n : Nat} {cs : List PV} {x : DV} (h : Others σ σ' x) (ho : Out σ lo sz n cs x) {i : Nat} {row : Row} (hi : σ[i]? = some row) (hr : ∀ v, row ≠ .tok v) : σ'[i]? = some row := by
  refine h i row hi ?_
  rintro r ver sz' n' cs' rfl rfl
  rcases ho.2 with ⟨_, h2⟩ | ⟨_, r2, ver2, h2, h3, _⟩
  · cases h2
  · injection h2 with e1
    subst e1
    rw [hi] at h3
    injection h3 with h3
    exact hr _ h3
theorem Out.push {σ : Store} {t e lo sz b n : Nat} {z : List DV} {cs vs : List PV} {x : DV} (hs : srcType PP t = true) (hu : PP.underlying t = some (.slice e)) (h1 : size? PP e = some sz) (h2 : bytes? PP e = some b) (h3 : zeroOf PP e = some z)
    (h4 : z.length = sz) (hz : 0 < sz) (hb : 0 < b) (hb2 : b ≤ 1000) (hv : vs.length = sz) (ho : Out σ lo sz n cs x) (hn : n ≤ 1000000) (hlo : lo ≤ σ.length) :
    ∃ x' σ', append PP lo false t t x (.p (.sl true 1 vs)) σ = some (x', σ') ∧ Out σ' lo sz (n + 1) (cs ++ vs) x' ∧ Others σ σ' x ∧ σ.length ≤ σ'.length := by
  have hsrc : source σ sz (.p (.sl true 1 vs)) = some (1, vs.map DV.p) := by simp [source, hv]
  have hz0 : ¬ (z.length ≠ sz ∨ sz = 0) := by omega
  obtain ⟨hc, ho⟩ := ho
  rcases ho with ⟨rfl, rfl⟩ | ⟨hn0, r, ver, rfl, hr, hl⟩
  · refine ⟨.osl σ.length 0 sz 1 vs, σ ++ [.tok 0], ?_, ⟨by simp [hc, hv], .inr ⟨by simp, σ.length, 0, ?_, get_snoc, hlo⟩⟩, ?_, by simp⟩
    · have : b ≤ 140737488355328 := by omega
      simp only [append, hs, hu, h1, h2, h3, hz0, hsrc, appNil]
      simp [this, hb, pures_map, h4, hz, Nat.ne_of_gt hz]
    · have : cs = [] := List.length_eq_zero_iff.1 (by simpa using hc)
      rw [this]; simp
    · intro i row hi _
      exact get_old hi
  · refine ⟨.osl r (ver + 1) sz (n + 1) (cs ++ vs), σ.set r (.tok (ver + 1)), ?_, ⟨by simp [hc, hv, Nat.add_mul], .inr ⟨by simp, r, ver + 1, rfl, ?_, hl⟩⟩, ?_, by simp⟩
    · have e1 : (n + 1) * b ≤ 140737488355328 := Nat.le_trans (Nat.mul_le_mul (show n + 1 ≤ 1000001 by omega) hb2) (by decide)
      have e2 : n + 1 ≤ 140737488355328 := by omega
      simp only [append, hs, hu, h1, h2, h3, hz0, hsrc, appTok]
      simp [e1, e2, hb, hc, hl, hr, pures_map, h4, Nat.ne_of_gt hz]
    · rw [List.getElem?_set_self (get_lt hr)]
    · intro i row hi hne
      rw [List.getElem?_set_ne (fun e => hne _ _ _ _ _ rfl e.symm)]
      exact hi
theorem Out.vw {σ : Store} {lo sz n : Nat} {cs : List PV} {x : DV} (ho : Out σ lo sz n cs x) : view x = .p (if n = 0 then .nilsl else .sl false n (loosens cs)) := by
  rcases ho.2 with ⟨rfl, rfl⟩ | ⟨hn, r, ver, rfl, _, _⟩
  · rfl
  · simp [view, viewCell, hn]
theorem Out.push24 {σ : Store} {lo n : Nat} {cs : List PV} {v : PV} {x : DV} (ho : Out σ lo 1 n cs x) (hn : n ≤ 1000000) (hlo : lo ≤ σ.length) :
    ∃ x' σ', append PP lo false 24 24 x (.p (.sl true 1 [v])) σ = some (x', σ') ∧ Out σ' lo 1 (n + 1) (cs ++ [v]) x' ∧ Others σ σ' x ∧ σ.length ≤ σ'.length :=
  Out.push src24 u24 s3 bytes3 zero3 rfl (by decide) (by decide) (by decide) rfl ho hn hlo
theorem wErr_zero {P Q : List Int} (h : wErr P Q = 0) : Q ≠ [] ∧ P.length + Q.length ≤ 60 ∧ (∀ v ∈ P, oddB v = false) ∧ ∀ v ∈ Q, oddB v = false := by
  unfold wErr at h
  split at h
  · exact absurd h (by decide)
  · rename_i h1
    split at h
    · exact absurd h (by decide)
    · rename_i h2
      split at h
      · exact absurd h (by decide)
      · rename_i h3
        rw [Bool.not_eq_true, Bool.or_eq_false_iff, List.any_eq_false, List.any_eq_false] at h3
        exact ⟨fun e => h1 (by rw [e]; rfl), by omega, fun v hv => (Bool.not_eq_true _).mp (h3.1 v hv), fun v hv => (Bool.not_eq_true _).mp (h3.2 v hv)⟩
abbrev W0 : Wd := ⟨none, none⟩
theorem bld26_0 : build PP 26 [] = some (vWd W0) := Eq.trans (by kernel_rfl) rfl
theorem thaw_we (u : Wd) (e : Int) (m : Nat) (σ : Store) : thawAll m σ (.tuple [vWd u, .p (.int .i64 e)]) = some (.tuple [vWd u, .p (.int .i64 e)]) := by
  simp [thawAll, mapO, thawPart, vWd, thaw, thaw1, thawP, loosen_sl, loosen]
theorem st_wd {σ : Store} {r lo : Nat} {z : List DV} (u : Wd) (h : σ[r]? = some (.mix z)) (hlo : lo ≤ r) (hz : z.length = 2) : store PP lo 26 (.ptr r 0) (vWd u) σ = some (σ.set r (.mix [.p (eSl u.p), .p (eSl u.l)])) := st26 h hlo hz rfl rfl
theorem ce_wd {σ : Store} {r : Nat} (u : Wd) (hr : r < σ.length) : cellV PP 26 (.ptr r 0) (σ.set r (.mix [.p (eSl u.p), .p (eSl u.l)])) = some (vWd u) := cell26 (by rw [List.getElem?_set_self hr]) rfl
theorem S31 {w : Wd} (h0 : (L w.p).length ≤ 1000) (h1 : (L w.l).length ≤ 1000) (σ : Store) : ∃ u : Wd, pureV CC 31 [vWd w] σ = some (.tuple [vWd u, .p (.int .i64 (wErr (L w.p) (L w.l)))]) ∧
    (wErr (L w.p) (L w.l) ≠ 0 → u = W0) ∧ (wErr (L w.p) (L w.l) = 0 → (L u.p, L u.l) = short (L w.p) (L w.l)) := by
  have h15 := S15 h0 h1 [.mix [.p .nilsl, .p .nilsl]]
  by_cases hE : wErr (L w.p) (L w.l) = 0
  · obtain ⟨e1, e2, _⟩ := wErr_zero hE
    obtain ⟨u, u1, u2⟩ := S82 e1 e2 [.mix [.p .nilsl, .p .nilsl]]
    refine ⟨u, ?_, fun h => absurd hE h, fun _ => u2⟩
    have q1 := st_wd (σ := [.mix [.p .nilsl, .p .nilsl]]) (r := 0) (lo := 0) u rfl (Nat.le_refl _) rfl
    have q2 := ce_wd (σ := [.mix [.p .nilsl, .p .nilsl]]) (r := 0) u (by decide)
    rw [hE] at h15 ⊢
    refine pureV_free (by simp [wd_view]) (by simp [wd_free]) (F31_call (r := (.tuple [vWd u, .p (.int .i64 0)], ([Row.mix [.p .nilsl, .p .nilsl]] : Store).set 0 (.mix [.p (eSl u.p), .p (eSl u.l)]))) ?_) (thaw_we u 0 0 _)
    rw [F31_eq]
    simp only [box_wd, gG, zero26, List.nil_append, List.length_nil, load26, wd_all, shift_ptr, shift_pptr, Nat.zero_add, Nat.add_zero, pureFn_fn, List.append_nil, List.singleton_append, List.cons_append, List.nil_append, h15, b_neq, eqT (rfl : (0 : Int) = 0), u1, q1, q2]
  · refine ⟨W0, ?_, fun _ => rfl, fun h => absurd h hE⟩
    have q1 := st_wd (σ := [.mix [.p .nilsl, .p .nilsl]]) (r := 0) (lo := 0) W0 rfl (Nat.le_refl _) rfl
    have q2 := ce_wd (σ := [.mix [.p .nilsl, .p .nilsl]]) (r := 0) W0 (by decide)
    refine pureV_free (by simp [wd_view]) (by simp [wd_free]) (F31_call (r := (.tuple [vWd W0, .p (.int .i64 (wErr (L w.p) (L w.l)))], ([Row.mix [.p .nilsl, .p .nilsl]] : Store).set 0 (.mix [.p (eSl W0.p), .p (eSl W0.l)]))) ?_) (thaw_we _ _ 0 _)
    rw [F31_eq]
    simp only [box_wd, gG, zero26, List.nil_append, List.length_nil, load26, wd_all, shift_ptr, shift_pptr, Nat.zero_add, Nat.add_zero, pureFn_fn, List.append_nil, List.singleton_append, List.cons_append, List.nil_append, h15, b_neq, eqF hE, bld26_0, q1, q2]
theorem pureV_mix {call : CallF} {f : FuncId} {args args' : List DV} {σ : Store} {v v' : DV} {σ' : Store} (h0 : args.map view = args') (h1 : args'.map view = args') (h2 : args'.all rowFree = false) (h : call σ.length f args' σ = some (v', σ')) (ht : thawAll σ.length σ' v' = some v) : pureV call f args σ = some v := by
  rw [pureV_view h0 h1]
  exact pureV_rows h1 h2 h ht
theorem S78r {r off lo : Nat} {A l : List Int} {σ : Store} (h : σ[r]? = some (.mix (ints A))) (hA : (A.drop off).take l.length = l) (ho : off + l.length ≤ A.length) (hl : l.length ≤ 100000) : pureV CC 78 [.rsl r 1 off l.length] σ = some (.p (eSl (some l))) := by
  have hs : source σ 1 (.rsl r 1 off l.length) = some (l.length, ints l) := by
    have hb : off + l.length * 1 ≤ (ints A).length := by rw [ints_len]; omega
    simp only [source, if_true, loadN, h, if_pos hb]
    rw [Nat.mul_one, ints_drop, ints_take, hA]
    rfl
  have hap : ∃ y σ', append PP σ.length false 24 24 (.p (.sl true 0 [])) (.rsl r 1 off l.length) σ = some (y, σ') ∧ thawAll σ.length σ' y = some (.p (eSl (some l))) := by
    by_cases hb : l = []
    · subst hb
      refine ⟨.p (.sl true 0 []), σ, ?_, rfl⟩
      simp only [List.length_nil] at hs
      simp [append, src24, u24, s3, bytes3, zero3, hs, appLit]
    · have hb0 : ¬ (l.length = 0) := fun e => hb (List.length_eq_zero_iff.1 e)
      refine ⟨.osl σ.length 0 1 l.length (eInts l), σ ++ [.tok 0], ?_, by simp [thawAll, thawPart, thaw, thaw1, thawP, loosens_ints, eSl]⟩
      simp only [append, src24, Bool.true_eq_false, if_false, u24, s3, bytes3, zero3, List.length_singleton, ne_eq, not_true_eq_false, Nat.one_ne_zero, or_self, hs, appLit, if_neg hb0, Bool.false_eq_true, ints_pures, Option.map_some, List.nil_append, Nat.zero_add]
      rw [if_pos ⟨by omega, by omega, by decide, rfl⟩]
  obtain ⟨y, σ', h1, h2⟩ := hap
  refine pureV_mix (args' := [.rsl r 1 off l.length]) rfl rfl rfl (F78_call (r := (y, σ')) ?_) h2
  rw [F78_eq]
  simp only [isnil_rsl, gG, bs24_0, h1]
theorem S32 {w : Wd} (h0 : (L w.p).length ≤ 1000) (h1 : (L w.l).length ≤ 1000) (σ : Store) : ∃ u : Wd, pureV CC 32 [vWd w] σ = some (.tuple [vWd u, .p (.int .i64 (wErr (L w.p) (L w.l)))]) ∧
    (wErr (L w.p) (L w.l) ≠ 0 → u = W0) ∧ (wErr (L w.p) (L w.l) = 0 → (L u.p, L u.l) = unst (L w.p) (L w.l)) := by
  have h15 := S15 h0 h1 [.mix [.p .nilsl, .p .nilsl]]
  by_cases hE : wErr (L w.p) (L w.l) = 0
  · obtain ⟨hne, h60, _⟩ := wErr_zero hE
    have hq := List.length_pos_iff.2 hne
    have h84 := S84 (a := w.p) (b := w.l) (by omega) (by omega) true 0 [.mix [.p .nilsl, .p .nilsl]] (Nat.zero_le _)
    obtain ⟨σ1, Z1, a1, a2, a3, a4⟩ := S83 (l := L w.p ++ L w.l) (r := 1) (lo := 0) (by simp; omega) (Nat.zero_le _) (σ := [.mix [.p .nilsl, .p .nilsl], .mix (ints (L w.p ++ L w.l))]) rfl
    have hl1 : σ1.length = 2 := a4
    have ap := rs_lit (a := [lastI (L w.l)]) (PL.sl w.l) (by simp; omega) hne 0 σ1
    rw [hl1] at ap
    have g2 : (σ1 ++ [Row.mix (ints ([lastI (L w.l)] ++ L w.l))])[2]? = some (.mix (ints ([lastI (L w.l)] ++ L w.l))) := by rw [← hl1]; exact get_snoc
    obtain ⟨σ2, Z2, b1, b2, b3, b4⟩ := S83 (l := [lastI (L w.l)] ++ L w.l) (r := 2) (lo := 0) (by simp; omega) (Nat.zero_le _) g2
    have hl2 : σ2.length = 3 := by rw [b4, List.length_append, hl1]; rfl
    have r0 : σ2[0]? = some (.mix [.p .nilsl, .p .nilsl]) := by
      rw [b3 0 (by decide), List.getElem?_append_left (by omega), a3 0 (by decide)]; rfl
    have r1 : σ2[1]? = some (.mix (ints (once (L w.p ++ L w.l) ++ Z1))) := by
      rw [b3 1 (by decide), List.getElem?_append_left (by omega)]; exact a2
    have ho : once ([lastI (L w.l)] ++ L w.l) = lastI (L w.l) :: dd (lastI (L w.l)) (L w.l) := rfl
    have hol1 := once_len (L w.p ++ L w.l)
    have hol2 := once_len ([lastI (L w.l)] ++ L w.l)
    rw [List.length_append] at hol1
    rw [List.length_append, List.length_singleton] at hol2
    have hon : once (L w.p ++ L w.l) ≠ [] := (once_last (by simp [hne])).1
    have hop := List.length_pos_iff.2 hon
    generalize hDD : dd (lastI (L w.l)) (L w.l) = D at *
    have hm : (once ([lastI (L w.l)] ++ L w.l)).length = D.length + 1 := by rw [ho]; rfl
    rw [hm] at b1 hol2
    rw [ho] at b2
    have sd : sliceOp PP 24 (.rsl 2 1 0 (D.length + 1)) (some (.p (.int .i64 1))) none none = some (.rsl 2 1 1 D.length) := by
      have := rs_drop (r := 2) (off := 0) (n := D.length + 1) (k := 1) (by omega)
      simpa using this
    have hun : unst (L w.p) (L w.l) = if D = [] then short (once (L w.p ++ L w.l)).dropLast [lastI (L w.l)] else short (once (L w.p ++ L w.l)) D := by unfold unst; rw [hDD]
    have i1 := (PL.sl w.l).idx (i := (L w.l).length - 1) (by omega)
    have ld1 := fun σ => load1_getD (l := L w.l) (i := (L w.l).length - 1) (by omega) σ
    have e1 : (L w.l).getD ((L w.l).length - 1) 0 = lastI (L w.l) := rfl
    rw [e1] at ld1
    have hz : ∀ σ, len PP 24 (.p (eSl w.l)) σ = some (.p (.int .i64 ((L w.l).length : Nat))) := (PL.sl w.l).len
    -- the end, whatever is shortened
    have fin : ∀ (x y : DV) (oa ob : OI) (y0 : DV), x.one = true → y0.one = true → view (.agg [x, y0]) = .agg [x, y] → view (.agg [x, y]) = .agg [x, y] → y.one = true → rowFree (.agg [x, y]) = false → (∀ ext, pureV CC 78 [x] (σ2 ++ ext) = some (.p (eSl oa))) → (∀ ext, pureV CC 78 [y] (σ2 ++ ext) = some (.p (eSl ob))) →
        L ob ≠ [] → (L oa).length + (L ob).length ≤ 1000 → (L ob).length ≤ 60 → ∃ u : Wd, pureV CC 82 [.agg [x, y0]] σ2 = some (vWd u) ∧ (L u.p, L u.l) = short (L oa) (L ob) := by
      intro x y oa ob y0 hx hy0 hv hv2 hy hrf c1 c2 c3 c4 c5
      obtain ⟨x', y', σ', k1, k2, k3⟩ := C82 (lo := σ2.length) (σ := σ2) (Nat.le_refl _) hx hy c1 c2 c3 c4 c5
      obtain ⟨u, u1, u2, u3⟩ := thaw_wd k2 k3 σ2.length σ'
      exact ⟨u, pureV_mix (by simp only [List.map_cons, List.map_nil, hv]) (by simp only [List.map_cons, List.map_nil, hv2]) (by simp only [List.all_cons, List.all_nil, hrf, Bool.and_true]) k1 u1, by rw [u2, u3]⟩
    have key : ∃ (u : Wd) (x y : DV), x.one = true ∧ y.one = true ∧ pureV CC 82 [.agg [x, y]] σ2 = some (vWd u) ∧ (L u.p, L u.l) = unst (L w.p) (L w.l) ∧
        ((D.length = 0 ∧ x = .rsl 1 1 0 ((once (L w.p ++ L w.l)).length - 1) ∧ y = .p (.sl true 1 [.int .i64 (lastI (L w.l))])) ∨ (D.length ≠ 0 ∧ x = .rsl 1 1 0 (once (L w.p ++ L w.l)).length ∧ y = .rsl 2 1 1 D.length)) := by
      have hr1 : ∀ ext, (σ2 ++ ext)[1]? = some (.mix (ints (once (L w.p ++ L w.l) ++ Z1))) := fun ext => by rw [List.getElem?_append_left (by omega)]; exact r1
      have hr2 : ∀ ext, (σ2 ++ ext)[2]? = some (.mix (ints (lastI (L w.l) :: D ++ Z2))) := fun ext => by rw [List.getElem?_append_left (by omega)]; exact b2
      by_cases hd : D = []
      · have hlen : (once (L w.p ++ L w.l)).dropLast.length = (once (L w.p ++ L w.l)).length - 1 := by simp
        have c1 : ∀ ext, pureV CC 78 [.rsl 1 1 0 ((once (L w.p ++ L w.l)).length - 1)] (σ2 ++ ext) = some (.p (eSl (some (once (L w.p ++ L w.l)).dropLast))) := fun ext => by
          rw [← hlen]
          refine S78r (lo := 0) (hr1 ext) ?_ (by rw [hlen, List.length_append]; omega) (by omega)
          rw [List.drop_zero, hlen, List.take_append_of_le_length (by omega), dl_take]
        have c2 : ∀ ext, pureV CC 78 [.p (eSl (some [lastI (L w.l)]))] (σ2 ++ ext) = some (.p (eSl (some [lastI (L w.l)]))) := fun ext => S78 (by simp) _
        obtain ⟨u, u1, u2⟩ := fin (.rsl 1 1 0 ((once (L w.p ++ L w.l)).length - 1)) (.p (eSl (some [lastI (L w.l)]))) (some (once (L w.p ++ L w.l)).dropLast) (some [lastI (L w.l)]) (.p (.sl true 1 [.int .i64 (lastI (L w.l))])) rfl rfl
          (by simp [view, viewCell, loosen, loosens, eSl, eInts]) (by simp [view, viewCell, loosen, loosens, eSl, eInts]) rfl rfl c1 c2 (by simp) (by simp; omega) (by simp)
        refine ⟨u, _, _, rfl, rfl, u1, ?_, .inl ⟨by rw [hd]; rfl, rfl, rfl⟩⟩
        rw [u2, hun, if_pos hd]; rfl
      · have hdp := List.length_pos_iff.2 hd
        have c1 : ∀ ext, pureV CC 78 [.rsl 1 1 0 (once (L w.p ++ L w.l)).length] (σ2 ++ ext) = some (.p (eSl (some (once (L w.p ++ L w.l))))) := fun ext => by
          refine S78r (lo := 0) (hr1 ext) ?_ (by rw [List.length_append]; omega) (by omega)
          rw [List.drop_zero, List.take_append_of_le_length (by omega), List.take_length]
        have c2 : ∀ ext, pureV CC 78 [.rsl 2 1 1 D.length] (σ2 ++ ext) = some (.p (eSl (some D))) := fun ext => by
          refine S78r (lo := 0) (hr2 ext) ?_ (by simp; omega) (by omega)
          simp
        obtain ⟨u, u1, u2⟩ := fin (.rsl 1 1 0 (once (L w.p ++ L w.l)).length) (.rsl 2 1 1 D.length) (some (once (L w.p ++ L w.l))) (some D) (.rsl 2 1 1 D.length) rfl rfl rfl rfl rfl rfl c1 c2 hd (by show (once (L w.p ++ L w.l)).length + D.length ≤ 1000; omega) (by show D.length ≤ 60; omega)
        refine ⟨u, _, _, rfl, rfl, u1, ?_, .inr ⟨by omega, rfl, rfl⟩⟩
        rw [u2, hun, if_neg hd]; rfl
    obtain ⟨u, x, y, hx, hy, k1, k2, k3⟩ := key
    refine ⟨u, ?_, fun h => absurd hE h, fun _ => k2⟩
    have s1 := st_wd u r0 (Nat.zero_le 0) rfl
    have s2 := ce_wd (σ := σ2) (r := 0) u (by omega)
    rw [hE] at h15 ⊢
    refine pureV_free (by simp [wd_view]) (by simp [wd_free]) (F32_call (r := (.tuple [vWd u, .p (.int .i64 0)], σ2.set 0 (.mix [.p (eSl u.p), .p (eSl u.l)]))) ?_) (thaw_we u 0 0 _)
    have h84' : CC 0 84 [.p (.sl true 2 [eSl w.p, eSl w.l])] [.mix [.p .nilsl, .p .nilsl]] = some (.rsl 1 1 0 (L w.p ++ L w.l).length, [.mix [.p .nilsl, .p .nilsl], .mix (ints (L w.p ++ L w.l))]) := h84
    have ap' : append PP 0 true 24 24 (.p (.sl true 1 [.int .i64 (lastI (L w.l))])) (.p (eSl w.l)) σ1 = some (.rsl 2 1 0 (lastI (L w.l) :: L w.l).length, σ1 ++ [.mix (ints (lastI (L w.l) :: L w.l))]) := ap
    have b1' : CC 0 83 [.rsl 2 1 0 (lastI (L w.l) :: L w.l).length] (σ1 ++ [.mix (ints (lastI (L w.l) :: L w.l))]) = some (.rsl 2 1 0 (D.length + 1), σ2) := b1
    rw [F32_eq]
    rcases k3 with ⟨d0, rfl, rfl⟩ | ⟨d0, rfl, rfl⟩
    · have d0' : (D.length : Int) = 0 := by omega
      simp (disch := omega) only [box_wd, gG, zero26, List.nil_append, List.length_nil, load26, wd_all, shift_ptr, shift_pptr, Nat.zero_add, Nat.add_zero, pureFn_fn, List.append_nil, List.singleton_append, List.cons_append, List.nil_append, h15, b_neq, eqT (rfl : (0 : Int) = 0), fa26_0, fa26_1, load24, wd_0, wd_1, bs130_2, plainFn, h84', a1, hz, sub1, i1, load3, ld1, bs24_1, ap', b1', sd, rs_len, b_eql, eqT d0', rs_take, f32_J0_eq, bld26 hx hy, k1, s1, s2]
    · have d0' : ¬ (D.length : Int) = 0 := by omega
      simp (disch := omega) only [box_wd, gG, zero26, List.nil_append, List.length_nil, load26, wd_all, shift_ptr, shift_pptr, Nat.zero_add, Nat.add_zero, pureFn_fn, List.append_nil, List.singleton_append, List.cons_append, List.nil_append, h15, b_neq, eqT (rfl : (0 : Int) = 0), fa26_0, fa26_1, load24, wd_0, wd_1, bs130_2, plainFn, h84', a1, hz, sub1, i1, load3, ld1, bs24_1, ap', b1', sd, rs_len, b_eql, eqF d0', rs_take, f32_J0_eq, bld26 hx hy, k1, s1, s2]
  · refine ⟨W0, ?_, fun _ => rfl, fun h => absurd h hE⟩
    have q1 := st_wd (σ := [.mix [.p .nilsl, .p .nilsl]]) (r := 0) (lo := 0) W0 rfl (Nat.le_refl _) rfl
    have q2 := ce_wd (σ := [.mix [.p .nilsl, .p .nilsl]]) (r := 0) W0 (by decide)
    refine pureV_free (by simp [wd_view]) (by simp [wd_free]) (F32_call (r := (.tuple [vWd W0, .p (.int .i64 (wErr (L w.p) (L w.l)))], ([Row.mix [.p .nilsl, .p .nilsl]] : Store).set 0 (.mix [.p (eSl W0.p), .p (eSl W0.l)]))) ?_) (thaw_we _ _ 0 _)
    rw [F32_eq]
    simp only [box_wd, gG, zero26, List.nil_append, List.length_nil, load26, wd_all, shift_ptr, shift_pptr, Nat.zero_add, Nat.add_zero, pureFn_fn, List.append_nil, List.singleton_append, List.cons_append, List.nil_append, h15, b_neq, eqF hE, bld26_0, q1, q2]
end Go.D
end
/- Chapter 13: Shortest and Unstuttered in the reference; LassoWords. -/
section
set_option linter.unusedVariables false
set_option linter.unusedSimpArgs false
namespace Go.D
open Las
def prF (Q : List Int) (n : Nat) : Nat → Nat → Bool
  | 0, _ => true
  | d + 1, i => decide (Q.getD i 0 = Q.getD (i - n) 0) && prF Q n d (i + 1)
theorem prF_iff (Q : List Int) (n : Nat) : ∀ d i, prF Q n d i = true ↔ ∀ j, i ≤ j → j < i + d → Q.getD j 0 = Q.getD (j - n) 0
  | 0, i => by
    simp only [prF, true_iff]
    intro j h1 h2
    omega
  | d + 1, i => by
    rw [prF, Bool.and_eq_true, decide_eq_true_iff, prF_iff Q n d (i + 1)]
    constructor
    · rintro ⟨h1, h2⟩ j h3 h4
      by_cases e : j = i
      · subst e; exact h1
      · exact h2 j (by omega) (by omega)
    · intro h
      exact ⟨h i (Nat.le_refl _) (by omega), fun j h1 h2 => h j (by omega) (by omega)⟩
theorem per_prF {Q : List Int} {n : Nat} (hn : n ≤ Q.length) : Per Q n ↔ (Q.length % n = 0 ∧ prF Q n (Q.length - n) n = true) := by
  unfold Per
  rw [prF_iff]
  constructor
  · rintro ⟨h1, h2⟩
    exact ⟨h1, fun j h3 h4 => h2 j (by omega) h3⟩
  · rintro ⟨h1, h2⟩
    exact ⟨h1, fun j h3 h4 => h2 j h4 (by omega)⟩
section
variable {w : Wd} {Q : List Int} (hQ : Q.length ≤ 1000) (hP : (L w.p).length ≤ 1000) {lo : Nat} {x2 : DV} {σ : Store}
include hQ hP
omit hP in
theorem L34_1 {n : Nat} (hn : 1 ≤ n) : ∀ (d i : Nat) (b : Bool), Q.length - i = d → n ≤ i → i ≤ Q.length →
    f34_L1 guardT lo (.pptr (eWd w) 0) x2 (.p (eSl (some Q))) (N n) (.p (.bool b)) (N i) σ = f34_L1 guardT lo (.pptr (eWd w) 0) x2 (.p (eSl (some Q))) (N n) (.p (.bool (b && prF Q n d i))) (N Q.length) σ
  | 0, i, b, hd, hi, hi2 => by
    have e : i = Q.length := by omega
    subst e
    rw [prF, Bool.and_true]
  | d + 1, i, b, hd, hi, hi2 => by
    have hlt : i < Q.length := by omega
    have i1 := (PL.some Q).idx hlt
    have i2 := (PL.some Q).idx (i := i - n) (by omega)
    have l1 := load1_getD (l := Q) hlt σ
    have l2 := load1_getD (l := Q) (i := i - n) (by omega) σ
    cases b with
    | false =>
      rw [Bool.false_and, f34_L1_eq guardT rfl, f34_L1_eq guardT rfl]
      simp (disch := omega) only [N, (PL.some Q).len, gG, b_lss, ltT, ltF]
    | true =>
      rw [Bool.true_and, f34_L1_eq guardT rfl]
      simp (disch := omega) only [N, (PL.some Q).len, gG, b_lss, ltT, i1, load3, l1, subN, i2, l2, b_eql, add1]
      have ih := L34_1 hn d (i + 1) (decide (Q.getD i 0 = Q.getD (i - n) 0)) (by omega) (by omega) (by omega)
      simp only [N] at ih
      rw [ih]
      rfl
theorem L34_0 : ∀ (d n : Nat), n + d = Q.length → 1 ≤ n → ∃ y, f34_L0 guardT lo (.pptr (eWd w) 0) x2 (.p (eSl (some Q))) (N n) σ = f34_L2 guardT lo x2 y (.p (eSl (some (L w.p)))) σ ∧ PL y (Q.take (minFrom Q d n))
  | d, n, hd, hn => by
    have h1 := L34_1 (w := w) hQ (lo := lo) (x2 := x2) (σ := σ) hn (Q.length - n) n (decide (Q.length % n = 0)) rfl (Nat.le_refl _) (by omega)
    have hper := per_prF (Q := Q) (n := n) (by omega)
    have e : (decide (Q.length % n = 0) && prF Q n (Q.length - n) n) = decide (Per Q n) := by
      rw [Bool.eq_iff_iff, Bool.and_eq_true, decide_eq_true_iff, decide_eq_true_iff, hper]
    rw [e] at h1
    have ez : decide (((Q.length % n : Nat) : Int) = 0) = decide (Q.length % n = 0) := decide_eq_decide.2 (by omega)
    have hex : f34_L0 guardT lo (.pptr (eWd w) 0) x2 (.p (eSl (some Q))) (N n) σ = f34_L1 guardT lo (.pptr (eWd w) 0) x2 (.p (eSl (some Q))) (N n) (.p (.bool (decide (Per Q n)))) (N Q.length) σ := by
      rw [← h1, f34_L0_eq guardT rfl]
      simp (disch := omega) only [N, (PL.some Q).len, gG, b_leq, leT, remN, b_eql, ez]
    by_cases hp : Per Q n
    · obtain ⟨y, hy1, hy2⟩ := (PL.some Q).take (k := n) (by omega)
      refine ⟨y, ?_, ?_⟩
      · rw [hex, f34_L1_eq guardT rfl]
        simp (disch := omega) only [N, decide_eq_true hp, (PL.some Q).len, gG, b_lss, ltF, hy1, fa26_0, shift_ptr, shift_pptr, Nat.zero_add, Nat.add_zero, pureFn_fn, List.append_nil, List.singleton_append, List.cons_append, List.nil_append, load24, wd_0, S52 (show (L w.p).length ≤ 1000000 by omega)]
      · cases d with
        | zero =>
          have : n = Q.length := by omega
          subst this
          exact hy2
        | succ d => unfold minFrom; rw [if_pos hp]; exact hy2
    · cases d with
      | zero =>
        exfalso
        have : n = Q.length := by omega
        subst this
        exact hp (per_self Q)
      | succ d =>
        obtain ⟨y, y1, y2⟩ := L34_0 d (n + 1) (by omega) (by omega)
        refine ⟨y, ?_, ?_⟩
        · rw [hex, ← y1, f34_L1_eq guardT rfl]
          simp (disch := omega) only [N, decide_eq_false hp, (PL.some Q).len, gG, b_lss, ltF, add1]
        · unfold minFrom; rw [if_neg hp]; exact y2
end
theorem f34_L2_ok {lo t : Nat} (hlo : lo ≤ t) : ∀ (k : Nat) (x y : DV) (P Q : List Int) (σ : Store) (z : List DV), P.length ≤ k → PL x P → PL y Q → Q ≠ [] → P.length + Q.length ≤ 1000 → σ[t]? = some (.mix z) → z.length = 2 → lo ≤ σ.length →
    ∃ x' y' σ', f34_L2 guardT lo (.ptr t 0) y x σ = some (.agg [x', y'], σ') ∧ PL x' (rot P.length P Q).1 ∧ PL y' (rot P.length P Q).2
  | k, x, y, P, Q, σ, z, hk, hx, hy, hQ, hl, ht, hz, hls => by
    have hq := List.length_pos_iff.2 hQ
    have hend : ¬ (P ≠ [] ∧ lastI P = lastI Q) → ∀ b : Bool, b = false → ∃ x' y' σ', (condK (.p (.bool b)) (none : Option (DV × Store)) ((build PP 26 [(0, x), (1, y)]).bind fun x76 => (store PP lo 26 (.ptr t 0) x76 σ).bind fun σ26 => (cellV PP 26 (.ptr t 0) σ26).bind fun v0 => some (v0, σ26))) = some (.agg [x', y'], σ') ∧ PL x' (rot P.length P Q).1 ∧ PL y' (rot P.length P Q).2 := fun hc b hb => by
      subst hb
      have e : rot P.length P Q = (P, Q) := by
        cases hP : P.length with
        | zero => rfl
        | succ n => unfold rot; rw [if_neg hc]
      rw [e]
      refine ⟨x, y, σ.set t (.mix [x, y]), ?_, hx, hy⟩
      have h1 := st26 (c := [x, y]) ht hlo hz rfl (by simp [hx.one.1, hy.one.1])
      have h2 := cell26 (σ := σ.set t (.mix [x, y])) (r := t) (c := [x, y]) (by rw [List.getElem?_set_self (get_lt ht)]) rfl
      simp only [condK_false, bld26 hx.one.1 hy.one.1, obind, h1, h2]
    by_cases hP : P = []
    · subst hP
      have q0 : ¬ (((0 : Nat) : Int) > 0) := by decide
      obtain ⟨x', y', σ', r1, r2, r3⟩ := hend (fun h => h.1 rfl) false rfl
      refine ⟨x', y', σ', ?_, r2, r3⟩
      rw [f34_L2_eq guardT rfl]
      simp only [hx.len, gG, b_gtr, List.length_nil, gtF q0]
      simpa only [condK_false] using r1
    · have hp := List.length_pos_iff.2 hP
      have q0 : (P.length : Int) > 0 := by omega
      have i1 := hx.idx (i := P.length - 1) (by omega)
      have i2 := hy.idx (i := Q.length - 1) (by omega)
      have l1 := load1_getD (l := P) (i := P.length - 1) (by omega) σ
      have l2 := load1_getD (l := Q) (i := Q.length - 1) (by omega) σ
      have e1 : P.getD (P.length - 1) 0 = lastI P := rfl
      have e2 : Q.getD (Q.length - 1) 0 = lastI Q := rfl
      rw [e1] at l1
      rw [e2] at l2
      rw [f34_L2_eq guardT rfl]
      simp (disch := omega) only [hx.len, hy.len, gG, b_gtr, gtT q0, sub1, i1, load3, l1, i2, l2, b_eql]
      by_cases hc : lastI P = lastI Q
      · obtain ⟨p', hp1, hp2⟩ := hx.take (k := P.length - 1) (by omega)
        obtain ⟨q', hq1, hq2⟩ := hy.take (k := Q.length - 1) (by omega)
        rw [dl_take] at hp2 hq2
        obtain ⟨n', σ1, a1, a2, a3⟩ := hq2.app (a := [lastI Q]) (by simp; omega) lo σ
        have ht1 : σ1[t]? = some (.mix z) := by
          rcases a3 with rfl | rfl
          · exact ht
          · exact get_old ht
        have hl1 : lo ≤ σ1.length := by
          rcases a3 with rfl | rfl
          · exact hls
          · simp; omega
        cases k with
        | zero => omega
        | succ k =>
          obtain ⟨x', y', σ', r1, r2, r3⟩ := f34_L2_ok hlo k p' n' P.dropLast ([lastI Q] ++ Q.dropLast) σ1 z (by simp; omega) hp2 a2 (by simp) (by simp; omega) ht1 hz hl1
          have er : rot P.length P Q = rot P.dropLast.length P.dropLast ([lastI Q] ++ Q.dropLast) := by
            rw [List.length_dropLast]
            obtain ⟨m, hm⟩ : ∃ m, P.length = m + 1 := ⟨P.length - 1, by omega⟩
            rw [hm]
            conv => lhs; unfold rot
            rw [if_pos ⟨hP, hc⟩]
            rfl
          rw [er]
          refine ⟨x', y', σ', ?_, r2, r3⟩
          rw [← r1]
          have ab : append PP lo false 24 24 (.p (.sl true 1 [.int .i64 (lastI Q)])) q' σ = some (n', σ1) := a1
          simp (disch := omega) only [eqT hc, gG, hy.len, hx.len, sub1, hp1, i2, load3, l2, bs24_1, hq1, ab]
      · obtain ⟨x', y', σ', r1, r2, r3⟩ := hend (fun h => hc h.2) false rfl
        refine ⟨x', y', σ', ?_, r2, r3⟩
        simp only [eqF hc, gG]
        simpa only [condK_false] using r1
theorem S34 {w : Wd} (hne : L w.l ≠ []) (hl : (L w.p).length + (L w.l).length ≤ 1000) (σ : Store) : ∃ u : Wd, pureV CC 34 [vWd w] σ = some (vWd u) ∧ (L u.p, L u.l) = short (L w.p) (L w.l) := by
  have hlb := List.length_pos_iff.2 hne
  obtain ⟨y, y1, y2⟩ := L34_0 (w := w) (Q := L w.l) (by omega) (by omega) (lo := 0) (x2 := .ptr 0 0) (σ := [.mix [.p .nilsl, .p .nilsl]]) ((L w.l).length - 1) 1 (by omega) (Nat.le_refl _)
  have hm := minP_ok hne
  obtain ⟨x', y', σ', r1, r2, r3⟩ := f34_L2_ok (lo := 0) (t := 0) (Nat.le_refl _) _ (.p (eSl (some (L w.p)))) y (L w.p) ((L w.l).take (minP (L w.l))) [.mix [.p .nilsl, .p .nilsl]] _ (Nat.le_refl _) (PL.some _) y2 (take_ne hne hm.1) (by rw [List.length_take]; omega) rfl rfl (Nat.zero_le _)
  obtain ⟨u, u1, u2, u3⟩ := thaw_wd r2 r3 0 σ'
  refine ⟨u, pureV_free (by simp [wd_view]) (by simp [wd_free]) (F34_call (r := (.agg [x', y'], σ')) ?_) u1, by rw [u2, u3]; rfl⟩
  rw [F34_eq]
  simp only [box_wd, gG, zero26, List.nil_append, List.length_nil, fa26_1, shift_ptr, shift_pptr, Nat.zero_add, Nat.add_zero, pureFn_fn, List.append_nil, List.singleton_append, List.cons_append, List.nil_append, load24, wd_1, S52 (show (L w.l).length ≤ 1000000 by omega)]
  exact y1.trans r1
theorem S34p {x y : DV} {P Q : List Int} (hx : PL x P) (hy : PL y Q) (hne : Q ≠ []) (hl : P.length + Q.length ≤ 1000) (σ : Store) : ∃ u : Wd, pureV CC 34 [.agg [x, y]] σ = some (vWd u) ∧ (L u.p, L u.l) = short P Q := by
  obtain ⟨o, h1, h2⟩ := hx.vw
  obtain ⟨o', h3, h4⟩ := hy.vw
  have vc : ∀ {x : DV} {l : List Int} {o : OI}, PL x l → view x = .p (eSl o) → viewCell x = .p (eSl o) := fun {x l o} h e => by
    rcases h with ⟨rfl, rfl⟩ | ⟨ex, rfl⟩ | ⟨r, v, rfl⟩ <;> exact e
  obtain ⟨u, u1, u2⟩ := S34 (w := ⟨o, o'⟩) (by simpa [h4] using hne) (by simpa [h2, h4] using hl) σ
  refine ⟨u, ?_, by simpa [h2, h4] using u2⟩
  rw [pureV_view (args' := [vWd ⟨o, o'⟩]) (by simp [view, vc hx h1, vc hy h3, vWd]) (by simp [wd_view])]
  exact u1
theorem out_pl {σ : Store} {lo : Nat} {l : List Int} {x : DV} (h : Out σ lo 1 l.length (eInts l) x) : PL x l := by
  rcases h.2 with ⟨h1, rfl⟩ | ⟨_, r, v, rfl, _, _⟩
  · exact .inl ⟨rfl, List.length_eq_zero_iff.1 h1⟩
  · exact .inr (.inr ⟨r, v, rfl⟩)
theorem Out.pushI {σ : Store} {lo : Nat} {l : List Int} {v : Int} {x : DV} (ho : Out σ lo 1 l.length (eInts l) x) (hn : l.length ≤ 100000) (hlo : lo ≤ σ.length) :
    ∃ x' σ', append PP lo false 24 24 x (.p (.sl true 1 [.int .i64 v])) σ = some (x', σ') ∧ Out σ' lo 1 (l ++ [v]).length (eInts (l ++ [v])) x' ∧ Others σ σ' x ∧ σ.length ≤ σ'.length := by
  obtain ⟨x', σ', h1, h2, h3, h4⟩ := Out.push24 (v := pI v) ho (by omega) hlo
  refine ⟨x', σ', h1, ?_, h3, h4⟩
  have e : eInts l ++ [pI v] = eInts (l ++ [v]) := by simp [eInts]
  rw [e] at h2
  rw [List.length_append]
  exact h2
section
variable {x : DV} {l : List Int} (hx : PL x l) (hl : l.length ≤ 10000)
include hx hl
theorem L85 : ∀ (d i : Nat) (y : DV) (σ : Store), l.length - i = d → i ≤ l.length → Out σ 0 1 (once (l.take i)).length (eInts (once (l.take i))) y →
    ∃ y' σ', f85_L0 guardT 0 x y (N i) σ = some (y', σ') ∧ Out σ' 0 1 (once l).length (eInts (once l)) y'
  | 0, i, y, σ, hd, hi, ho => by
    rw [List.take_of_length_le (by omega)] at ho
    refine ⟨y, σ, ?_, ho⟩
    rw [f85_L0_eq guardT rfl]
    simp (disch := omega) only [N, hx.len, gG, b_lss, ltF]
  | d + 1, i, y, σ, hd, hi, ho => by
    have hlt : i < l.length := by omega
    have hol := once_len (l.take i)
    rw [List.length_take] at hol
    have i1 := hx.idx hlt
    have l1 := load1_getD hlt σ
    rw [f85_L0_eq guardT rfl]
    by_cases h0 : i = 0
    · subst h0
      obtain ⟨y1, σ1, p1, p2, _, _⟩ := Out.pushI (v := l.getD 0 0) ho (by omega) (Nat.zero_le _)
      have e : once (l.take 0) ++ [l.getD 0 0] = once (l.take (0 + 1)) := by
        cases l with
        | nil => simp at hlt
        | cons a l => simp [once, dd]
      rw [e] at p2
      obtain ⟨y', σ', r1, r2⟩ := L85 d 1 y1 σ1 (by omega) (by omega) p2
      refine ⟨y', σ', ?_, r2⟩
      rw [← r1]
      have z0 : (((0 : Nat) : Int)) = 0 := rfl
      simp (disch := omega) only [N, hx.len, gG, b_lss, ltT, b_eql, eqT z0, i1, load3, l1, bs24_1, p1, f85_J0_eq, add1]
    · have i2 := hx.idx (i := i - 1) (by omega)
      have l2 := load1_getD (l := l) (i := i - 1) (by omega) σ
      have h0' : ¬ (i : Int) = 0 := by omega
      have hs := once_take_succ (l := l) (k := i) (by omega) hlt
      by_cases he : l.getD i 0 = l.getD (i - 1) 0
      · rw [if_pos he, List.append_nil] at hs
        obtain ⟨y', σ', r1, r2⟩ := L85 d (i + 1) y σ (by omega) (by omega) (by rw [hs]; exact ho)
        refine ⟨y', σ', ?_, r2⟩
        rw [← r1]
        simp (disch := omega) only [N, hx.len, gG, b_lss, ltT, b_eql, eqF h0', i1, load3, l1, sub1, i2, l2, b_neq, eqT he, f85_J0_eq, add1]
      · rw [if_neg he] at hs
        obtain ⟨y1, σ1, p1, p2, _, _⟩ := Out.pushI (v := l.getD i 0) ho (by omega) (Nat.zero_le _)
        rw [← hs] at p2
        obtain ⟨y', σ', r1, r2⟩ := L85 d (i + 1) y1 σ1 (by omega) (by omega) p2
        refine ⟨y', σ', ?_, r2⟩
        rw [← r1]
        simp (disch := omega) only [N, hx.len, gG, b_lss, ltT, b_eql, eqF h0', i1, load3, l1, sub1, i2, l2, b_neq, eqF he, bs24_1, p1, f85_J0_eq, add1]
end
theorem S85 {x : DV} {l : List Int} (hx : PL x l) (hl : l.length ≤ 10000) (σ : Store) : ∃ o, pureV CC 85 [x] σ = some (.p (eSl o)) ∧ L o = once l := by
  obtain ⟨o, h1, h2⟩ := hx.vw
  have hp : PL (.p (eSl o)) l := by rw [← h2]; exact PL.sl o
  obtain ⟨y, σ', r1, r2⟩ := L85 hp hl _ 0 (.p .nilsl) [] rfl (Nat.zero_le _) Out.zero
  obtain ⟨o2, t1, t2⟩ := (out_pl r2).thaw 0 σ'
  have t3 : thawAll 0 σ' y = some (.p (eSl o2)) := by
    rcases out_pl r2 with ⟨rfl, _⟩ | ⟨ex, rfl⟩ | ⟨r, v, rfl⟩ <;> exact t1
  refine ⟨o2, ?_, t2⟩
  rw [pureV_view (args' := [.p (eSl o)]) (by simp only [List.map_cons, List.map_nil, h1]) (by simp [sl_view])]
  refine pureV_free (by simp [sl_view]) rfl (F85_call (r := (y, σ')) ?_) t3
  rw [F85_eq]
  exact r1
end Go.D
end
/- Chapter 13: Unstuttered in the reference. -/
section
set_option linter.unusedVariables false
set_option linter.unusedSimpArgs false
namespace Go.D
open Las
theorem app24n {x : DV} {l : List Int} (h : PL x l) (hl : l.length ≤ 1000000) (hb : l ≠ []) (lo : Nat) (σ : Store) : append PP lo false 24 24 (.p (.sl true 0 [])) x σ = some (.osl σ.length 0 1 l.length (eInts l), σ ++ [Row.tok 0]) := by
  have hb0 : ¬ (l.length = 0) := fun e => hb (List.length_eq_zero_iff.1 e)
  simp [append, src24, u24, s3, bytes3, zero3, h.src σ, appLit, hb0, pures_map, hb]
  omega
theorem app24m {x : DV} {r : Nat} {l m : List Int} (h : PL x m) (hl : l.length + m.length ≤ 1000000) {lo : Nat} {σ : Store} (hr : σ[r]? = some (Row.tok 0)) (hlo : lo ≤ r) : append PP lo false 24 24 (.osl r 0 1 l.length (eInts l)) x σ = some (.osl r 1 1 (l.length + m.length) (eInts l ++ eInts m), σ.set r (Row.tok 1)) := by
  simp [append, src24, u24, s3, bytes3, zero3, h.src σ, appTok, pures_map, hr, hlo, ints_length]
  omega
theorem copy_app (lo : Nat) (o o' : OI) (h : (L o).length + (L o').length ≤ 1000000) (σ : Store) (hlo : lo ≤ σ.length) :
    ∃ y y' σ1 σ2, CC σ.length 52 [.p (eSl o)] σ = some (y, σ1) ∧ append PP lo false 24 24 y (.p (eSl o')) σ1 = some (y', σ2) ∧ PL y' (L o ++ L o') ∧ ∀ (i : Nat) (row : Row), σ[i]? = some row → σ2[i]? = some row := by
  have hc : ∀ {y σ1}, append PP σ.length false 24 24 (.p (.sl true 0 [])) (.p (eSl o)) σ = some (y, σ1) → CC σ.length 52 [.p (eSl o)] σ = some (y, σ1) := fun hh => F52_call (by rw [F52_eq]; simp only [bs24_0, gG, hh])
  have hs := (PL.sl o).src σ
  by_cases hP : L o = []
  · obtain ⟨y', σ2, a1, a2, a3⟩ := PL.app (a := []) (PL.sl o') (by simp; omega) lo σ
    have e1 : append PP σ.length false 24 24 (.p (.sl true 0 [])) (.p (eSl o)) σ = some (.p (.sl true 0 []), σ) := by
      rw [hP] at hs
      simp only [List.length_nil] at hs
      simp [append, src24, u24, s3, bytes3, zero3, hs, appLit]
    refine ⟨_, y', σ, σ2, hc e1, a1, by rw [hP]; exact a2, fun i row hi => ?_⟩
    rcases a3 with rfl | rfl
    · exact hi
    · exact get_old hi
  · have hb0 : ¬ ((L o).length = 0) := fun e => hP (List.length_eq_zero_iff.1 e)
    have e1 : append PP σ.length false 24 24 (.p (.sl true 0 [])) (.p (eSl o)) σ = some (.osl σ.length 0 1 (L o).length (eInts (L o)), σ ++ [Row.tok 0]) := app24n (PL.sl o) (by omega) hP _ _
    have hs' := (PL.sl o').src (σ ++ [Row.tok 0])
    refine ⟨_, .osl σ.length 1 1 ((L o).length + (L o').length) (eInts (L o) ++ eInts (L o')), _, (σ ++ [Row.tok 0]).set σ.length (Row.tok 1), hc e1, ?_, ?_, fun i row hi => ?_⟩
    · exact app24m (PL.sl o') h get_snoc hlo
    · refine .inr (.inr ⟨σ.length, 1, ?_⟩)
      simp [eInts]
    · have hi2 := get_lt hi
      rw [List.getElem?_set_ne (by omega)]
      exact get_old hi
theorem copy_mid {o : OI} {σ σ1 : Store} {y : DV} (h : CC σ.length 52 [.p (eSl o)] σ = some (y, σ1)) (hl : (L o).length ≤ 1000000) {i : Nat} {row : Row} (hi : σ[i]? = some row) : σ1[i]? = some row := by
  have hs := (PL.sl o).src σ
  by_cases hP : L o = []
  · have : CC σ.length 52 [.p (eSl o)] σ = some (.p (.sl true 0 []), σ) := by
      rw [hP] at hs
      simp only [List.length_nil] at hs
      refine F52_call ?_
      rw [F52_eq]
      simp only [bs24_0, gG]
      simp [append, src24, u24, s3, bytes3, zero3, hs, appLit]
    rw [this] at h
    injection h with h
    injection h with _ h
    rw [← h]; exact hi
  · have hb0 : ¬ ((L o).length = 0) := fun e => hP (List.length_eq_zero_iff.1 e)
    have : CC σ.length 52 [.p (eSl o)] σ = some (.osl σ.length 0 1 (L o).length (eInts (L o)), σ ++ [Row.tok 0]) := by
      refine F52_call ?_
      rw [F52_eq]
      simp only [bs24_0, gG, app24n (PL.sl o) hl hP]
    rw [this] at h
    injection h with h
    injection h with _ h
    rw [← h]; exact get_old hi
theorem dd_len : ∀ (p : Int) (l : List Int), (dd p l).length ≤ l.length
  | _, [] => Nat.zero_le _
  | p, a :: l => by
    unfold dd
    split
    · exact Nat.le_succ_of_le (dd_len p l)
    · exact Nat.succ_le_succ (dd_len a l)
section
variable {s : Wd} (hQ : 0 < (L s.l).length) (hP : (L s.p).length + (L s.l).length ≤ 1000)
include hQ hP
theorem L35 : ∀ (d i : Nat) (y : DV) (σ : Store), (L s.l).length - i = d → i ≤ (L s.l).length → σ[0]? = some (.mix [.p .nilsl, .p .nilsl]) → σ[1]? = some (.mix [.p (eSl s.p), .p (eSl s.l)]) →
    Out σ 0 1 (dd (lastI (L s.l)) ((L s.l).take i)).length (eInts (dd (lastI (L s.l)) ((L s.l).take i))) y →
    ∃ y' σ', f35_L0 guardT 0 (.ptr 0 0) (.ptr 1 0) y (N i) σ = f35_L0 guardT 0 (.ptr 0 0) (.ptr 1 0) y' (N (L s.l).length) σ' ∧ σ'[0]? = some (.mix [.p .nilsl, .p .nilsl]) ∧ σ'[1]? = some (.mix [.p (eSl s.p), .p (eSl s.l)]) ∧
      Out σ' 0 1 (dd (lastI (L s.l)) (L s.l)).length (eInts (dd (lastI (L s.l)) (L s.l))) y'
  | 0, i, y, σ, hd, hi, g0, g1, ho => by
    have e : i = (L s.l).length := by omega
    subst e
    rw [List.take_length] at ho
    exact ⟨y, σ, rfl, g0, g1, ho⟩
  | d + 1, i, y, σ, hd, hi, g0, g1, ho => by
    have hlt : i < (L s.l).length := by omega
    have ld1 : load1 (.ptr 1 1) σ = some (.p (eSl s.l)) := load1_ptr g1 rfl
    have hj : ∃ j, (i + (L s.l).length - 1) % (L s.l).length = j ∧ j < (L s.l).length ∧ endI (lastI (L s.l)) ((L s.l).take i) = (L s.l).getD j 0 := by
      by_cases h0 : i = 0
      · subst h0
        refine ⟨(L s.l).length - 1, ?_, by omega, rfl⟩
        rw [Nat.zero_add, Nat.mod_eq_of_lt (by omega)]
      · refine ⟨i - 1, ?_, by omega, ?_⟩
        · have : i + (L s.l).length - 1 = i - 1 + (L s.l).length := by omega
          rw [this, Nat.add_mod_right, Nat.mod_eq_of_lt (by omega)]
        · have hne : (L s.l).take i ≠ [] := fun e => by
            have := congrArg List.length e
            rw [List.length_take, List.length_nil] at this
            omega
          rw [endI_last hne, lastI, List.length_take, Nat.min_eq_left (by omega), List.getD_eq_getElem?_getD, List.getD_eq_getElem?_getD, List.getElem?_take_of_lt (by omega)]
    obtain ⟨j, j1, j2, j3⟩ := hj
    have i1 := (PL.sl s.l).idx hlt
    have i2 := (PL.sl s.l).idx j2
    have l1 := load1_getD (l := L s.l) hlt σ
    have l2 := load1_getD (l := L s.l) j2 σ
    have ht : (L s.l).take (i + 1) = (L s.l).take i ++ [(L s.l).getD i 0] := by
      rw [List.take_add_one, List.getD_eq_getElem?_getD, List.getElem?_eq_getElem hlt]; rfl
    have hdd : dd (lastI (L s.l)) ((L s.l).take (i + 1)) = dd (lastI (L s.l)) ((L s.l).take i) ++ dd ((L s.l).getD j 0) [(L s.l).getD i 0] := by rw [ht, dd_append, j3]
    have hdl := dd_len (lastI (L s.l)) ((L s.l).take i)
    rw [List.length_take] at hdl
    have hlen := (PL.sl s.l).len σ
    rw [f35_L0_eq guardT rfl]
    by_cases he : (L s.l).getD i 0 = (L s.l).getD j 0
    · have e0 : dd ((L s.l).getD j 0) [(L s.l).getD i 0] = [] := by rw [dd, if_pos he]; rfl
      rw [e0, List.append_nil] at hdd
      obtain ⟨y', σ', r1, r2⟩ := L35 d (i + 1) y σ (by omega) (by omega) g0 g1 (by rw [hdd]; exact ho)
      refine ⟨y', σ', ?_, r2⟩
      rw [← r1]
      simp (disch := omega) only [N, fa26_1, gG, shift_ptr, shift_pptr, Nat.zero_add, Nat.add_zero, pureFn_fn, List.append_nil, List.singleton_append, List.cons_append, List.nil_append, load24, ld1, hlen, b_lss, ltT, addN, sub1, remN, j1, i1, i2, load3, l1, l2, b_neq, eqT he, f35_J0_eq, add1]
    · have e0 : dd ((L s.l).getD j 0) [(L s.l).getD i 0] = [(L s.l).getD i 0] := by rw [dd, if_neg he]; rfl
      rw [e0] at hdd
      obtain ⟨y1, σ1, p1, p2, p3, p4⟩ := Out.pushI (v := (L s.l).getD i 0) ho (by omega) (Nat.zero_le _)
      rw [← hdd] at p2
      obtain ⟨y', σ', r1, r2⟩ := L35 d (i + 1) y1 σ1 (by omega) (by omega) (p3.mix ho g0 (fun v h => by cases h)) (p3.mix ho g1 (fun v h => by cases h)) p2
      refine ⟨y', σ', ?_, r2⟩
      rw [← r1]
      simp (disch := omega) only [N, fa26_1, gG, shift_ptr, shift_pptr, Nat.zero_add, Nat.add_zero, pureFn_fn, List.append_nil, List.singleton_append, List.cons_append, List.nil_append, load24, ld1, hlen, b_lss, ltT, addN, sub1, remN, j1, i1, i2, load3, l1, l2, b_neq, eqF he, bs24_1, p1, f35_J0_eq, add1]
end
theorem thaw_vwd (u : Wd) (m : Nat) (σ : Store) : thawAll m σ (vWd u) = some (vWd u) := by simp [thawAll, thawPart, vWd, mapO, thaw, thaw1, thawP, loosen_sl]
theorem short_len {P Q : List Int} (h : Q ≠ []) : (short P Q).1.length ≤ P.length ∧ (short P Q).2.length ≤ Q.length := by
  have hm := minP_ok h
  have := rot_len P.length P (Q.take (minP Q)) (take_ne h hm.1)
  rw [List.length_take] at this
  exact ⟨this.2, by rw [short, this.1]; omega⟩
theorem S35 {w : Wd} (hne : L w.l ≠ []) (hl : (L w.p).length + (L w.l).length ≤ 400) (σ : Store) : ∃ u : Wd, pureV CC 35 [vWd w] σ = some (vWd u) ∧ (L u.p, L u.l) = unst (L w.p) (L w.l) := by
  obtain ⟨s, s1, s2⟩ := S34 hne (by omega) [.mix [.p .nilsl, .p .nilsl]]
  have hsl := short_len (P := L w.p) hne
  have hc := short_can (L w.p) hne
  have hu := unst_short (L w.p) hne
  rw [← s2] at hsl hc hu
  replace hu : unst (L s.p) (L s.l) = unst (L w.p) (L w.l) := hu
  replace hc : Las.Can (L s.p) (L s.l) := hc
  replace hsl : (L s.p).length ≤ (L w.p).length ∧ (L s.l).length ≤ (L w.l).length := hsl
  have hR := unstR_eq hc
  have hq := List.length_pos_iff.2 hc.ne
  rw [← hu, ← hR]
  have t1 := st_wd (σ := [.mix [.p .nilsl, .p .nilsl], .mix [.p .nilsl, .p .nilsl]]) (r := 1) (lo := 0) s rfl (Nat.zero_le _) rfl
  have lp : ∀ σ : Store, σ[1]? = some (.mix [.p (eSl s.p), .p (eSl s.l)]) → load1 (.ptr 1 0) σ = some (.p (eSl s.p)) := fun σ g => load1_ptr g rfl
  have lq : ∀ σ : Store, σ[1]? = some (.mix [.p (eSl s.p), .p (eSl s.l)]) → load1 (.ptr 1 1) σ = some (.p (eSl s.l)) := fun σ g => load1_ptr g rfl
  have lp0 : load1 (.ptr 1 0) [.mix [.p .nilsl, .p .nilsl], .mix [.p (eSl s.p), .p (eSl s.l)]] = some (.p (eSl s.p)) := load1_ptr rfl rfl
  have lq0 : load1 (.ptr 1 1) [.mix [.p .nilsl, .p .nilsl], .mix [.p (eSl s.p), .p (eSl s.l)]] = some (.p (eSl s.l)) := load1_ptr rfl rfl
  have hlen := (PL.sl s.l).len
  by_cases h1 : (L s.l).length = 1
  · obtain ⟨o, o1, o2⟩ := S85 (PL.sl s.p) (by omega) [.mix [.p .nilsl, .p .nilsl], .mix [.p (eSl s.p), .p (eSl s.l)]]
    have hol := once_len (L s.p)
    obtain ⟨u, u1, u2⟩ := S34 (w := ⟨o, s.l⟩) hc.ne (by show (L o).length + (L s.l).length ≤ 1000; rw [o2]; omega) [.mix [.p .nilsl, .p .nilsl], .mix [.p (eSl s.p), .p (eSl s.l)]]
    have e1 := st_wd (σ := [.mix [.p .nilsl, .p .nilsl], .mix [.p (eSl s.p), .p (eSl s.l)]]) (r := 0) (lo := 0) u rfl (Nat.zero_le _) rfl
    have e2 := ce_wd (σ := [.mix [.p .nilsl, .p .nilsl], .mix [.p (eSl s.p), .p (eSl s.l)]]) (r := 0) u (Nat.zero_lt_succ _)
    have h1' : ((L s.l).length : Int) = 1 := by omega
    refine ⟨u, pureV_free (by simp [wd_view]) (by simp [wd_free]) (F35_call (r := (vWd u, ([.mix [.p .nilsl, .p .nilsl], .mix [.p (eSl s.p), .p (eSl s.l)]] : Store).set 0 (.mix [.p (eSl u.p), .p (eSl u.l)]))) ?_) (thaw_vwd u 0 _), by rw [u2, o2, unstR, if_pos h1]⟩
    rw [F35_eq]
    have hb : build PP 26 [(0, .p (eSl o)), (1, .p (eSl s.l))] = some (vWd ⟨o, s.l⟩) := bld26 rfl rfl
    simp only [box_wd, gG, zero26, List.nil_append, List.length_nil, load26, wd_all, shift_ptr, shift_pptr, Nat.zero_add, Nat.add_zero, pureFn_fn, List.append_nil, List.singleton_append, List.cons_append, List.nil_append, s1, List.length_singleton, t1, List.set_cons_succ, List.set_cons_zero, fa26_0, fa26_1, load24, lp0, lq0, hlen, b_eql, eqT h1', o1, hb, u1, e1, List.set_cons_zero] at e2 ⊢
    simp only [e2, gG]
  · have h1' : ¬ ((L s.l).length : Int) = 1 := by omega
    obtain ⟨y', σ', r1, g0, g1, ho⟩ := L35 (s := s) hq (by omega) _ 0 (.p .nilsl) [.mix [.p .nilsl, .p .nilsl], .mix [.p (eSl s.p), .p (eSl s.l)]] rfl (Nat.zero_le _) rfl rfl Out.zero
    have hls := get_lt g1
    obtain ⟨z, z', σ1, σ2, c1, c2, c3, c4⟩ := copy_app 0 s.p s.l (by omega) σ' (Nat.zero_le _)
    obtain ⟨o, o1, o2⟩ := S85 c3 (by simp; omega) σ2
    have hol := once_len (L s.p ++ L s.l)
    rw [List.length_append] at hol
    have hdl := dd_len (lastI (L s.l)) (L s.l)
    have hdn := can_dd hc h1
    have hend := unst_end hc h1
    have hon := (once_last (l := L s.p ++ L s.l) (by simp [hc.ne])).1
    have hop := List.length_pos_iff.2 hon
    have hdp := List.length_pos_iff.2 hdn
    have hy := out_pl ho
    have hx : PL (.p (eSl o)) (once (L s.p ++ L s.l)) := by rw [← o2]; exact PL.sl o
    obtain ⟨u, u1, u2⟩ := S34p hx hy hdn (by omega) σ2
    have k0 := c4 _ _ g0
    have e1 := st_wd (σ := σ2) (r := 0) (lo := 0) u k0 (Nat.zero_le _) rfl
    have e2 := ce_wd (σ := σ2) (r := 0) u (get_lt k0)
    refine ⟨u, pureV_free (by simp [wd_view]) (by simp [wd_free]) (F35_call (r := (vWd u, σ2.set 0 (.mix [.p (eSl u.p), .p (eSl u.l)]))) ?_) (thaw_vwd u 0 _), by rw [u2, unstR, if_neg h1]⟩
    have gt : ((once (L s.p ++ L s.l)).length : Int) > 0 := by omega
    have i1 := hx.idx (i := (once (L s.p ++ L s.l)).length - 1) (by omega)
    have i2 := hy.idx (i := (dd (lastI (L s.l)) (L s.l)).length - 1) (by omega)
    have l1 := load1_getD (l := once (L s.p ++ L s.l)) (i := (once (L s.p ++ L s.l)).length - 1) (by omega) σ2
    have l2 := load1_getD (l := dd (lastI (L s.l)) (L s.l)) (i := (dd (lastI (L s.l)) (L s.l)).length - 1) (by omega) σ2
    have hend' : (once (L s.p ++ L s.l)).getD ((once (L s.p ++ L s.l)).length - 1) 0 = (dd (lastI (L s.l)) (L s.l)).getD ((dd (lastI (L s.l)) (L s.l)).length - 1) 0 := hend
    have hL1 : f35_L1 guardT 0 (.ptr 0 0) y' (.p (eSl o)) σ2 = some (vWd u, σ2.set 0 (.mix [.p (eSl u.p), .p (eSl u.l)])) := by
      rw [f35_L1_eq guardT rfl]
      simp (disch := omega) only [hx.len, gG, b_gtr, gtT gt, sub1, i1, load3, l1, hy.len, i2, l2, b_neq, eqT hend', bld26 hx.one.1 hy.one.1, shift_ptr, shift_pptr, Nat.zero_add, Nat.add_zero, pureFn_fn, List.append_nil, List.singleton_append, List.cons_append, List.nil_append, u1, e1, e2]
    rw [F35_eq]
    simp only [box_wd, gG, zero26, List.nil_append, List.length_nil, load26, wd_all, shift_ptr, shift_pptr, Nat.zero_add, Nat.add_zero, pureFn_fn, List.append_nil, List.singleton_append, List.cons_append, List.nil_append, s1, List.length_singleton, t1, List.set_cons_succ, List.set_cons_zero, fa26_0, fa26_1, load24, lq0, hlen, b_eql, eqF h1']
    refine r1.trans ?_
    rw [f35_L0_eq guardT rfl]
    have nn : ¬ (((L s.l).length : Int) < ((L s.l).length : Nat)) := by omega
    simp only [N, fa26_1, gG, shift_ptr, shift_pptr, Nat.zero_add, Nat.add_zero, pureFn_fn, List.append_nil, List.singleton_append, List.cons_append, List.nil_append, load24, lq _ g1, hlen, b_lss, ltF nn, fa26_0, lp _ g1, plainFn, c1]
    have g1' : σ1[1]? = some (.mix [.p (eSl s.p), .p (eSl s.l)]) := copy_mid c1 (by omega) g1
    simp only [lq _ g1', gG, c2, shift_ptr, shift_pptr, Nat.zero_add, Nat.add_zero, pureFn_fn, List.append_nil, List.singleton_append, List.cons_append, List.nil_append, o1, hL1]
end Go.D
end
/- Chapter 13: LassoWords' law. -/
section
set_option linter.unusedVariables false
set_option linter.unusedSimpArgs false
namespace Go.D
open Las
set_option maxRecDepth 4000
theorem b_eql30 (x y : Int) : binOp PP .eql 30 (.p (.int .i64 x)) (.p (.int .i64 y)) = some (.p (.bool (decide (x = y)))) := Eq.trans (by kernel_rfl) rfl
theorem unst_len {P Q : List Int} (h : Q ≠ []) : (unst P Q).1.length ≤ P.length + Q.length ∧ (unst P Q).2.length ≤ Q.length := by
  have hol := once_len (P ++ Q)
  have hdl := dd_len (lastI Q) Q
  have hq := List.length_pos_iff.2 h
  rw [List.length_append] at hol
  unfold unst
  by_cases hd : dd (lastI Q) Q = []
  · rw [if_pos hd]
    have := short_len (P := (once (P ++ Q)).dropLast) (Q := [lastI Q]) (by simp)
    simp only [List.length_dropLast, List.length_singleton] at this
    omega
  · rw [if_neg hd]
    have := short_len (P := once (P ++ Q)) hd
    omega
theorem dec_and {p q : Prop} [Decidable p] [Decidable q] (h1 : p) (h2 : q) : (decide p && decide q) = true := by rw [decide_eq_true h1, decide_eq_true h2]; rfl
def awT : Prop := ∀ σ : Store, pureV CC 12 [] σ = some (.p (.bool true))
theorem S5 (haw : awT) (w : Wd) : ∃ σ', CC 0 5 [vWd w] [] = some (.p (.bool true), σ') := by
  by_cases hs : (decide ((L w.p).length ≤ 70) && decide ((L w.l).length ≤ 70)) = true
  · have hs' := hs
    rw [Bool.and_eq_true, decide_eq_true_iff, decide_eq_true_iff] at hs'
    obtain ⟨k0, k1⟩ := hs'
    obtain ⟨u1, a1, a2, a3⟩ := S31 (w := ⟨some (L w.p), some (L w.l)⟩) (show (L w.p).length ≤ 1000 by omega) (show (L w.l).length ≤ 1000 by omega) []
    have st1 := st_wd (σ := [.mix [.p .nilsl, .p .nilsl]]) (r := 0) (lo := 0) u1 rfl (Nat.zero_le _) rfl
    obtain ⟨u2, b1, b2, b3⟩ := S32 (w := ⟨some (L w.p), some (L w.l)⟩) (show (L w.p).length ≤ 1000 by omega) (show (L w.l).length ≤ 1000 by omega) [.mix [.p (eSl u1.p), .p (eSl u1.l)]]
    have st2 := st_wd (σ := [.mix [.p (eSl u1.p), .p (eSl u1.l)], .mix [.p .nilsl, .p .nilsl]]) (r := 1) (lo := 0) u2 rfl (Nat.zero_le _) rfl
    have e1 : wErr (L (some (L w.p))) (L (some (L w.l))) = wErr (L w.p) (L w.l) := rfl
    simp only [e1] at a1 a2 a3 b1 b2 b3
    replace a3 : wErr (L w.p) (L w.l) = 0 → (L u1.p, L u1.l) = short (L w.p) (L w.l) := a3
    replace b3 : wErr (L w.p) (L w.l) = 0 → (L u2.p, L u2.l) = unst (L w.p) (L w.l) := b3
    have l1 : (loadN [.mix [.p (eSl u1.p), .p (eSl u1.l)], .mix [.p (eSl u2.p), .p (eSl u2.l)]] 2 (.ptr 0 0)).map DV.agg = some (vWd u1) := rfl
    have l2 : (loadN [.mix [.p (eSl u1.p), .p (eSl u1.l)], .mix [.p (eSl u2.p), .p (eSl u2.l)]] 2 (.ptr 1 0)).map DV.agg = some (vWd u2) := rfl
    refine ⟨_, F5_call (r := (.p (.bool true), [.mix [.p (eSl u1.p), .p (eSl u1.l)], .mix [.p (eSl u2.p), .p (eSl u2.l)]])) ?_⟩
    have h16 := S16 (w := w) (by omega) (by omega)
    have h14 := S14 w
    rw [hs] at h14
    have ex0 : ∀ (a b : DV), extractV (.tuple [a, b]) 0 = some a := fun _ _ => rfl
    have ex1 : ∀ (a b : DV), extractV (.tuple [a, b]) 1 = some b := fun _ _ => rfl
    have h17 := S17 (w := w) (by omega) (by omega)
    rw [F5_eq]
    simp only [box_wd, gG, shift_ptr, shift_pptr, Nat.zero_add, Nat.add_zero, pureFn_fn, List.append_nil, List.singleton_append, List.cons_append, List.nil_append, haw _, load26, wd_all, h14, h16, a1, ex0, ex1, zero26, List.length_nil, st1, List.set_cons_zero, List.set_cons_succ, List.length_singleton, b1, st2, h17, b_neq]
    by_cases hE : wErr (L w.p) (L w.l) = 0
    · have ha := a3 hE
      have hb := b3 hE
      obtain ⟨c1, c2, _⟩ := wErr_zero hE
      have sl := short_len (P := L w.p) c1
      have ul := unst_len (P := L w.p) c1
      rw [← ha] at sl
      rw [← hb] at ul
      simp only [] at sl ul
      obtain ⟨u3, d1, d2⟩ := S34 (w := w) c1 (by omega) [.mix [.p (eSl u1.p), .p (eSl u1.l)], .mix [.p (eSl u2.p), .p (eSl u2.l)]]
      obtain ⟨u4, f1, f2⟩ := S35 (w := w) c1 (by omega) [.mix [.p (eSl u1.p), .p (eSl u1.l)], .mix [.p (eSl u2.p), .p (eSl u2.l)]]
      have q1 := ha.trans d2.symm
      have q2 := hb.trans f2.symm
      injection q1 with q11 q12
      injection q2 with q21 q22
      have h33a := S33 (u := u1) (w := u3) (by omega) (by omega)
      have h33b := S33 (u := u2) (w := u4) (by omega) (by omega)
      rw [dec_and q11 q12] at h33a
      rw [dec_and q21 q22] at h33b
      simp only [hE, eqT (rfl : (0 : Int) = 0), gG, b_eql30, load26, l1, wd_all, d1, h33a, l2, f1, h33b, pureFn_fn]
    · have ha := a2 hE
      have hb := b2 hE
      subst ha
      subst hb
      have h33 := S33 (u := W0) (w := W0) (by decide) (by decide)
      rw [dec_and rfl rfl] at h33
      simp only [eqF hE, gG, b_eql, eqT (rfl : wErr (L w.p) (L w.l) = wErr (L w.p) (L w.l)), load26, l1, bld26_0, h33, l2, pureFn_fn]
  · have hs' := eq_false_of_ne_true hs
    refine ⟨_, F5_call (r := (.p (.bool true), [])) ?_⟩
    have h14 := S14 w
    rw [hs'] at h14
    rw [F5_eq]
    simp only [box_wd, gG, shift_ptr, shift_pptr, Nat.zero_add, Nat.add_zero, pureFn_fn, List.append_nil, List.singleton_append, List.cons_append, List.nil_append, haw _, load26, wd_all, h14]
end Go.D
end
/- The examples of chapter 13: awake answers true. -/
section
set_option linter.unusedVariables false
set_option linter.unusedSimpArgs false
set_option maxRecDepth 100000
namespace Go.D
def exS1 : Store := [.mix [.p (exN [1]), .p (exN [2, 3])]]
def exS2 : Store := [.mix [.p (exN [1]), .p (exN [2, 3])], .mix [.p (.sl false 0 []), .p (exN [0])]]
theorem K48 (σ : Store) : pureV CC 48 [.p (.str lstr0)] σ = some (.tuple [.p exF, .p (pI 12), .p (pI 0)]) := pureV_run run48 rfl rfl
theorem K62a (σ : Store) : pureV CC 62 [.p (.int .i64 0)] σ = some (.p exA0) := pureV_run run62a rfl rfl
theorem K62b (σ : Store) : pureV CC 62 [.p (.int .i64 1)] σ = some (.p exA1) := pureV_run run62b rfl rfl
theorem K63 (σ : Store) : pureV CC 63 [.p .nilsl] σ = some exY := pureV_run run63 rfl rfl
theorem K38a (σ : Store) : pureV CC 38 [.p (.int .i64 8), .p (.sl true 2 [exA0, exA1])] σ = some (.p exU) := by
  rw [pureV_view (args' := [.p (pI 8), .p (.sl false 2 [exA0, exA1])]) rfl rfl]
  exact pureV_run run38a rfl rfl
theorem K38b (σ : Store) : pureV CC 38 [.p (.int .i64 7), .p (.sl true 1 [exA0])] σ = some (.p exB) := by
  rw [pureV_view (args' := [.p (pI 7), .p (.sl false 1 [exA0])]) rfl rfl]
  exact pureV_run run38b rfl rfl
theorem K32 (σ : Store) : pureV CC 32 [.agg [.p (.sl true 3 [.int .i64 1, .int .i64 1, .int .i64 2]), .p (.sl true 3 [.int .i64 3, .int .i64 2, .int .i64 2])]] σ = some (.tuple [.agg [.p (exN [1]), .p (exN [2, 3])], .p (pI 0)]) := by
  rw [pureV_view (args' := [.agg [.p (exN [1, 1, 2]), .p (exN [3, 2, 2])]]) rfl rfl]
  exact pureV_run run32 rfl rfl
theorem K29 (σ : Store) : pureV CC 29 [exL, .agg [.p .nilsl, .p (.sl true 1 [.int .i64 0])]] σ = some (.p (.bool true)) := by
  rw [pureV_view (args' := [exL, .agg [.p .nilsl, .p (exN [0])]]) rfl rfl]
  exact pureV_run run29 rfl rfl
theorem K20 (σ : Store) : pureV CC 20 [.p exU, .agg [.p (.sl true 2 [.int .i64 0, .int .i64 1]), .p (.sl true 2 [.int .i64 2, .int .i64 0])]] σ = some (.tuple [.p (.bool true), .p (pI 0)]) := by
  rw [pureV_view (args' := [.p exU, .agg [.p (exN [0, 1]), .p (exN [2, 0])]]) rfl rfl]
  exact pureV_run run20 rfl rfl
theorem K27 (σ : Store) : pureV CC 27 [exY, .p exB, .p (.int .i64 2)] σ = some (.tuple [exL, .p (pI 0)]) := pureV_run run27 rfl rfl
theorem K33 (σ : Store) : pureV CC 33 [.agg [.p (exN [1]), .p (exN [2, 3])], .agg [.p (.sl true 1 [.int .i64 1]), .p (.sl true 2 [.int .i64 2, .int .i64 3])]] σ = some (.p (.bool true)) := by
  rw [pureV_view (args' := [vWd ⟨some [1], some [2, 3]⟩, vWd ⟨some [1], some [2, 3]⟩]) rfl rfl]
  exact S33 (u := ⟨some [1], some [2, 3]⟩) (w := ⟨some [1], some [2, 3]⟩) (by decide) (by decide) σ
theorem kb64_2 (σ : Store) : buildSlice PP none 64 2 [(0, .p exA0), (1, .p exA1)] σ = some (.p (.sl true 2 [exA0, exA1]), σ) := Eq.trans (by kernel_rfl) rfl
theorem kb64_1 (σ : Store) : buildSlice PP none 64 1 [(0, .p exA0)] σ = some (.p (.sl true 1 [exA0]), σ) := Eq.trans (by kernel_rfl) rfl
theorem kb24_2 (a b : Int) (σ : Store) : buildSlice PP none 24 2 [(0, .p (.int .i64 a)), (1, .p (.int .i64 b))] σ = some (.p (.sl true 2 [.int .i64 a, .int .i64 b]), σ) := Eq.trans (by kernel_rfl) rfl
theorem kb24_3 (a b c : Int) (σ : Store) : buildSlice PP none 24 3 [(0, .p (.int .i64 a)), (1, .p (.int .i64 b)), (2, .p (.int .i64 c))] σ = some (.p (.sl true 3 [.int .i64 a, .int .i64 b, .int .i64 c]), σ) := Eq.trans (by kernel_rfl) rfl
theorem kb52 (p : PV) : build PP 52 [(1, .p p)] = some (.agg [.p .nilsl, .p p]) := Eq.trans (by kernel_rfl) rfl
theorem kz52 : zeroOf PP 52 = some [.p .nilsl, .p .nilsl] := Eq.trans (by kernel_rfl) rfl
theorem ks1 : store PP 0 26 (.ptr 0 0) (.agg [.p (exN [1]), .p (exN [2, 3])]) [.mix [.p .nilsl, .p .nilsl]] = some exS1 := Eq.trans (by kernel_rfl) rfl
theorem ks2 : store PP 0 52 (.ptr 1 0) exL (exS1 ++ [.mix [.p .nilsl, .p .nilsl]]) = some exS2 := Eq.trans (by kernel_rfl) rfl
theorem kl1 : exS1.length = 1 := rfl
theorem kd1 : load PP 26 (.ptr 0 0) exS2 = some (.agg [.p (exN [1]), .p (exN [2, 3])]) := Eq.trans (by kernel_rfl) rfl
theorem kd2 : load PP 52 (.ptr 1 0) exS2 = some exL := Eq.trans (by kernel_rfl) rfl
theorem kln (σ : Store) : len PP 23 (.p exF) σ = some (.p (.int .i64 4)) := Eq.trans (by kernel_rfl) rfl
theorem kx0 (a b : DV) : extractV (.tuple [a, b]) 0 = some a := rfl
theorem kx1 (a b : DV) : extractV (.tuple [a, b]) 1 = some b := rfl
theorem ke0 (a b c : DV) : extractV (.tuple [a, b, c]) 0 = some a := rfl
theorem ke1 (a b c : DV) : extractV (.tuple [a, b, c]) 1 = some b := rfl
theorem ke2 (a b c : DV) : extractV (.tuple [a, b, c]) 2 = some c := rfl
theorem awake_F12 : F12 guardT 0 [] = some (.p (.bool true), exS2) := by
  rw [F12_eq]
  simp only [pureFn_fn, List.append_nil, K48, gG, ke0, ke1, ke2, K62a, K62b, kb64_2, K38a, kb24_2, bld26 (x := .p _) (y := .p _) rfl rfl, K20, kx0, kx1, kb24_3, K32, zero26, List.length_nil, List.nil_append, ks1, kl1, K63, kb64_1, K38b, K27, kz52, ks2,
    b_eql30, eqT (rfl : (0 : Int) = 0), b_eql, eqT (rfl : (12 : Int) = 12), eqT (rfl : (4 : Int) = 4), kln, kd1, bs24_1, K33, kd2, kb52, K29]
theorem awake_true : awT := fun σ => pureV_free rfl rfl (F12_call awake_F12) rfl
theorem call5 (w : Wd) : ∃ σ', CC 0 5 [vWd w] [] = some (.p (.bool true), σ') := S5 awake_true w
end Go.D
end
/- LassoWords: for every word the law answers true and leaves its argument as it was: the given tied card, without further conditions. -/
section
set_option linter.unusedVariables false
set_option linter.unusedSimpArgs false
set_option maxRecDepth 100000
namespace Go.D
open Go.ChangeShapes Go.WideShapes Go.ChangeAt Go.RowKit

theorem lassoWords_calls {H : Type} {enc : TypeId × Value → H} {W : World} {base : Nat} {args : Array Value} {ds : List (DataW H)} {ps : List MemPlace}
    (hval : ∀ (j : Nat) t v, ([26] : List TypeId).toArray[j]? = some t → args[j]? = some v → Value.okWide PP W .any base t v)
    (hA : DataW.TrodAll enc PP W 0 (fun _ => true) true [26] args.toList ds ps) :
    Calls PP 5 args W fun e W' => e = .returned (.bool true) ∧ Below W.heap.size W W' := by
  obtain ⟨v0, d0, rfl, rfl, h0⟩ := trodAll_one hA
  obtain ⟨o0, ho0⟩ := read_wd (hval 0 26 v0 rfl rfl) h0
  obtain ⟨σ', hc⟩ := call5 o0
  refine calls_of hc ⟨rfl, fun j h1 h2 => ?_⟩
  match j, h1 with
  | 0, _ => exact ho0

end Go.D
namespace Go.Proofs.YtpacancmcjbckaaGreatDoor
open Go.D Go.ChangeShapes Go.WideShapes Go.ChangeAt Go.RowKit

set_option maxRecDepth 100000 in
theorem lassoWords_lifted (os : Os) (started : os.Started) (H : Type) (enc : TypeId × Value → H) :
    ReturnsInHanded {} Tryz.checked os 5 .any (fun w args => (Rows.lassoWordsSpec.pre enc Tryz.prog Tryz.f5 [] false w args ∧ laidMetH Tryz.prog Rows.lassoWordsRow.laid w) ∧ sizedMet enc Tryz.prog Tryz.f5 (OpenSpec.ofChange Rows.lassoWordsSpec) false w args)
      (Rows.lassoWordsSpec.post enc Tryz.prog Tryz.f5 false true false false) := by
  refine returnsInHanded_of_change_and (C := Tryz.checked) (X := fun w _ => laidMetH Tryz.prog Rows.lassoWordsRow.laid w) (fun _ _ _ hh h => h.of_heap hh) own_ok started (by kernel_rfl) Tryz.func5
    (ChangeSpec.witness_at (enc := enc) (C := Tryz.checked) (os := os) (X := fun w _ => laidMetH Tryz.prog Rows.lassoWordsRow.laid w) false (laidW os) #[.agg #[.slice none 0 0, .slice none 0 0]] 8 (World.laidAll_os _ _ _) (by kernel_rfl) (by kernel_rfl) (by kernel_rfl) (by kernel_rfl) (by kernel_rfl) (laidW_met os _)) ?_
  intro W base args ds gs before hval0 hW _ _ _ _
  have hval : ∀ (j : Nat) t v, Tryz.f5.params[j]? = some t → args[j]? = some v → Value.okWide Tryz.prog W .any base t v := hval0
  have hW' := hW
  obtain ⟨p, q, hA0, hV, rfl, _, _⟩ := hW
  have hA : DataW.TrodAll enc Tryz.prog W 0 (fun _ => true) true Tryz.f5.params.toList args.toList ds p := hA0
  rw [Tryz.params5] at hA hval
  have hA2 := hA
  obtain ⟨v0, d0, rfl, rfl, h0⟩ := trodAll_one hA
  obtain ⟨rfl, rfl⟩ := trodVars_none hV
  have hlt : ∀ x ∈ p, x.block < W.heap.size := fun x hx => by
    have := hW'.lt x (by simpa using hx)
    exact this
  have e0 : ∀ x ∈ p, x.block < W.heap.size := fun x hx => hlt x (hx)
  refine (lassoWords_calls (base := base) hval hA2).mono ?_
  rintro e W2 ⟨rfl, hnx⟩
  refine ⟨_, rfl, _, _, _, [], p, [], hW', ?_, ?_, rfl, hnx.frame _, fun h => by cases h⟩
  · exact trodAll_mk1 (shut_bool ul4 true)
  · exact trodAll_mk1 (Below.trod laidOut_ok (by kernel_rfl) (of_decide_eq_true (by kernel_rfl)) h0 hnx e0)

theorem lassoWords_row : Rows.LassoWordsSaid :=
  OpenClaim.holds_of_wide 5 Tryz.f5 rfl rfl rfl rfl rfl rfl rfl ⟨rfl, rfl, rfl, rfl, rfl⟩ rfl rfl rfl rfl rfl (by kernel_rfl) Tryz.func5 (by kernel_rfl)
    (of_decide_eq_true (by kernel_rfl)) (by unfold Func.isWrapper; first | (rw [if_pos (by decide +kernel)]; kernel_rfl) | (rw [if_neg (by decide +kernel)]; exact ⟨rfl, rfl⟩))
    (fun os started H enc _ => lassoWords_lifted os started H enc)

theorem lassoWords_holds : Rows.LassoWordsCardSaid :=
  Claim7.holds_tied_plain_at .later [] [.data, .data, .data, .sentinel, .sentinel] true (true, "98bef7c5375844f969da89516d037819b1a57239a7494585b2bb93910f3c950f") true
    lassoWords_row (fun _ h => by cases h) (by kernel_rfl) (fun _ h => by cases h) lassoWords_row_tie rfl ⟨rfl, rfl⟩ (by kernel_rfl) rfl
    (fun f fn hf hfn => by
      obtain rfl : f = 5 := Option.some.inj ((show Tryz.prog.funcNamed "stutter/stutterlaw13.LassoWords" = some 5 by kernel_rfl).symm.trans hf) |>.symm
      obtain rfl : fn = Tryz.f5 := (Option.some.inj (Tryz.func5.symm.trans hfn)).symm
      refine ⟨by kernel_rfl, fun j t ht => ?_⟩
      have hall : (Tryz.f5.params.toList.all fun t => Tryz.prog.wantsStandIn t == false) = true := by kernel_rfl
      have hm : t ∈ Tryz.f5.params.toList := by
        have := Array.mem_of_getElem? ht
        exact this.val
      exact eq_of_beq (List.all_eq_true.1 hall t hm))
    (by kernel_rfl)

end Go.Proofs.YtpacancmcjbckaaGreatDoor
end
