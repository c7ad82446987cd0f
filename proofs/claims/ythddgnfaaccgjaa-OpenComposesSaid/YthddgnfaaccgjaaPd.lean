/- Pairs and runs: errors, copies. -/
import Derived.Test.YthddgnfaaccgjaaPc
section
set_option linter.unusedVariables false
set_option linter.unusedSimpArgs false
namespace Go.D

structure Pr where
  i : Int
  o : Int
  deriving DecidableEq, Inhabited
def ePrs : List Pr → List PV
  | [] => []
  | e :: l => pI e.i :: pI e.o :: ePrs l
abbrev OP := Option (List Pr)
def ePs : OP → PV
  | none => .nilsl
  | some l => .sl false l.length (ePrs l)
structure Run where
  st : OI
  ps : OP
def eRun (r : Run) : List DV := [.p (eSl r.st), .p (ePs r.ps)]
theorem load33 (x : DV) (σ : Store) : load PP 33 x σ = (loadN σ 2 x).map .agg := Eq.trans (by kernel_rfl) rfl
theorem zero33 : zeroOf PP 33 = some [.p .nilsl, .p .nilsl] := Eq.trans (by kernel_rfl) rfl
theorem s33 : size? PP 33 = some 2 := Eq.trans (by kernel_rfl) rfl
theorem bld106 (a b c : Int) : build PP 106 [(0, .p (pI a)), (1, .p (pI b)), (2, .p (pI c))] = some (.agg (edgD ⟨a, b, c⟩)) := Eq.trans (by kernel_rfl) rfl
theorem eq106 (a b : Edg) : binOp PP .eql 106 (.agg (edgD a)) (.agg (edgD b)) = some (.p (.bool (decide (a = b)))) := by
  have h : binOp PP .eql 106 (.agg (edgD a)) (.agg (edgD b)) = (match some (a.f == b.f) with
      | some true => (match some (a.t == b.t) with
        | some true => (match some (a.a == b.a) with
          | some true => some true
          | r => r)
        | r => r)
      | r => r).map fun b => .p (.bool b) := by kernel_rfl
  have e1 : decide (a = b) = (a.f == b.f && (a.t == b.t && a.a == b.a)) := by
    rcases a with ⟨a1, a2, a3⟩
    rcases b with ⟨b1, b2, b3⟩
    rw [Bool.eq_iff_iff]
    simp
  rw [h, e1]
  cases a.f == b.f <;> cases a.t == b.t <;> cases a.a == b.a <;> rfl
section
variable {p : Run} {σ : Store} {r : Nat} (h : σ[r]? = some (.mix (eRun p)))
include h
end
structure RSm (r : Run) : Prop where
  s : (L r.st).length ≤ 1000
  p : (L r.ps).length ≤ 1000
theorem e60 (n : Nat) : decide ((n : Int) ≤ 60) = decide (n ≤ 60) := dec_le n 60
def hasE (l : List Edg) (x : Edg) : Bool := l.any fun e => decide (e = x)
theorem L89 {c : Cmp} {x : Edg} {σ : Store} {q r lo : Nat} (h0 : σ[q]? = some (.mix (eCmp c))) (hx : σ[r]? = some (.mix (edgD x))) (hl : (L c.mv).length ≤ 10000) :
    ∀ (k i : Nat), (L c.mv).length - i = k → i ≤ (L c.mv).length → f89_L0 guardT lo (.ptr q 0) (.ptr r 0) (.p (pI (i : Nat))) σ = some (.p (.bool (hasE ((L c.mv).drop i) x)), σ)
  | 0, i, hk, hi => by
    have : ¬ (i : Int) < ((L c.mv).length : Nat) := by omega
    rw [f89_L0_eq guardT rfl, List.drop_eq_nil_of_le (by omega)]
    simp only [fa25_0, fa25_1, fa25_2, fa25_3, load3, load22, load23, load25, len22, len23, shift_ptr, shift_pptr, Nat.zero_add, Nat.add_zero, pureFn_fn, List.append_nil, List.singleton_append, List.cons_append, List.nil_append, cm_0 (h0), cm_1 (h0), cm_2 (h0), cm_3 (h0), b_lss, b_eql, b_neq, b_leq, b_geq, b_gtr, guard_tt, guard_ff, guard_tf, guard_ft, guard_sk, obind, omap, pickV_true, pickV_false, condK_true, condK_false, decide_true, decide_false, Bool.not_true, Bool.not_false, not_bool, this, hasE, List.any_nil]
  | k + 1, i, hk, hi => by
    have h : i < (L c.mv).length := by omega
    have h' : (i : Int) < ((L c.mv).length : Nat) := by omega
    have ih := L89 (lo := lo) h0 hx hl k (i + 1) (by omega) (by omega)
    rw [f89_L0_eq guardT rfl, drop_cons h, hasE, List.any_cons, ← getD_at default h]
    simp only [fa25_0, fa25_1, fa25_2, fa25_3, load3, load22, load23, load25, len22, len23, shift_ptr, shift_pptr, Nat.zero_add, Nat.add_zero, pureFn_fn, List.append_nil, List.singleton_append, List.cons_append, List.nil_append, cm_0 (h0), cm_1 (h0), cm_2 (h0), cm_3 (h0), b_lss, b_eql, b_neq, b_leq, b_geq, b_gtr, guard_tt, guard_ff, guard_tf, guard_ft, guard_sk, obind, omap, pickV_true, pickV_false, condK_true, condK_false, decide_true, decide_false, Bool.not_true, Bool.not_false, not_bool, h', load106, loadN_ptr (off := 0) (n := 3) (vs := edgD x) hx rfl (by simp [edgD]), idx23 h, load106_D h, eq106]
    cases h1 : decide ((L c.mv).getD i default = x) with
    | true => simp only [guard_tt, guard_ff, guard_tf, guard_ft, guard_sk, obind, omap, pickV_true, pickV_false, condK_true, condK_false, decide_true, decide_false, Bool.not_true, Bool.not_false, not_bool, Bool.true_or]
    | false => simp only [guard_tt, guard_ff, guard_tf, guard_ft, guard_sk, obind, omap, pickV_true, pickV_false, condK_true, condK_false, decide_true, decide_false, Bool.not_true, Bool.not_false, not_bool, Bool.false_or, b_add, wrap_succ (show i ≤ 1000000 by omega)]; exact ih
theorem S89 {c : Cmp} {x : Edg} {σ : Store} (hl : (L c.mv).length ≤ 10000) : pureV CC 89 [.agg (eCmp c), .agg (edgD x)] σ = some (.p (.bool (hasE (L c.mv) x))) := by
  refine pureV_any (by simp [cmp_view]; rfl) fun lo σ0 hs => ⟨_, σ0 ++ [.mix (eCmp c)] ++ [.mix (edgD x)], F89_call (r := (.p (.bool (hasE (L c.mv) x)), σ0 ++ [.mix (eCmp c)] ++ [.mix (edgD x)])) ?_, rfl⟩
  rw [F89_eq]
  simp only [box_edg, box_cmp, obind]
  have := L89 (lo := lo) (q := σ0.length) (r := (σ0 ++ [Row.mix (eCmp c)]).length) (σ := σ0 ++ [Row.mix (eCmp c)] ++ [Row.mix (edgD x)]) (get_old get_snoc) get_snoc hl _ 0 rfl (Nat.zero_le _)
  simpa using this
/-- A right component. -/
structure COk (c : Cmp) (n : Nat) : Prop where
  sm : CSm c
  nn : c.n = (n : Nat)
  n10 : n ≤ 10
  o : (L c.out).length = n
  ol : ∀ i, i < n → ltr ((L c.out).getD i 0) = true
  m60 : (L c.mv).length ≤ 60
  il : ∀ s ∈ L c.init, 0 ≤ s ∧ s < n
  inc : ∀ i, i + 1 < (L c.init).length → (L c.init).getD i 0 < (L c.init).getD (i + 1) 0
  ml : ∀ e ∈ L c.mv, (0 ≤ e.f ∧ e.f < n) ∧ (0 ≤ e.a ∧ e.a < n) ∧ ltr e.t = true
  mo : ∀ i, i + 1 < (L c.mv).length → ordE ((L c.mv).getD i default) ((L c.mv).getD (i + 1) default) < 0
theorem firstE_zero {q : Nat → Int} : ∀ (k i : Nat), firstE q i k = 0 → ∀ j, i ≤ j → j < i + k → q j = 0
  | 0, i, h, j, h1, h2 => by omega
  | k + 1, i, h, j, h1, h2 => by
    unfold firstE at h
    by_cases e : q i = 0
    · rw [if_pos e] at h
      rcases Nat.eq_or_lt_of_le h1 with e2 | e2
      · rw [← e2]; exact e
      · exact firstE_zero k (i + 1) h j e2 (by omega)
    · rw [if_neg e] at h
      exact absurd h e
theorem cok_of {c : Cmp} (hc : CSm c) (h : cmpE c = 0) : COk c c.n.toNat := by
  unfold cmpE at h
  split at h
  case isFalse h1 => exact absurd h h1
  rename_i h5
  unfold cmpE5 at h5
  have a1 := orL_zero h5 _ (by simp : (if inR c.n 0 10 then (0 : Int) else 3) ∈ _)
  have a2 := orL_zero h5 _ (by simp : (if decide ((L c.mv).length ≤ 60) then (0 : Int) else 2) ∈ _)
  have a3 := orL_zero h5 _ (by simp : (if decide (((L c.out).length : Int) = c.n) then (0 : Int) else 6) ∈ _)
  have a4 := orL_zero h5 _ (by simp : (if (L c.out).all ltr then (0 : Int) else 3) ∈ _)
  have a5 := orL_zero h5 _ (by simp : (if allFrom (iniB c) 0 (L c.init).length then (0 : Int) else 5) ∈ _)
  have b1 : inR c.n 0 10 = true := by
    cases e : inR c.n 0 10 with
    | true => rfl
    | false => rw [e] at a1; exact absurd a1 (by decide)
  have b2 : (L c.mv).length ≤ 60 := by
    by_cases e : (L c.mv).length ≤ 60
    · exact e
    · rw [decide_eq_false e] at a2; exact absurd a2 (by decide)
  have b3 : ((L c.out).length : Int) = c.n := by
    by_cases e : ((L c.out).length : Int) = c.n
    · exact e
    · rw [decide_eq_false e] at a3; exact absurd a3 (by decide)
  have b4 : (L c.out).all ltr = true := by
    cases e : (L c.out).all ltr with
    | true => rfl
    | false => rw [e] at a4; exact absurd a4 (by decide)
  have b5 : allFrom (iniB c) 0 (L c.init).length = true := by
    cases e : allFrom (iniB c) 0 (L c.init).length with
    | true => rfl
    | false => rw [e] at a5; exact absurd a5 (by decide)
  have nn : 0 ≤ c.n ∧ c.n ≤ 10 := by simpa [inR] using b1
  have pn : pred c.n = c.n - 1 := wrap_ok (by omega) (by omega)
  rw [allFrom_iff] at b5
  have hm := firstE_zero _ _ h
  refine ⟨hc, by omega, by omega, by omega, ?_, b2, ?_, ?_, ?_, ?_⟩
  · intro i hi
    have hi2 : i < (L c.out).length := by omega
    rw [getD_at 0 hi2]
    exact List.all_eq_true.1 b4 _ (List.getElem_mem hi2)
  · intro s hs
    obtain ⟨i, hi, rfl⟩ := List.getElem_of_mem hs
    have := b5 i (Nat.zero_le _) (by omega)
    rw [iniB, getD_at 0 hi] at this
    simp only [inR, pn, Bool.and_eq_true, decide_eq_true_eq] at this
    omega
  · intro i hi
    have := b5 (i + 1) (Nat.zero_le _) (by omega)
    rw [iniB] at this
    simp only [Bool.and_eq_true, Bool.or_eq_true, decide_eq_true_eq, Nat.add_sub_cancel] at this
    omega
  · intro e he
    obtain ⟨i, hi, rfl⟩ := List.getElem_of_mem he
    have := hm i (Nat.zero_le _) (by omega)
    rw [mvE, getD_at default hi] at this
    split at this
    · rename_i h1
      simp only [inR, pn, Bool.and_eq_true, decide_eq_true_eq] at h1
      exact ⟨by omega, by omega, h1.2⟩
    · exact absurd this (by decide)
  · intro i hi
    have := hm (i + 1) (Nat.zero_le _) (by omega)
    rw [mvE] at this
    split at this
    · split at this
      · rename_i h2
        simp only [Bool.or_eq_true, decide_eq_true_eq, Nat.add_sub_cancel] at h2
        omega
      · exact absurd this (by decide)
    · exact absurd this (by decide)
end Go.D
end
