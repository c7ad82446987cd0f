/- What functions of the library and of the base answer on graphs: turned from the texts of chapter 21. -/
import Derived.Test.YtkpdgafinpedgaaGreatPc
import Derived.Test.YtkpdgafinpedgaaGreatPa
import Derived.ProofKit
import Derived.OpenShut
import Derived.WideShapes
import Derived.Test.YtkpdgafinpedgaaGreatRows
import Derived.SizedLaws
section
set_option linter.unusedVariables false
set_option linter.unusedSimpArgs false
namespace Go.D
def inR (n a b : Int) : Bool := decide (n ≥ a) && decide (n ≤ b)

theorem S88 (n a b : Int) (σ : Store) : pureV CC 88 [.p (pI n), .p (pI a), .p (pI b)] σ = some (.p (.bool (inR n a b))) := by
  refine pureV_free rfl rfl (F88_call (r := (.p (.bool (inR n a b)), [])) ?_) rfl
  rw [F88_eq]
  simp only [b_geq, b_leq, obind, inR]
  by_cases h : n ≥ a <;> simp [h, guard_tt, guard_ft, b_leq, pickV_true, pickV_false]

theorem S61 (n a b : Int) (σ : Store) : pureV CC 61 [.p (pI n), .p (pI a), .p (pI b)] σ = some (.p (.bool (inR n a b))) := by
  refine pureV_free rfl rfl (F61_call (r := (.p (.bool (inR n a b)), [])) ?_) rfl
  rw [F61_eq]
  simp only [b_geq, b_leq, obind, inR]
  by_cases h : n ≥ a <;> simp [h, guard_tt, guard_ft, b_leq, pickV_true, pickV_false]

theorem S73 (b : Bool) (e : Int) (σ : Store) : pureV CC 73 [.p (.bool b), .p (pI e)] σ = some (.p (pI (if b then 0 else e))) := by
  refine pureV_free rfl rfl (F73_call (r := (.p (pI (if b then 0 else e)), [])) ?_) rfl
  rw [F73_eq]
  cases b <;> rfl

theorem S120 (n : Int) (σ : Store) : pureV CC 120 [.p (pI n)] σ = some (.p (.bool false)) := by
  refine pureV_free rfl rfl (F120_call (r := (.p (.bool false), [])) ?_) rfl
  rw [F120_eq]
  simp [b_neq]

def cmpI (a b : Int) : Int := if a < b then -1 else if a > b then 1 else 0

theorem S99 (a b : Int) (σ : Store) : pureV CC 99 [.p (pI a), .p (pI b)] σ = some (.p (pI (cmpI a b))) := by
  refine pureV_free rfl rfl (F99_call (r := (.p (pI (cmpI a b)), [])) ?_) rfl
  rw [F99_eq]
  simp only [pureFn_fn, List.append_nil, S120, obind, condK_false, b_lss, b_gtr, cmpI]
  by_cases h : a < b
  · simp [h, condK_true, condK_if]
  · by_cases h2 : a > b <;> simp [h, h2, condK_true, condK_if]

theorem S36 (b : Bool) (σ : Store) : pureV CC 36 [.p (.bool b)] σ = some (.p (pI (if b then 1 else 0))) := by
  refine pureV_free rfl rfl (F36_call (r := (.p (pI (if b then 1 else 0)), [])) ?_) rfl
  rw [F36_eq]
  cases b <;> rfl

def idxFrom {α : Type} (q : α → Bool) : List α → Nat → Int
  | [], _ => -1
  | a :: l, i => if q a then (i : Int) else idxFrom q l (i + 1)

theorem idxFrom_ge {α : Type} (q : α → Bool) : ∀ (l : List α) (i : Nat), decide (idxFrom q l i ≥ 0) = l.any q
  | [], i => rfl
  | a :: l, i => by
    unfold idxFrom
    cases h : q a with
    | true => simp [h]
    | false => simp only [Bool.false_eq_true, if_false, idxFrom_ge q l, List.any_cons, h, Bool.false_or]

theorem drop_cons {α : Type} {l : List α} {i : Nat} (h : i < l.length) : l.drop i = l[i] :: l.drop (i + 1) := List.drop_eq_getElem_cons h

theorem L116 {o : Option (List Int)} {f : FuncId} {caps : List DV} {σ : Store} {lo : Nat} {q : Int → Bool} (hl : (L o).length ≤ 1000) (hq : ∀ v, pureV CC f (.p (pI v) :: caps) σ = some (.p (.bool (q v)))) :
    ∀ (k i : Nat), (L o).length - i = k → i ≤ (L o).length → f116_L0 guardT lo (.p (eSl o)) (.fn f caps) (.p (pI ((L o).length : Nat))) (.p (pI (i : Nat))) σ = some (.p (pI (idxFrom q ((L o).drop i) i)), σ)
  | 0, i, hk, hi => by
    have : i = (L o).length := by omega
    rw [f116_L0_eq guardT rfl]
    subst this
    simp [b_lss, condK_false, idxFrom]
  | k + 1, i, hk, hi => by
    have h : i < (L o).length := by omega
    have h' : (i : Int) < ((L o).length : Nat) := by omega
    rw [f116_L0_eq guardT rfl]
    simp only [b_lss, obind, h', decide_true, condK_true, idx22 h, load3, load1_ints h, pureFn_fn, List.singleton_append, hq]
    rw [drop_cons h]
    cases hqv : q (L o)[i] with
    | true => simp [condK_true, idxFrom, hqv]
    | false =>
      simp only [condK_false, b_add, obind, wrap_succ (show i ≤ 1000000 by omega), idxFrom, hqv, Bool.false_eq_true, if_false]
      exact L116 hl hq k (i + 1) (by omega) (by omega)

theorem fn_view (f : FuncId) (caps : List DV) : view (.fn f caps) = .fn f caps := rfl
theorem sl_view (o : Option (List Int)) : view (.p (eSl o)) = .p (eSl o) := by simp [view, viewCell, loosen_sl]
theorem es_view (o : Option (List Edg)) : view (.p (eEs o)) = .p (eEs o) := by simp [view, viewCell, loosen_es]

/-- The stores at which a closure is called. -/
abbrev AtSt (caps : List DV) (σ σ0 : Store) : Prop := (σ0 = [] ∧ caps.all rowFree1 = true) ∨ σ0 = σ

theorem S116 {o : Option (List Int)} {f : FuncId} {caps : List DV} {σ : Store} {q : Int → Bool} (hl : (L o).length ≤ 1000) (hq : ∀ σ0, AtSt caps σ σ0 → ∀ v, pureV CC f (.p (pI v) :: caps) σ0 = some (.p (.bool (q v)))) :
    pureV CC 116 [.p (eSl o), .fn f caps] σ = some (.p (pI (idxFrom q (L o) 0))) := by
  refine pureV_any (by simp [sl_view, fn_view]) fun lo σ0 hs => ⟨_, σ0, F116_call (r := (.p (pI (idxFrom q (L o) 0)), σ0)) ?_, rfl⟩
  have hat : AtSt caps σ σ0 := by
    rcases hs with ⟨h1, _, h3⟩ | ⟨h1, _, _⟩
    · exact .inl ⟨h1, by simpa [rowFree] using (by simpa [rowFree] using h3 : _ ∧ _).2⟩
    · exact .inr h1
  rw [F116_eq]
  simp only [len22, obind]
  have := L116 (lo := lo) hl (hq σ0 hat) _ 0 rfl (Nat.zero_le _)
  simpa using this

theorem S86 {o : Option (List Int)} {f : FuncId} {caps : List DV} {σ : Store} {q : Int → Bool} (hl : (L o).length ≤ 1000) (hq : ∀ σ0, AtSt caps σ σ0 → ∀ v, pureV CC f (.p (pI v) :: caps) σ0 = some (.p (.bool (q v)))) :
    pureV CC 86 [.p (eSl o), .fn f caps] σ = some (.p (.bool ((L o).any q))) := by
  refine pureV_any (by simp [sl_view, fn_view]) fun lo σ0 hs => ⟨_, σ0, F86_call (r := (.p (.bool ((L o).any q)), σ0)) ?_, rfl⟩
  have hat : ∀ σ1, AtSt caps σ0 σ1 → AtSt caps σ σ1 := by
    intro σ1 h
    rcases hs with ⟨h1, _, h3⟩ | ⟨h1, _, _⟩
    · rcases h with h | h
      · exact .inl h
      · exact .inl ⟨h.trans h1, by simpa [rowFree] using (by simpa [rowFree] using h3 : _ ∧ _).2⟩
    · rw [← h1]; exact h
  rw [F86_eq]
  simp only [pureFn_fn, List.append_nil, S116 hl fun σ1 h => hq σ1 (hat σ1 h), obind, b_geq, idxFrom_ge]

theorem load1_getD {l : List Int} {i : Nat} (h : i < l.length) (σ : Store) : load1 (.pptr (eInts l) i) σ = some (.p (pI (l.getD i 0))) := by
  rw [load1_ints h, List.getD_eq_getElem?_getD, List.getElem?_eq_getElem h]; rfl
theorem wrap_pred {i : Nat} (h : 0 < i) (h2 : i ≤ 1000000) : IntKind.wrap .i64 ((i : Int) - 1) = ((i - 1 : Nat) : Int) := by
  rw [wrap_ok] <;> omega

theorem L117 {o : Option (List Int)} {v : Int} {σ : Store} {lo : Nat} (hl : (L o).length ≤ 1000) :
    ∀ (k i : Nat), (L o).length - i = k → i ≤ (L o).length → f117_L0 guardT lo (.p (eSl o)) (.p (pI v)) (.p (pI ((L o).length : Nat))) (.p (pI (i : Nat))) σ = some (.p (pI (idxFrom (fun a => decide (v = a)) ((L o).drop i) i)), σ)
  | 0, i, hk, hi => by
    have : i = (L o).length := by omega
    rw [f117_L0_eq guardT rfl]
    subst this
    simp [b_lss, condK_false, idxFrom]
  | k + 1, i, hk, hi => by
    have h : i < (L o).length := by omega
    have h' : (i : Int) < ((L o).length : Nat) := by omega
    rw [f117_L0_eq guardT rfl]
    simp only [b_lss, obind, h', decide_true, condK_true, idx22 h, load3, load1_ints h, b_eql]
    rw [drop_cons h]
    by_cases hqv : v = (L o)[i]
    · simp [condK_true, idxFrom, hqv]
    · simp only [hqv, decide_false, condK_false, b_add, obind, wrap_succ (show i ≤ 1000000 by omega), idxFrom, Bool.false_eq_true, if_false]
      exact L117 hl k (i + 1) (by omega) (by omega)

theorem S117 {o : Option (List Int)} {v : Int} {σ : Store} (hl : (L o).length ≤ 1000) : pureV CC 117 [.p (eSl o), .p (pI v)] σ = some (.p (pI (idxFrom (fun a => decide (v = a)) (L o) 0))) := by
  refine pureV_free (by simp [sl_view]; rfl) rfl (F117_call (r := (.p (pI (idxFrom (fun a => decide (v = a)) (L o) 0)), [])) ?_) rfl
  rw [F117_eq]
  simp only [len22, obind]
  have := L117 (lo := 0) (σ := []) (v := v) hl _ 0 rfl (Nat.zero_le _)
  simpa using this

def hasI (l : List Int) (v : Int) : Bool := l.any fun a => decide (v = a)

theorem S89 {o : Option (List Int)} {v : Int} {σ : Store} (hl : (L o).length ≤ 1000) : pureV CC 89 [.p (eSl o), .p (pI v)] σ = some (.p (.bool (hasI (L o) v))) := by
  refine pureV_free (by simp [sl_view]; rfl) rfl (F89_call (r := (.p (.bool (hasI (L o) v)), [])) ?_) rfl
  rw [F89_eq]
  simp only [pureFn_fn, List.append_nil, S117 hl, obind, b_geq, idxFrom_ge, hasI]

theorem L62 {o : Option (List Int)} {v : Int} {σ : Store} {lo : Nat} (hl : (L o).length ≤ 1000) :
    ∀ (k i : Nat), (L o).length - i = k → i ≤ (L o).length → f62_L0 guardT lo (.p (eSl o)) (.p (pI v)) (.p (pI (i : Nat))) σ = some (.p (.bool (hasI ((L o).drop i) v)), σ)
  | 0, i, hk, hi => by
    have : i = (L o).length := by omega
    rw [f62_L0_eq guardT rfl]
    subst this
    simp [len22, b_lss, condK_false, hasI]
  | k + 1, i, hk, hi => by
    have h : i < (L o).length := by omega
    have h' : (i : Int) < ((L o).length : Nat) := by omega
    rw [f62_L0_eq guardT rfl]
    simp only [len22, b_lss, obind, h', decide_true, condK_true, idx22 h, load3, load1_ints h, b_eql]
    rw [drop_cons h]
    by_cases hqv : (L o)[i] = v
    · simp [condK_true, hasI, hqv]
    · have hqv' : ¬ v = (L o)[i] := fun e => hqv e.symm
      simp only [hqv, decide_false, condK_false, b_add, obind, wrap_succ (show i ≤ 1000000 by omega), hasI, List.any_cons, hqv', Bool.false_or]
      exact L62 hl k (i + 1) (by omega) (by omega)

theorem S62 {o : Option (List Int)} {v : Int} {σ : Store} (hl : (L o).length ≤ 1000) : pureV CC 62 [.p (eSl o), .p (pI v)] σ = some (.p (.bool (hasI (L o) v))) := by
  refine pureV_free (by simp [sl_view]; rfl) rfl (F62_call (r := (.p (.bool (hasI (L o) v)), [])) ?_) rfl
  rw [F62_eq]
  have := L62 (lo := 0) (σ := []) (v := v) hl _ 0 rfl (Nat.zero_le _)
  simpa using this

def edgD (e : Edg) : List DV := [.p (pI e.f), .p (pI e.t), .p (pI e.a)]
def orL : List Int → Int
  | [] => 0
  | a :: l => if a = 0 then orL l else a
def ordE (a b : Edg) : Int := orL [cmpI a.f b.f, cmpI a.t b.t, cmpI a.a b.a]

theorem pureV_view {call : CallF} {f : FuncId} {args args' : List DV} {σ : Store} (h : args.map view = args') (h2 : args'.map view = args') : pureV call f args σ = pureV call f args' σ := by
  unfold pureV
  rw [h, h2]

theorem L98 {o : Option (List Int)} {σ : Store} {lo : Nat} (hl : (L o).length ≤ 1000) :
    ∀ (k i : Nat), (L o).length - i = k → i ≤ (L o).length → f98_L0 guardT lo (.p (pI 0)) (.p (eSl o)) (.p (pI ((L o).length : Nat))) (.p (pI (i : Nat))) σ = some (.p (pI (orL ((L o).drop i))), σ)
  | 0, i, hk, hi => by
    have : i = (L o).length := by omega
    rw [f98_L0_eq guardT rfl]
    subst this
    simp [b_lss, condK_false, orL]
  | k + 1, i, hk, hi => by
    have h : i < (L o).length := by omega
    have h' : (i : Int) < ((L o).length : Nat) := by omega
    rw [f98_L0_eq guardT rfl]
    simp only [b_lss, obind, h', decide_true, condK_true, idx22 h, load3, load1_ints h, b_neq]
    rw [drop_cons h]
    by_cases hqv : (L o)[i] = 0
    · simp only [hqv, decide_true, Bool.not_true, condK_false, b_add, obind, wrap_succ (show i ≤ 1000000 by omega), orL, if_true]
      exact L98 hl k (i + 1) (by omega) (by omega)
    · simp [condK_true, orL, hqv]

theorem S98 {o : Option (List Int)} {σ : Store} (hl : (L o).length ≤ 1000) : pureV CC 98 [.p (eSl o)] σ = some (.p (pI (orL (L o)))) := by
  refine pureV_free (by simp [sl_view]) rfl (F98_call (r := (.p (pI (orL (L o))), [])) ?_) rfl
  rw [F98_eq]
  simp only [len22, obind]
  have := L98 (lo := 0) (σ := []) hl _ 0 rfl (Nat.zero_le _)
  simpa using this

theorem box_edg (e : Edg) : boxV (.agg (edgD e)) = some (edgD e) := rfl
theorem bs22_3 (x y z : Int) (σ : Store) : buildSlice PP none 22 3 [(0, .p (pI x)), (1, .p (pI y)), (2, .p (pI z))] σ = some (.p (.sl true 3 (eInts [x, y, z])), σ) := Eq.trans (by kernel_rfl) rfl
theorem sl3_view (x y z : Int) : view (.p (.sl true 3 (eInts [x, y, z]))) = .p (eSl (some [x, y, z])) := rfl

theorem get_snoc {σ : Store} {r : Row} : (σ ++ [r])[σ.length]? = some r := by simp
theorem get_old {σ : Store} {r : Row} {i : Nat} {x : Row} (h : σ[i]? = some x) : (σ ++ [r])[i]? = some x := by
  rw [List.getElem?_append_left (List.getElem?_eq_some_iff.1 h).1]; exact h

theorem S119 (a b : Edg) (σ : Store) : pureV CC 119 [.agg (edgD a), .agg (edgD b)] σ = some (.p (pI (ordE a b))) := by
  refine pureV_free rfl rfl (F119_call (r := (.p (pI (ordE a b)), [.mix (edgD a), .mix (edgD b)])) ?_) rfl
  rw [F119_eq]
  have g0 : ([Row.mix (edgD a), Row.mix (edgD b)] : Store)[0]? = some (.mix (edgD a)) := rfl
  have g1 : ([Row.mix (edgD a), Row.mix (edgD b)] : Store)[1]? = some (.mix (edgD b)) := rfl
  simp only [box_edg, obind, List.length_nil, List.nil_append, List.length_cons, List.cons_append, fa69_0, fa69_1, fa69_2, shift_ptr, load3, Nat.zero_add,
    load1_ptr (off := 0) g0 rfl, load1_ptr (off := 1) g0 rfl, load1_ptr (off := 2) g0 rfl, load1_ptr (off := 0) g1 rfl, load1_ptr (off := 1) g1 rfl, load1_ptr (off := 2) g1 rfl, pureFn_fn, List.append_nil, S99, bs22_3]
  rw [pureV_view (args' := [.p (eSl (some [cmpI a.f b.f, cmpI a.t b.t, cmpI a.a b.a]))]) (by simp [sl3_view]) (by simp [sl_view]), S98 (by simp)]
  rfl

theorem S92 (e : Edg) (σ : Store) : pureV CC 92 [.agg (edgD e)] σ = some (.p (eSl (some [e.f, e.t, e.a]))) := by
  refine pureV_free rfl rfl (F92_call (r := (.p (.sl true 3 (eInts [e.f, e.t, e.a])), [.mix (edgD e)])) ?_) rfl
  rw [F92_eq]
  have g0 : ([Row.mix (edgD e)] : Store)[0]? = some (.mix (edgD e)) := rfl
  simp only [box_edg, obind, List.length_nil, List.nil_append, fa69_0, fa69_1, fa69_2, shift_ptr, load3, Nat.zero_add,
    load1_ptr (off := 0) g0 rfl, load1_ptr (off := 1) g0 rfl, load1_ptr (off := 2) g0 rfl, bs22_3]

def firstI : List Int → List Int → Int
  | a :: xs, b :: ys => if a = b then firstI xs ys else if a < b then -1 else 1
  | xs, ys => (if xs.length > ys.length then 1 else 0) - (if xs.length < ys.length then 1 else 0)

theorem firstI_nil (xs ys : List Int) (h : xs = [] ∨ ys = []) : firstI xs ys = (if xs.length > ys.length then 1 else 0) - (if xs.length < ys.length then 1 else 0) := by
  rcases h with rfl | rfl
  · unfold firstI; rfl
  · cases xs <;> rfl

theorem L69 {a b : Option (List Int)} {σ : Store} {lo : Nat} (ha : (L a).length ≤ 1000) (hb : (L b).length ≤ 1000) :
    ∀ (k i : Nat), (L a).length - i = k → i ≤ (L a).length → i ≤ (L b).length → f69_L0 guardT lo (.p (eSl a)) (.p (eSl b)) (.p (pI (i : Nat))) σ = some (.p (pI (firstI ((L a).drop i) ((L b).drop i))), σ) := by
  have fin : ∀ (i : Nat), i ≤ (L a).length → i ≤ (L b).length → ((L a).length ≤ i ∨ (L b).length ≤ i) → (
      (len PP 22 (.p (eSl a)) σ).bind fun x40 =>
      (len PP 22 (.p (eSl b)) σ).bind fun x42 =>
      (binOp PP .gtr 3 x40 x42).bind fun x43 =>
      (pureFn CC (DV.fn 36 []) [x43] σ).bind fun x44 =>
      (len PP 22 (.p (eSl a)) σ).bind fun x46 =>
      (len PP 22 (.p (eSl b)) σ).bind fun x48 =>
      (binOp PP .lss 3 x46 x48).bind fun x49 =>
      (pureFn CC (DV.fn 36 []) [x49] σ).bind fun x50 =>
      (binOp PP .sub 3 x44 x50).bind fun x51 =>
      some (x51, σ)) = some (.p (pI (firstI ((L a).drop i) ((L b).drop i))), σ) := by
    intro i h1 h2 h
    rw [firstI_nil _ _ (h.imp (fun h => List.drop_eq_nil_of_le h) fun h => List.drop_eq_nil_of_le h)]
    simp only [len22, obind, b_gtr, b_lss, pureFn_fn, List.append_nil, S36, b_sub, List.length_drop, decide_eq_true_eq]
    have e1 : ((((L a).length : Nat) : Int) > ((L b).length : Nat)) ↔ (L a).length - i > (L b).length - i := by omega
    have e2 : ((((L a).length : Nat) : Int) < ((L b).length : Nat)) ↔ (L a).length - i < (L b).length - i := by omega
    simp only [e1, e2]
    rw [wrap_ok]
    · split <;> split <;> simp
    · split <;> split <;> simp
  intro k
  induction k with
  | zero =>
    intro i hk hi hj
    have h' : ¬ (i : Int) < ((L a).length : Nat) := by omega
    rw [f69_L0_eq guardT rfl]
    simp only [len22 a, b_lss, obind, h', decide_false, guard_ft, pickV_false, condK_false]
    have := fin i hi hj (.inl (by omega))
    simpa only [len22 a, b_lss, obind] using this
  | succ k ih =>
    intro i hk hi hj
    have h : i < (L a).length := by omega
    have h' : (i : Int) < ((L a).length : Nat) := by omega
    rw [f69_L0_eq guardT rfl]
    simp only [len22 a, b_lss, obind, h', decide_true, guard_tt, len22 b, pickV_true]
    by_cases hb2 : i < (L b).length
    · have hb' : (i : Int) < ((L b).length : Nat) := by omega
      simp only [hb', decide_true, condK_true, idx22 h, idx22 hb2, load3, load1_ints h, load1_ints hb2, obind, b_neq]
      rw [drop_cons h, drop_cons hb2]
      by_cases e : (L a)[i] = (L b)[i]
      · simp only [e, decide_true, Bool.not_true, condK_false, b_add, obind, wrap_succ (show i ≤ 1000000 by omega), firstI, if_true]
        exact ih (i + 1) (by omega) (by omega) (by omega)
      · simp only [e, decide_false, Bool.not_false, condK_true, pureFn_fn, List.append_nil, b_lss, S36, obind, b_mul, b_sub, firstI, if_false, decide_eq_true_eq]
        by_cases e2 : (L a)[i] < (L b)[i]
        · simp [e2, wrap_ok]
        · simp [e2, wrap_ok]
    · have hb' : ¬ (i : Int) < ((L b).length : Nat) := by omega
      simp only [hb', decide_false, condK_false]
      have := fin i hi hj (.inr (by omega))
      simpa only [len22 a, len22 b, b_lss, obind] using this

theorem S69 {a b : Option (List Int)} {σ : Store} (ha : (L a).length ≤ 1000) (hb : (L b).length ≤ 1000) : pureV CC 69 [.p (eSl a), .p (eSl b)] σ = some (.p (pI (firstI (L a) (L b)))) := by
  refine pureV_free (by simp [sl_view]) rfl (F69_call (r := (.p (pI (firstI (L a) (L b))), [])) ?_) rfl
  rw [F69_eq]
  have := L69 (lo := 0) (σ := []) ha hb _ 0 rfl (Nat.zero_le _) (Nat.zero_le _)
  simpa using this

theorem load69_D {l : List Edg} {i : Nat} (h : i < l.length) (σ : Store) : (loadN σ 3 (.pptr (eEdgs l) (i * 3))).map DV.agg = some (.agg (edgD (l.getD i default))) := by
  rw [load69_edgs h, List.getD_eq_getElem?_getD, List.getElem?_eq_getElem h]; rfl

/-! ### First index among steps -/
theorem L90 {o : Option (List Edg)} {f : FuncId} {caps : List DV} {σ : Store} {lo : Nat} {q : Edg → Bool} (hl : (L o).length ≤ 10000) (hq : ∀ e, pureV CC f (.agg (edgD e) :: caps) σ = some (.p (.bool (q e)))) :
    ∀ (k i : Nat), (L o).length - i = k → i ≤ (L o).length → f90_L0 guardT lo (.p (eEs o)) (.fn f caps) (.p (pI ((L o).length : Nat))) (.p (pI (i : Nat))) σ = some (.p (pI (idxFrom q ((L o).drop i) i)), σ)
  | 0, i, hk, hi => by
    have : i = (L o).length := by omega
    rw [f90_L0_eq guardT rfl]
    subst this
    simp [b_lss, condK_false, idxFrom]
  | k + 1, i, hk, hi => by
    have h : i < (L o).length := by omega
    have h' : (i : Int) < ((L o).length : Nat) := by omega
    rw [f90_L0_eq guardT rfl]
    have e0 : (L o).getD i default = (L o)[i] := by rw [List.getD_eq_getElem?_getD, List.getElem?_eq_getElem h]; rfl
    simp only [b_lss, obind, h', decide_true, condK_true, idx23 h, load69, load69_D h, e0, pureFn_fn, List.singleton_append, hq]
    rw [drop_cons h]
    cases hqv : q (L o)[i] with
    | true => simp [condK_true, idxFrom, hqv]
    | false =>
      simp only [condK_false, b_add, obind, wrap_succ (show i ≤ 1000000 by omega), idxFrom, hqv, Bool.false_eq_true, if_false]
      exact L90 hl hq k (i + 1) (by omega) (by omega)

theorem S90 {o : Option (List Edg)} {f : FuncId} {caps : List DV} {σ : Store} {q : Edg → Bool} (hl : (L o).length ≤ 10000) (hq : ∀ σ0, AtSt caps σ σ0 → ∀ e, pureV CC f (.agg (edgD e) :: caps) σ0 = some (.p (.bool (q e)))) :
    pureV CC 90 [.p (eEs o), .fn f caps] σ = some (.p (pI (idxFrom q (L o) 0))) := by
  refine pureV_any (by simp [es_view, fn_view]) fun lo σ0 hs => ⟨_, σ0, F90_call (r := (.p (pI (idxFrom q (L o) 0)), σ0)) ?_, rfl⟩
  have hat : AtSt caps σ σ0 := by
    rcases hs with ⟨h1, _, h3⟩ | ⟨h1, _, _⟩
    · exact .inl ⟨h1, by simpa [rowFree] using (by simpa [rowFree] using h3 : _ ∧ _).2⟩
    · exact .inr h1
  rw [F90_eq]
  simp only [len23, obind]
  have := L90 (lo := lo) hl (hq σ0 hat) _ 0 rfl (Nat.zero_le _)
  simpa using this

theorem S100 {o : Option (List Edg)} {f : FuncId} {caps : List DV} {σ : Store} {q : Edg → Bool} (hl : (L o).length ≤ 10000) (hq : ∀ σ0, AtSt caps σ σ0 → ∀ e, pureV CC f (.agg (edgD e) :: caps) σ0 = some (.p (.bool (q e)))) :
    pureV CC 100 [.p (eEs o), .fn f caps] σ = some (.p (.bool ((L o).any q))) := by
  refine pureV_any (by simp [es_view, fn_view]) fun lo σ0 hs => ⟨_, σ0, F100_call (r := (.p (.bool ((L o).any q)), σ0)) ?_, rfl⟩
  have hat : ∀ σ1, AtSt caps σ0 σ1 → AtSt caps σ σ1 := by
    intro σ1 h
    rcases hs with ⟨h1, _, h3⟩ | ⟨h1, _, _⟩
    · rcases h with h | h
      · exact .inl h
      · exact .inl ⟨h.trans h1, by simpa [rowFree] using (by simpa [rowFree] using h3 : _ ∧ _).2⟩
    · rw [← h1]; exact h
  rw [F100_eq]
  simp only [pureFn_fn, List.append_nil, S90 hl fun σ1 h => hq σ1 (hat σ1 h), obind, b_geq, idxFrom_ge]

/-! ### Right graphs -/
abbrev pred (n : Int) : Int := IntKind.wrap .i64 (n - 1)

theorem S118 {σ : Store} {r : Nat} {g : Gr} {v : Int} (h : σ[r]? = some (.mix (eGr g))) : pureV CC 118 [.p (pI v), .ptr r 0] σ = some (.p (.bool (inR v 0 (pred g.n)))) := by
  refine pureV_rows rfl rfl (F118_call (r := (.p (.bool (inR v 0 (pred g.n))), σ)) ?_) rfl
  rw [F118_eq]
  simp only [fa25_0, shift_ptr, obind, load3, load1_ptr (off := 0 + 0) h rfl, b_sub, pureFn_fn, List.append_nil, S88]

def okI (n : Int) (l : List Int) (i : Nat) : Bool := inR (l.getD i 0) 0 (pred n) && (decide (i = 0) || decide (l.getD (i - 1) 0 < l.getD i 0))
def okE (n : Int) (l : List Edg) (i : Nat) : Bool := inR (l.getD i default).f 0 (pred n) && (inR (l.getD i default).t 0 (pred n) && (inR (l.getD i default).a 0 11 && (decide (i = 0) || decide (ordE (l.getD (i - 1) default) (l.getD i default) < 0))))
def allFrom (p : Nat → Bool) : Nat → Nat → Bool
  | _, 0 => true
  | i, k + 1 => p i && allFrom p (i + 1) k
def isG (g : Gr) : Bool := inR g.n 0 400 && decide ((L g.edges).length ≤ 2000) && allFrom (okI g.n (L g.init)) 0 (L g.init).length && allFrom (okE g.n (L g.edges)) 0 (L g.edges).length

theorem L96_0 {g : Gr} {σ : Store} {lo : Nat} (hg : σ[0]? = some (.mix (eGr g))) (hl : (L g.init).length ≤ 1000) :
    ∀ (k i : Nat) (b : Bool), (L g.init).length - i = k → i ≤ (L g.init).length → f96_L0 guardT lo (.ptr 0 0) (.fn 118 [.ptr 0 0]) (.p (.bool b)) (.p (eSl g.init)) (.p (pI ((L g.init).length : Nat))) (.p (pI (i : Nat))) σ =
      f96_L1 guardT lo (.ptr 0 0) (.fn 118 [.ptr 0 0]) (.p (.bool (b && allFrom (okI g.n (L g.init)) i k))) (.p (eEs g.edges)) (.p (pI ((L g.edges).length : Nat))) (.p (pI (0 : Nat))) σ
  | 0, i, b, hk, hi => by
    have : ¬ (i : Int) < ((L g.init).length : Nat) := by omega
    rw [f96_L0_eq guardT rfl]
    simp only [b_lss, obind, this, decide_false, condK_false, fa25_2, shift_ptr, load23, load1_ptr (off := 0 + 2) hg rfl, len23, allFrom, Bool.and_true]
    rfl
  | k + 1, i, b, hk, hi => by
    have h : i < (L g.init).length := by omega
    have h' : (i : Int) < ((L g.init).length : Nat) := by omega
    rw [f96_L0_eq guardT rfl]
    simp only [b_lss, obind, h', decide_true, condK_true, idx22 h, load3, load1_getD h]
    have ih := fun b => L96_0 (lo := lo) hg hl k (i + 1) b (by omega) (by omega)
    cases b with
    | false =>
      simp only [guard_ft, guard_sk, pickV_false, obind, b_add, wrap_succ (show i ≤ 1000000 by omega), Bool.false_and]
      rw [ih]
      simp
    | true =>
      simp only [guard_tt, pureFn_fn, List.singleton_append, S118 hg, obind, pickV_true, allFrom, okI]
      cases hst : inR ((L g.init).getD i 0) 0 (pred g.n) with
      | false =>
        simp only [guard_ft, guard_sk, pickV_false, obind, b_add, wrap_succ (show i ≤ 1000000 by omega), Bool.false_and, Bool.and_false]
        rw [ih]
        simp
      | true =>
        simp only [guard_tt, b_eql, obind]
        by_cases h0 : i = 0
        · have hd : decide ((i : Int) = 0) = true := by simp [h0]
          simp only [hd, guard_tf, guard_sk, obind, pickV_true, b_add, wrap_succ (show i ≤ 1000000 by omega)]
          rw [ih]
          simp [h0]
        · have h0' : ¬ (i : Int) = 0 := by omega
          simp only [h0', decide_false, guard_ff, obind, fa25_1, shift_ptr, load22, load1_ptr (off := 0 + 1) hg rfl, b_sub, wrap_pred (show 0 < i by omega) (show i ≤ 1000000 by omega), idx22 (show i - 1 < (L g.init).length by omega), load3, load1_getD (show i - 1 < (L g.init).length by omega), b_lss, pickV_false, pickV_true, b_add, wrap_succ (show i ≤ 1000000 by omega)]
          rw [ih]
          simp [h0]

theorem store_new69 (σ : Store) (e : Edg) (z : List DV) (hz : z.length = 3) : store PP 0 69 (.ptr σ.length 0) (.agg (edgD e)) (σ ++ [.mix z]) = some (σ ++ [.mix (edgD e)]) := by
  have hone : (edgD e).all DV.one = true := rfl
  have hs : splice z 0 (edgD e) = edgD e := by
    match z, hz with
    | [a, b, c], _ => rfl
  simp [store, s69, DV.cells, storeN, hone, edgD, hz]
  exact ⟨⟨rfl, rfl, rfl⟩, by simpa [edgD] using hs⟩

theorem L96_1 {g : Gr} (hl : (L g.edges).length ≤ 10000) :
    ∀ (k i : Nat) (b : Bool) (σ : Store), σ[0]? = some (.mix (eGr g)) → (L g.edges).length - i = k → i ≤ (L g.edges).length → ∃ σ', f96_L1 guardT 0 (.ptr 0 0) (.fn 118 [.ptr 0 0]) (.p (.bool b)) (.p (eEs g.edges)) (.p (pI ((L g.edges).length : Nat))) (.p (pI (i : Nat))) σ =
      some (.p (.bool (b && allFrom (okE g.n (L g.edges)) i k)), σ')
  | 0, i, b, σ, hg, hk, hi => by
    have : ¬ (i : Int) < ((L g.edges).length : Nat) := by omega
    refine ⟨σ, ?_⟩
    rw [f96_L1_eq guardT rfl]
    simp only [b_lss, obind, this, decide_false, condK_false, allFrom, Bool.and_true]
  | k + 1, i, b, σ, hg, hk, hi => by
    have h : i < (L g.edges).length := by omega
    have h' : (i : Int) < ((L g.edges).length : Nat) := by omega
    rw [f96_L1_eq guardT rfl]
    have hg1 : (σ ++ [Row.mix (edgD ((L g.edges).getD i default))])[0]? = some (.mix (eGr g)) := get_old hg
    have hx : (σ ++ [Row.mix (edgD ((L g.edges).getD i default))])[σ.length]? = some (.mix (edgD ((L g.edges).getD i default))) := get_snoc
    have ih := fun b => L96_1 hl k (i + 1) b _ hg1 (by omega) (by omega)
    simp only [b_lss, obind, h', decide_true, condK_true, idx23 h, load69, load69_D h, zero69, store_new69 σ ((L g.edges).getD i default) [.p (pI 0), .p (pI 0), .p (pI 0)] rfl]
    generalize hρ : σ ++ [Row.mix (edgD ((L g.edges).getD i default))] = ρ at *
    have w : IntKind.wrap .i64 ((i : Int) + 1) = ((i + 1 : Nat) : Int) := wrap_succ (by omega)
    cases b with
    | false =>
      simp only [guard_ft, guard_sk, pickV_false, obind, b_add, w, Bool.false_and]
      obtain ⟨σ', h1⟩ := ih false
      exact ⟨σ', by rw [h1]; simp⟩
    | true =>
      simp only [guard_tt, fa69_0, fa69_1, fa69_2, shift_ptr, obind, load3, load1_ptr (off := 0 + 0) hx rfl, pureFn_fn, List.singleton_append, S118 hg1, pickV_true, allFrom, okE]
      cases h1 : inR ((L g.edges).getD i default).f 0 (pred g.n) with
      | false =>
        simp only [guard_ft, guard_sk, pickV_false, obind, b_add, w, Bool.false_and, Bool.and_false]
        obtain ⟨σ', h1⟩ := ih false
        exact ⟨σ', by rw [h1]; simp⟩
      | true =>
        simp only [guard_tt, obind, load1_ptr (off := 0 + 1) hx rfl, pureFn_fn, List.singleton_append, S118 hg1, pickV_true]
        cases h2 : inR ((L g.edges).getD i default).t 0 (pred g.n) with
        | false =>
          simp only [guard_ft, guard_sk, pickV_false, obind, b_add, w, Bool.false_and, Bool.and_false, Bool.true_and]
          obtain ⟨σ', h1⟩ := ih false
          exact ⟨σ', by rw [h1]; simp⟩
        | true =>
          simp only [guard_tt, obind, load1_ptr (off := 0 + 2) hx rfl, pureFn_fn, List.append_nil, S88, pickV_true]
          cases h3 : inR ((L g.edges).getD i default).a 0 11 with
          | false =>
            simp only [guard_ft, guard_sk, pickV_false, obind, b_add, w, Bool.false_and, Bool.and_false, Bool.true_and]
            obtain ⟨σ', h1⟩ := ih false
            exact ⟨σ', by rw [h1]; simp⟩
          | true =>
            simp only [guard_tt, b_eql, obind]
            by_cases h0 : i = 0
            · have hd : decide ((i : Int) = 0) = true := by simp [h0]
              simp only [hd, guard_tf, guard_sk, obind, pickV_true, b_add, w]
              obtain ⟨σ', h1⟩ := ih true
              exact ⟨σ', by rw [h1]; simp [h0]⟩
            · have h0' : ¬ (i : Int) = 0 := by omega
              have hi1 : i - 1 < (L g.edges).length := by omega
              simp only [h0', decide_false, guard_ff, obind, fa25_2, shift_ptr, load23, load1_ptr (off := 0 + 2) hg1 rfl, b_sub, wrap_pred (show 0 < i by omega) (show i ≤ 1000000 by omega), idx23 hi1, load69_D hi1,
                loadN_ptr (off := 0) (n := 3) (vs := edgD ((L g.edges).getD i default)) hx rfl (by simp [edgD]), omap, pureFn_fn, List.append_nil, S119, b_lss, pickV_false, pickV_true, b_add, w]
              obtain ⟨σ', h1⟩ := ih (decide (ordE ((L g.edges).getD (i - 1) default) ((L g.edges).getD i default) < 0))
              exact ⟨σ', by rw [h1]; simp [h0]⟩

theorem box_gr (g : Gr) : boxV (.agg (eGr g)) = some (eGr g) := rfl
theorem gr_view (g : Gr) : view (.agg (eGr g)) = .agg (eGr g) := by simp [view, viewCell, eGr, loosen_sl, loosen_es, loosen]

/-- Of a right graph all is looked at; a wrong one is one. -/
theorem S96 {g : Gr} {σ : Store} (hl : (L g.init).length ≤ 1000) (hl2 : (L g.edges).length ≤ 10000) : pureV CC 96 [.agg (eGr g)] σ = some (.p (.bool (isG g))) := by
  have g0 : ([Row.mix (eGr g)] : Store)[0]? = some (.mix (eGr g)) := rfl
  have key : ∀ b, ∃ σ', f96_L0 guardT 0 (.ptr 0 0) (.fn 118 [.ptr 0 0]) (.p (.bool b)) (.p (eSl g.init)) (.p (pI ((L g.init).length : Nat))) (.p (pI (0 : Nat))) [Row.mix (eGr g)] = some (.p (.bool (b && allFrom (okI g.n (L g.init)) 0 (L g.init).length && allFrom (okE g.n (L g.edges)) 0 (L g.edges).length)), σ') := by
    intro b
    rw [L96_0 g0 hl _ 0 b rfl (Nat.zero_le _)]
    exact L96_1 hl2 _ 0 _ _ g0 rfl (Nat.zero_le _)
  refine pureV_any (by simp [gr_view]) fun lo σ0 hs => ?_
  rcases hs with ⟨rfl, rfl, _⟩ | ⟨_, _, h⟩
  case inr => exact absurd h (by simp [rowFree, rowFree1, eGr])
  have hF : ∃ σ', F96 guardT 0 (.agg (eGr g)) [] = some (.p (.bool (isG g)), σ') := by
    rw [F96_eq]
    simp only [box_gr, obind, List.length_nil, List.nil_append, fa25_0, fa25_1, fa25_2, shift_ptr, load3, load22, load23, load1_ptr (off := 0 + 0) g0 rfl, load1_ptr (off := 0 + 1) g0 rfl, load1_ptr (off := 0 + 2) g0 rfl, pureFn_fn, List.append_nil, S88, len22, len23]
    cases h1 : inR g.n 0 400 with
    | false =>
      simp only [guard_ft, guard_sk, pickV_false, obind, load1_ptr (off := 0 + 1) g0 rfl, len22]
      obtain ⟨σ', h⟩ := key false
      exact ⟨σ', by simpa [isG, h1] using h⟩
    | true =>
      simp only [guard_tt, pickV_true, obind, load1_ptr (off := 0 + 2) g0 rfl, len23, b_leq, load1_ptr (off := 0 + 1) g0 rfl, len22]
      obtain ⟨σ', h⟩ := key (decide (((L g.edges).length : Int) ≤ 2000))
      refine ⟨σ', ?_⟩
      have e : decide (((L g.edges).length : Int) ≤ 2000) = decide ((L g.edges).length ≤ 2000) := by
        simp only [decide_eq_decide]; omega
      rw [e] at h ⊢
      simpa [isG, h1, Bool.and_assoc] using h
  obtain ⟨σ', h⟩ := hF
  exact ⟨_, σ', F96_call h, rfl⟩

theorem allFrom_iff {p : Nat → Bool} : ∀ (k i : Nat), allFrom p i k = true ↔ ∀ j, i ≤ j → j < i + k → p j = true
  | 0, i => by simp [allFrom]; omega
  | k + 1, i => by
    simp only [allFrom, Bool.and_eq_true, allFrom_iff k (i + 1)]
    constructor
    · rintro ⟨h1, h2⟩ j hj hk
      rcases Nat.eq_or_lt_of_le hj with e | e
      · rw [← e]; exact h1
      · exact h2 j e (by omega)
    · intro h
      exact ⟨h i (Nat.le_refl _) (by omega), fun j hj hk => h j (by omega) (by omega)⟩

theorem ordE_first (a b : Edg) : decide (firstI [a.f, a.t, a.a] [b.f, b.t, b.a] ≥ 0) = !decide (ordE a b < 0) := by
  simp only [firstI, ordE, orL, cmpI, List.length_nil]
  by_cases h1 : a.f < b.f
  · have : ¬ a.f = b.f := by omega
    simp [h1, this]
  · by_cases h2 : a.f > b.f
    · have : ¬ a.f = b.f := by omega
      simp [h1, h2, this]
    · have e1 : a.f = b.f := by omega
      by_cases h3 : a.t < b.t
      · have : ¬ a.t = b.t := by omega
        simp [h3, this, e1]
      · by_cases h4 : a.t > b.t
        · have : ¬ a.t = b.t := by omega
          simp [h3, h4, this, e1]
        · have e2 : a.t = b.t := by omega
          by_cases h5 : a.a < b.a
          · have : ¬ a.a = b.a := by omega
            simp [h5, this, e1, e2]
          · by_cases h6 : a.a > b.a
            · have : ¬ a.a = b.a := by omega
              simp [h5, h6, this, e1, e2]
            · have e3 : a.a = b.a := by omega
              simp [e1, e2, e3]

theorem L56_1 {g : Gr} (hl : (L g.edges).length ≤ 10000) :
    ∀ (k i : Nat) (σ : Store), σ[0]? = some (.mix (eGr g)) → (L g.edges).length - i = k → i ≤ (L g.edges).length → ∃ σ', f56_L1 guardT 0 (.ptr 0 0) (.p (pI (i : Nat))) σ =
      some (.p (.bool (allFrom (okE g.n (L g.edges)) i k)), σ')
  | 0, i, σ, hg, hk, hi => by
    have : ¬ (i : Int) < ((L g.edges).length : Nat) := by omega
    refine ⟨σ, ?_⟩
    rw [f56_L1_eq guardT rfl]
    simp only [fa25_2, shift_ptr, load23, load1_ptr (off := 0 + 2) hg rfl, len23, b_lss, obind, this, decide_false, condK_false, allFrom]
  | k + 1, i, σ, hg, hk, hi => by
    have h : i < (L g.edges).length := by omega
    have h' : (i : Int) < ((L g.edges).length : Nat) := by omega
    rw [f56_L1_eq guardT rfl]
    have hg1 : (σ ++ [Row.mix (edgD ((L g.edges).getD i default))])[0]? = some (.mix (eGr g)) := get_old hg
    have hx : (σ ++ [Row.mix (edgD ((L g.edges).getD i default))])[σ.length]? = some (.mix (edgD ((L g.edges).getD i default))) := get_snoc
    have ih := L56_1 hl k (i + 1) _ hg1 (by omega) (by omega)
    simp only [fa25_2, shift_ptr, load23, load1_ptr (off := 0 + 2) hg rfl, len23, b_lss, obind, h', decide_true, condK_true, idx23 h, load69, load69_D h, zero69, store_new69 σ ((L g.edges).getD i default) [.p (pI 0), .p (pI 0), .p (pI 0)] rfl]
    generalize hρ : σ ++ [Row.mix (edgD ((L g.edges).getD i default))] = ρ at *
    have w : IntKind.wrap .i64 ((i : Int) + 1) = ((i + 1 : Nat) : Int) := wrap_succ (by omega)
    simp only [fa69_0, fa69_1, fa69_2, fa25_0, shift_ptr, obind, load3, load1_ptr (off := 0 + 0) hx rfl, load1_ptr (off := 0 + 0) hg1 rfl, b_sub, pureFn_fn, List.append_nil, S61, not_bool, allFrom, okE]
    cases h1 : inR ((L g.edges).getD i default).f 0 (pred g.n) with
    | false => exact ⟨ρ, by simp only [Bool.not_false, guard_tf, guard_sk, pickV_true, obind, condK_true, Bool.false_and]⟩
    | true =>
      simp only [Bool.not_true, guard_ff, obind, load1_ptr (off := 0 + 1) hx rfl, load1_ptr (off := 0 + 0) hg1 rfl, b_sub, pureFn_fn, List.append_nil, S61, not_bool, pickV_false, shift_ptr, fa25_0, load3]
      cases h2 : inR ((L g.edges).getD i default).t 0 (pred g.n) with
      | false => exact ⟨ρ, by simp only [Bool.not_false, guard_tf, guard_sk, pickV_true, obind, condK_true, Bool.false_and, Bool.and_false]⟩
      | true =>
        simp only [Bool.not_true, guard_ff, obind, load1_ptr (off := 0 + 2) hx rfl, pureFn_fn, List.append_nil, S61, not_bool, pickV_false, shift_ptr, load3]
        cases h3 : inR ((L g.edges).getD i default).a 0 11 with
        | false => exact ⟨ρ, by simp only [Bool.not_false, guard_tf, guard_sk, pickV_true, obind, condK_true, Bool.false_and, Bool.and_false]⟩
        | true =>
          simp only [Bool.not_true, guard_ff, obind, b_gtr, pickV_false]
          by_cases h0 : i = 0
          · have hd : decide ((i : Int) > 0) = false := by simp [h0]
            simp only [hd, guard_ft, guard_sk, pickV_false, obind, condK_false, b_add, w]
            obtain ⟨σ', h4⟩ := ih
            exact ⟨σ', by rw [h4]; simp [h0]⟩
          · have hd : decide ((i : Int) > 0) = true := by simp; omega
            have hi1 : i - 1 < (L g.edges).length := by omega
            simp only [hd, guard_tt, obind, load1_ptr (off := 0 + 2) hg1 rfl, shift_ptr, load23, b_sub, wrap_pred (show 0 < i by omega) (show i ≤ 1000000 by omega), idx23 hi1, load69_D hi1, pureFn_fn, List.append_nil, S92,
              loadN_ptr (off := 0) (n := 3) (vs := edgD ((L g.edges).getD i default)) hx rfl (by simp [edgD]), omap]
            rw [S69 (by simp) (by simp)]
            simp only [obind, b_geq, pickV_true, Option.getD_some, ordE_first]
            cases h5 : decide (ordE ((L g.edges).getD (i - 1) default) ((L g.edges).getD i default) < 0) with
            | false => exact ⟨ρ, by simp only [Bool.not_false, condK_true]; simp [h0]⟩
            | true =>
              simp only [Bool.not_true, condK_false, b_add, obind, w]
              obtain ⟨σ', h4⟩ := ih
              exact ⟨σ', by rw [h4]; simp [h0]⟩

theorem L56_0 {g : Gr} {σ : Store} (hg : σ[0]? = some (.mix (eGr g))) (hl : (L g.init).length ≤ 1000) :
    ∀ (k i : Nat), (L g.init).length - i = k → i ≤ (L g.init).length → f56_L0 guardT 0 (.ptr 0 0) (.p (pI (i : Nat))) σ =
      bif allFrom (okI g.n (L g.init)) i k then f56_L1 guardT 0 (.ptr 0 0) (.p (pI (0 : Nat))) σ else some (.p (.bool false), σ)
  | 0, i, hk, hi => by
    have : ¬ (i : Int) < ((L g.init).length : Nat) := by omega
    rw [f56_L0_eq guardT rfl]
    simp only [fa25_1, shift_ptr, load22, load1_ptr (off := 0 + 1) hg rfl, len22, b_lss, obind, this, decide_false, condK_false, allFrom, cond_true]
    rfl
  | k + 1, i, hk, hi => by
    have h : i < (L g.init).length := by omega
    have h' : (i : Int) < ((L g.init).length : Nat) := by omega
    have ih := L56_0 hg hl k (i + 1) (by omega) (by omega)
    rw [f56_L0_eq guardT rfl]
    simp only [fa25_0, fa25_1, shift_ptr, load22, load1_ptr (off := 0 + 1) hg rfl, len22, b_lss, obind, h', decide_true, condK_true, idx22 h, load3, load1_getD h, load1_ptr (off := 0 + 0) hg rfl, b_sub, pureFn_fn, List.append_nil, S61, not_bool, allFrom, okI]
    cases hst : inR ((L g.init).getD i 0) 0 (pred g.n) with
    | false => simp only [Bool.not_false, guard_tf, guard_sk, pickV_true, obind, condK_true, Bool.false_and, cond_false]
    | true =>
      simp only [Bool.not_true, guard_ff, obind, b_gtr]
      by_cases h0 : i = 0
      · have hd : decide ((i : Int) > 0) = false := by simp [h0]
        simp only [hd, guard_ft, guard_sk, obind, pickV_false, condK_false, b_add, wrap_succ (show i ≤ 1000000 by omega)]
        rw [ih]
        simp [h0]
      · have hd : decide ((i : Int) > 0) = true := by simp; omega
        have hi1 : i - 1 < (L g.init).length := by omega
        simp only [hd, guard_tt, obind, fa25_1, shift_ptr, load22, load1_ptr (off := 0 + 1) hg rfl, idx22 h, load3, load1_getD h, b_sub, wrap_pred (show 0 < i by omega) (show i ≤ 1000000 by omega), idx22 hi1, load1_getD hi1, b_leq, pickV_false, pickV_true]
        by_cases hlt : (L g.init).getD (i - 1) 0 < (L g.init).getD i 0
        · have hle : ¬ (L g.init).getD i 0 ≤ (L g.init).getD (i - 1) 0 := by omega
          simp only [hle, hlt, decide_false, decide_true, condK_false, b_add, obind, wrap_succ (show i ≤ 1000000 by omega), Bool.or_true, Bool.true_and]
          exact ih
        · have hle : (L g.init).getD i 0 ≤ (L g.init).getD (i - 1) 0 := by omega
          simp only [hle, hlt, decide_false, decide_true, condK_true, Bool.or_false, h0, Bool.true_and, Bool.false_and, cond_false]

theorem init_le {g : Gr} (hn : inR g.n 0 400 = true) (h : allFrom (okI g.n (L g.init)) 0 (L g.init).length = true) : ((L g.init).length : Int) ≤ g.n := by
  have h1 := (allFrom_iff _ _).1 h
  have hn' : 0 ≤ g.n ∧ g.n ≤ 400 := by simpa [inR] using hn
  have hp : pred g.n = g.n - 1 := wrap_ok (by omega) (by omega)
  have key : ∀ i, i < (L g.init).length → (i : Int) ≤ (L g.init).getD i 0 ∧ (L g.init).getD i 0 ≤ g.n - 1 := by
    intro i
    induction i with
    | zero =>
      intro hi
      have := h1 0 (Nat.le_refl _) (by omega)
      simp only [okI, hp, inR, Bool.and_eq_true, decide_eq_true_eq] at this
      omega
    | succ i ih =>
      intro hi
      have h2 := h1 (i + 1) (by omega) (by omega)
      have h3 := ih (by omega)
      simp only [okI, hp, inR, Bool.and_eq_true, Bool.or_eq_true, decide_eq_true_eq, Nat.add_sub_cancel] at h2
      omega
  rcases Nat.eq_zero_or_pos (L g.init).length with e | e
  · omega
  · have := key ((L g.init).length - 1) (by omega)
    omega

theorem S56 {g : Gr} {σ : Store} (hl : (L g.init).length ≤ 1000) (hl2 : (L g.edges).length ≤ 10000) : pureV CC 56 [.agg (eGr g)] σ = some (.p (.bool (isG g))) := by
  have g0 : ([Row.mix (eGr g)] : Store)[0]? = some (.mix (eGr g)) := rfl
  refine pureV_any (by simp [gr_view]) fun lo σ0 hs => ?_
  rcases hs with ⟨rfl, rfl, _⟩ | ⟨_, _, h⟩
  case inr => exact absurd h (by simp [rowFree, rowFree1, eGr])
  have hF : ∃ σ', F56 guardT 0 (.agg (eGr g)) [] = some (.p (.bool (isG g)), σ') := by
    rw [F56_eq]
    simp only [box_gr, obind, List.length_nil, List.nil_append, fa25_0, fa25_1, fa25_2, shift_ptr, load3, load22, load23, load1_ptr (off := 0 + 0) g0 rfl, pureFn_fn, List.append_nil, S61, not_bool]
    cases h1 : inR g.n 0 400 with
    | false => exact ⟨[Row.mix (eGr g)], by simp only [Bool.not_false, guard_tf, guard_sk, pickV_true, obind, condK_true, isG, h1, Bool.false_and]⟩
    | true =>
      simp only [Bool.not_true, guard_ff, obind, load1_ptr (off := 0 + 1) g0 rfl, load1_ptr (off := 0 + 0) g0 rfl, len22, b_gtr, pickV_false]
      by_cases h2 : ((L g.init).length : Int) > g.n
      · have hf : isG g = false := by
          cases hx : isG g with
          | false => rfl
          | true =>
            simp only [isG, Bool.and_eq_true] at hx
            have := init_le hx.1.1.1 hx.1.2
            omega
        exact ⟨[Row.mix (eGr g)], by simp only [h2, decide_true, guard_tf, guard_sk, pickV_true, obind, condK_true, hf]⟩
      · simp only [h2, decide_false, guard_ff, obind, load1_ptr (off := 0 + 2) g0 rfl, len23, b_gtr, pickV_false]
        by_cases h3 : (L g.edges).length ≤ 2000
        · have h3' : ¬ ((L g.edges).length : Int) > 2000 := by omega
          simp only [h3', decide_false, condK_false]
          obtain ⟨σ', h4⟩ := L56_1 hl2 _ 0 _ g0 rfl (Nat.zero_le _)
          have h5 : f56_L0 guardT 0 (.ptr 0 0) (.p (pI 0)) [Row.mix (eGr g)] = bif allFrom (okI g.n (L g.init)) 0 (L g.init).length then f56_L1 guardT 0 (.ptr 0 0) (.p (pI (0 : Nat))) [Row.mix (eGr g)] else some (.p (.bool false), [Row.mix (eGr g)]) := L56_0 g0 hl _ 0 rfl (Nat.zero_le _)
          rw [h5]
          cases h6 : allFrom (okI g.n (L g.init)) 0 (L g.init).length with
          | false => exact ⟨[Row.mix (eGr g)], by simp [isG, h6]⟩
          | true =>
            rw [cond_true, h4]
            exact ⟨σ', by simp [isG, h1, h3, h6]⟩
        · have h3' : ((L g.edges).length : Int) > 2000 := by omega
          exact ⟨[Row.mix (eGr g)], by simp only [h3', decide_true, condK_true]; simp [isG, h3]⟩
  obtain ⟨σ', h⟩ := hF
  exact ⟨_, σ', F56_call h, rfl⟩

theorem len143 (o : Option (List Int)) (σ : Store) : len PP 143 (.p (eSl o)) σ = some (.p (.int .i64 ((L o).length : Nat))) := by cases o <;> simp [len, u143, eSl]
theorem idx143 {o : Option (List Int)} {i : Nat} (h : i < (L o).length) : indexAddr PP 143 (.p (eSl o)) (.p (.int .i64 (i : Nat))) = some (.pptr (eInts (L o)) i) := by
  cases o with
  | none => simp at h
  | some l =>
    have h2 : (0 : Int) ≤ (i : Int) ∧ (i : Int) < (l.length : Nat) := by simp at h; omega
    simp [indexAddr, u143, s34, eSl, h2]

theorem L53 {o : Option (List Int)} {σ : Store} {lo : Nat} (hl : (L o).length ≤ 1000) :
    ∀ (k i : Nat), (L o).length - i = k → i ≤ (L o).length → f53_L0 guardT lo (.p (eSl o)) (.p (pI ((L o).length : Nat))) (.p (pI (i : Nat))) σ = some (.p (pI (orL ((L o).drop i))), σ)
  | 0, i, hk, hi => by
    have : i = (L o).length := by omega
    rw [f53_L0_eq guardT rfl]
    subst this
    simp [b_lss, condK_false, orL]
  | k + 1, i, hk, hi => by
    have h : i < (L o).length := by omega
    have h' : (i : Int) < ((L o).length : Nat) := by omega
    rw [f53_L0_eq guardT rfl]
    simp only [b_lss, obind, h', decide_true, condK_true, idx143 h, load34, load1_ints h, b_neq]
    rw [drop_cons h]
    by_cases hqv : (L o)[i] = 0
    · simp only [hqv, decide_true, Bool.not_true, condK_false, b_add, obind, wrap_succ (show i ≤ 1000000 by omega), orL, if_true]
      exact L53 hl k (i + 1) (by omega) (by omega)
    · simp [condK_true, orL, hqv]

theorem S53 {o : Option (List Int)} {σ : Store} (hl : (L o).length ≤ 1000) : pureV CC 53 [.p (eSl o)] σ = some (.p (pI (orL (L o)))) := by
  refine pureV_free (by simp [sl_view]) rfl (F53_call (r := (.p (pI (orL (L o))), [])) ?_) rfl
  rw [F53_eq]
  simp only [len143, obind]
  have := L53 (lo := 0) (σ := []) hl _ 0 rfl (Nat.zero_le _)
  simpa using this

theorem bs143_3 (x y z : Int) (σ : Store) : buildSlice PP none 143 3 [(0, .p (pI x)), (1, .p (pI y)), (2, .p (pI z))] σ = some (.p (.sl true 3 (eInts [x, y, z])), σ) := Eq.trans (by kernel_rfl) rfl

theorem S53t {l : List Int} {n : Nat} {σ : Store} (hn : n = l.length) (hl : l.length ≤ 1000) : pureV CC 53 [.p (.sl true n (eInts l))] σ = some (.p (pI (orL l))) := by
  rw [pureV_view (args' := [.p (eSl (some l))]) (by subst hn; simp [view, viewCell, loosen, loosens_ints, eSl]) (by simp [sl_view])]
  exact S53 (o := some l) hl

theorem S87 {σ : Store} {r : Nat} {g : Gr} {v : Int} (h : σ[r]? = some (.mix (eGr g))) : pureV CC 87 [.p (pI v), .ptr r 0] σ = some (.p (.bool (!inR v 0 (pred g.n)))) := by
  refine pureV_rows rfl rfl (F87_call (r := (.p (.bool (!inR v 0 (pred g.n))), σ)) ?_) rfl
  rw [F87_eq]
  simp only [fa25_0, shift_ptr, obind, load3, load1_ptr (off := 0 + 0) h rfl, b_sub, pureFn_fn, List.append_nil, S88, not_bool]

def stepB (s t : Int) (e : Edg) : Bool := decide (e.f = s) && decide (e.t = t)
theorem S91 {σ : Store} {r1 r2 : Nat} {s t : Int} {e : Edg} (h1 : σ[r1]? = some (.mix [.p (pI s)])) (h2 : σ[r2]? = some (.mix [.p (pI t)])) : pureV CC 91 [.agg (edgD e), .ptr r1 0, .ptr r2 0] σ = some (.p (.bool (stepB s t e))) := by
  refine pureV_rows rfl rfl (F91_call (r := (.p (.bool (stepB s t e)), σ ++ [.mix (edgD e)])) ?_) rfl
  rw [F91_eq]
  have hx : (σ ++ [Row.mix (edgD e)])[σ.length]? = some (.mix (edgD e)) := get_snoc
  have h1' : (σ ++ [Row.mix (edgD e)])[r1]? = some (.mix [.p (pI s)]) := get_old h1
  have h2' : (σ ++ [Row.mix (edgD e)])[r2]? = some (.mix [.p (pI t)]) := get_old h2
  simp only [box_edg, obind, fa69_0, fa69_1, shift_ptr, load3, load1_ptr (off := 0 + 0) hx rfl, load1_ptr (off := 0) h1' rfl, b_eql, stepB]
  by_cases e1 : e.f = s
  · simp only [e1, decide_true, guard_tt, obind, load1_ptr (off := 0 + 1) hx rfl, load1_ptr (off := 0) h2' rfl, b_eql, pickV_true, Bool.true_and]
  · simp only [e1, decide_false, guard_ft, guard_sk, obind, pickV_false, Bool.false_and]

theorem get_set_ne {σ : Store} {i j : Nat} {r x : Row} (h : σ[i]? = some x) (hne : i ≠ j) : (σ.set j r)[i]? = some x := by
  rw [List.getElem?_set_ne (Ne.symm hne)]; exact h
theorem get_lt {σ : Store} {i : Nat} {x : Row} (h : σ[i]? = some x) : i < σ.length := (List.getElem?_eq_some_iff.1 h).1

theorem L34 {a b : Option (List Int)} {σ : Store} {lo : Nat} (h0 : L a = L b) (hl : (L a).length ≤ 1000) :
    ∀ (k i : Nat), (L a).length - i = k → i ≤ (L a).length → f34_L0 guardT lo (.p (eSl a)) (.p (eSl b)) (.p (pI (i : Nat))) σ = some (.p (.bool true), σ)
  | 0, i, hk, hi => by
    have : ¬ (i : Int) < ((L a).length : Nat) := by omega
    rw [f34_L0_eq guardT rfl]
    simp only [len22, b_lss, obind, this, decide_false, condK_false]
  | k + 1, i, hk, hi => by
    have h : i < (L a).length := by omega
    have hb : i < (L b).length := by rw [← h0]; exact h
    have h' : (i : Int) < ((L a).length : Nat) := by omega
    rw [f34_L0_eq guardT rfl]
    have e : (L a).getD i 0 = (L b).getD i 0 := by rw [h0]
    simp only [len22, b_lss, obind, h', decide_true, condK_true, idx22 h, idx22 hb, load3, load1_getD h, load1_getD hb, b_neq, e, Bool.not_true, condK_false, b_add, wrap_succ (show i ≤ 1000000 by omega)]
    exact L34 h0 hl k (i + 1) (by omega) (by omega)

theorem S34 {a b : Option (List Int)} {σ : Store} (h0 : L a = L b) (hl : (L a).length ≤ 1000) : pureV CC 34 [.p (eSl a), .p (eSl b)] σ = some (.p (.bool true)) := by
  refine pureV_free (by simp [sl_view]) rfl (F34_call (r := (.p (.bool true), [])) ?_) rfl
  rw [F34_eq]
  have := L34 (lo := 0) (σ := []) h0 hl _ 0 rfl (Nat.zero_le _)
  simp only [len22, obind, b_neq, h0, decide_true, Bool.not_true, condK_false]
  exact this

theorem bytes3 : bytes? PP 3 = some 8 := Eq.trans (by kernel_rfl) rfl
theorem bytes69 : bytes? PP 69 = some 24 := Eq.trans (by kernel_rfl) rfl
theorem src22 : srcType PP 22 = true := Eq.trans (by kernel_rfl) rfl
theorem src23 : srcType PP 23 = true := Eq.trans (by kernel_rfl) rfl
theorem bs22_0 (σ : Store) : buildSlice PP none 22 0 [] σ = some (.p (.sl true 0 []), σ) := Eq.trans (by kernel_rfl) rfl
theorem bs23_0 (σ : Store) : buildSlice PP none 23 0 [] σ = some (.p (.sl true 0 []), σ) := Eq.trans (by kernel_rfl) rfl
theorem pures_map (cs : List PV) : pures (cs.map DV.p) = some cs := by
  induction cs with
  | nil => rfl
  | cons a l ih => simp [pures, DV.pure?, ih]

/-- What is appended to an empty literal. -/
theorem app22 {o : Option (List Int)} {lo : Nat} (hl : (L o).length ≤ 1000) (σ : Store) : append PP lo false 22 22 (.p (.sl true 0 [])) (.p (eSl o)) σ = some (if (L o).length = 0 then (.p (.sl true 0 []), σ) else (.osl σ.length 0 1 (L o).length (eInts (L o)), σ ++ [.tok 0])) := by
  have hsrc : source σ 1 (.p (eSl o)) = some ((L o).length, (eInts (L o)).map DV.p) := by
    cases o <;> simp [source, eSl, ints_length, eInts]
  have h1 : (L o).length * 8 ≤ 140737488355328 := by omega
  have h2 : (L o).length ≤ 140737488355328 := by omega
  simp only [append, src22, u22, s3, bytes3, zero3, hsrc, appLit]
  simp [h1, h2, pures_map]
  split <;> rfl
theorem app23 {o : Option (List Edg)} {lo : Nat} (hl : (L o).length ≤ 10000) (σ : Store) : append PP lo false 23 23 (.p (.sl true 0 [])) (.p (eEs o)) σ = some (if (L o).length = 0 then (.p (.sl true 0 []), σ) else (.osl σ.length 0 3 (L o).length (eEdgs (L o)), σ ++ [.tok 0])) := by
  have hsrc : source σ 3 (.p (eEs o)) = some ((L o).length, (eEdgs (L o)).map DV.p) := by
    cases o <;> simp [source, eEs, edgs_length, eEdgs]
  have h1 : (L o).length * 24 ≤ 140737488355328 := by omega
  have h2 : (L o).length ≤ 140737488355328 := by omega
  simp only [append, src23, u23, s69, bytes69, zero69, hsrc, appLit]
  simp [h1, h2, pures_map]
  split <;> rfl

theorem S16 {o : Option (List Int)} {σ : Store} (hl : (L o).length ≤ 1000) : pureV CC 16 [.p (eSl o)] σ = some (.p (eSl (some (L o)))) := by
  refine pureV_any (by simp [sl_view]) fun lo σ0 hs => ?_
  by_cases h : (L o).length = 0
  · refine ⟨.p (.sl true 0 []), σ0, F16_call ?_, ?_⟩
    · rw [F16_eq]
      simp only [bs22_0, obind, app22 hl, h, if_true]
    · have : L o = [] := List.length_eq_zero_iff.1 h
      rw [this]; rfl
  · refine ⟨.osl σ0.length 0 1 (L o).length (eInts (L o)), σ0 ++ [.tok 0], F16_call ?_, ?_⟩
    · rw [F16_eq]
      simp only [bs22_0, obind, app22 hl, h, if_false]
    · simp [thawAll, thawPart, thaw, thaw1, thawP, loosens_ints, eSl]

def ownG (g : Gr) : Gr := ⟨g.n, some (L g.init), some (L g.edges)⟩
theorem st22_1 (a b c d : DV) (v : PV) (rest : Store) : store PP 0 22 (.ptr 0 1) (.p v) (.mix [a, b, c] :: rest) = some (.mix [a, .p v, c] :: rest) := Eq.trans (by kernel_rfl) rfl
theorem st23_2p (a b c : DV) (v : PV) (rest : Store) : store PP 0 23 (.ptr 0 2) (.p v) (.mix [a, b, c] :: rest) = some (.mix [a, b, .p v] :: rest) := Eq.trans (by kernel_rfl) rfl
theorem st23_2o (a b c : DV) (r ver sz n : Nat) (cs : List PV) (rest : Store) : store PP 0 23 (.ptr 0 2) (.osl r ver sz n cs) (.mix [a, b, c] :: rest) = some (.mix [a, b, .osl r ver sz n cs] :: rest) := Eq.trans (by kernel_rfl) rfl
theorem st25_p (a b c : DV) (x y z : PV) (m : Row) (rest : Store) : store PP 0 25 (.ptr 1 0) (.agg [.p x, .p y, .p z]) (m :: .mix [a, b, c] :: rest) = some (m :: .mix [.p x, .p y, .p z] :: rest) := Eq.trans (by kernel_rfl) rfl
theorem st25_o (a b c : DV) (x y : PV) (r ver sz n : Nat) (cs : List PV) (m : Row) (rest : Store) : store PP 0 25 (.ptr 1 0) (.agg [.p x, .p y, .osl r ver sz n cs]) (m :: .mix [a, b, c] :: rest) = some (m :: .mix [.p x, .p y, .osl r ver sz n cs] :: rest) := Eq.trans (by kernel_rfl) rfl
theorem ld25_0 (a b c : DV) (rest : Store) : loadN (.mix [a, b, c] :: rest) 3 (.ptr 0 0) = some [a, b, c] := Eq.trans (by kernel_rfl) rfl
theorem cv25 (a b c : DV) (m : Row) (rest : Store) : cellV PP 25 (.ptr 1 0) (m :: .mix [a, b, c] :: rest) = some (.agg [a, b, c]) := Eq.trans (by kernel_rfl) rfl

theorem S13 {g : Gr} {σ : Store} (hi : (L g.init).length ≤ 1000) (he : (L g.edges).length ≤ 10000) : pureV CC 13 [.agg (eGr g)] σ = some (.agg (eGr (ownG g))) := by
  refine pureV_any (by simp [gr_view]) fun lo σ0 hs => ?_
  rcases hs with ⟨rfl, rfl, _⟩ | ⟨_, _, h⟩
  case inr => exact absurd h (by simp [rowFree, rowFree1, eGr])
  have g0 : ∀ r, ([Row.mix (eGr g), r] : Store)[0]? = some (.mix (eGr g)) := fun _ => rfl
  by_cases h : (L g.edges).length = 0
  · refine ⟨.agg [.p (pI g.n), .p (eSl (some (L g.init))), .p (.sl true 0 [])], [.mix [.p (pI g.n), .p (eSl (some (L g.init))), .p (.sl true 0 [])], .mix [.p (pI g.n), .p (eSl (some (L g.init))), .p (.sl true 0 [])]], F13_call ?_, ?_⟩
    · rw [F13_eq]
      simp only [box_gr, zero25, obind, List.length_nil, List.nil_append, List.length_cons, List.cons_append, fa25_1, fa25_2, shift_ptr, Nat.zero_add, load22, load23, load25, load1_ptr (off := 1) (g0 _) rfl, load1_ptr (off := 2) (g0 _) rfl, pureFn_fn, List.append_nil, S16 hi, bs23_0, app23 he, h, if_true]
      simp only [eGr, st22_1 _ _ _ (.p .nilsl), obind, st23_2p, ld25_0, omap, st25_p, cv25]
    · have : L g.edges = [] := List.length_eq_zero_iff.1 h
      simp [thawAll, thawPart, mapO, thaw, thaw1, thawP, loosen, loosens, loosen_sl, eGr, ownG, eEs, this, eEdgs]
  · refine ⟨.agg [.p (pI g.n), .p (eSl (some (L g.init))), .osl 2 0 3 (L g.edges).length (eEdgs (L g.edges))], [.mix [.p (pI g.n), .p (eSl (some (L g.init))), .osl 2 0 3 (L g.edges).length (eEdgs (L g.edges))], .mix [.p (pI g.n), .p (eSl (some (L g.init))), .osl 2 0 3 (L g.edges).length (eEdgs (L g.edges))], .tok 0], F13_call ?_, ?_⟩
    · rw [F13_eq]
      simp only [box_gr, zero25, obind, List.length_nil, List.nil_append, List.length_cons, List.cons_append, fa25_1, fa25_2, shift_ptr, Nat.zero_add, load22, load23, load25, load1_ptr (off := 1) (g0 _) rfl, load1_ptr (off := 2) (g0 _) rfl, pureFn_fn, List.append_nil, S16 hi, bs23_0, app23 he, h, if_false]
      simp only [eGr, st22_1 _ _ _ (.p .nilsl), obind, st23_2o, ld25_0, omap, st25_o, cv25]
    · simp [thawAll, thawPart, mapO, thaw, thaw1, thawP, loosen, loosen_sl, eGr, ownG, eEs, loosens_edgs]

theorem ex0 (a b : DV) : extractV (.tuple [a, b]) 0 = some a := Eq.trans rfl rfl
theorem ex1 (a b : DV) : extractV (.tuple [a, b]) 1 = some b := Eq.trans rfl rfl
theorem len22_nil (σ : Store) : len PP 22 (.p .nilsl) σ = some (.p (.int .i64 0)) := by simp [len, u22]

theorem orL_zero : ∀ {l : List Int}, orL l = 0 → ∀ a ∈ l, a = 0
  | [], _, a, h => absurd h (by simp)
  | b :: l, h, a, ha => by
    unfold orL at h
    split at h
    · rename_i hb
      rcases List.mem_cons.1 ha with e | e
      · rw [e]; exact hb
      · exact orL_zero h a e
    · rename_i hb; exact absurd h hb

theorem getD_at {α : Type} {l : List α} {i : Nat} (d : α) (h : i < l.length) : l.getD i d = l[i] := by rw [List.getD_eq_getElem?_getD, List.getElem?_eq_getElem h]; rfl

/-- n elements of sz cells each, as they stand in a list that is appended to. -/
def Out (σ : Store) (lo sz n : Nat) (cs : List PV) (x : DV) : Prop :=
  cs.length = n * sz ∧ ((n = 0 ∧ x = .p .nilsl) ∨ (n ≠ 0 ∧ ∃ r ver, x = .osl r ver sz n cs ∧ σ[r]? = some (.tok ver) ∧ lo ≤ r))
/-- All rows but that of a list stay. -/
def Others (σ σ' : Store) (x : DV) : Prop := ∀ i row, σ[i]? = some row → (∀ r ver sz n cs, x = .osl r ver sz n cs → i ≠ r) → σ'[i]? = some row

theorem Out.zero {σ : Store} {lo sz : Nat} : Out σ lo sz 0 [] (.p .nilsl) := ⟨by simp, .inl ⟨rfl, rfl⟩⟩
theorem Others.mix {σ σ' : Store} {lo sz n : Nat} {cs : List PV} {x : DV} (h : Others σ σ' x) (ho : Out σ lo sz n cs x) {i : Nat} {row : Row} (hi : σ[i]? = some row) (hr : ∀ v, row ≠ .tok v) : σ'[i]? = some row := by
  refine h i row hi ?_
  rintro r ver sz' n' cs' rfl rfl
  rcases ho.2 with ⟨_, h2⟩ | ⟨_, r2, ver2, h2, h3, _⟩
  · cases h2
  · injection h2 with e1
    subst e1
    rw [hi] at h3
    injection h3 with h3
    exact hr _ h3

theorem Out.push {σ : Store} {t e lo sz b n : Nat} {z : List DV} {cs vs : List PV} {x : DV} (hs : srcType PP t = true) (hu : PP.underlying t = some (.slice e)) (h1 : size? PP e = some sz) (h2 : bytes? PP e = some b) (h3 : zeroOf PP e = some z)
    (h4 : z.length = sz) (hz : 0 < sz) (hb : 0 < b) (hb2 : b ≤ 1000) (hv : vs.length = sz) (ho : Out σ lo sz n cs x) (hn : n ≤ 1000000) (hlo : lo ≤ σ.length) :
    ∃ x' σ', append PP lo false t t x (.p (.sl true 1 vs)) σ = some (x', σ') ∧ Out σ' lo sz (n + 1) (cs ++ vs) x' ∧ Others σ σ' x ∧ σ.length ≤ σ'.length := by
  have hsrc : source σ sz (.p (.sl true 1 vs)) = some (1, vs.map DV.p) := by simp [source, hv]
  have hz0 : ¬ (z.length ≠ sz ∨ sz = 0) := by omega
  obtain ⟨hc, ho⟩ := ho
  rcases ho with ⟨rfl, rfl⟩ | ⟨hn0, r, ver, rfl, hr, hl⟩
  · refine ⟨.osl σ.length 0 sz 1 vs, σ ++ [.tok 0], ?_, ⟨by simp [hc, hv], .inr ⟨by simp, σ.length, 0, ?_, get_snoc, hlo⟩⟩, ?_, by simp⟩
    · have : b ≤ 140737488355328 := by omega
      simp only [append, hs, hu, h1, h2, h3, hz0, hsrc, appNil]
      simp [this, hb, pures_map, h4, hz, Nat.ne_of_gt hz]
    · have : cs = [] := List.length_eq_zero_iff.1 (by simpa using hc)
      rw [this]; simp
    · intro i row hi _
      exact get_old hi
  · refine ⟨.osl r (ver + 1) sz (n + 1) (cs ++ vs), σ.set r (.tok (ver + 1)), ?_, ⟨by simp [hc, hv, Nat.add_mul], .inr ⟨by simp, r, ver + 1, rfl, ?_, hl⟩⟩, ?_, by simp⟩
    · have e1 : (n + 1) * b ≤ 140737488355328 := Nat.le_trans (Nat.mul_le_mul (show n + 1 ≤ 1000001 by omega) hb2) (by decide)
      have e2 : n + 1 ≤ 140737488355328 := by omega
      simp only [append, hs, hu, h1, h2, h3, hz0, hsrc, appTok]
      simp [e1, e2, hb, hc, hl, hr, pures_map, h4, Nat.ne_of_gt hz]
    · rw [List.getElem?_set_self (get_lt hr)]
    · intro i row hi hne
      rw [List.getElem?_set_ne (fun e => hne _ _ _ _ _ rfl e.symm)]
      exact hi

theorem Out.tw {σ : Store} {lo sz n : Nat} {cs : List PV} {x : DV} (ho : Out σ lo sz n cs x) (m : Nat) : thaw m σ x = some (.p (if n = 0 then .nilsl else .sl false n (loosens cs))) := by
  rcases ho.2 with ⟨rfl, rfl⟩ | ⟨hn, r, ver, rfl, _, _⟩
  · rfl
  · simp [thaw, thaw1, thawP, hn]
theorem Out.twAll {σ : Store} {lo sz n : Nat} {cs : List PV} {x : DV} (ho : Out σ lo sz n cs x) (m : Nat) : thawAll m σ x = some (.p (if n = 0 then .nilsl else .sl false n (loosens cs))) := by
  rcases ho.2 with ⟨rfl, rfl⟩ | ⟨hn, r, ver, rfl, _, _⟩
  · rfl
  · simp [thawAll, thawPart, thaw, thaw1, thawP, hn]
theorem Out.vw {σ : Store} {lo sz n : Nat} {cs : List PV} {x : DV} (ho : Out σ lo sz n cs x) : view x = .p (if n = 0 then .nilsl else .sl false n (loosens cs)) := by
  rcases ho.2 with ⟨rfl, rfl⟩ | ⟨hn, r, ver, rfl, _, _⟩
  · rfl
  · simp [view, viewCell, hn]

theorem bs22_1 (x : Int) (σ : Store) : buildSlice PP none 22 1 [(0, .p (pI x))] σ = some (.p (.sl true 1 [pI x]), σ) := Eq.trans (by kernel_rfl) rfl
theorem Out.push22 {σ : Store} {lo n : Nat} {cs : List PV} {v : PV} {x : DV} (ho : Out σ lo 1 n cs x) (hn : n ≤ 1000000) (hlo : lo ≤ σ.length) :
    ∃ x' σ', append PP lo false 22 22 x (.p (.sl true 1 [v])) σ = some (x', σ') ∧ Out σ' lo 1 (n + 1) (cs ++ [v]) x' ∧ Others σ σ' x ∧ σ.length ≤ σ'.length :=
  Out.push src22 u22 s3 bytes3 zero3 rfl (by decide) (by decide) (by decide) rfl ho hn hlo

end Go.D
end
/- Equations of functions 109, 108, 82, 57, 97, 67, 54, 55, 101, 68, 31, 33, 22, 63, 70, 35, 32, printed by gen.py. -/
section
set_option linter.unusedVariables false
set_option maxRecDepth 10000
namespace Go.D
open _root_.Go.D.Code (fstC sndC)
open _root_.Go.D.Ann (left right)
noncomputable def c109_0 : Code := bodyOf Go.Proofs.Tryz.f109
noncomputable def a109_0 : Ann := (pol 109).ann
noncomputable def F109 (G : GuardT) (lo : Nat) (x0 : DV) (σ : Store) : Option (DV × Store) :=
 codeF G PP (pol 109) CC lo c109_0 a109_0 [x0, ud, ud, ud, ud] σ (finR PP Go.Proofs.Tryz.f109.results.toList)
theorem F109_eq (G : GuardT) (lo : Nat) (x0 : DV) (σ : Store) : F109 G lo x0 σ =
 (pureFn CC (DV.fn 88 []) [x0, (DV.p (PV.int IntKind.i64 (0))), (DV.p (PV.int IntKind.i64 (7)))] σ).bind fun x4 =>
 some (x4, σ) := by kernel_rfl
theorem F109_call {lo : Nat} {x0 : DV} {σ : Store} {r : DV × Store} (h : F109 guardT lo x0 σ = some r) : CC lo 109 [x0] σ = some r :=
 callL_run Go.Proofs.Tryz.func109 (by decide +kernel) rfl (by decide +kernel) h
noncomputable def c108_0 : Code := bodyOf Go.Proofs.Tryz.f108
noncomputable def a108_0 : Ann := (pol 108).ann
noncomputable def F108 (G : GuardT) (lo : Nat) (x0 : DV) (σ : Store) : Option (DV × Store) :=
 codeF G PP (pol 108) CC lo c108_0 a108_0 [x0, ud, ud, ud, ud, ud] σ (finR PP Go.Proofs.Tryz.f108.results.toList)
theorem F108_eq (G : GuardT) (lo : Nat) (x0 : DV) (σ : Store) : F108 G lo x0 σ =
 (pureFn CC (DV.fn 109 []) [x0] σ).bind fun x4 =>
 (unOp .not x4).bind fun x5 =>
 some (x5, σ) := by kernel_rfl
theorem F108_call {lo : Nat} {x0 : DV} {σ : Store} {r : DV × Store} (h : F108 guardT lo x0 σ = some r) : CC lo 108 [x0] σ = some r :=
 callL_run Go.Proofs.Tryz.func108 (by decide +kernel) rfl (by decide +kernel) h
noncomputable def c82_0 : Code := bodyOf Go.Proofs.Tryz.f82
noncomputable def a82_0 : Ann := (pol 82).ann
noncomputable def F82 (G : GuardT) (lo : Nat) (x0 : DV) (σ : Store) : Option (DV × Store) :=
 codeF G PP (pol 82) CC lo c82_0 a82_0 [x0, ud, ud, ud, ud, ud] σ (finR PP Go.Proofs.Tryz.f82.results.toList)
theorem F82_eq (G : GuardT) (lo : Nat) (x0 : DV) (σ : Store) : F82 G lo x0 σ =
 (pureFn CC (DV.fn 86 []) [x0, (DV.fn 108 [])] σ).bind fun x4 =>
 (unOp .not x4).bind fun x5 =>
 some (x5, σ) := by kernel_rfl
theorem F82_call {lo : Nat} {x0 : DV} {σ : Store} {r : DV × Store} (h : F82 guardT lo x0 σ = some r) : CC lo 82 [x0] σ = some r :=
 callL_run Go.Proofs.Tryz.func82 (by decide +kernel) rfl (by decide +kernel) h
noncomputable def c57_0 : Code := bodyOf Go.Proofs.Tryz.f57
noncomputable def a57_0 : Ann := (pol 57).ann
noncomputable def F57 (G : GuardT) (lo : Nat) (x0 : DV) (σ : Store) : Option (DV × Store) :=
 codeF G PP (pol 57) CC lo c57_0 a57_0 [x0, ud, ud, ud, ud] σ (finR PP Go.Proofs.Tryz.f57.results.toList)
theorem F57_eq (G : GuardT) (lo : Nat) (x0 : DV) (σ : Store) : F57 G lo x0 σ =
 (pureFn CC (DV.fn 61 []) [x0, (DV.p (PV.int IntKind.i64 (0))), (DV.p (PV.int IntKind.i64 (7)))] σ).bind fun x4 =>
 some (x4, σ) := by kernel_rfl
theorem F57_call {lo : Nat} {x0 : DV} {σ : Store} {r : DV × Store} (h : F57 guardT lo x0 σ = some r) : CC lo 57 [x0] σ = some r :=
 callL_run Go.Proofs.Tryz.func57 (by decide +kernel) rfl (by decide +kernel) h
noncomputable def c97_0 : Code := bodyOf Go.Proofs.Tryz.f97
noncomputable def a97_0 : Ann := (pol 97).ann
noncomputable def F97 (G : GuardT) (lo : Nat) (x0 : DV) (σ : Store) : Option (DV × Store) :=
 codeF G PP (pol 97) CC lo c97_0 a97_0 [x0, ud, ud, ud, ud, ud] σ (finR PP Go.Proofs.Tryz.f97.results.toList)
theorem F97_eq (G : GuardT) (lo : Nat) (x0 : DV) (σ : Store) : F97 G lo x0 σ =
 (pureFn CC (DV.fn 88 []) [x0, (DV.p (PV.int IntKind.i64 (0))), (DV.p (PV.int IntKind.i64 (399)))] σ).bind fun x4 =>
 (unOp .not x4).bind fun x5 =>
 some (x5, σ) := by kernel_rfl
theorem F97_call {lo : Nat} {x0 : DV} {σ : Store} {r : DV × Store} (h : F97 guardT lo x0 σ = some r) : CC lo 97 [x0] σ = some r :=
 callL_run Go.Proofs.Tryz.func97 (by decide +kernel) rfl (by decide +kernel) h
noncomputable def c67_0 : Code := bodyOf Go.Proofs.Tryz.f67
noncomputable def a67_0 : Ann := (pol 67).ann
noncomputable def a67_19 : Ann := right (left (right (right (right (right a67_0)))))
noncomputable def a67_20 : Ann := left a67_19
noncomputable def c67_21 : Code := fstC (fstC (sndC (fstC (sndC (sndC (sndC (sndC c67_0)))))))
noncomputable def c67_31 : Code := sndC (sndC (sndC (sndC (sndC c67_0))))
noncomputable def a67_31 : Ann := right (right (right (right (right a67_0))))
noncomputable def f67_L0 (G : GuardT) (lo : Nat) (x1 x4 x5 x6 : DV) (σ : Store) : Option (DV × Store) :=
 codeF G PP (pol 67) CC lo (.loop c67_21) a67_20 [ud, x1, ud, ud, x4, x5, x6, ud, ud, ud, ud, ud, ud, ud, ud, ud, ud, ud, ud, ud, ud, ud, ud, ud, ud, ud, ud, ud, ud, ud, ud, ud, ud, ud, ud, ud, ud, ud, ud, ud, ud, ud, ud, ud, ud, ud, ud, ud, ud, ud, ud, ud, ud, ud, ud, ud, ud, ud, ud, ud, ud, ud, ud, ud, ud, ud, ud, ud, ud, ud, ud, ud, ud, ud, ud, ud, ud, ud, ud, ud, ud, ud, ud, ud, ud] σ
 (blockC 0 a67_19 (seqC G PP (pol 67) CC lo c67_31 a67_31 (finR PP Go.Proofs.Tryz.f67.results.toList)))
noncomputable def F67 (G : GuardT) (lo : Nat) (x0 : DV) (σ : Store) : Option (DV × Store) :=
 codeF G PP (pol 67) CC lo c67_0 a67_0 [x0, ud, ud, ud, ud, ud, ud, ud, ud, ud, ud, ud, ud, ud, ud, ud, ud, ud, ud, ud, ud, ud, ud, ud, ud, ud, ud, ud, ud, ud, ud, ud, ud, ud, ud, ud, ud, ud, ud, ud, ud, ud, ud, ud, ud, ud, ud, ud, ud, ud, ud, ud, ud, ud, ud, ud, ud, ud, ud, ud, ud, ud, ud, ud, ud, ud, ud, ud, ud, ud, ud, ud, ud, ud, ud, ud, ud, ud, ud, ud, ud, ud, ud, ud, ud] σ (finR PP Go.Proofs.Tryz.f67.results.toList)
theorem f67_L0_eq (G : GuardT) (hG : GuardOk G) (lo : Nat) (x1 x4 x5 x6 : DV) (σ : Store) : f67_L0 G lo x1 x4 x5 x6 σ =
 (fieldAddr PP 33 x1 1).bind fun x37 =>
 (load PP 22 x37 σ).bind fun x38 =>
 (len PP 22 x38 σ).bind fun x39 =>
 (binOp PP .lss 3 x6 x39).bind fun x40 =>
 condK x40
 (
 G _ x5 true ((fieldAddr PP 33 x1 1).bind fun v => some (v, σ)) σ fun x45 σ9 =>
 G _ x5 true ((load PP 22 x45 σ9).bind fun v => some (v, σ9)) σ9 fun x46 σ10 =>
 G _ x5 true (some (x6, σ10)) σ10 fun x47 σ11 =>
 G _ x5 true ((binOp PP .sub 3 x47 (DV.p (PV.int IntKind.i64 (1)))).bind fun v => some (v, σ11)) σ11 fun x48 σ12 =>
 G _ x5 true ((indexAddr PP 22 x46 x48).bind fun v => some (v, σ12)) σ12 fun x49 σ13 =>
 G _ x5 true ((load PP 3 x49 σ13).bind fun v => some (v, σ13)) σ13 fun x50 σ14 =>
 G _ x5 true ((fieldAddr PP 33 x1 1).bind fun v => some (v, σ14)) σ14 fun x51 σ15 =>
 G _ x5 true ((load PP 22 x51 σ15).bind fun v => some (v, σ15)) σ15 fun x52 σ16 =>
 G _ x5 true (some (x6, σ16)) σ16 fun x53 σ17 =>
 G _ x5 true ((indexAddr PP 22 x52 x53).bind fun v => some (v, σ17)) σ17 fun x54 σ18 =>
 G _ x5 true ((load PP 3 x54 σ18).bind fun v => some (v, σ18)) σ18 fun x55 σ19 =>
 G _ x5 true ((pureFn CC (DV.fn 99 []) [x50, x55] σ19).bind fun v => some (v, σ19)) σ19 fun x56 σ20 =>
 G _ x5 true ((fieldAddr PP 33 x1 2).bind fun v => some (v, σ20)) σ20 fun x57 σ21 =>
 G _ x5 true ((load PP 22 x57 σ21).bind fun v => some (v, σ21)) σ21 fun x58 σ22 =>
 G _ x5 true (some (x6, σ22)) σ22 fun x59 σ23 =>
 G _ x5 true ((binOp PP .sub 3 x59 (DV.p (PV.int IntKind.i64 (1)))).bind fun v => some (v, σ23)) σ23 fun x60 σ24 =>
 G _ x5 true ((indexAddr PP 22 x58 x60).bind fun v => some (v, σ24)) σ24 fun x61 σ25 =>
 G _ x5 true ((load PP 3 x61 σ25).bind fun v => some (v, σ25)) σ25 fun x62 σ26 =>
 G _ x5 true ((fieldAddr PP 33 x1 2).bind fun v => some (v, σ26)) σ26 fun x63 σ27 =>
 G _ x5 true ((load PP 22 x63 σ27).bind fun v => some (v, σ27)) σ27 fun x64 σ28 =>
 G _ x5 true (some (x6, σ28)) σ28 fun x65 σ29 =>
 G _ x5 true ((indexAddr PP 22 x64 x65).bind fun v => some (v, σ29)) σ29 fun x66 σ30 =>
 G _ x5 true ((load PP 3 x66 σ30).bind fun v => some (v, σ30)) σ30 fun x67 σ31 =>
 G _ x5 true ((pureFn CC (DV.fn 99 []) [x62, x67] σ31).bind fun v => some (v, σ31)) σ31 fun x68 σ32 =>
 G _ x5 true ((buildSlice PP none 22 2 [(0, x56), (1, x68)] σ32).bind fun r => some (r.1, r.2)) σ32 fun x69 σ33 =>
 G _ x5 true ((pureFn CC (DV.fn 98 []) [x69] σ33).bind fun v => some (v, σ33)) σ33 fun x70 σ34 =>
 G _ x5 true ((binOp PP .lss 3 x70 (DV.p (PV.int IntKind.i64 (0)))).bind fun v => some (v, σ34)) σ34 fun x71 σ35 =>
 (pickV x5 x71 (DV.p (PV.bool false))).bind fun x72 =>
 (binOp PP .add 3 x6 (DV.p (PV.int IntKind.i64 (1)))).bind fun x42 =>
 f67_L0 G lo x1 x4 x72 x42 σ35
 )
 (
 (unOp .not x4).bind fun x74 =>
 G _ x74 true ((fieldAddr PP 33 x1 2).bind fun v => some (v, σ)) σ fun x76 σ36 =>
 G _ x74 true ((load PP 22 x76 σ36).bind fun v => some (v, σ36)) σ36 fun x77 σ37 =>
 G _ x74 true ((pureFn CC (DV.fn 82 []) [x77] σ37).bind fun v => some (v, σ37)) σ37 fun x78 σ38 =>
 (pickV x74 x78 (DV.p (PV.bool false))).bind fun x79 =>
 (pureFn CC (DV.fn 73 []) [x79, (DV.p (PV.int IntKind.i64 (3)))] σ38).bind fun x80 =>
 (pureFn CC (DV.fn 73 []) [x5, (DV.p (PV.int IntKind.i64 (13)))] σ38).bind fun x82 =>
 (buildSlice PP none 143 2 [(0, x80), (1, x82)] σ38).bind fun r83_39 =>
 (pureFn CC (DV.fn 53 []) [r83_39.1] r83_39.2).bind fun x84 =>
 some (x84, r83_39.2)
 ) := (loopF_eq G hG).trans (by kernel_rfl)
theorem F67_eq (G : GuardT) (lo : Nat) (x0 : DV) (σ : Store) : F67 G lo x0 σ =
 (boxV x0).bind fun z1 =>
 (fieldAddr PP 33 (DV.ptr (List.length σ) 0) 0).bind fun x7 =>
 (load PP 25 x7 (σ ++ [Row.mix z1])).bind fun x8 =>
 (pureFn CC (DV.fn 96 []) [x8] (σ ++ [Row.mix z1])).bind fun x9 =>
 (pureFn CC (DV.fn 73 []) [x9, (DV.p (PV.int IntKind.i64 (5)))] (σ ++ [Row.mix z1])).bind fun x10 =>
 (fieldAddr PP 33 (DV.ptr (List.length σ) 0) 1).bind fun x11 =>
 (load PP 22 x11 (σ ++ [Row.mix z1])).bind fun x12 =>
 (len PP 22 x12 (σ ++ [Row.mix z1])).bind fun x13 =>
 (fieldAddr PP 33 (DV.ptr (List.length σ) 0) 0).bind fun x14 =>
 (fieldAddr PP 25 x14 0).bind fun x15 =>
 (load PP 3 x15 (σ ++ [Row.mix z1])).bind fun x16 =>
 (binOp PP .eql 3 x13 x16).bind fun x17 =>
 G _ x17 true ((fieldAddr PP 33 (DV.ptr (List.length σ) 0) 2).bind fun v => some (v, (σ ++ [Row.mix z1]))) (σ ++ [Row.mix z1]) fun x19 σ1 =>
 G _ x17 true ((load PP 22 x19 σ1).bind fun v => some (v, σ1)) σ1 fun x20 σ2 =>
 G _ x17 true ((len PP 22 x20 σ2).bind fun v => some (v, σ2)) σ2 fun x21 σ3 =>
 G _ x17 true ((fieldAddr PP 33 (DV.ptr (List.length σ) 0) 0).bind fun v => some (v, σ3)) σ3 fun x22 σ4 =>
 G _ x17 true ((fieldAddr PP 25 x22 0).bind fun v => some (v, σ4)) σ4 fun x23 σ5 =>
 G _ x17 true ((load PP 3 x23 σ5).bind fun v => some (v, σ5)) σ5 fun x24 σ6 =>
 G _ x17 true ((binOp PP .eql 3 x21 x24).bind fun v => some (v, σ6)) σ6 fun x25 σ7 =>
 (pickV x17 x25 (DV.p (PV.bool false))).bind fun x26 =>
 (pureFn CC (DV.fn 73 []) [x26, (DV.p (PV.int IntKind.i64 (6)))] σ7).bind fun x27 =>
 (buildSlice PP none 143 2 [(0, x10), (1, x27)] σ7).bind fun r28_8 =>
 (pureFn CC (DV.fn 53 []) [r28_8.1] r28_8.2).bind fun x29 =>
 (binOp PP .neq 34 x29 (DV.p (PV.int IntKind.i64 (0)))).bind fun x31 =>
 condK x31
 (
 some (x29, r28_8.2)
 )
 (
 (fieldAddr PP 33 (DV.ptr (List.length σ) 0) 1).bind fun x33 =>
 (load PP 22 x33 r28_8.2).bind fun x34 =>
 (pureFn CC (DV.fn 86 []) [x34, (DV.fn 97 [])] r28_8.2).bind fun x35 =>
 f67_L0 G lo (DV.ptr (List.length σ) 0) x35 (DV.p (PV.bool true)) (DV.p (PV.int IntKind.i64 (1))) r28_8.2
 ) := by kernel_rfl
theorem F67_call {lo : Nat} {x0 : DV} {σ : Store} {r : DV × Store} (h : F67 guardT lo x0 σ = some r) : CC lo 67 [x0] σ = some r :=
 callL_run Go.Proofs.Tryz.func67 (by decide +kernel) rfl (by decide +kernel) h
noncomputable def c54_0 : Code := bodyOf Go.Proofs.Tryz.f54
noncomputable def a54_0 : Ann := (pol 54).ann
noncomputable def a54_19 : Ann := right (left (right (right (right (right a54_0)))))
noncomputable def a54_20 : Ann := left a54_19
noncomputable def c54_21 : Code := fstC (fstC (sndC (fstC (sndC (sndC (sndC (sndC c54_0)))))))
noncomputable def c54_33 : Code := sndC (sndC (sndC (sndC (sndC c54_0))))
noncomputable def a54_33 : Ann := right (right (right (right (right a54_0))))
noncomputable def f54_L0 (G : GuardT) (lo : Nat) (x1 x2 x7 x36 x37 : DV) (σ : Store) : Option (DV × Store) :=
 codeF G PP (pol 54) CC lo (.loop c54_21) a54_20 [ud, x1, x2, ud, ud, ud, ud, x7, ud, ud, ud, ud, ud, ud, ud, ud, ud, ud, ud, ud, ud, ud, ud, ud, ud, ud, ud, ud, ud, ud, ud, ud, ud, ud, ud, ud, x36, x37, ud, ud, ud, ud, ud, ud, ud, ud, ud, ud, ud, ud, ud, ud, ud, ud, ud, ud, ud, ud] σ
 (blockC 0 a54_19 (seqC G PP (pol 54) CC lo c54_33 a54_33 (finR PP Go.Proofs.Tryz.f54.results.toList)))
noncomputable def F54 (G : GuardT) (lo : Nat) (x0 x1 : DV) (σ : Store) : Option (DV × Store) :=
 codeF G PP (pol 54) CC lo c54_0 a54_0 [x0, x1, ud, ud, ud, ud, ud, ud, ud, ud, ud, ud, ud, ud, ud, ud, ud, ud, ud, ud, ud, ud, ud, ud, ud, ud, ud, ud, ud, ud, ud, ud, ud, ud, ud, ud, ud, ud, ud, ud, ud, ud, ud, ud, ud, ud, ud, ud, ud, ud, ud, ud, ud, ud, ud, ud, ud, ud] σ (finR PP Go.Proofs.Tryz.f54.results.toList)
theorem f54_L0_eq (G : GuardT) (hG : GuardOk G) (lo : Nat) (x1 x2 x7 x36 x37 : DV) (σ : Store) : f54_L0 G lo x1 x2 x7 x36 x37 σ =
 (binOp PP .lss 3 x37 x36).bind fun x38 =>
 condK x38
 (
 G _ x7 true ((load PP 25 x2 σ).bind fun v => some (v, σ)) σ fun x42 σ2 =>
 G _ x7 true (some (x1, σ2)) σ2 fun x43 σ3 =>
 G _ x7 true (some (x37, σ3)) σ3 fun x44 σ4 =>
 G _ x7 true ((indexAddr PP 22 x43 x44).bind fun v => some (v, σ4)) σ4 fun x45 σ5 =>
 G _ x7 true ((load PP 3 x45 σ5).bind fun v => some (v, σ5)) σ5 fun x46 σ6 =>
 G _ x7 true (some (x1, σ6)) σ6 fun x47 σ7 =>
 G _ x7 true (some (x37, σ7)) σ7 fun x48 σ8 =>
 G _ x7 true ((binOp PP .add 3 x48 (DV.p (PV.int IntKind.i64 (1)))).bind fun v => some (v, σ8)) σ8 fun x49 σ9 =>
 G _ x7 true ((indexAddr PP 22 x47 x49).bind fun v => some (v, σ9)) σ9 fun x50 σ10 =>
 G _ x7 true ((load PP 3 x50 σ10).bind fun v => some (v, σ10)) σ10 fun x51 σ11 =>
 G _ x7 true ((pureFn CC (DV.fn 55 []) [x42, x46, x51] σ11).bind fun v => some (v, σ11)) σ11 fun x52 σ12 =>
 G _ x7 true ((binOp PP .neq 3 x52 (DV.p (PV.int IntKind.i64 (-1)))).bind fun v => some (v, σ12)) σ12 fun x53 σ13 =>
 (pickV x7 x53 (DV.p (PV.bool false))).bind fun x54 =>
 (binOp PP .add 3 x37 (DV.p (PV.int IntKind.i64 (1)))).bind fun x55 =>
 f54_L0 G lo x1 x2 x54 x36 x55 σ13
 )
 (
 (pureFn CC (DV.fn 73 []) [x7, (DV.p (PV.int IntKind.i64 (14)))] σ).bind fun x57 =>
 some (x57, σ)
 ) := (loopF_eq G hG).trans (by kernel_rfl)
theorem F54_eq (G : GuardT) (lo : Nat) (x0 x1 : DV) (σ : Store) : F54 G lo x0 x1 σ =
 (boxV x0).bind fun z2 =>
 (pureFn CC (DV.fn 86 []) [x1, (DV.fn 87 [(DV.ptr (List.length σ) 0)])] (σ ++ [Row.mix z2])).bind fun x11 =>
 (len PP 22 x1 (σ ++ [Row.mix z2])).bind fun x13 =>
 (binOp PP .gtr 3 x13 (DV.p (PV.int IntKind.i64 (0)))).bind fun x14 =>
 (pureFn CC (DV.fn 73 []) [x14, (DV.p (PV.int IntKind.i64 (1)))] (σ ++ [Row.mix z2])).bind fun x15 =>
 (len PP 22 x1 (σ ++ [Row.mix z2])).bind fun x17 =>
 (binOp PP .leq 3 x17 (DV.p (PV.int IntKind.i64 (60)))).bind fun x18 =>
 (pureFn CC (DV.fn 73 []) [x18, (DV.p (PV.int IntKind.i64 (2)))] (σ ++ [Row.mix z2])).bind fun x19 =>
 (unOp .not x11).bind fun x21 =>
 (pureFn CC (DV.fn 73 []) [x21, (DV.p (PV.int IntKind.i64 (3)))] (σ ++ [Row.mix z2])).bind fun x22 =>
 (buildSlice PP none 143 3 [(0, x15), (1, x19), (2, x22)] (σ ++ [Row.mix z2])).bind fun r23_1 =>
 (pureFn CC (DV.fn 53 []) [r23_1.1] r23_1.2).bind fun x24 =>
 (binOp PP .neq 34 x24 (DV.p (PV.int IntKind.i64 (0)))).bind fun x26 =>
 condK x26
 (
 some (x24, r23_1.2)
 )
 (
 (fieldAddr PP 25 (DV.ptr (List.length σ) 0) 1).bind fun x28 =>
 (load PP 22 x28 r23_1.2).bind fun x29 =>
 (indexAddr PP 22 x1 (DV.p (PV.int IntKind.i64 (0)))).bind fun x31 =>
 (load PP 3 x31 r23_1.2).bind fun x32 =>
 (pureFn CC (DV.fn 89 []) [x29, x32] r23_1.2).bind fun x33 =>
 (sliceOp PP 22 x1 (some (DV.p (PV.int IntKind.i64 (1)))) none none).bind fun x35 =>
 (len PP 22 x35 r23_1.2).bind fun x36 =>
 f54_L0 G lo x1 (DV.ptr (List.length σ) 0) x33 x36 (DV.p (PV.int IntKind.i64 (0))) r23_1.2
 ) := by kernel_rfl
theorem F54_call {lo : Nat} {x0 x1 : DV} {σ : Store} {r : DV × Store} (h : F54 guardT lo x0 x1 σ = some r) : CC lo 54 [x0, x1] σ = some r :=
 callL_run Go.Proofs.Tryz.func54 (by decide +kernel) rfl (by decide +kernel) h
noncomputable def c55_0 : Code := bodyOf Go.Proofs.Tryz.f55
noncomputable def a55_0 : Ann := (pol 55).ann
noncomputable def F55 (G : GuardT) (lo : Nat) (x0 x1 x2 : DV) (σ : Store) : Option (DV × Store) :=
 codeF G PP (pol 55) CC lo c55_0 a55_0 [x0, x1, x2, ud, ud, ud, ud, ud, ud, ud, ud] σ (finR PP Go.Proofs.Tryz.f55.results.toList)
theorem F55_eq (G : GuardT) (lo : Nat) (x0 x1 x2 : DV) (σ : Store) : F55 G lo x0 x1 x2 σ =
 (boxV x0).bind fun z3 =>
 (boxV x1).bind fun z4 =>
 (boxV x2).bind fun z5 =>
 (fieldAddr PP 25 (DV.ptr (List.length σ) 0) 2).bind fun x7 =>
 (load PP 23 x7 (((σ ++ [Row.mix z3]) ++ [Row.mix z4]) ++ [Row.mix z5])).bind fun x8 =>
 (pureFn CC (DV.fn 90 []) [x8, (DV.fn 91 [(DV.ptr (List.length (σ ++ [Row.mix z3])) 0), (DV.ptr (List.length ((σ ++ [Row.mix z3]) ++ [Row.mix z4])) 0)])] (((σ ++ [Row.mix z3]) ++ [Row.mix z4]) ++ [Row.mix z5])).bind fun x10 =>
 some (x10, (((σ ++ [Row.mix z3]) ++ [Row.mix z4]) ++ [Row.mix z5])) := by kernel_rfl
theorem F55_call {lo : Nat} {x0 x1 x2 : DV} {σ : Store} {r : DV × Store} (h : F55 guardT lo x0 x1 x2 σ = some r) : CC lo 55 [x0, x1, x2] σ = some r :=
 callL_run Go.Proofs.Tryz.func55 (by decide +kernel) rfl (by decide +kernel) h
noncomputable def c101_0 : Code := bodyOf Go.Proofs.Tryz.f101
noncomputable def a101_0 : Ann := (pol 101).ann
noncomputable def F101 (G : GuardT) (lo : Nat) (x0 x1 x2 : DV) (σ : Store) : Option (DV × Store) :=
 codeF G PP (pol 101) CC lo c101_0 a101_0 [x0, x1, x2, ud, ud, ud, ud, ud, ud, ud, ud, ud, ud, ud, ud, ud, ud, ud, ud, ud] σ (finR PP Go.Proofs.Tryz.f101.results.toList)
theorem F101_eq (G : GuardT) (lo : Nat) (x0 x1 x2 : DV) (σ : Store) : F101 G lo x0 x1 x2 σ =
 (boxV x0).bind fun z3 =>
 (fieldAddr PP 69 (DV.ptr (List.length σ) 0) 0).bind fun x5 =>
 (load PP 3 x5 (σ ++ [Row.mix z3])).bind fun x6 =>
 (load PP 3 x1 (σ ++ [Row.mix z3])).bind fun x7 =>
 (binOp PP .eql 3 x6 x7).bind fun x8 =>
 G _ x8 true ((fieldAddr PP 69 (DV.ptr (List.length σ) 0) 1).bind fun v => some (v, (σ ++ [Row.mix z3]))) (σ ++ [Row.mix z3]) fun x10 σ1 =>
 G _ x8 true ((load PP 3 x10 σ1).bind fun v => some (v, σ1)) σ1 fun x11 σ2 =>
 G _ x8 true ((load PP 3 x2 σ2).bind fun v => some (v, σ2)) σ2 fun x12 σ3 =>
 G _ x8 true ((binOp PP .eql 3 x11 x12).bind fun v => some (v, σ3)) σ3 fun x13 σ4 =>
 (pickV x8 x13 (DV.p (PV.bool false))).bind fun x14 =>
 G _ x14 true ((fieldAddr PP 69 (DV.ptr (List.length σ) 0) 2).bind fun v => some (v, σ4)) σ4 fun x16 σ5 =>
 G _ x14 true ((load PP 3 x16 σ5).bind fun v => some (v, σ5)) σ5 fun x17 σ6 =>
 G _ x14 true ((binOp PP .neq 3 x17 (DV.p (PV.int IntKind.i64 (11)))).bind fun v => some (v, σ6)) σ6 fun x18 σ7 =>
 (pickV x14 x18 (DV.p (PV.bool false))).bind fun x19 =>
 some (x19, σ7) := by kernel_rfl
theorem F101_call {lo : Nat} {x0 x1 x2 : DV} {σ : Store} {r : DV × Store} (h : F101 guardT lo x0 x1 x2 σ = some r) : CC lo 101 [x0, x1, x2] σ = some r :=
 callL_run Go.Proofs.Tryz.func101 (by decide +kernel) rfl (by decide +kernel) h
noncomputable def c68_0 : Code := bodyOf Go.Proofs.Tryz.f68
noncomputable def a68_0 : Ann := (pol 68).ann
noncomputable def F68 (G : GuardT) (lo : Nat) (x0 x1 x2 : DV) (σ : Store) : Option (DV × Store) :=
 codeF G PP (pol 68) CC lo c68_0 a68_0 [x0, x1, x2, ud, ud, ud, ud, ud, ud, ud, ud, ud] σ (finR PP Go.Proofs.Tryz.f68.results.toList)
theorem F68_eq (G : GuardT) (lo : Nat) (x0 x1 x2 : DV) (σ : Store) : F68 G lo x0 x1 x2 σ =
 (boxV x0).bind fun z3 =>
 (boxV x1).bind fun z4 =>
 (boxV x2).bind fun z5 =>
 (fieldAddr PP 25 (DV.ptr (List.length σ) 0) 2).bind fun x7 =>
 (load PP 23 x7 (((σ ++ [Row.mix z3]) ++ [Row.mix z4]) ++ [Row.mix z5])).bind fun x8 =>
 (pureFn CC (DV.fn 100 []) [x8, (DV.fn 101 [(DV.ptr (List.length (σ ++ [Row.mix z3])) 0), (DV.ptr (List.length ((σ ++ [Row.mix z3]) ++ [Row.mix z4])) 0)])] (((σ ++ [Row.mix z3]) ++ [Row.mix z4]) ++ [Row.mix z5])).bind fun x10 =>
 (unOp .not x10).bind fun x11 =>
 some (x11, (((σ ++ [Row.mix z3]) ++ [Row.mix z4]) ++ [Row.mix z5])) := by kernel_rfl
theorem F68_call {lo : Nat} {x0 x1 x2 : DV} {σ : Store} {r : DV × Store} (h : F68 guardT lo x0 x1 x2 σ = some r) : CC lo 68 [x0, x1, x2] σ = some r :=
 callL_run Go.Proofs.Tryz.func68 (by decide +kernel) rfl (by decide +kernel) h
noncomputable def c31_0 : Code := bodyOf Go.Proofs.Tryz.f31
noncomputable def a31_0 : Ann := (pol 31).ann
noncomputable def a31_27 : Ann := right (left (right (right (right (right a31_0)))))
noncomputable def a31_28 : Ann := left a31_27
noncomputable def c31_29 : Code := fstC (fstC (sndC (fstC (sndC (sndC (sndC (sndC c31_0)))))))
noncomputable def c31_46 : Code := sndC (sndC (sndC c31_29))
noncomputable def a31_46 : Ann := right (right (right (left a31_28)))
noncomputable def c31_47 : Code := sndC (sndC (sndC (sndC (sndC c31_0))))
noncomputable def a31_47 : Ann := right (right (right (right (right a31_0))))
noncomputable def f31_L0 (G : GuardT) (lo : Nat) (x1 x2 x8 x23 x24 x25 : DV) (σ : Store) : Option (DV × Store) :=
 codeF G PP (pol 31) CC lo (.loop c31_29) a31_28 [ud, x1, x2, ud, ud, ud, ud, ud, x8, ud, ud, ud, ud, ud, ud, ud, ud, ud, ud, ud, ud, ud, ud, x23, x24, x25, ud, ud, ud, ud, ud, ud, ud, ud, ud, ud, ud, ud, ud, ud, ud, ud, ud, ud, ud, ud, ud, ud, ud, ud, ud, ud, ud, ud, ud, ud, ud, ud, ud, ud, ud, ud, ud, ud, ud, ud, ud, ud, ud, ud] σ
 (blockC 0 a31_27 (seqC G PP (pol 31) CC lo c31_47 a31_47 (finR PP Go.Proofs.Tryz.f31.results.toList)))
def f31_J0_fr (x1 x2 x8 x23 x24 x25 : DV) : Frame := [ud, x1, x2, ud, ud, ud, ud, ud, x8, ud, ud, ud, ud, ud, ud, ud, ud, ud, ud, ud, ud, ud, ud, x23, x24, x25, ud, ud, ud, ud, ud, ud, ud, ud, ud, ud, ud, ud, ud, ud, ud, ud, ud, ud, ud, ud, ud, ud, ud, ud, ud, ud, ud, ud, ud, ud, ud, ud, ud, ud, ud, ud, ud, ud, ud, ud, ud, ud, ud, ud]
noncomputable def f31_J0 (G : GuardT) (lo : Nat) (x1 x2 x8 x23 x24 x25 : DV) (σ : Store) : Option (DV × Store) :=
 (seqC G PP (pol 31) CC lo c31_46 a31_46 (loopC G PP (pol 31) CC lo c31_29 a31_28 (blockC 0 a31_27 (seqC G PP (pol 31) CC lo c31_47 a31_47 (finR PP Go.Proofs.Tryz.f31.results.toList))))) .normal (f31_J0_fr x1 x2 x8 x23 x24 x25) σ
noncomputable def F31 (G : GuardT) (lo : Nat) (x0 x1 : DV) (σ : Store) : Option (DV × Store) :=
 codeF G PP (pol 31) CC lo c31_0 a31_0 [x0, x1, ud, ud, ud, ud, ud, ud, ud, ud, ud, ud, ud, ud, ud, ud, ud, ud, ud, ud, ud, ud, ud, ud, ud, ud, ud, ud, ud, ud, ud, ud, ud, ud, ud, ud, ud, ud, ud, ud, ud, ud, ud, ud, ud, ud, ud, ud, ud, ud, ud, ud, ud, ud, ud, ud, ud, ud, ud, ud, ud, ud, ud, ud, ud, ud, ud, ud, ud, ud] σ (finR PP Go.Proofs.Tryz.f31.results.toList)
theorem f31_L0_eq (G : GuardT) (hG : GuardOk G) (lo : Nat) (x1 x2 x8 x23 x24 x25 : DV) (σ : Store) : f31_L0 G lo x1 x2 x8 x23 x24 x25 σ =
 (binOp PP .lss 3 x25 x24).bind fun x26 =>
 condK x26
 (
 (indexAddr PP 22 x23 x25).bind fun x28 =>
 (load PP 3 x28 σ).bind fun x29 =>
 (binOp PP .gtr 3 x25 (DV.p (PV.int IntKind.i64 (0)))).bind fun x31 =>
 G _ x31 true ((fieldAddr PP 33 x2 1).bind fun v => some (v, σ)) σ fun x33 σ1 =>
 G _ x31 true ((load PP 22 x33 σ1).bind fun v => some (v, σ1)) σ1 fun x34 σ2 =>
 G _ x31 true (some (x29, σ2)) σ2 fun x35 σ3 =>
 G _ x31 true ((indexAddr PP 22 x34 x35).bind fun v => some (v, σ3)) σ3 fun x36 σ4 =>
 G _ x31 true ((load PP 3 x36 σ4).bind fun v => some (v, σ4)) σ4 fun x37 σ5 =>
 G _ x31 true ((fieldAddr PP 33 x2 1).bind fun v => some (v, σ5)) σ5 fun x38 σ6 =>
 G _ x31 true ((load PP 22 x38 σ6).bind fun v => some (v, σ6)) σ6 fun x39 σ7 =>
 G _ x31 true (some (x1, σ7)) σ7 fun x40 σ8 =>
 G _ x31 true (some (x25, σ8)) σ8 fun x41 σ9 =>
 G _ x31 true ((binOp PP .sub 3 x41 (DV.p (PV.int IntKind.i64 (1)))).bind fun v => some (v, σ9)) σ9 fun x42 σ10 =>
 G _ x31 true ((indexAddr PP 22 x40 x42).bind fun v => some (v, σ10)) σ10 fun x43 σ11 =>
 G _ x31 true ((load PP 3 x43 σ11).bind fun v => some (v, σ11)) σ11 fun x44 σ12 =>
 G _ x31 true ((indexAddr PP 22 x39 x44).bind fun v => some (v, σ12)) σ12 fun x45 σ13 =>
 G _ x31 true ((load PP 3 x45 σ13).bind fun v => some (v, σ13)) σ13 fun x46 σ14 =>
 G _ x31 true ((binOp PP .eql 3 x37 x46).bind fun v => some (v, σ14)) σ14 fun x47 σ15 =>
 (pickV x31 x47 (DV.p (PV.bool false))).bind fun x48 =>
 G _ x48 true ((fieldAddr PP 33 x2 0).bind fun v => some (v, σ15)) σ15 fun x50 σ16 =>
 G _ x48 true ((load PP 25 x50 σ16).bind fun v => some (v, σ16)) σ16 fun x51 σ17 =>
 G _ x48 true (some (x1, σ17)) σ17 fun x52 σ18 =>
 G _ x48 true (some (x25, σ18)) σ18 fun x53 σ19 =>
 G _ x48 true ((binOp PP .sub 3 x53 (DV.p (PV.int IntKind.i64 (1)))).bind fun v => some (v, σ19)) σ19 fun x54 σ20 =>
 G _ x48 true ((indexAddr PP 22 x52 x54).bind fun v => some (v, σ20)) σ20 fun x55 σ21 =>
 G _ x48 true ((load PP 3 x55 σ21).bind fun v => some (v, σ21)) σ21 fun x56 σ22 =>
 G _ x48 true (some (x29, σ22)) σ22 fun x57 σ23 =>
 G _ x48 true ((pureFn CC (DV.fn 68 []) [x51, x56, x57] σ23).bind fun v => some (v, σ23)) σ23 fun x58 σ24 =>
 (pickV x48 x58 (DV.p (PV.bool false))).bind fun x59 =>
 condK x59
 (
 f31_J0 G lo x1 x2 x8 x23 x24 x25 σ24
 )
 (
 (fieldAddr PP 33 x2 1).bind fun x61 =>
 (load PP 22 x61 σ24).bind fun x62 =>
 (indexAddr PP 22 x62 x29).bind fun x64 =>
 (load PP 3 x64 σ24).bind fun x65 =>
 (buildSlice PP none 22 1 [(0, x65)] σ24).bind fun r66_25 =>
 (append PP lo false 22 22 x8 r66_25.1 r66_25.2).bind fun r67_26 =>
 f31_J0 G lo x1 x2 r67_26.1 x23 x24 x25 r67_26.2
 )
 )
 (
 some ((DV.tuple [x8, (DV.p (PV.int IntKind.i64 (0)))]), σ)
 ) := (loopF_eq G hG).trans (by kernel_rfl)
theorem f31_J0_eq (G : GuardT) (lo : Nat) (x1 x2 x8 x23 x24 x25 : DV) (σ : Store) : f31_J0 G lo x1 x2 x8 x23 x24 x25 σ =
 (binOp PP .add 3 x25 (DV.p (PV.int IntKind.i64 (1)))).bind fun x68 =>
 f31_L0 G lo x1 x2 x8 x23 x24 x68 σ := by kernel_rfl
theorem F31_eq (G : GuardT) (lo : Nat) (x0 x1 : DV) (σ : Store) : F31 G lo x0 x1 σ =
 (boxV x0).bind fun z2 =>
 (load PP 33 (DV.ptr (List.length σ) 0) (σ ++ [Row.mix z2])).bind fun x11 =>
 (pureFn CC (DV.fn 67 []) [x11] (σ ++ [Row.mix z2])).bind fun x12 =>
 (binOp PP .neq 34 x12 (DV.p (PV.int IntKind.i64 (0)))).bind fun x14 =>
 condK x14
 (
 some ((DV.tuple [(DV.p PV.nilsl), x12]), (σ ++ [Row.mix z2]))
 )
 (
 (fieldAddr PP 33 (DV.ptr (List.length σ) 0) 0).bind fun x16 =>
 (load PP 25 x16 (σ ++ [Row.mix z2])).bind fun x17 =>
 (pureFn CC (DV.fn 54 []) [x17, x1] (σ ++ [Row.mix z2])).bind fun x19 =>
 (binOp PP .neq 34 x19 (DV.p (PV.int IntKind.i64 (0)))).bind fun x21 =>
 condK x21
 (
 some ((DV.tuple [(DV.p PV.nilsl), x19]), (σ ++ [Row.mix z2]))
 )
 (
 (len PP 22 x1 (σ ++ [Row.mix z2])).bind fun x24 =>
 f31_L0 G lo x1 (DV.ptr (List.length σ) 0) (DV.p PV.nilsl) x1 x24 (DV.p (PV.int IntKind.i64 (0))) (σ ++ [Row.mix z2])
 )
 ) := by kernel_rfl
theorem F31_call {lo : Nat} {x0 x1 : DV} {σ : Store} {r : DV × Store} (h : F31 guardT lo x0 x1 σ = some r) : CC lo 31 [x0, x1] σ = some r :=
 callL_run Go.Proofs.Tryz.func31 (by decide +kernel) rfl (by decide +kernel) h
noncomputable def c33_0 : Code := bodyOf Go.Proofs.Tryz.f33
noncomputable def a33_0 : Ann := (pol 33).ann
noncomputable def a33_21 : Ann := right (left (right (right (right a33_0))))
noncomputable def a33_22 : Ann := left a33_21
noncomputable def c33_23 : Code := fstC (fstC (sndC (fstC (sndC (sndC (sndC c33_0))))))
noncomputable def c33_39 : Code := sndC (sndC (sndC (sndC c33_0)))
noncomputable def a33_39 : Ann := right (right (right (right a33_0)))
noncomputable def a33_42 : Ann := right (left a33_39)
noncomputable def a33_43 : Ann := left a33_42
noncomputable def c33_44 : Code := fstC (fstC (sndC (fstC c33_39)))
noncomputable def c33_60 : Code := sndC c33_39
noncomputable def a33_60 : Ann := right a33_39
noncomputable def f33_L0 (G : GuardT) (lo : Nat) (x1 x3 : DV) (σ : Store) : Option (DV × Store) :=
 codeF G PP (pol 33) CC lo (.loop c33_23) a33_22 [ud, x1, ud, x3, ud, ud, ud, ud, ud, ud, ud, ud, ud, ud, ud, ud, ud, ud, ud, ud, ud, ud, ud, ud, ud, ud, ud, ud, ud, ud, ud, ud, ud, ud, ud, ud, ud, ud, ud, ud, ud, ud, ud, ud, ud, ud, ud, ud, ud, ud, ud, ud, ud, ud, ud, ud, ud, ud, ud, ud, ud, ud, ud, ud, ud, ud, ud, ud, ud, ud, ud, ud, ud, ud, ud, ud, ud, ud, ud, ud, ud] σ
 (blockC 0 a33_21 (seqC G PP (pol 33) CC lo c33_39 a33_39 (finR PP Go.Proofs.Tryz.f33.results.toList)))
noncomputable def f33_L1 (G : GuardT) (lo : Nat) (x1 x4 : DV) (σ : Store) : Option (DV × Store) :=
 codeF G PP (pol 33) CC lo (.loop c33_44) a33_43 [ud, x1, ud, ud, x4, ud, ud, ud, ud, ud, ud, ud, ud, ud, ud, ud, ud, ud, ud, ud, ud, ud, ud, ud, ud, ud, ud, ud, ud, ud, ud, ud, ud, ud, ud, ud, ud, ud, ud, ud, ud, ud, ud, ud, ud, ud, ud, ud, ud, ud, ud, ud, ud, ud, ud, ud, ud, ud, ud, ud, ud, ud, ud, ud, ud, ud, ud, ud, ud, ud, ud, ud, ud, ud, ud, ud, ud, ud, ud, ud, ud] σ
 (blockC 2 a33_42 (seqC G PP (pol 33) CC lo c33_60 a33_60 (finR PP Go.Proofs.Tryz.f33.results.toList)))
noncomputable def F33 (G : GuardT) (lo : Nat) (x0 : DV) (σ : Store) : Option (DV × Store) :=
 codeF G PP (pol 33) CC lo c33_0 a33_0 [x0, ud, ud, ud, ud, ud, ud, ud, ud, ud, ud, ud, ud, ud, ud, ud, ud, ud, ud, ud, ud, ud, ud, ud, ud, ud, ud, ud, ud, ud, ud, ud, ud, ud, ud, ud, ud, ud, ud, ud, ud, ud, ud, ud, ud, ud, ud, ud, ud, ud, ud, ud, ud, ud, ud, ud, ud, ud, ud, ud, ud, ud, ud, ud, ud, ud, ud, ud, ud, ud, ud, ud, ud, ud, ud, ud, ud, ud, ud, ud, ud] σ (finR PP Go.Proofs.Tryz.f33.results.toList)
theorem f33_L0_eq (G : GuardT) (hG : GuardOk G) (lo : Nat) (x1 x3 : DV) (σ : Store) : f33_L0 G lo x1 x3 σ =
 (fieldAddr PP 33 x1 1).bind fun x26 =>
 (load PP 22 x26 σ).bind fun x27 =>
 (len PP 22 x27 σ).bind fun x28 =>
 (binOp PP .lss 3 x3 x28).bind fun x29 =>
 condK x29
 (
 (fieldAddr PP 33 x1 1).bind fun x32 =>
 (load PP 22 x32 σ).bind fun x33 =>
 (indexAddr PP 22 x33 x3).bind fun x35 =>
 (load PP 3 x35 σ).bind fun x36 =>
 (pureFn CC (DV.fn 61 []) [x36, (DV.p (PV.int IntKind.i64 (0))), (DV.p (PV.int IntKind.i64 (399)))] σ).bind fun x37 =>
 (unOp .not x37).bind fun x38 =>
 G _ x38 false ((fieldAddr PP 33 x1 2).bind fun v => some (v, σ)) σ fun x40 σ8 =>
 G _ x38 false ((load PP 22 x40 σ8).bind fun v => some (v, σ8)) σ8 fun x41 σ9 =>
 G _ x38 false (some (x3, σ9)) σ9 fun x42 σ10 =>
 G _ x38 false ((indexAddr PP 22 x41 x42).bind fun v => some (v, σ10)) σ10 fun x43 σ11 =>
 G _ x38 false ((load PP 3 x43 σ11).bind fun v => some (v, σ11)) σ11 fun x44 σ12 =>
 G _ x38 false ((pureFn CC (DV.fn 57 []) [x44] σ12).bind fun v => some (v, σ12)) σ12 fun x45 σ13 =>
 G _ x38 false ((unOp .not x45).bind fun v => some (v, σ13)) σ13 fun x46 σ14 =>
 (pickV x38 (DV.p (PV.bool true)) x46).bind fun x47 =>
 condK x47
 (
 some ((DV.p (PV.int IntKind.i64 (3))), σ14)
 )
 (
 (binOp PP .add 3 x3 (DV.p (PV.int IntKind.i64 (1)))).bind fun x31 =>
 f33_L0 G lo x1 x31 σ14
 )
 )
 (
 f33_L1 G lo x1 (DV.p (PV.int IntKind.i64 (1))) σ
 ) := (loopF_eq G hG).trans (by kernel_rfl)
theorem f33_L1_eq (G : GuardT) (hG : GuardOk G) (lo : Nat) (x1 x4 : DV) (σ : Store) : f33_L1 G lo x1 x4 σ =
 (fieldAddr PP 33 x1 1).bind fun x49 =>
 (load PP 22 x49 σ).bind fun x50 =>
 (len PP 22 x50 σ).bind fun x51 =>
 (binOp PP .lss 3 x4 x51).bind fun x52 =>
 condK x52
 (
 (fieldAddr PP 33 x1 1).bind fun x55 =>
 (load PP 22 x55 σ).bind fun x56 =>
 (binOp PP .sub 3 x4 (DV.p (PV.int IntKind.i64 (1)))).bind fun x58 =>
 (indexAddr PP 22 x56 x58).bind fun x59 =>
 (load PP 3 x59 σ).bind fun x60 =>
 (fieldAddr PP 33 x1 2).bind fun x61 =>
 (load PP 22 x61 σ).bind fun x62 =>
 (binOp PP .sub 3 x4 (DV.p (PV.int IntKind.i64 (1)))).bind fun x64 =>
 (indexAddr PP 22 x62 x64).bind fun x65 =>
 (load PP 3 x65 σ).bind fun x66 =>
 (buildSlice PP none 22 2 [(0, x60), (1, x66)] σ).bind fun r67_15 =>
 (fieldAddr PP 33 x1 1).bind fun x68 =>
 (load PP 22 x68 r67_15.2).bind fun x69 =>
 (indexAddr PP 22 x69 x4).bind fun x71 =>
 (load PP 3 x71 r67_15.2).bind fun x72 =>
 (fieldAddr PP 33 x1 2).bind fun x73 =>
 (load PP 22 x73 r67_15.2).bind fun x74 =>
 (indexAddr PP 22 x74 x4).bind fun x76 =>
 (load PP 3 x76 r67_15.2).bind fun x77 =>
 (buildSlice PP none 22 2 [(0, x72), (1, x77)] r67_15.2).bind fun r78_16 =>
 (pureFn CC (DV.fn 69 []) [r67_15.1, r78_16.1] r78_16.2).bind fun x79 =>
 (binOp PP .geq 3 x79 (DV.p (PV.int IntKind.i64 (0)))).bind fun x80 =>
 condK x80
 (
 some ((DV.p (PV.int IntKind.i64 (13))), r78_16.2)
 )
 (
 (binOp PP .add 3 x4 (DV.p (PV.int IntKind.i64 (1)))).bind fun x54 =>
 f33_L1 G lo x1 x54 r78_16.2
 )
 )
 (
 some ((DV.p (PV.int IntKind.i64 (0))), σ)
 ) := (loopF_eq G hG).trans (by kernel_rfl)
theorem F33_eq (G : GuardT) (lo : Nat) (x0 : DV) (σ : Store) : F33 G lo x0 σ =
 (boxV x0).bind fun z1 =>
 (fieldAddr PP 33 (DV.ptr (List.length σ) 0) 0).bind fun x5 =>
 (load PP 25 x5 (σ ++ [Row.mix z1])).bind fun x6 =>
 (pureFn CC (DV.fn 56 []) [x6] (σ ++ [Row.mix z1])).bind fun x7 =>
 (unOp .not x7).bind fun x8 =>
 condK x8
 (
 some ((DV.p (PV.int IntKind.i64 (5))), (σ ++ [Row.mix z1]))
 )
 (
 (fieldAddr PP 33 (DV.ptr (List.length σ) 0) 1).bind fun x9 =>
 (load PP 22 x9 (σ ++ [Row.mix z1])).bind fun x10 =>
 (len PP 22 x10 (σ ++ [Row.mix z1])).bind fun x11 =>
 (fieldAddr PP 33 (DV.ptr (List.length σ) 0) 0).bind fun x12 =>
 (fieldAddr PP 25 x12 0).bind fun x13 =>
 (load PP 3 x13 (σ ++ [Row.mix z1])).bind fun x14 =>
 (binOp PP .neq 3 x11 x14).bind fun x15 =>
 G _ x15 false ((fieldAddr PP 33 (DV.ptr (List.length σ) 0) 2).bind fun v => some (v, (σ ++ [Row.mix z1]))) (σ ++ [Row.mix z1]) fun x17 σ1 =>
 G _ x15 false ((load PP 22 x17 σ1).bind fun v => some (v, σ1)) σ1 fun x18 σ2 =>
 G _ x15 false ((len PP 22 x18 σ2).bind fun v => some (v, σ2)) σ2 fun x19 σ3 =>
 G _ x15 false ((fieldAddr PP 33 (DV.ptr (List.length σ) 0) 0).bind fun v => some (v, σ3)) σ3 fun x20 σ4 =>
 G _ x15 false ((fieldAddr PP 25 x20 0).bind fun v => some (v, σ4)) σ4 fun x21 σ5 =>
 G _ x15 false ((load PP 3 x21 σ5).bind fun v => some (v, σ5)) σ5 fun x22 σ6 =>
 G _ x15 false ((binOp PP .neq 3 x19 x22).bind fun v => some (v, σ6)) σ6 fun x23 σ7 =>
 (pickV x15 (DV.p (PV.bool true)) x23).bind fun x24 =>
 condK x24
 (
 some ((DV.p (PV.int IntKind.i64 (6))), σ7)
 )
 (
 f33_L0 G lo (DV.ptr (List.length σ) 0) (DV.p (PV.int IntKind.i64 (0))) σ7
 )
 ) := by kernel_rfl
theorem F33_call {lo : Nat} {x0 : DV} {σ : Store} {r : DV × Store} (h : F33 guardT lo x0 σ = some r) : CC lo 33 [x0] σ = some r :=
 callL_run Go.Proofs.Tryz.func33 (by decide +kernel) rfl (by decide +kernel) h
noncomputable def c22_0 : Code := bodyOf Go.Proofs.Tryz.f22
noncomputable def a22_0 : Ann := (pol 22).ann
noncomputable def a22_21 : Ann := right (left (right (right (right a22_0))))
noncomputable def a22_22 : Ann := left a22_21
noncomputable def c22_23 : Code := fstC (fstC (sndC (fstC (sndC (sndC (sndC c22_0))))))
noncomputable def c22_39 : Code := sndC (sndC (sndC (sndC c22_0)))
noncomputable def a22_39 : Ann := right (right (right (right a22_0)))
noncomputable def a22_50 : Ann := right (left (right a22_39))
noncomputable def a22_51 : Ann := left a22_50
noncomputable def c22_52 : Code := fstC (fstC (sndC (fstC (sndC c22_39))))
noncomputable def c22_68 : Code := sndC (sndC c22_39)
noncomputable def a22_68 : Ann := right (right a22_39)
noncomputable def f22_L0 (G : GuardT) (lo : Nat) (x1 x2 x5 : DV) (σ : Store) : Option (DV × Store) :=
 codeF G PP (pol 22) CC lo (.loop c22_23) a22_22 [ud, x1, x2, ud, ud, x5, ud, ud, ud, ud, ud, ud, ud, ud, ud, ud, ud, ud, ud, ud, ud, ud, ud, ud, ud, ud, ud, ud, ud, ud, ud, ud, ud, ud, ud, ud, ud, ud, ud, ud, ud, ud, ud, ud, ud, ud, ud, ud, ud, ud, ud, ud, ud] σ
 (blockC 0 a22_21 (seqC G PP (pol 22) CC lo c22_39 a22_39 (finR PP Go.Proofs.Tryz.f22.results.toList)))
noncomputable def f22_L1 (G : GuardT) (lo : Nat) (x1 x2 x6 : DV) (σ : Store) : Option (DV × Store) :=
 codeF G PP (pol 22) CC lo (.loop c22_52) a22_51 [ud, x1, x2, ud, ud, ud, x6, ud, ud, ud, ud, ud, ud, ud, ud, ud, ud, ud, ud, ud, ud, ud, ud, ud, ud, ud, ud, ud, ud, ud, ud, ud, ud, ud, ud, ud, ud, ud, ud, ud, ud, ud, ud, ud, ud, ud, ud, ud, ud, ud, ud, ud, ud] σ
 (blockC 2 a22_50 (seqC G PP (pol 22) CC lo c22_68 a22_68 (finR PP Go.Proofs.Tryz.f22.results.toList)))
noncomputable def F22 (G : GuardT) (lo : Nat) (x0 x1 : DV) (σ : Store) : Option (DV × Store) :=
 codeF G PP (pol 22) CC lo c22_0 a22_0 [x0, x1, ud, ud, ud, ud, ud, ud, ud, ud, ud, ud, ud, ud, ud, ud, ud, ud, ud, ud, ud, ud, ud, ud, ud, ud, ud, ud, ud, ud, ud, ud, ud, ud, ud, ud, ud, ud, ud, ud, ud, ud, ud, ud, ud, ud, ud, ud, ud, ud, ud, ud, ud] σ (finR PP Go.Proofs.Tryz.f22.results.toList)
theorem f22_L0_eq (G : GuardT) (hG : GuardOk G) (lo : Nat) (x1 x2 x5 : DV) (σ : Store) : f22_L0 G lo x1 x2 x5 σ =
 (len PP 22 x1 σ).bind fun x15 =>
 (binOp PP .lss 3 x5 x15).bind fun x16 =>
 condK x16
 (
 (indexAddr PP 22 x1 x5).bind fun x21 =>
 (load PP 3 x21 σ).bind fun x22 =>
 (fieldAddr PP 25 x2 0).bind fun x23 =>
 (load PP 3 x23 σ).bind fun x24 =>
 (binOp PP .sub 3 x24 (DV.p (PV.int IntKind.i64 (1)))).bind fun x25 =>
 (pureFn CC (DV.fn 61 []) [x22, (DV.p (PV.int IntKind.i64 (0))), x25] σ).bind fun x26 =>
 (unOp .not x26).bind fun x27 =>
 condK x27
 (
 some ((DV.p (PV.int IntKind.i64 (3))), σ)
 )
 (
 (binOp PP .add 3 x5 (DV.p (PV.int IntKind.i64 (1)))).bind fun x18 =>
 f22_L0 G lo x1 x2 x18 σ
 )
 )
 (
 (fieldAddr PP 25 x2 1).bind fun x28 =>
 (load PP 22 x28 σ).bind fun x29 =>
 (indexAddr PP 22 x1 (DV.p (PV.int IntKind.i64 (0)))).bind fun x31 =>
 (load PP 3 x31 σ).bind fun x32 =>
 (pureFn CC (DV.fn 62 []) [x29, x32] σ).bind fun x33 =>
 (unOp .not x33).bind fun x34 =>
 condK x34
 (
 some ((DV.p (PV.int IntKind.i64 (14))), σ)
 )
 (
 f22_L1 G lo x1 x2 (DV.p (PV.int IntKind.i64 (1))) σ
 )
 ) := (loopF_eq G hG).trans (by kernel_rfl)
theorem f22_L1_eq (G : GuardT) (hG : GuardOk G) (lo : Nat) (x1 x2 x6 : DV) (σ : Store) : f22_L1 G lo x1 x2 x6 σ =
 (len PP 22 x1 σ).bind fun x37 =>
 (binOp PP .lss 3 x6 x37).bind fun x38 =>
 condK x38
 (
 (load PP 25 x2 σ).bind fun x41 =>
 (binOp PP .sub 3 x6 (DV.p (PV.int IntKind.i64 (1)))).bind fun x44 =>
 (indexAddr PP 22 x1 x44).bind fun x45 =>
 (load PP 3 x45 σ).bind fun x46 =>
 (indexAddr PP 22 x1 x6).bind fun x49 =>
 (load PP 3 x49 σ).bind fun x50 =>
 (pureFn CC (DV.fn 63 []) [x41, x46, x50] σ).bind fun x51 =>
 (binOp PP .lss 3 x51 (DV.p (PV.int IntKind.i64 (0)))).bind fun x52 =>
 condK x52
 (
 some ((DV.p (PV.int IntKind.i64 (14))), σ)
 )
 (
 (binOp PP .add 3 x6 (DV.p (PV.int IntKind.i64 (1)))).bind fun x40 =>
 f22_L1 G lo x1 x2 x40 σ
 )
 )
 (
 some ((DV.p (PV.int IntKind.i64 (0))), σ)
 ) := (loopF_eq G hG).trans (by kernel_rfl)
theorem F22_eq (G : GuardT) (lo : Nat) (x0 x1 : DV) (σ : Store) : F22 G lo x0 x1 σ =
 (boxV x0).bind fun z2 =>
 (len PP 22 x1 (σ ++ [Row.mix z2])).bind fun x8 =>
 (binOp PP .eql 3 x8 (DV.p (PV.int IntKind.i64 (0)))).bind fun x9 =>
 condK x9
 (
 some ((DV.p (PV.int IntKind.i64 (1))), (σ ++ [Row.mix z2]))
 )
 (
 (len PP 22 x1 (σ ++ [Row.mix z2])).bind fun x11 =>
 (binOp PP .gtr 3 x11 (DV.p (PV.int IntKind.i64 (60)))).bind fun x12 =>
 condK x12
 (
 some ((DV.p (PV.int IntKind.i64 (2))), (σ ++ [Row.mix z2]))
 )
 (
 f22_L0 G lo x1 (DV.ptr (List.length σ) 0) (DV.p (PV.int IntKind.i64 (0))) (σ ++ [Row.mix z2])
 )
 ) := by kernel_rfl
theorem F22_call {lo : Nat} {x0 x1 : DV} {σ : Store} {r : DV × Store} (h : F22 guardT lo x0 x1 σ = some r) : CC lo 22 [x0, x1] σ = some r :=
 callL_run Go.Proofs.Tryz.func22 (by decide +kernel) rfl (by decide +kernel) h
noncomputable def c63_0 : Code := bodyOf Go.Proofs.Tryz.f63
noncomputable def a63_0 : Ann := (pol 63).ann
noncomputable def a63_5 : Ann := right (left (right a63_0))
noncomputable def a63_6 : Ann := left a63_5
noncomputable def c63_7 : Code := fstC (fstC (sndC (fstC (sndC c63_0))))
noncomputable def c63_23 : Code := sndC (sndC c63_0)
noncomputable def a63_23 : Ann := right (right a63_0)
noncomputable def f63_L0 (G : GuardT) (lo : Nat) (x1 x2 x3 x7 : DV) (σ : Store) : Option (DV × Store) :=
 codeF G PP (pol 63) CC lo (.loop c63_7) a63_6 [ud, x1, x2, x3, ud, ud, ud, x7, ud, ud, ud, ud, ud, ud, ud, ud, ud, ud, ud, ud, ud, ud, ud, ud, ud, ud, ud, ud, ud, ud, ud, ud, ud, ud] σ
 (blockC 0 a63_5 (seqC G PP (pol 63) CC lo c63_23 a63_23 (finR PP Go.Proofs.Tryz.f63.results.toList)))
noncomputable def F63 (G : GuardT) (lo : Nat) (x0 x1 x2 : DV) (σ : Store) : Option (DV × Store) :=
 codeF G PP (pol 63) CC lo c63_0 a63_0 [x0, x1, x2, ud, ud, ud, ud, ud, ud, ud, ud, ud, ud, ud, ud, ud, ud, ud, ud, ud, ud, ud, ud, ud, ud, ud, ud, ud, ud, ud, ud, ud, ud, ud] σ (finR PP Go.Proofs.Tryz.f63.results.toList)
theorem f63_L0_eq (G : GuardT) (hG : GuardOk G) (lo : Nat) (x1 x2 x3 x7 : DV) (σ : Store) : f63_L0 G lo x1 x2 x3 x7 σ =
 (fieldAddr PP 25 x3 2).bind fun x9 =>
 (load PP 23 x9 σ).bind fun x10 =>
 (len PP 23 x10 σ).bind fun x11 =>
 (binOp PP .lss 3 x7 x11).bind fun x12 =>
 condK x12
 (
 (fieldAddr PP 25 x3 2).bind fun x15 =>
 (load PP 23 x15 σ).bind fun x16 =>
 (indexAddr PP 23 x16 x7).bind fun x18 =>
 (fieldAddr PP 69 x18 0).bind fun x19 =>
 (load PP 3 x19 σ).bind fun x20 =>
 (binOp PP .eql 3 x20 x1).bind fun x22 =>
 G _ x22 true ((fieldAddr PP 25 x3 2).bind fun v => some (v, σ)) σ fun x24 σ1 =>
 G _ x22 true ((load PP 23 x24 σ1).bind fun v => some (v, σ1)) σ1 fun x25 σ2 =>
 G _ x22 true (some (x7, σ2)) σ2 fun x26 σ3 =>
 G _ x22 true ((indexAddr PP 23 x25 x26).bind fun v => some (v, σ3)) σ3 fun x27 σ4 =>
 G _ x22 true ((fieldAddr PP 69 x27 1).bind fun v => some (v, σ4)) σ4 fun x28 σ5 =>
 G _ x22 true ((load PP 3 x28 σ5).bind fun v => some (v, σ5)) σ5 fun x29 σ6 =>
 G _ x22 true (some (x2, σ6)) σ6 fun x30 σ7 =>
 G _ x22 true ((binOp PP .eql 3 x29 x30).bind fun v => some (v, σ7)) σ7 fun x31 σ8 =>
 (pickV x22 x31 (DV.p (PV.bool false))).bind fun x32 =>
 condK x32
 (
 some (x7, σ8)
 )
 (
 (binOp PP .add 3 x7 (DV.p (PV.int IntKind.i64 (1)))).bind fun x14 =>
 f63_L0 G lo x1 x2 x3 x14 σ8
 )
 )
 (
 some ((DV.p (PV.int IntKind.i64 (-1))), σ)
 ) := (loopF_eq G hG).trans (by kernel_rfl)
theorem F63_eq (G : GuardT) (lo : Nat) (x0 x1 x2 : DV) (σ : Store) : F63 G lo x0 x1 x2 σ =
 (boxV x0).bind fun z3 =>
 f63_L0 G lo x1 x2 (DV.ptr (List.length σ) 0) (DV.p (PV.int IntKind.i64 (0))) (σ ++ [Row.mix z3]) := by kernel_rfl
theorem F63_call {lo : Nat} {x0 x1 x2 : DV} {σ : Store} {r : DV × Store} (h : F63 guardT lo x0 x1 x2 σ = some r) : CC lo 63 [x0, x1, x2] σ = some r :=
 callL_run Go.Proofs.Tryz.func63 (by decide +kernel) rfl (by decide +kernel) h
noncomputable def c70_0 : Code := bodyOf Go.Proofs.Tryz.f70
noncomputable def a70_0 : Ann := (pol 70).ann
noncomputable def a70_5 : Ann := right (left (right a70_0))
noncomputable def a70_6 : Ann := left a70_5
noncomputable def c70_7 : Code := fstC (fstC (sndC (fstC (sndC c70_0))))
noncomputable def c70_23 : Code := sndC (sndC c70_0)
noncomputable def a70_23 : Ann := right (right a70_0)
noncomputable def f70_L0 (G : GuardT) (lo : Nat) (x1 x2 x3 x7 : DV) (σ : Store) : Option (DV × Store) :=
 codeF G PP (pol 70) CC lo (.loop c70_7) a70_6 [ud, x1, x2, x3, ud, ud, ud, x7, ud, ud, ud, ud, ud, ud, ud, ud, ud, ud, ud, ud, ud, ud, ud, ud, ud, ud, ud, ud, ud, ud, ud, ud, ud, ud, ud, ud, ud, ud, ud, ud, ud, ud] σ
 (blockC 0 a70_5 (seqC G PP (pol 70) CC lo c70_23 a70_23 (finR PP Go.Proofs.Tryz.f70.results.toList)))
noncomputable def F70 (G : GuardT) (lo : Nat) (x0 x1 x2 : DV) (σ : Store) : Option (DV × Store) :=
 codeF G PP (pol 70) CC lo c70_0 a70_0 [x0, x1, x2, ud, ud, ud, ud, ud, ud, ud, ud, ud, ud, ud, ud, ud, ud, ud, ud, ud, ud, ud, ud, ud, ud, ud, ud, ud, ud, ud, ud, ud, ud, ud, ud, ud, ud, ud, ud, ud, ud, ud] σ (finR PP Go.Proofs.Tryz.f70.results.toList)
theorem f70_L0_eq (G : GuardT) (hG : GuardOk G) (lo : Nat) (x1 x2 x3 x7 : DV) (σ : Store) : f70_L0 G lo x1 x2 x3 x7 σ =
 (fieldAddr PP 25 x3 2).bind fun x9 =>
 (load PP 23 x9 σ).bind fun x10 =>
 (len PP 23 x10 σ).bind fun x11 =>
 (binOp PP .lss 3 x7 x11).bind fun x12 =>
 condK x12
 (
 (fieldAddr PP 25 x3 2).bind fun x15 =>
 (load PP 23 x15 σ).bind fun x16 =>
 (indexAddr PP 23 x16 x7).bind fun x18 =>
 (fieldAddr PP 69 x18 0).bind fun x19 =>
 (load PP 3 x19 σ).bind fun x20 =>
 (binOp PP .eql 3 x20 x1).bind fun x22 =>
 G _ x22 true ((fieldAddr PP 25 x3 2).bind fun v => some (v, σ)) σ fun x24 σ1 =>
 G _ x22 true ((load PP 23 x24 σ1).bind fun v => some (v, σ1)) σ1 fun x25 σ2 =>
 G _ x22 true (some (x7, σ2)) σ2 fun x26 σ3 =>
 G _ x22 true ((indexAddr PP 23 x25 x26).bind fun v => some (v, σ3)) σ3 fun x27 σ4 =>
 G _ x22 true ((fieldAddr PP 69 x27 1).bind fun v => some (v, σ4)) σ4 fun x28 σ5 =>
 G _ x22 true ((load PP 3 x28 σ5).bind fun v => some (v, σ5)) σ5 fun x29 σ6 =>
 G _ x22 true (some (x2, σ6)) σ6 fun x30 σ7 =>
 G _ x22 true ((binOp PP .eql 3 x29 x30).bind fun v => some (v, σ7)) σ7 fun x31 σ8 =>
 (pickV x22 x31 (DV.p (PV.bool false))).bind fun x32 =>
 G _ x32 true ((fieldAddr PP 25 x3 2).bind fun v => some (v, σ8)) σ8 fun x34 σ9 =>
 G _ x32 true ((load PP 23 x34 σ9).bind fun v => some (v, σ9)) σ9 fun x35 σ10 =>
 G _ x32 true (some (x7, σ10)) σ10 fun x36 σ11 =>
 G _ x32 true ((indexAddr PP 23 x35 x36).bind fun v => some (v, σ11)) σ11 fun x37 σ12 =>
 G _ x32 true ((fieldAddr PP 69 x37 2).bind fun v => some (v, σ12)) σ12 fun x38 σ13 =>
 G _ x32 true ((load PP 3 x38 σ13).bind fun v => some (v, σ13)) σ13 fun x39 σ14 =>
 G _ x32 true ((binOp PP .neq 3 x39 (DV.p (PV.int IntKind.i64 (11)))).bind fun v => some (v, σ14)) σ14 fun x40 σ15 =>
 (pickV x32 x40 (DV.p (PV.bool false))).bind fun x41 =>
 condK x41
 (
 some ((DV.p (PV.bool false)), σ15)
 )
 (
 (binOp PP .add 3 x7 (DV.p (PV.int IntKind.i64 (1)))).bind fun x14 =>
 f70_L0 G lo x1 x2 x3 x14 σ15
 )
 )
 (
 some ((DV.p (PV.bool true)), σ)
 ) := (loopF_eq G hG).trans (by kernel_rfl)
theorem F70_eq (G : GuardT) (lo : Nat) (x0 x1 x2 : DV) (σ : Store) : F70 G lo x0 x1 x2 σ =
 (boxV x0).bind fun z3 =>
 f70_L0 G lo x1 x2 (DV.ptr (List.length σ) 0) (DV.p (PV.int IntKind.i64 (0))) (σ ++ [Row.mix z3]) := by kernel_rfl
theorem F70_call {lo : Nat} {x0 x1 x2 : DV} {σ : Store} {r : DV × Store} (h : F70 guardT lo x0 x1 x2 σ = some r) : CC lo 70 [x0, x1, x2] σ = some r :=
 callL_run Go.Proofs.Tryz.func70 (by decide +kernel) rfl (by decide +kernel) h
noncomputable def c35_0 : Code := bodyOf Go.Proofs.Tryz.f35
noncomputable def a35_0 : Ann := (pol 35).ann
noncomputable def a35_7 : Ann := right (left (right (right a35_0)))
noncomputable def a35_8 : Ann := left a35_7
noncomputable def c35_9 : Code := fstC (fstC (sndC (fstC (sndC (sndC c35_0)))))
noncomputable def c35_24 : Code := sndC (sndC c35_9)
noncomputable def a35_24 : Ann := right (right (left a35_8))
noncomputable def c35_25 : Code := sndC (sndC (sndC c35_0))
noncomputable def a35_25 : Ann := right (right (right a35_0))
noncomputable def f35_L0 (G : GuardT) (lo : Nat) (x1 x2 x5 x6 : DV) (σ : Store) : Option (DV × Store) :=
 codeF G PP (pol 35) CC lo (.loop c35_9) a35_8 [ud, x1, x2, ud, ud, x5, x6, ud, ud, ud, ud, ud, ud, ud, ud, ud, ud, ud, ud, ud, ud, ud, ud, ud, ud, ud, ud, ud, ud, ud, ud, ud, ud, ud, ud, ud, ud, ud, ud, ud, ud, ud, ud, ud, ud, ud, ud, ud, ud, ud, ud, ud, ud, ud, ud, ud, ud, ud, ud, ud, ud] σ
 (blockC 0 a35_7 (seqC G PP (pol 35) CC lo c35_25 a35_25 (finR PP Go.Proofs.Tryz.f35.results.toList)))
def f35_J0_fr (x1 x2 x5 x6 : DV) : Frame := [ud, x1, x2, ud, ud, x5, x6, ud, ud, ud, ud, ud, ud, ud, ud, ud, ud, ud, ud, ud, ud, ud, ud, ud, ud, ud, ud, ud, ud, ud, ud, ud, ud, ud, ud, ud, ud, ud, ud, ud, ud, ud, ud, ud, ud, ud, ud, ud, ud, ud, ud, ud, ud, ud, ud, ud, ud, ud, ud, ud, ud]
noncomputable def f35_J0 (G : GuardT) (lo : Nat) (x1 x2 x5 x6 : DV) (σ : Store) : Option (DV × Store) :=
 (seqC G PP (pol 35) CC lo c35_24 a35_24 (loopC G PP (pol 35) CC lo c35_9 a35_8 (blockC 0 a35_7 (seqC G PP (pol 35) CC lo c35_25 a35_25 (finR PP Go.Proofs.Tryz.f35.results.toList))))) .normal (f35_J0_fr x1 x2 x5 x6) σ
noncomputable def F35 (G : GuardT) (lo : Nat) (x0 x1 : DV) (σ : Store) : Option (DV × Store) :=
 codeF G PP (pol 35) CC lo c35_0 a35_0 [x0, x1, ud, ud, ud, ud, ud, ud, ud, ud, ud, ud, ud, ud, ud, ud, ud, ud, ud, ud, ud, ud, ud, ud, ud, ud, ud, ud, ud, ud, ud, ud, ud, ud, ud, ud, ud, ud, ud, ud, ud, ud, ud, ud, ud, ud, ud, ud, ud, ud, ud, ud, ud, ud, ud, ud, ud, ud, ud, ud, ud] σ (finR PP Go.Proofs.Tryz.f35.results.toList)
theorem f35_L0_eq (G : GuardT) (hG : GuardOk G) (lo : Nat) (x1 x2 x5 x6 : DV) (σ : Store) : f35_L0 G lo x1 x2 x5 x6 σ =
 (len PP 22 x1 σ).bind fun x9 =>
 (binOp PP .lss 3 x6 x9).bind fun x10 =>
 condK x10
 (
 (binOp PP .gtr 3 x6 (DV.p (PV.int IntKind.i64 (0)))).bind fun x14 =>
 G _ x14 true ((fieldAddr PP 33 x2 1).bind fun v => some (v, σ)) σ fun x16 σ1 =>
 G _ x14 true ((load PP 22 x16 σ1).bind fun v => some (v, σ1)) σ1 fun x17 σ2 =>
 G _ x14 true (some (x1, σ2)) σ2 fun x18 σ3 =>
 G _ x14 true (some (x6, σ3)) σ3 fun x19 σ4 =>
 G _ x14 true ((indexAddr PP 22 x18 x19).bind fun v => some (v, σ4)) σ4 fun x20 σ5 =>
 G _ x14 true ((load PP 3 x20 σ5).bind fun v => some (v, σ5)) σ5 fun x21 σ6 =>
 G _ x14 true ((indexAddr PP 22 x17 x21).bind fun v => some (v, σ6)) σ6 fun x22 σ7 =>
 G _ x14 true ((load PP 3 x22 σ7).bind fun v => some (v, σ7)) σ7 fun x23 σ8 =>
 G _ x14 true ((fieldAddr PP 33 x2 1).bind fun v => some (v, σ8)) σ8 fun x24 σ9 =>
 G _ x14 true ((load PP 22 x24 σ9).bind fun v => some (v, σ9)) σ9 fun x25 σ10 =>
 G _ x14 true (some (x1, σ10)) σ10 fun x26 σ11 =>
 G _ x14 true (some (x6, σ11)) σ11 fun x27 σ12 =>
 G _ x14 true ((binOp PP .sub 3 x27 (DV.p (PV.int IntKind.i64 (1)))).bind fun v => some (v, σ12)) σ12 fun x28 σ13 =>
 G _ x14 true ((indexAddr PP 22 x26 x28).bind fun v => some (v, σ13)) σ13 fun x29 σ14 =>
 G _ x14 true ((load PP 3 x29 σ14).bind fun v => some (v, σ14)) σ14 fun x30 σ15 =>
 G _ x14 true ((indexAddr PP 22 x25 x30).bind fun v => some (v, σ15)) σ15 fun x31 σ16 =>
 G _ x14 true ((load PP 3 x31 σ16).bind fun v => some (v, σ16)) σ16 fun x32 σ17 =>
 G _ x14 true ((binOp PP .eql 3 x23 x32).bind fun v => some (v, σ17)) σ17 fun x33 σ18 =>
 (pickV x14 x33 (DV.p (PV.bool false))).bind fun x34 =>
 G _ x34 true ((fieldAddr PP 33 x2 0).bind fun v => some (v, σ18)) σ18 fun x36 σ19 =>
 G _ x34 true ((load PP 25 x36 σ19).bind fun v => some (v, σ19)) σ19 fun x37 σ20 =>
 G _ x34 true (some (x1, σ20)) σ20 fun x38 σ21 =>
 G _ x34 true (some (x6, σ21)) σ21 fun x39 σ22 =>
 G _ x34 true ((binOp PP .sub 3 x39 (DV.p (PV.int IntKind.i64 (1)))).bind fun v => some (v, σ22)) σ22 fun x40 σ23 =>
 G _ x34 true ((indexAddr PP 22 x38 x40).bind fun v => some (v, σ23)) σ23 fun x41 σ24 =>
 G _ x34 true ((load PP 3 x41 σ24).bind fun v => some (v, σ24)) σ24 fun x42 σ25 =>
 G _ x34 true (some (x1, σ25)) σ25 fun x43 σ26 =>
 G _ x34 true (some (x6, σ26)) σ26 fun x44 σ27 =>
 G _ x34 true ((indexAddr PP 22 x43 x44).bind fun v => some (v, σ27)) σ27 fun x45 σ28 =>
 G _ x34 true ((load PP 3 x45 σ28).bind fun v => some (v, σ28)) σ28 fun x46 σ29 =>
 G _ x34 true ((pureFn CC (DV.fn 70 []) [x37, x42, x46] σ29).bind fun v => some (v, σ29)) σ29 fun x47 σ30 =>
 (pickV x34 x47 (DV.p (PV.bool false))).bind fun x48 =>
 condK x48
 (
 f35_J0 G lo x1 x2 x5 x6 σ30
 )
 (
 (fieldAddr PP 33 x2 1).bind fun x50 =>
 (load PP 22 x50 σ30).bind fun x51 =>
 (indexAddr PP 22 x1 x6).bind fun x54 =>
 (load PP 3 x54 σ30).bind fun x55 =>
 (indexAddr PP 22 x51 x55).bind fun x56 =>
 (load PP 3 x56 σ30).bind fun x57 =>
 (buildSlice PP none 22 1 [(0, x57)] σ30).bind fun r58_31 =>
 (append PP lo false 22 22 x5 r58_31.1 r58_31.2).bind fun r59_32 =>
 f35_J0 G lo x1 x2 r59_32.1 x6 r59_32.2
 )
 )
 (
 some (x5, σ)
 ) := (loopF_eq G hG).trans (by kernel_rfl)
theorem f35_J0_eq (G : GuardT) (lo : Nat) (x1 x2 x5 x6 : DV) (σ : Store) : f35_J0 G lo x1 x2 x5 x6 σ =
 (binOp PP .add 3 x6 (DV.p (PV.int IntKind.i64 (1)))).bind fun x12 =>
 f35_L0 G lo x1 x2 x5 x12 σ := by kernel_rfl
theorem F35_eq (G : GuardT) (lo : Nat) (x0 x1 : DV) (σ : Store) : F35 G lo x0 x1 σ =
 (boxV x0).bind fun z2 =>
 f35_L0 G lo x1 (DV.ptr (List.length σ) 0) (DV.p PV.nilsl) (DV.p (PV.int IntKind.i64 (0))) (σ ++ [Row.mix z2]) := by kernel_rfl
theorem F35_call {lo : Nat} {x0 x1 : DV} {σ : Store} {r : DV × Store} (h : F35 guardT lo x0 x1 σ = some r) : CC lo 35 [x0, x1] σ = some r :=
 callL_run Go.Proofs.Tryz.func35 (by decide +kernel) rfl (by decide +kernel) h
noncomputable def c32_0 : Code := bodyOf Go.Proofs.Tryz.f32
noncomputable def a32_0 : Ann := (pol 32).ann
noncomputable def F32 (G : GuardT) (lo : Nat) (x0 : DV) (σ : Store) : Option (DV × Store) :=
 codeF G PP (pol 32) CC lo c32_0 a32_0 [x0, ud, ud, ud, ud, ud, ud, ud, ud, ud, ud, ud, ud] σ (finR PP Go.Proofs.Tryz.f32.results.toList)
theorem F32_eq (G : GuardT) (lo : Nat) (x0 : DV) (σ : Store) : F32 G lo x0 σ =
 (boxV x0).bind fun z1 =>
 (zeroOf PP 33).bind fun z2 =>
 (fieldAddr PP 33 (DV.ptr (List.length σ) 0) 0).bind fun x3 =>
 (load PP 25 x3 ((σ ++ [Row.mix z1]) ++ [Row.mix z2])).bind fun x4 =>
 (pureFn CC (DV.fn 13 []) [x4] ((σ ++ [Row.mix z1]) ++ [Row.mix z2])).bind fun x5 =>
 (fieldAddr PP 33 (DV.ptr (List.length σ) 0) 1).bind fun x6 =>
 (load PP 22 x6 ((σ ++ [Row.mix z1]) ++ [Row.mix z2])).bind fun x7 =>
 (pureFn CC (DV.fn 16 []) [x7] ((σ ++ [Row.mix z1]) ++ [Row.mix z2])).bind fun x8 =>
 (fieldAddr PP 33 (DV.ptr (List.length σ) 0) 2).bind fun x9 =>
 (load PP 22 x9 ((σ ++ [Row.mix z1]) ++ [Row.mix z2])).bind fun x10 =>
 (pureFn CC (DV.fn 16 []) [x10] ((σ ++ [Row.mix z1]) ++ [Row.mix z2])).bind fun x11 =>
 (build PP 33 [(0, x5), (1, x8), (2, x11)]).bind fun x12 =>
 (store PP lo 33 (DV.ptr (List.length (σ ++ [Row.mix z1])) 0) x12 ((σ ++ [Row.mix z1]) ++ [Row.mix z2])).bind fun σ1 =>
 (cellV PP 33 (DV.ptr (List.length (σ ++ [Row.mix z1])) 0) σ1).bind fun v0 =>
 some (v0, σ1) := by kernel_rfl
theorem F32_call {lo : Nat} {x0 : DV} {σ : Store} {r : DV × Store} (h : F32 guardT lo x0 σ = some r) : CC lo 32 [x0] σ = some r :=
 callL_run Go.Proofs.Tryz.func32 (by decide +kernel) rfl (by decide +kernel) h
end Go.D
end
/- Chapter 22: errors of extended graphs, in the program and in the reference. -/
section
set_option linter.unusedVariables false
set_option linter.unusedSimpArgs false
namespace Go.D
abbrev OI := Option (List Int)
def N (n : Nat) : DV := .p (.int .i64 (n : Nat))
theorem ltT {a b : Int} (h : a < b) : decide (a < b) = true := decide_eq_true h
theorem ltF {a b : Int} (h : ¬ a < b) : decide (a < b) = false := decide_eq_false h
theorem eqT {a b : Int} (h : a = b) : decide (a = b) = true := decide_eq_true h
theorem eqF {a b : Int} (h : ¬ a = b) : decide (a = b) = false := decide_eq_false h
theorem add1 {i : Nat} (h : i ≤ 1000000) : binOp PP .add 3 (.p (.int .i64 (i : Nat))) (.p (.int .i64 1)) = some (.p (.int .i64 ((i + 1 : Nat)))) := by rw [b_add, wrap_succ h]
theorem sub1 {i : Nat} (h0 : 0 < i) (h : i ≤ 1000000) : binOp PP .sub 3 (.p (.int .i64 (i : Nat))) (.p (.int .i64 1)) = some (.p (.int .i64 ((i - 1 : Nat)))) := by
  rw [b_sub, wrap_pred h0 h]
theorem idxL {o : OI} {i : Nat} (h : i < (L o).length) : indexAddr PP 22 (.p (eSl o)) (.p (.int .i64 (i : Nat))) = some (.pptr (eInts (L o)) i) := idx22 h
theorem ldL {o : OI} {i : Nat} (h : i < (L o).length) (σ : Store) : load1 (.pptr (eInts (L o)) i) σ = some (.p (.int .i64 ((L o).getD i 0))) := load1_getD h σ
structure Ax where
  g : Gr
  b : OI
  a : OI
def eAx (x : Ax) : List DV := [.p (pI x.g.n), .p (eSl x.g.init), .p (eEs x.g.edges), .p (eSl x.b), .p (eSl x.a)]
theorem box_ax (x : Ax) : boxV (.agg (eAx x)) = some (eAx x) := rfl
theorem ax_view (x : Ax) : view (.agg (eAx x)) = .agg (eAx x) := by simp [view, viewCell, eAx, loosen_sl, loosen_es, loosen]
theorem fa33_0 (x : DV) : fieldAddr PP 33 x 0 = shiftPtr x 0 := Eq.trans (by kernel_rfl) rfl
theorem fa33_1 (x : DV) : fieldAddr PP 33 x 1 = shiftPtr x 3 := Eq.trans (by kernel_rfl) rfl
theorem fa33_2 (x : DV) : fieldAddr PP 33 x 2 = shiftPtr x 4 := Eq.trans (by kernel_rfl) rfl
theorem load33 (x : DV) (σ : Store) : load PP 33 x σ = (loadN σ 5 x).map .agg := Eq.trans (by kernel_rfl) rfl
theorem zero33 : zeroOf PP 33 = some [.p (pI 0), .p .nilsl, .p .nilsl, .p .nilsl, .p .nilsl] := Eq.trans (by kernel_rfl) rfl
theorem s33 : size? PP 33 = some 5 := Eq.trans (by kernel_rfl) rfl
section
variable {σ : Store} {r : Nat} {x : Ax} (h : σ[r]? = some (.mix (eAx x)))
include h
theorem ax_all : load PP 33 (.ptr r 0) σ = some (.agg (eAx x)) := by rw [load33, loadN_ptr (vs := eAx x) h rfl (by simp [eAx])]; rfl
theorem ax_g : load PP 25 (.ptr r 0) σ = some (.agg (eGr x.g)) := by rw [load25, loadN_ptr (vs := eGr x.g) h rfl (by simp [eAx])]; rfl
theorem ax_n : load PP 3 (.ptr r 0) σ = some (.p (.int .i64 x.g.n)) := by rw [load3, load1_ptr h rfl]
theorem ax_i : load PP 22 (.ptr r 1) σ = some (.p (eSl x.g.init)) := by rw [load22, load1_ptr h rfl]
theorem ax_e : load PP 23 (.ptr r 2) σ = some (.p (eEs x.g.edges)) := by rw [load23, load1_ptr h rfl]
theorem ax_b : load PP 22 (.ptr r 3) σ = some (.p (eSl x.b)) := by rw [load22, load1_ptr h rfl]
theorem ax_a : load PP 22 (.ptr r 4) σ = some (.p (eSl x.a)) := by rw [load22, load1_ptr h rfl]
end
structure XSm (x : Ax) : Prop where
  i : (L x.g.init).length ≤ 1000
  e : (L x.g.edges).length ≤ 10000
  b : (L x.b).length ≤ 1000
  a : (L x.a).length ≤ 1000
def bB (n : Int) : Bool := !inR n 0 399
def bA (n : Int) : Bool := !inR n 0 7
def ascK (b a : List Int) (i : Nat) : Bool := decide (orL [cmpI (b.getD (i - 1) 0) (b.getD i 0), cmpI (a.getD (i - 1) 0) (a.getD i 0)] < 0)
def ascX (b a : List Int) : Bool := allFrom (ascK b a) 1 (b.length - 1)
def lenX (x : Ax) : Bool := decide (((L x.b).length : Int) = x.g.n) && decide (((L x.a).length : Int) = x.g.n)
def badX (x : Ax) : Bool := (L x.b).any bB || (L x.a).any bA
def extE (x : Ax) : Int := if isG x.g = true then (if lenX x = true then (if badX x = true then 3 else if ascX (L x.b) (L x.a) = true then 0 else 13) else 6) else 5
theorem S109 (n : Int) (σ : Store) : pureV CC 109 [.p (pI n)] σ = some (.p (.bool (inR n 0 7))) := by
  refine pureV_free rfl rfl (F109_call (r := (.p (.bool (inR n 0 7)), [])) ?_) rfl
  rw [F109_eq]
  simp only [pureFn_fn, List.append_nil, S88, obind]
theorem S108 (n : Int) (σ : Store) : pureV CC 108 [.p (pI n)] σ = some (.p (.bool (bA n))) := by
  refine pureV_free rfl rfl (F108_call (r := (.p (.bool (bA n)), [])) ?_) rfl
  rw [F108_eq]
  simp only [pureFn_fn, List.append_nil, S109, obind, not_bool, bA]
theorem S57 (n : Int) (σ : Store) : pureV CC 57 [.p (pI n)] σ = some (.p (.bool (inR n 0 7))) := by
  refine pureV_free rfl rfl (F57_call (r := (.p (.bool (inR n 0 7)), [])) ?_) rfl
  rw [F57_eq]
  simp only [pureFn_fn, List.append_nil, S61, obind]
theorem S97 (n : Int) (σ : Store) : pureV CC 97 [.p (pI n)] σ = some (.p (.bool (bB n))) := by
  refine pureV_free rfl rfl (F97_call (r := (.p (.bool (bB n)), [])) ?_) rfl
  rw [F97_eq]
  simp only [pureFn_fn, List.append_nil, S88, obind, not_bool, bB]
theorem S82 {o : OI} {σ : Store} (hl : (L o).length ≤ 1000) : pureV CC 82 [.p (eSl o)] σ = some (.p (.bool (!(L o).any bA))) := by
  refine pureV_free (by simp [sl_view]) rfl (F82_call (r := (.p (.bool (!(L o).any bA)), [])) ?_) rfl
  rw [F82_eq]
  simp only [pureFn_fn, List.append_nil, S86 (q := bA) hl fun σ0 _ v => S108 v σ0, obind, not_bool]
theorem bs22_2 (x y : Int) (σ : Store) : buildSlice PP none 22 2 [(0, .p (.int .i64 x)), (1, .p (.int .i64 y))] σ = some (.p (.sl true 2 (eInts [x, y])), σ) := Eq.trans (by kernel_rfl) rfl
theorem bs143_2 (x y : Int) (σ : Store) : buildSlice PP none 143 2 [(0, .p (pI x)), (1, .p (pI y))] σ = some (.p (.sl true 2 (eInts [x, y])), σ) := Eq.trans (by kernel_rfl) rfl
theorem sl2_view (x y : Int) : view (.p (.sl true 2 (eInts [x, y]))) = .p (eSl (some [x, y])) := by simp [view, viewCell, loosen, loosens_ints, eSl]
theorem S98t (x y : Int) (σ : Store) : pureV CC 98 [.p (.sl true 2 (eInts [x, y]))] σ = some (.p (pI (orL [x, y]))) := by
  rw [pureV_view (args' := [.p (eSl (some [x, y]))]) (by simp [sl2_view]) (by simp [sl_view])]
  exact S98 (o := some [x, y]) (by simp)
theorem S69t (x y u v : Int) (σ : Store) : pureV CC 69 [.p (.sl true 2 (eInts [x, y])), .p (.sl true 2 (eInts [u, v]))] σ = some (.p (pI (firstI [x, y] [u, v]))) := by
  rw [pureV_view (args' := [.p (eSl (some [x, y])), .p (eSl (some [u, v]))]) (by simp [sl2_view]) (by simp [sl_view])]
  exact S69 (a := some [x, y]) (b := some [u, v]) (by simp) (by simp)
theorem first2 (x y u v : Int) : decide (firstI [x, y] [u, v] ≥ 0) = !decide (orL [cmpI x u, cmpI y v] < 0) := by
  simp only [firstI, orL, cmpI, List.length_nil]
  by_cases h1 : x < u
  · have : ¬ x = u := by omega
    simp [h1, this]
  · by_cases h2 : x > u
    · have : ¬ x = u := by omega
      simp [h1, h2, this]
    · have e1 : x = u := by omega
      by_cases h3 : y < v
      · have : ¬ y = v := by omega
        simp [h3, this, e1]
      · by_cases h4 : y > v
        · have : ¬ y = v := by omega
          simp [h3, h4, this, e1]
        · have e2 : y = v := by omega
          simp [e1, e2]
section
variable {σ : Store} {x : Ax} (h : σ[0]? = some (.mix (eAx x))) (hs : XSm x) (hl : (L x.a).length = (L x.b).length)
include h hs
theorem L67_end (lo : Nat) (c b : Bool) (i : Nat) (hi : (L x.b).length ≤ i) : f67_L0 guardT lo (.ptr 0 0) (.p (.bool c)) (.p (.bool b)) (N i) σ = some (.p (pI (if (c || (L x.a).any bA) = true then 3 else if b = true then 0 else 13)), σ) := by
  have hn : ¬ ((i : Int) < ((L x.b).length : Nat)) := by omega
  have h53 : ∀ a d : Int, pureV CC 53 [.p (.sl true 2 (eInts [a, d]))] σ = some (.p (pI (orL [a, d]))) := fun a d => S53t (l := [a, d]) rfl (by simp)
  rw [f67_L0_eq guardT rfl]
  cases c with
  | true =>
    simp only [N, fa33_1, fa33_2, shift_ptr, shift_pptr, Nat.zero_add, Nat.add_zero, pureFn_fn, List.append_nil, List.singleton_append, List.cons_append, List.nil_append, ax_b h, ax_a h, len22, b_lss, ltF hn, guard_tt, guard_ff, guard_tf, guard_ft, guard_sk, obind, omap, pickV_true, pickV_false, condK_true, condK_false, decide_true, decide_false, Bool.not_true, Bool.not_false, not_bool, S73, Bool.false_eq_true, if_false, bs143_2, h53, Bool.true_or, if_true]
    rfl
  | false =>
    simp only [N, fa33_1, fa33_2, shift_ptr, shift_pptr, Nat.zero_add, Nat.add_zero, pureFn_fn, List.append_nil, List.singleton_append, List.cons_append, List.nil_append, ax_b h, ax_a h, len22, b_lss, ltF hn, guard_tt, guard_ff, guard_tf, guard_ft, guard_sk, obind, omap, pickV_true, pickV_false, condK_true, condK_false, decide_true, decide_false, Bool.not_true, Bool.not_false, not_bool, S82 hs.a, S73, bs143_2, h53, Bool.false_or]
    cases (L x.a).any bA <;> cases b <;> rfl
include hl
theorem L67 (lo : Nat) (c : Bool) : ∀ (k i : Nat) (b : Bool), (L x.b).length - i = k → 1 ≤ i → f67_L0 guardT lo (.ptr 0 0) (.p (.bool c)) (.p (.bool b)) (N i) σ =
    some (.p (pI (if (c || (L x.a).any bA) = true then 3 else if (b && allFrom (ascK (L x.b) (L x.a)) i k) = true then 0 else 13)), σ)
  | 0, i, b, hk, hi => by
    rw [L67_end h hs lo c b i (by omega), allFrom, Bool.and_true]
  | k + 1, i, b, hk, hi => by
    have hib : i < (L x.b).length := by omega
    have hia : i < (L x.a).length := by omega
    have hib' : (i : Int) < ((L x.b).length : Nat) := by omega
    have h1000 := hs.b
    have ih := fun b => L67 lo c k (i + 1) b (by omega) (by omega)
    rw [f67_L0_eq guardT rfl, allFrom]
    cases b with
    | false =>
      simp (disch := omega) only [N, fa33_1, shift_ptr, shift_pptr, Nat.zero_add, Nat.add_zero, pureFn_fn, List.append_nil, List.singleton_append, List.cons_append, List.nil_append, ax_b h, len22, b_lss, ltT hib', guard_tt, guard_ff, guard_tf, guard_ft, guard_sk, obind, omap, pickV_true, pickV_false, condK_true, condK_false, decide_true, decide_false, Bool.not_true, Bool.not_false, not_bool, add1]
      refine (ih _).trans ?_
      simp only [Bool.false_and]
    | true =>
      simp (disch := omega) only [N, fa33_1, fa33_2, shift_ptr, shift_pptr, Nat.zero_add, Nat.add_zero, pureFn_fn, List.append_nil, List.singleton_append, List.cons_append, List.nil_append, ax_b h, ax_a h, len22, b_lss, ltT hib', guard_tt, guard_ff, guard_tf, guard_ft, guard_sk, obind, omap, pickV_true, pickV_false, condK_true, condK_false, decide_true, decide_false, Bool.not_true, Bool.not_false, not_bool, sub1, idxL, load3, ldL, S99, bs22_2, S98t, add1]
      refine (ih _).trans ?_
      simp only [Bool.true_and, ascK]
end
theorem extE_ok (x : Ax) : (lenX x = true) ↔ ((L x.b).length : Int) = x.g.n ∧ ((L x.a).length : Int) = x.g.n := by
  simp [lenX]
theorem S67 {x : Ax} {σ : Store} (hs : XSm x) : pureV CC 67 [.agg (eAx x)] σ = some (.p (pI (extE x))) := by
  have g0 : ([Row.mix (eAx x)] : Store)[0]? = some (.mix (eAx x)) := rfl
  have gl : ([Row.mix (eAx x)] : Store).length = 1 := rfl
  refine pureV_free (by simp [ax_view]) rfl (F67_call (r := (.p (pI (extE x)), [.mix (eAx x)])) ?_) rfl
  rw [F67_eq]
  simp only [box_ax, obind, List.length_nil, List.nil_append]
  generalize ([Row.mix (eAx x)] : Store) = τ at *
  have h96 := fun σ => S96 (g := x.g) (σ := σ) hs.i hs.e
  have h53 : ∀ (a d : Int) (σ : Store), pureV CC 53 [.p (.sl true 2 (eInts [a, d]))] σ = some (.p (pI (orL [a, d]))) := fun a d σ => S53t (l := [a, d]) rfl (by simp)
  have hB := fun σ => S86 (o := x.b) (σ := σ) (q := bB) hs.b fun σ0 (_ : AtSt [] σ σ0) v => S97 v σ0
  simp only [fa33_0, fa33_1, fa33_2, fa25_0, shift_ptr, shift_pptr, Nat.zero_add, Nat.add_zero, pureFn_fn, List.append_nil, List.singleton_append, List.cons_append, List.nil_append, ax_g g0, ax_b g0, ax_a g0, ax_n g0, h96, S73, len22, b_eql, guard_tt, guard_ff, guard_tf, guard_ft, guard_sk, obind, omap, pickV_true, pickV_false, condK_true, condK_false, decide_true, decide_false, Bool.not_true, Bool.not_false, not_bool]
  cases hg : isG x.g with
  | false =>
    have e : extE x = 5 := by simp [extE, hg]
    rw [e]
    by_cases h1 : ((L x.b).length : Int) = x.g.n
    · by_cases h2 : ((L x.a).length : Int) = x.g.n
      · simp only [fa33_0, fa33_1, fa33_2, fa25_0, shift_ptr, shift_pptr, Nat.zero_add, Nat.add_zero, pureFn_fn, List.append_nil, List.singleton_append, List.cons_append, List.nil_append, ax_g g0, ax_b g0, ax_a g0, ax_n g0, len22, b_eql, eqT h1, eqT h2, guard_tt, guard_ff, guard_tf, guard_ft, guard_sk, obind, omap, pickV_true, pickV_false, condK_true, condK_false, decide_true, decide_false, Bool.not_true, Bool.not_false, not_bool, bs143_2, h53, b_neq, Bool.false_eq_true, if_false, if_true, orL, S73]
        rfl
      · simp only [fa33_0, fa33_1, fa33_2, fa25_0, shift_ptr, shift_pptr, Nat.zero_add, Nat.add_zero, pureFn_fn, List.append_nil, List.singleton_append, List.cons_append, List.nil_append, ax_g g0, ax_b g0, ax_a g0, ax_n g0, len22, b_eql, eqT h1, eqF h2, guard_tt, guard_ff, guard_tf, guard_ft, guard_sk, obind, omap, pickV_true, pickV_false, condK_true, condK_false, decide_true, decide_false, Bool.not_true, Bool.not_false, not_bool, bs143_2, h53, b_neq, Bool.false_eq_true, if_false, if_true, orL, S73]
        rfl
    · simp only [eqF h1, guard_tt, guard_ff, guard_tf, guard_ft, guard_sk, obind, omap, pickV_true, pickV_false, condK_true, condK_false, decide_true, decide_false, Bool.not_true, Bool.not_false, not_bool, bs143_2, h53, b_neq, Bool.false_eq_true, if_false, if_true, orL, S73]
      rfl
  | true =>
    by_cases h1 : ((L x.b).length : Int) = x.g.n
    · by_cases h2 : ((L x.a).length : Int) = x.g.n
      · have hl : (L x.a).length = (L x.b).length := by omega
        have e : extE x = if ((L x.b).any bB || (L x.a).any bA) = true then 3 else if (true && allFrom (ascK (L x.b) (L x.a)) 1 ((L x.b).length - 1)) = true then 0 else 13 := by
          rw [extE, if_pos hg, if_pos ((extE_ok x).2 ⟨h1, h2⟩)]; rfl
        have hL := L67 g0 hs hl 0 ((L x.b).any bB) ((L x.b).length - 1) 1 true rfl (Nat.le_refl _)
        rw [← e] at hL
        have hL : f67_L0 guardT 0 (.ptr 0 0) (.p (.bool ((L x.b).any bB))) (.p (.bool true)) (.p (.int .i64 1)) τ = some (.p (pI (extE x)), τ) := hL
        simp only [fa33_0, fa33_1, fa33_2, fa25_0, shift_ptr, shift_pptr, Nat.zero_add, Nat.add_zero, pureFn_fn, List.append_nil, List.singleton_append, List.cons_append, List.nil_append, ax_g g0, ax_b g0, ax_a g0, ax_n g0, len22, b_eql, eqT h1, eqT h2, guard_tt, guard_ff, guard_tf, guard_ft, guard_sk, obind, omap, pickV_true, pickV_false, condK_true, condK_false, decide_true, decide_false, Bool.not_true, Bool.not_false, not_bool, bs143_2, h53, b_neq, if_true, orL, S73, hB, hL, eqT (rfl : (0 : Int) = 0)]
      · have e : extE x = 6 := by
          rw [extE, if_pos hg, if_neg (fun h => h2 ((extE_ok x).1 h).2)]
        rw [e]
        simp only [fa33_0, fa33_1, fa33_2, fa25_0, shift_ptr, shift_pptr, Nat.zero_add, Nat.add_zero, pureFn_fn, List.append_nil, List.singleton_append, List.cons_append, List.nil_append, ax_g g0, ax_b g0, ax_a g0, ax_n g0, len22, b_eql, eqT h1, eqF h2, guard_tt, guard_ff, guard_tf, guard_ft, guard_sk, obind, omap, pickV_true, pickV_false, condK_true, condK_false, decide_true, decide_false, Bool.not_true, Bool.not_false, not_bool, bs143_2, h53, b_neq, Bool.false_eq_true, if_false, if_true, orL, S73]
        rfl
    · have e : extE x = 6 := by
        rw [extE, if_pos hg, if_neg (fun h => h1 ((extE_ok x).1 h).1)]
      rw [e]
      simp only [eqF h1, guard_tt, guard_ff, guard_tf, guard_ft, guard_sk, obind, omap, pickV_true, pickV_false, condK_true, condK_false, decide_true, decide_false, Bool.not_true, Bool.not_false, not_bool, bs143_2, h53, b_neq, Bool.false_eq_true, if_false, if_true, orL, S73]
      rfl

/-! ### The reference -/
section
variable {σ : Store} {x : Ax} (h : σ[0]? = some (.mix (eAx x))) (hs : XSm x) (hl : (L x.a).length = (L x.b).length)
include h hs hl
theorem L33_1 (lo : Nat) : ∀ (k i : Nat), (L x.b).length - i = k → 1 ≤ i → f33_L1 guardT lo (.ptr 0 0) (N i) σ = some (.p (pI (if allFrom (ascK (L x.b) (L x.a)) i k = true then 0 else 13)), σ)
  | 0, i, hk, hi => by
    have hn : ¬ ((i : Int) < ((L x.b).length : Nat)) := by omega
    rw [f33_L1_eq guardT rfl]
    simp only [N, fa33_1, shift_ptr, shift_pptr, Nat.zero_add, Nat.add_zero, pureFn_fn, List.append_nil, List.singleton_append, List.cons_append, List.nil_append, ax_b h, len22, b_lss, ltF hn, guard_tt, guard_ff, guard_tf, guard_ft, guard_sk, obind, omap, pickV_true, pickV_false, condK_true, condK_false, decide_true, decide_false, Bool.not_true, Bool.not_false, not_bool, allFrom, if_true]
  | k + 1, i, hk, hi => by
    have hib : i < (L x.b).length := by omega
    have hia : i < (L x.a).length := by omega
    have hib' : (i : Int) < ((L x.b).length : Nat) := by omega
    have h1000 := hs.b
    have ih := L33_1 lo k (i + 1) (by omega) (by omega)
    rw [f33_L1_eq guardT rfl, allFrom]
    simp (disch := omega) only [N, fa33_1, fa33_2, shift_ptr, shift_pptr, Nat.zero_add, Nat.add_zero, pureFn_fn, List.append_nil, List.singleton_append, List.cons_append, List.nil_append, ax_b h, ax_a h, len22, b_lss, ltT hib', guard_tt, guard_ff, guard_tf, guard_ft, guard_sk, obind, omap, pickV_true, pickV_false, condK_true, condK_false, decide_true, decide_false, Bool.not_true, Bool.not_false, not_bool, sub1, idxL, load3, ldL, bs22_2, S69t, b_geq, first2]
    have e : ascK (L x.b) (L x.a) i = decide (orL [cmpI ((L x.b).getD (i - 1) 0) ((L x.b).getD i 0), cmpI ((L x.a).getD (i - 1) 0) ((L x.a).getD i 0)] < 0) := rfl
    rw [← e]
    cases ascK (L x.b) (L x.a) i with
    | false => simp only [guard_tt, guard_ff, guard_tf, guard_ft, guard_sk, obind, omap, pickV_true, pickV_false, condK_true, condK_false, decide_true, decide_false, Bool.not_true, Bool.not_false, not_bool, Bool.false_and, Bool.false_eq_true, if_false]
    | true =>
      simp (disch := omega) only [guard_tt, guard_ff, guard_tf, guard_ft, guard_sk, obind, omap, pickV_true, pickV_false, condK_true, condK_false, decide_true, decide_false, Bool.not_true, Bool.not_false, not_bool, add1, Bool.true_and]
      exact ih
theorem L33_0 (lo : Nat) : ∀ (k i : Nat), (L x.b).length - i = k → i ≤ (L x.b).length → f33_L0 guardT lo (.ptr 0 0) (N i) σ =
    some (.p (pI (if ((L x.b).drop i).any bB = true ∨ ((L x.a).drop i).any bA = true then 3 else if ascX (L x.b) (L x.a) = true then 0 else 13)), σ)
  | 0, i, hk, hi => by
    have hn : ¬ ((i : Int) < ((L x.b).length : Nat)) := by omega
    have hL := L33_1 h hs hl lo ((L x.b).length - 1) 1 rfl (Nat.le_refl _)
    have hL : f33_L1 guardT lo (.ptr 0 0) (.p (.int .i64 1)) σ = _ := hL
    rw [f33_L0_eq guardT rfl, List.drop_of_length_le (by omega), List.drop_of_length_le (by omega)]
    simp only [N, fa33_1, shift_ptr, shift_pptr, Nat.zero_add, Nat.add_zero, pureFn_fn, List.append_nil, List.singleton_append, List.cons_append, List.nil_append, ax_b h, len22, b_lss, ltF hn, guard_tt, guard_ff, guard_tf, guard_ft, guard_sk, obind, omap, pickV_true, pickV_false, condK_true, condK_false, decide_true, decide_false, Bool.not_true, Bool.not_false, not_bool, hL, ascX, List.any_nil, Bool.false_eq_true, or_self, if_false]
    rfl
  | k + 1, i, hk, hi => by
    have hib : i < (L x.b).length := by omega
    have hia : i < (L x.a).length := by omega
    have hib' : (i : Int) < ((L x.b).length : Nat) := by omega
    have h1000 := hs.b
    have ih := L33_0 lo k (i + 1) (by omega) (by omega)
    have eb : (L x.b).drop i = (L x.b).getD i 0 :: (L x.b).drop (i + 1) := by rw [getD_at 0 hib]; exact List.drop_eq_getElem_cons hib
    have ea : (L x.a).drop i = (L x.a).getD i 0 :: (L x.a).drop (i + 1) := by rw [getD_at 0 hia]; exact List.drop_eq_getElem_cons hia
    rw [f33_L0_eq guardT rfl, eb, ea, List.any_cons, List.any_cons]
    simp (disch := omega) only [N, fa33_1, fa33_2, shift_ptr, shift_pptr, Nat.zero_add, Nat.add_zero, pureFn_fn, List.append_nil, List.singleton_append, List.cons_append, List.nil_append, ax_b h, ax_a h, len22, b_lss, ltT hib', guard_tt, guard_ff, guard_tf, guard_ft, guard_sk, obind, omap, pickV_true, pickV_false, condK_true, condK_false, decide_true, decide_false, Bool.not_true, Bool.not_false, not_bool, idxL, load3, ldL, S61, not_bool]
    have e1 : bB ((L x.b).getD i 0) = !inR ((L x.b).getD i 0) 0 399 := rfl
    have e2 : bA ((L x.a).getD i 0) = !inR ((L x.a).getD i 0) 0 7 := rfl
    rw [e1, e2]
    cases inR ((L x.b).getD i 0) 0 399 with
    | false => simp only [guard_tt, guard_ff, guard_tf, guard_ft, guard_sk, obind, omap, pickV_true, pickV_false, condK_true, condK_false, decide_true, decide_false, Bool.not_true, Bool.not_false, not_bool, Bool.true_or, true_or, if_true]
    | true =>
      simp (disch := omega) only [guard_tt, guard_ff, guard_tf, guard_ft, guard_sk, obind, omap, pickV_true, pickV_false, condK_true, condK_false, decide_true, decide_false, Bool.not_true, Bool.not_false, not_bool, fa33_2, shift_ptr, shift_pptr, Nat.zero_add, Nat.add_zero, pureFn_fn, List.append_nil, List.singleton_append, List.cons_append, List.nil_append, ax_a h, idxL, load3, ldL, S57, not_bool, Bool.false_or]
      cases inR ((L x.a).getD i 0) 0 7 with
      | false => simp only [guard_tt, guard_ff, guard_tf, guard_ft, guard_sk, obind, omap, pickV_true, pickV_false, condK_true, condK_false, decide_true, decide_false, Bool.not_true, Bool.not_false, not_bool, Bool.true_or, or_true, if_true]
      | true =>
        simp (disch := omega) only [guard_tt, guard_ff, guard_tf, guard_ft, guard_sk, obind, omap, pickV_true, pickV_false, condK_true, condK_false, decide_true, decide_false, Bool.not_true, Bool.not_false, not_bool, add1, Bool.false_or]
        exact ih
end
theorem S33 {x : Ax} {σ : Store} (hs : XSm x) : pureV CC 33 [.agg (eAx x)] σ = some (.p (pI (extE x))) := by
  have g0 : ([Row.mix (eAx x)] : Store)[0]? = some (.mix (eAx x)) := rfl
  refine pureV_free (by simp [ax_view]) rfl (F33_call (r := (.p (pI (extE x)), [.mix (eAx x)])) ?_) rfl
  rw [F33_eq]
  simp only [box_ax, obind, List.length_nil, List.nil_append]
  generalize ([Row.mix (eAx x)] : Store) = τ at *
  have h56 := fun σ => S56 (g := x.g) (σ := σ) hs.i hs.e
  simp only [fa33_0, fa33_1, fa33_2, fa25_0, shift_ptr, shift_pptr, Nat.zero_add, Nat.add_zero, pureFn_fn, List.append_nil, List.singleton_append, List.cons_append, List.nil_append, ax_g g0, h56, guard_tt, guard_ff, guard_tf, guard_ft, guard_sk, obind, omap, pickV_true, pickV_false, condK_true, condK_false, decide_true, decide_false, Bool.not_true, Bool.not_false, not_bool]
  cases hg : isG x.g with
  | false =>
    have e : extE x = 5 := by simp [extE, hg]
    rw [e]
    simp only [guard_tt, guard_ff, guard_tf, guard_ft, guard_sk, obind, omap, pickV_true, pickV_false, condK_true, condK_false, decide_true, decide_false, Bool.not_true, Bool.not_false, not_bool]
  | true =>
    simp only [guard_tt, guard_ff, guard_tf, guard_ft, guard_sk, obind, omap, pickV_true, pickV_false, condK_true, condK_false, decide_true, decide_false, Bool.not_true, Bool.not_false, not_bool, ax_b g0, ax_n g0, len22, b_neq]
    by_cases h1 : ((L x.b).length : Int) = x.g.n
    · simp only [eqT h1, guard_tt, guard_ff, guard_tf, guard_ft, guard_sk, obind, omap, pickV_true, pickV_false, condK_true, condK_false, decide_true, decide_false, Bool.not_true, Bool.not_false, not_bool, fa33_0, fa33_2, fa25_0, shift_ptr, shift_pptr, Nat.zero_add, Nat.add_zero, pureFn_fn, List.append_nil, List.singleton_append, List.cons_append, List.nil_append, ax_a g0, ax_n g0, len22, b_neq]
      by_cases h2 : ((L x.a).length : Int) = x.g.n
      · have hl : (L x.a).length = (L x.b).length := by omega
        have hL := L33_0 g0 hs hl 0 _ 0 rfl (Nat.zero_le _)
        simp only [List.drop_zero] at hL
        have e : extE x = if (L x.b).any bB = true ∨ (L x.a).any bA = true then 3 else if ascX (L x.b) (L x.a) = true then 0 else 13 := by
          rw [extE, if_pos hg, if_pos ((extE_ok x).2 ⟨h1, h2⟩), badX]
          simp only [Bool.or_eq_true]
        have hL : f33_L0 guardT 0 (.ptr 0 0) (.p (.int .i64 0)) τ = _ := hL
        rw [e]
        simp only [eqT h2, guard_tt, guard_ff, guard_tf, guard_ft, guard_sk, obind, omap, pickV_true, pickV_false, condK_true, condK_false, decide_true, decide_false, Bool.not_true, Bool.not_false, not_bool, hL]
      · have e : extE x = 6 := by
          rw [extE, if_pos hg, if_neg (fun h => h2 ((extE_ok x).1 h).2)]
        rw [e]
        simp only [eqF h2, guard_tt, guard_ff, guard_tf, guard_ft, guard_sk, obind, omap, pickV_true, pickV_false, condK_true, condK_false, decide_true, decide_false, Bool.not_true, Bool.not_false, not_bool]
    · have e : extE x = 6 := by
        rw [extE, if_pos hg, if_neg (fun h => h1 ((extE_ok x).1 h).1)]
      rw [e]
      simp only [eqF h1, guard_tt, guard_ff, guard_tf, guard_ft, guard_sk, obind, omap, pickV_true, pickV_false, condK_true, condK_false, decide_true, decide_false, Bool.not_true, Bool.not_false, not_bool]
end Go.D
end
/- What a call's arguments are: plain data of any type without pointers, as values of D. For any program. -/
section
set_option linter.unusedVariables false
set_option linter.unusedSimpArgs false
namespace Go.D

mutual
inductive Plain (P : Program) : TypeId → List PV → Prop where
  | bool {t : TypeId} (h : P.underlying t = some .bool) (b : Bool) : Plain P t [.bool b]
  | int {t : TypeId} {k : IntKind} (h : P.underlying t = some (.int k)) (n : Int) (hw : (Lit.int k n).wf = true) : Plain P t [.int k n]
  | str {t : TypeId} (h : P.underlying t = some .string) (s : ByteArray) (hs : s.size ≤ maxLen) : Plain P t [.str s]
  | nilsl {t e : TypeId} (h : P.underlying t = some (.slice e)) : Plain P t [.nilsl]
  | sl {t e : TypeId} (h : P.underlying t = some (.slice e)) (n : Nat) (cs : List PV) (hx : PlainL P (List.replicate n e) cs) : Plain P t [.sl false n cs]
  | struct {t : TypeId} {fs : Array Field} (h : P.underlying t = some (.struct fs)) (cs : List PV) (hx : PlainL P (fs.toList.map (·.type)) cs) : Plain P t cs
  | array {t e : TypeId} {n : Nat} (h : P.underlying t = some (.array n e)) (cs : List PV) (hx : PlainL P (List.replicate n e) cs) : Plain P t cs
inductive PlainL (P : Program) : List TypeId → List PV → Prop where
  | nil : PlainL P [] []
  | cons {t : TypeId} {ts : List TypeId} {a b : List PV} (h : Plain P t a) (hs : PlainL P ts b) : PlainL P (t :: ts) (a ++ b)
end

/-! ### Taking apart -/
section
variable {P : Program} {t e : TypeId} {k : IntKind} {cs : List PV}
theorem Plain.inv_int (hu : P.underlying t = some (.int k)) (h : Plain P t cs) : ∃ n, (Lit.int k n).wf = true ∧ cs = [.int k n] := by
  cases h with
  | int h n hw =>
    rw [hu] at h
    injection h with h
    injection h with h
    exact ⟨n, by rw [h]; exact hw, by rw [h]⟩
  | _ h => rw [hu] at h; injection h with h; exact absurd h (by simp)
theorem Plain.inv_bool (hu : P.underlying t = some .bool) (h : Plain P t cs) : ∃ b, cs = [.bool b] := by
  cases h with
  | bool h b => exact ⟨b, rfl⟩
  | _ h => rw [hu] at h; injection h with h; exact absurd h (by simp)
theorem Plain.inv_str (hu : P.underlying t = some .string) (h : Plain P t cs) : ∃ s, s.size ≤ maxLen ∧ cs = [.str s] := by
  cases h with
  | str h s hs => exact ⟨s, hs, rfl⟩
  | _ h => rw [hu] at h; injection h with h; exact absurd h (by simp)
theorem Plain.inv_slice (hu : P.underlying t = some (.slice e)) (h : Plain P t cs) : cs = [.nilsl] ∨ ∃ n xs, PlainL P (List.replicate n e) xs ∧ cs = [.sl false n xs] := by
  cases h with
  | nilsl h => exact .inl rfl
  | sl h n xs hx =>
    rw [hu] at h
    injection h with h
    injection h with h
    exact .inr ⟨n, xs, by rw [h]; exact hx, rfl⟩
  | _ h => rw [hu] at h; injection h with h; exact absurd h (by simp)
theorem Plain.inv_struct {fs : Array Field} (hu : P.underlying t = some (.struct fs)) (h : Plain P t cs) : PlainL P (fs.toList.map (·.type)) cs := by
  cases h with
  | struct h xs hx =>
    rw [hu] at h
    injection h with h
    injection h with h
    rw [h]; exact hx
  | _ h => rw [hu] at h; injection h with h; exact absurd h (by simp)
theorem Plain.inv_array {n : Nat} (hu : P.underlying t = some (.array n e)) (h : Plain P t cs) : PlainL P (List.replicate n e) cs := by
  cases h with
  | array h xs hx =>
    rw [hu] at h
    injection h with h
    injection h with h1 h2
    rw [h1, h2]; exact hx
  | _ h => rw [hu] at h; injection h with h; exact absurd h (by simp)
theorem PlainL.inv_nil (h : PlainL P [] cs) : cs = [] := by cases h; rfl
theorem PlainL.inv_cons {ts : List TypeId} (h : PlainL P (t :: ts) cs) : ∃ a b, Plain P t a ∧ PlainL P ts b ∧ cs = a ++ b := by
  cases h with
  | cons h hs => exact ⟨_, _, h, hs, rfl⟩
theorem PlainL.inv_rep {α : Type} {f : α → List PV} (hf : ∀ a, Plain P t a → ∃ x, a = f x) : ∀ {n : Nat} {cs : List PV}, PlainL P (List.replicate n t) cs → ∃ xs : List α, xs.length = n ∧ cs = xs.flatMap f
  | 0, cs, h => ⟨[], rfl, h.inv_nil⟩
  | n + 1, cs, h => by
    obtain ⟨a, b, h1, h2, rfl⟩ := PlainL.inv_cons (ts := List.replicate n t) h
    obtain ⟨x, rfl⟩ := hf a h1
    obtain ⟨xs, h3, rfl⟩ := PlainL.inv_rep hf h2
    exact ⟨x :: xs, by simp [h3], by simp⟩
end

/-! ### Types that are read -/
def layOk (P : Program) (ok : TypeId → Bool) (total : Nat) : Nat → List Field → Bool
  | off, [] => off == total
  | off, f :: fs => f.offset == off && ok f.type && layOk P ok total (off + P.cellsOf f.type) fs
def plainTy (P : Program) : Nat → TypeId → Bool
  | 0, _ => false
  | n + 1, t => match P.underlying t with
    | some .bool | some (.int _) | some .string => true
    | some (.slice e) => decide (0 < P.cellsOf e) && plainTy P n e
    | some (.struct fs) => layOk P (plainTy P n) (P.cellsOf t) 0 fs.toList
    | some (.array m e) => m * P.cellsOf e == P.cellsOf t && plainTy P n e
    | _ => false

section
variable {H : Type} {enc : TypeId × Value → H} {W : World} {P : Program} {hd : Bool}
abbrev memR (W : World) : Mem := fun b o => W.cell? ⟨b, o, none⟩

theorem spot_cell {a : Addr} {v : Value} (h : W.cell? a = some v) : a.spot = none := by
  unfold World.cell? at h
  split at h
  · split at h
    · exact absurd h (by simp)
    · rename_i hs
      cases e : a.spot with
      | none => rfl
      | some s => rw [e] at hs; exact absurd rfl hs
  · exact absurd h (by simp)
theorem addr_eq {a : Addr} {n : Nat} (h : a.spot = none) : a.add n = ⟨a.block, a.off + n, none⟩ := by
  cases a with
  | mk b o s => cases h; exact Addr.add_mid b o n

/-- Cells of pure values that stand for values. -/
def RelL (M : Mem) (ps : List PV) (vs : List Value) : Prop := ps.length = vs.length ∧ ∀ j (h1 : j < ps.length) (h2 : j < vs.length), PRel M ps[j] vs[j]

theorem RelL.append {M : Mem} {a c : List PV} {b d : List Value} (h : RelL M a b) (h2 : RelL M c d) : RelL M (a ++ c) (b ++ d) := by
  refine ⟨by simp [h.1, h2.1], fun j h3 h4 => ?_⟩
  by_cases hj : j < a.length
  · rw [List.getElem_append_left hj, List.getElem_append_left (by rw [← h.1]; exact hj)]
    exact h.2 j hj _
  · rw [List.getElem_append_right (by omega), List.getElem_append_right (by rw [← h.1]; omega)]
    have e : j - b.length = j - a.length := by rw [h.1]
    simp only [e]
    refine h2.2 _ (by simp at h3; omega) ?_
/-- Elements one after another. -/
theorem elems_read {e : TypeId} {sz : Nat} {b : Nat} : ∀ (n o : Nat),
    (∀ i, i < n → ∃ ps vs, Plain P e ps ∧ vs.length = sz ∧ RelL (memR W) ps vs ∧ ∀ j (h : j < vs.length), W.cell? ⟨b, o + i * sz + j, none⟩ = some vs[j]) →
    ∃ cs vs, PlainL P (List.replicate n e) cs ∧ vs.length = n * sz ∧ RelL (memR W) cs vs ∧ ∀ j (h : j < vs.length), W.cell? ⟨b, o + j, none⟩ = some vs[j]
  | 0, o, h => ⟨[], [], .nil, by simp, ⟨rfl, fun j h1 _ => absurd h1 (by simp)⟩, fun j h => absurd h (by simp)⟩
  | n + 1, o, h => by
    obtain ⟨ps, vs, h1, h2, h3, h4⟩ := h 0 (by omega)
    obtain ⟨cs, ws, g1, g2, g3, g4⟩ := elems_read n (o + sz) fun i hi => by
      obtain ⟨ps, vs, k1, k2, k3, k4⟩ := h (i + 1) (by omega)
      refine ⟨ps, vs, k1, k2, k3, fun j hj => ?_⟩
      have : o + sz + i * sz + j = o + (i + 1) * sz + j := by rw [Nat.add_mul]; omega
      rw [this]
      exact k4 j hj
    refine ⟨ps ++ cs, vs ++ ws, .cons h1 g1, by simp [h2, g2, Nat.add_mul]; omega, h3.append g3, fun j hj => ?_⟩
    by_cases hjv : j < vs.length
    · rw [List.getElem_append_left hjv]
      have := h4 j hjv
      simpa using this
    · rw [List.getElem_append_right (by omega)]
      have := g4 (j - vs.length) (by simp at hj; omega)
      have e2 : o + sz + (j - vs.length) = o + j := by omega
      rwa [e2] at this
theorem layOk_le {ok : TypeId → Bool} {total : Nat} : ∀ (fs : List Field) (off : Nat), layOk P ok total off fs = true → off ≤ total
  | [], off, h => by
    have : off = total := by simpa [layOk] using h
    omega
  | f :: fs, off, h => by
    simp only [layOk, Bool.and_eq_true] at h
    have := layOk_le fs _ h.2
    omega
theorem fields_read {ok : TypeId → Bool} {total : Nat} {cs : List Value} (hc : cs.length = total) : ∀ (fs : List Field) (off : Nat), layOk P ok total off fs = true →
    (∀ f ∈ fs, ok f.type = true → ∃ ps, Plain P f.type ps ∧ RelL (memR W) ps ((cs.drop f.offset).take (P.cellsOf f.type))) →
    ∃ ps, PlainL P (fs.map (·.type)) ps ∧ RelL (memR W) ps (cs.drop off)
  | [], off, h, hf => by
    have : off = total := by simpa [layOk] using h
    refine ⟨[], .nil, ?_⟩
    rw [List.drop_eq_nil_of_le (by omega)]
    exact ⟨rfl, fun j h1 _ => absurd h1 (by simp)⟩
  | f :: fs, off, h, hf => by
    simp only [layOk, Bool.and_eq_true, beq_iff_eq] at h
    obtain ⟨⟨h1, h2⟩, h3⟩ := h
    obtain ⟨ps, g1, g2⟩ := hf f (by simp) h2
    obtain ⟨qs, k1, k2⟩ := fields_read hc fs _ h3 fun g hg => hf g (by simp [hg])
    refine ⟨ps ++ qs, .cons g1 k1, ?_⟩
    have e : cs.drop off = (cs.drop off).take (P.cellsOf f.type) ++ cs.drop (off + P.cellsOf f.type) := by
      rw [← List.drop_drop, List.take_append_drop]
    rw [h1] at g2
    rw [e]
    exact g2.append k2
theorem parts_read {e : TypeId} {sz : Nat} {cs : List Value} : ∀ (n off : Nat), cs.length = off + n * sz →
    (∀ i, i < n → ∃ ps, Plain P e ps ∧ RelL (memR W) ps ((cs.drop (off + i * sz)).take sz)) → ∃ ps, PlainL P (List.replicate n e) ps ∧ RelL (memR W) ps (cs.drop off)
  | 0, off, hc, h => by
    refine ⟨[], .nil, ?_⟩
    rw [List.drop_eq_nil_of_le (by omega)]
    exact ⟨rfl, fun j h1 _ => absurd h1 (by simp)⟩
  | n + 1, off, hc, h => by
    obtain ⟨ps, g1, g2⟩ := h 0 (by omega)
    obtain ⟨qs, k1, k2⟩ := parts_read (sz := sz) n (off + sz) (by rw [hc, Nat.add_mul]; omega) fun i hi => by
      obtain ⟨ps, a1, a2⟩ := h (i + 1) (by omega)
      refine ⟨ps, a1, ?_⟩
      have : off + (i + 1) * sz = off + sz + i * sz := by rw [Nat.add_mul]; omega
      rwa [this] at a2
    refine ⟨ps ++ qs, .cons g1 k1, ?_⟩
    have e : cs.drop off = (cs.drop off).take sz ++ cs.drop (off + sz) := by
      rw [← List.drop_drop, List.take_append_drop]
    rw [Nat.zero_mul, Nat.add_zero] at g2
    rw [e]
    exact g2.append k2

theorem read_plain : ∀ (m fuel : Nat) (t : TypeId) (cs : List Value) (x : DataW H × List MemPlace), plainTy P m t = true → DataW.trod enc P W 0 (fun _ => true) hd fuel t cs = some x → ∃ ps, Plain P t ps ∧ RelL (memR W) ps cs
  | 0, _, _, _, _, hp, _ => by simp [plainTy] at hp
  | m + 1, fuel, t, cs, x, hp, h => by
    unfold plainTy at hp
    split at hp
    · rename_i hu
      obtain ⟨b, rfl, _⟩ := DataW.trod_bool hu h
      refine ⟨[.bool b], .bool hu b, rfl, fun j h1 h2 => ?_⟩
      match j, h1 with
      | 0, _ => exact .bool b
    · rename_i k hu
      obtain ⟨n, rfl, _, hw⟩ := DataW.trod_int hu h
      refine ⟨[.int k n], .int hu n hw, rfl, fun j h1 h2 => ?_⟩
      match j, h1 with
      | 0, _ => exact .int k n
    · rename_i hu
      obtain ⟨s, rfl, _, hs⟩ := DataW.trod_string hu h
      refine ⟨[.str s], .str hu s hs, rfl, fun j h1 h2 => ?_⟩
      match j, h1 with
      | 0, _ => exact .str s
    · rename_i e hu
      simp only [Bool.and_eq_true, decide_eq_true_eq] at hp
      obtain ⟨hsz, hpe⟩ := hp
      rcases DataW.trod_slice hu h with ⟨rfl, _⟩ | ⟨a, len, cap, elems, rest, n, _, rfl, _, _, hl, hm, hlen, hel, hrest, _⟩
      · refine ⟨[.nilsl], .nilsl hu, rfl, fun j h1 h2 => ?_⟩
        match j, h1 with
        | 0, _ => exact .nilsl
      · have hrest := hrest rfl
        have hspot : cap ≠ 0 → a.spot = none := by
          intro hc
          have key : ∃ cs, W.cells? 0 (a.add 0) (P.cellsOf e) = some cs := by
            by_cases h0 : 0 < len
            · have h1 := hel 0 h0
              rw [List.getElem?_eq_getElem (by omega)] at h1
              obtain ⟨cs, h2, _⟩ := Option.bind_eq_some_iff.1 h1
              exact ⟨cs, by simpa using h2⟩
            · have h1 := hrest.2 0 (by omega)
              rw [List.getElem?_eq_getElem (by omega)] at h1
              obtain ⟨cs, h2, _⟩ := Option.bind_eq_some_iff.1 h1
              have hl0 : len = 0 := by omega
              exact ⟨cs, by simpa [hl0] using h2⟩
          obtain ⟨cs, h2⟩ := key
          obtain ⟨_, h3, h4⟩ := World.cells?_some h2
          have h5 := h4 0 hsz
          rw [List.getElem?_eq_getElem (by omega)] at h5
          exact spot_cell (a := a) h5
        obtain ⟨ps, vs, g1, g2, g3, g4⟩ := elems_read (P := P) (W := W) (e := e) (sz := P.cellsOf e) (b := a.block) len a.off fun i hi => by
          have h1 := hel i hi
          rw [List.getElem?_eq_getElem (by omega)] at h1
          obtain ⟨vs, h2, h3⟩ := Option.bind_eq_some_iff.1 h1
          obtain ⟨ps, k1, k2⟩ := read_plain m n e vs _ hpe h3
          obtain ⟨_, h5, h4⟩ := World.cells?_some h2
          refine ⟨ps, vs, k1, h5, k2, fun j hj => ?_⟩
          have h6 := h4 j (by omega)
          have hs := hspot (by omega)
          rw [addr_eq hs, addr_eq rfl, List.getElem?_eq_getElem hj] at h6
          exact h6
        refine ⟨[.sl false len ps], .sl hu len ps g1, rfl, fun j h1 h2 => ?_⟩
        match j, h1 with
        | 0, _ =>
          refine .sl (fun j => vs.getD j Go.undef) hspot hl (by simp) (fun j hj => ?_) (fun j hj => ?_)
          · have hj2 : j < vs.length := by rw [← g3.1]; exact hj
            show W.cell? _ = _
            rw [List.getD_eq_getElem?_getD, List.getElem?_eq_getElem hj2]
            exact g4 j hj2
          · have hj2 : j < vs.length := by rw [← g3.1]; exact hj
            rw [List.getD_eq_getElem?_getD, List.getElem?_eq_getElem hj2]
            exact g3.2 j hj hj2
    · rename_i fs hu
      obtain ⟨xs, n, _, _, hl, hlen, hf⟩ := DataW.trod_struct hu h
      obtain ⟨ps, g1, g2⟩ := fields_read (P := P) (W := W) hl fs.toList 0 hp fun f hfm hok => by
        obtain ⟨i, hi, rfl⟩ := List.getElem_of_mem hfm
        have hi2 : i < fs.size := by simpa using hi
        have h1 := hf i fs[i] (by simp [hi2])
        rw [List.getElem?_eq_getElem (by omega)] at h1
        simp only [Array.getElem_toList] at hok ⊢
        obtain ⟨ps, k1, k2⟩ := read_plain m n _ _ _ hok h1
        exact ⟨ps, k1, k2⟩
      exact ⟨ps, .struct hu ps g1, g2⟩
    · rename_i k e hu
      simp only [Bool.and_eq_true, beq_iff_eq] at hp
      obtain ⟨xs, n, _, _, hl, hlen, hf⟩ := DataW.trod_array hu h
      obtain ⟨ps, g1, g2⟩ := parts_read (P := P) (W := W) (e := e) (sz := P.cellsOf e) (cs := cs) k 0 (by rw [hl, ← hp.1]; omega) fun i hi => by
        have h1 := hf i hi
        rw [List.getElem?_eq_getElem (by omega)] at h1
        obtain ⟨ps, k1, k2⟩ := read_plain m n _ _ _ hp.2 h1
        rw [Nat.zero_add]
        exact ⟨ps, k1, k2⟩
      exact ⟨ps, .array hu ps g1, g2⟩
    · exact absurd hp (by simp)

/-! ### Arguments -/
theorem relL_agg {ps : List PV} {vs : Array Value} (h : RelL (memR W) ps vs.toList) : VRel (fun _ _ => none) (memR W) (.agg (ps.map .p)) (.agg vs) := by
  refine .agg (by have := h.1; simp at this; simp [this]) fun j h1 h2 => ?_
  have := h.2 j (by simpa using h1) (by simpa using h2)
  simp only [List.getElem_map]
  exact .p (by simpa using this)
theorem relL_one {p : PV} {v : Value} (h : RelL (memR W) [p] [v]) : VRel (fun _ _ => none) (memR W) (.p p) v := .p (h.2 0 (by simp) (by simp))
variable {r : Reach} {b0 : Nat} {v : Value} {d : DataW H} {ps : List MemPlace} {t : TypeId}
theorem read_struct {fs : Array Field} (m : Nat) (hu : P.underlying t = some (.struct fs)) (hp : plainTy P m t = true) (hok : Value.okWide P W r b0 t v) (h : DataW.Trod enc P W 0 (fun _ => true) hd t v d ps) :
    ∃ cs, Plain P t cs ∧ VRel (fun _ _ => none) (memR W) (.agg (cs.map .p)) v := by
  simp only [Value.okWide, hu] at hok
  obtain ⟨vs, rfl, _⟩ := hok
  obtain ⟨fuel, h⟩ := h
  obtain ⟨cs, h1, h2⟩ := read_plain m fuel t _ _ hp h
  exact ⟨cs, h1, relL_agg h2⟩
theorem read_array {n : Nat} {e : TypeId} (m : Nat) (hu : P.underlying t = some (.array n e)) (hp : plainTy P m t = true) (hok : Value.okWide P W r b0 t v) (h : DataW.Trod enc P W 0 (fun _ => true) hd t v d ps) :
    ∃ cs, Plain P t cs ∧ VRel (fun _ _ => none) (memR W) (.agg (cs.map .p)) v := by
  simp only [Value.okWide, hu] at hok
  obtain ⟨vs, rfl, _⟩ := hok
  obtain ⟨fuel, h⟩ := h
  obtain ⟨cs, h1, h2⟩ := read_plain m fuel t _ _ hp h
  exact ⟨cs, h1, relL_agg h2⟩
theorem read_slice {e : TypeId} (m : Nat) (hu : P.underlying t = some (.slice e)) (hp : plainTy P m t = true) (hok : Value.okWide P W r b0 t v) (h : DataW.Trod enc P W 0 (fun _ => true) hd t v d ps) :
    ∃ c, Plain P t [c] ∧ VRel (fun _ _ => none) (memR W) (.p c) v := by
  obtain ⟨a0, len, cap, rfl⟩ := Go.WideShapes.okWide_slice hu hok
  obtain ⟨fuel, h⟩ := h
  obtain ⟨cs, h1, h2⟩ := read_plain m fuel t _ _ hp h
  rcases h1.inv_slice hu with rfl | ⟨n, xs, _, rfl⟩
  · exact ⟨_, h1, relL_one h2⟩
  · exact ⟨_, h1, relL_one h2⟩
theorem read_intA {k : IntKind} (hu : P.underlying t = some (.int k)) (hok : Value.okWide P W r b0 t v) (h : DataW.Trod enc P W 0 (fun _ => true) hd t v d ps) :
    ∃ n, (Lit.int k n).wf = true ∧ VRel (fun _ _ => none) (memR W) (.p (.int k n)) v := by
  obtain ⟨n, rfl⟩ := Go.WideShapes.okWide_int hu hok
  obtain ⟨fuel, h⟩ := h
  obtain ⟨n', h1, _, h2⟩ := DataW.trod_int hu h
  have : n = n' := by simpa [Value.cells] using h1
  subst this
  exact ⟨n, h2, .p (.int _ _)⟩
theorem read_strA (hu : P.underlying t = some .string) (hok : Value.okWide P W r b0 t v) (h : DataW.Trod enc P W 0 (fun _ => true) hd t v d ps) :
    ∃ s, s.size ≤ maxLen ∧ VRel (fun _ _ => none) (memR W) (.p (.str s)) v := by
  obtain ⟨s, rfl⟩ := Go.WideShapes.okWide_string hu hok
  obtain ⟨fuel, h⟩ := h
  obtain ⟨s', h1, _, h2⟩ := DataW.trod_string hu h
  have : s = s' := by simpa [Value.cells] using h1
  subst this
  exact ⟨s, h2, .p (.str _)⟩
end
end Go.D
end
/- Chapter 22: from what D answers to what the program answers in any world; what a call's arguments are. -/
section
set_option linter.unusedVariables false
set_option linter.unusedSimpArgs false
set_option maxRecDepth 100000
namespace Go.D
open Go.ChangeShapes Go.WideShapes Go.ChangeAt Go.RowKit

/-- All cells that can be read. -/
def memOf (W : World) : Mem := fun b o => W.cell? ⟨b, o, none⟩

/-! ### What a call leaves of what was there -/
theorem below_of {C : Nat → Nat → Prop} {m : Nat → Prop} {w w' : World} (h : Frm C m w w') (hC : ∀ b o, ¬ C b o) (hm : ∀ b, ¬ m b) : Below w.heap.size w w' := by
  refine ⟨h.os, h.tape, h.output, h.size, fun k hk => ?_⟩
  have := h.obj k hk
  rw [Array.getElem?_eq_getElem hk] at this ⊢
  cases ho : w.heap[k] with
  | cells c e f =>
    rw [ho] at this
    cases hx : w'.heap[k]? with
    | none => rw [hx] at this; simp [ObjKept] at this
    | some o =>
      rw [hx] at this
      cases o with
      | cells c' e' f' =>
        obtain ⟨h1, h2, h3, h4⟩ := this
        subst h1; subst h2
        have : c' = c := Array.ext_getElem? fun i => by rw [h4 i (hC k i)]
        rw [this]
      | _ => simp [ObjKept] at this
  | map es c =>
    rw [ho] at this
    cases hx : w'.heap[k]? with
    | none => rw [hx] at this; simp [ObjKept] at this
    | some o =>
      rw [hx] at this
      cases o with
      | map es' c' =>
        rcases this with h1 | ⟨h1, h2⟩
        · exact absurd h1 (hm k)
        · rw [h1, h2]
      | _ => simp [ObjKept] at this
  | _ =>
    rw [ho] at this
    cases hx : w'.heap[k]? with
    | none => rw [hx] at this; simp [ObjKept] at this
    | some o => rw [hx] at this; cases o <;> simp [ObjKept] at this <;> simp_all

theorem mixed_ok : PP.follows .mixedOrders = true := by kernel_rfl
theorem seqs_ok : ∀ g f kind, (pol g).seq f = some kind → SeqOk PP f kind := by
  intro g f kind h
  have h1 : (pol g).seq = fun _ => none := by
    unfold pol
    split <;> rfl
  rw [h1] at h
  exact absurd h (by simp)

/-- What D answers at the empty store, the program answers in any world. -/
theorem calls_of {f : FuncId} {args : List DV} {σ' : Store} {b : Bool} (h : CC 0 f args [] = some (.p (.bool b), σ')) {W : World} {vs : Array Value} (hv : Vals (fun _ _ => none) (memOf W) args vs) :
    Calls PP f vs W fun e W' => e = .returned (.bool b) ∧ Below W.heap.size W W' := by
  obtain ⟨k, hk⟩ := lim_some h
  have hs : SRel [] (fun _ _ => none) (memOf W) W := srel_bare fun b o v h => h
  obtain ⟨_, hc⟩ := callK_ok mixed_ok seqs_ok k _ _ _ _ _ _ (hk k (Nat.le_refl _)) (Nat.zero_le _) _ _ _ _ hs hv
  have hw := callsIn_wide.1 (hc Fence.wide 0 Free.wide)
  refine hw.mono ?_
  rintro e W' ⟨v', rfl, L', M', hp, hr⟩
  refine ⟨by rw [bool_of hr], below_of hp.frm ?_ ?_⟩
  · rintro b o ⟨r, row, l, _, ⟨h, _⟩, _⟩
    exact absurd h (by simp)
  · rintro b ⟨r, es, l, _, ⟨h, _⟩, _⟩
    exact absurd h (by simp)

theorem own_ok : ownKnob PP.godebug = none := by kernel_rfl
theorem laidOut_ok : laidOutB PP = true := by kernel_rfl
theorem ul4 : PP.underlying 4 = some .bool := by kernel_rfl

/-- The awake call. -/
def Awake : Prop := ∀ σ, pureV CC 9 [] σ = some (.p (.bool true))



/-! ### Arguments -/
theorem ul3 : PP.underlying 3 = some (.int .i64) := by kernel_rfl
theorem dec3 {a : List PV} (h : Plain PP 3 a) : ∃ n, a = [pI n] := by
  obtain ⟨n, _, rfl⟩ := h.inv_int ul3
  exact ⟨n, rfl⟩
theorem flat1 {α : Type} (f : α → PV) (l : List α) : l.flatMap (fun a => [f a]) = l.map f := by
  induction l with
  | nil => rfl
  | cons a l ih => simp [ih]
theorem dec22 {a : List PV} (h : Plain PP 22 a) : ∃ o, a = [eSl o] := by
  rcases h.inv_slice u22 with rfl | ⟨n, xs, hx, rfl⟩
  · exact ⟨none, rfl⟩
  · obtain ⟨l, rfl, rfl⟩ := hx.inv_rep (f := fun n => [pI n]) fun a ha => dec3 ha
    exact ⟨some l, by rw [flat1]; rfl⟩
theorem dec69 {a : List PV} (h : Plain PP 69 a) : ∃ e : Edg, a = [pI e.f, pI e.t, pI e.a] := by
  have h1 := h.inv_struct Go.Proofs.Tryz.underlying69
  obtain ⟨a1, b1, h2, h3, rfl⟩ := PlainL.inv_cons h1
  obtain ⟨a2, b2, h4, h5, rfl⟩ := PlainL.inv_cons h3
  obtain ⟨a3, b3, h6, h7, rfl⟩ := PlainL.inv_cons h5
  obtain ⟨x, rfl⟩ := dec3 h2
  obtain ⟨y, rfl⟩ := dec3 h4
  obtain ⟨z, rfl⟩ := dec3 h6
  obtain rfl := PlainL.inv_nil h7
  exact ⟨⟨x, y, z⟩, rfl⟩
theorem flat69 (l : List Edg) : l.flatMap (fun e => [pI e.f, pI e.t, pI e.a]) = eEdgs l := by
  induction l with
  | nil => rfl
  | cons a l ih => simp [ih, eEdgs]
theorem dec23 {a : List PV} (h : Plain PP 23 a) : ∃ o, a = [eEs o] := by
  rcases h.inv_slice u23 with rfl | ⟨n, xs, hx, rfl⟩
  · exact ⟨none, rfl⟩
  · obtain ⟨l, rfl, rfl⟩ := hx.inv_rep (f := fun e : Edg => [pI e.f, pI e.t, pI e.a]) fun a ha => dec69 ha
    exact ⟨some l, by rw [flat69]; rfl⟩
theorem dec25 {a : List PV} (h : Plain PP 25 a) : ∃ g : Gr, a = [pI g.n, eSl g.init, eEs g.edges] := by
  have h1 := h.inv_struct Go.Proofs.Tryz.underlying25
  obtain ⟨a1, b1, h2, h3, rfl⟩ := PlainL.inv_cons h1
  obtain ⟨a2, b2, h4, h5, rfl⟩ := PlainL.inv_cons h3
  obtain ⟨a3, b3, h6, h7, rfl⟩ := PlainL.inv_cons h5
  obtain ⟨x, rfl⟩ := dec3 h2
  obtain ⟨y, rfl⟩ := dec22 h4
  obtain ⟨z, rfl⟩ := dec23 h6
  obtain rfl := PlainL.inv_nil h7
  exact ⟨⟨x, y, z⟩, rfl⟩
section
variable {H : Type} {enc : TypeId × Value → H} {W : World} {hd : Bool} {r : Reach} {b0 : Nat} {v : Value} {d : DataW H} {ps : List MemPlace}
theorem read_sl (hok : Value.okWide PP W r b0 22 v) (h : DataW.Trod enc PP W 0 (fun _ => true) hd 22 v d ps) : ∃ o, VRel (fun _ _ => none) (memOf W) (.p (eSl o)) v := by
  obtain ⟨c, h1, h2⟩ := read_slice 8 u22 (by kernel_rfl) hok h
  obtain ⟨o, ho⟩ := dec22 h1
  injection ho with ho
  exact ⟨o, by rw [← ho]; exact h2⟩
theorem read_ax (hok : Value.okWide PP W r b0 33 v) (h : DataW.Trod enc PP W 0 (fun _ => true) hd 33 v d ps) : ∃ x : Ax, VRel (fun _ _ => none) (memOf W) (.agg (eAx x)) v := by
  obtain ⟨c, h1, h2⟩ := read_struct 8 Go.Proofs.Tryz.underlying33 (by kernel_rfl) hok h
  have h3 := h1.inv_struct Go.Proofs.Tryz.underlying33
  obtain ⟨a1, b1, k1, h5, rfl⟩ := PlainL.inv_cons h3
  obtain ⟨a2, b2, k2, h7, rfl⟩ := PlainL.inv_cons h5
  obtain ⟨a3, b3, k3, h9, rfl⟩ := PlainL.inv_cons h7
  obtain ⟨g, rfl⟩ := dec25 k1
  obtain ⟨p, rfl⟩ := dec22 k2
  obtain ⟨q, rfl⟩ := dec22 k3
  obtain rfl := PlainL.inv_nil h9
  exact ⟨⟨g, p, q⟩, h2⟩
end
end Go.D
end
/- Closed calls, worked out by the kernel one by one. -/
section
set_option linter.unusedVariables false
set_option maxRecDepth 100000
namespace Go.D

mutual
def eqPV : PV → PV → Bool
  | .bool a, .bool b => a == b
  | .int k n, .int k' m => k == k' && n == m
  | .nilsl, .nilsl => true
  | .sl a n cs, .sl b m ds => a == b && n == m && eqPVs cs ds
  | _, _ => false
def eqPVs : List PV → List PV → Bool
  | [], [] => true
  | a :: as', b :: bs => eqPV a b && eqPVs as' bs
  | _, _ => false
end
mutual
theorem eqPV_eq : ∀ (a b : PV), eqPV a b = true → a = b
  | .bool a, .bool b, h => by simp [eqPV] at h; rw [h]
  | .int k n, .int k' m, h => by
    simp [eqPV] at h
    rw [h.1, h.2]
  | .nilsl, .nilsl, h => rfl
  | .sl a n cs, .sl b m ds, h => by
    simp [eqPV] at h
    rw [h.1.1, h.1.2, eqPVs_eq cs ds h.2]
  | .bool _, .int .., h | .bool _, .str _, h | .bool _, .nilptr, h | .bool _, .nilsl, h | .bool _, .nilmap, h | .bool _, .nilfn, h | .bool _, .niliface, h | .bool _, .sl .., h => by simp [eqPV] at h
  | .int .., .bool _, h | .int .., .str _, h | .int .., .nilptr, h | .int .., .nilsl, h | .int .., .nilmap, h | .int .., .nilfn, h | .int .., .niliface, h | .int .., .sl .., h => by simp [eqPV] at h
  | .nilsl, .bool _, h | .nilsl, .int .., h | .nilsl, .str _, h | .nilsl, .nilptr, h | .nilsl, .nilmap, h | .nilsl, .nilfn, h | .nilsl, .niliface, h | .nilsl, .sl .., h => by simp [eqPV] at h
  | .sl .., .bool _, h | .sl .., .int .., h | .sl .., .str _, h | .sl .., .nilptr, h | .sl .., .nilsl, h | .sl .., .nilmap, h | .sl .., .nilfn, h | .sl .., .niliface, h => by simp [eqPV] at h
  | .str _, b, h | .nilptr, b, h | .nilmap, b, h | .nilfn, b, h | .niliface, b, h => by cases b <;> simp [eqPV] at h
theorem eqPVs_eq : ∀ (a b : List PV), eqPVs a b = true → a = b
  | [], [], h => rfl
  | a :: as', b :: bs, h => by
    simp [eqPVs] at h
    rw [eqPV_eq a b h.1, eqPVs_eq as' bs h.2]
  | [], _ :: _, h | _ :: _, [], h => by simp [eqPVs] at h
end

/-- Values that are compared: numbers, slices, structs of these, tuples of these. -/
def flatD : DV → Option (List (Nat × PV))
  | .p v => some [(0, v)]
  | .agg cs => some (cs.filterMap fun c => match c with | .p v => some (1, v) | _ => none)
  | _ => none

def eqD1 : DV → DV → Bool
  | .p v, .p w => eqPV v w
  | _, _ => false
def eqD1s : List DV → List DV → Bool
  | [], [] => true
  | a :: as', b :: bs => eqD1 a b && eqD1s as' bs
  | _, _ => false
def eqD2 : DV → DV → Bool
  | .agg cs, .agg ds => eqD1s cs ds
  | a, b => eqD1 a b
def eqD2s : List DV → List DV → Bool
  | [], [] => true
  | a :: as', b :: bs => eqD2 a b && eqD2s as' bs
  | _, _ => false
def eqD : DV → DV → Bool
  | .tuple cs, .tuple ds => eqD2s cs ds
  | a, b => eqD2 a b

theorem eqD1_eq {a b : DV} (h : eqD1 a b = true) : a = b := by
  unfold eqD1 at h
  split at h
  · rw [eqPV_eq _ _ h]
  · exact absurd h (by simp)
theorem eqD1s_eq : ∀ {a b : List DV}, eqD1s a b = true → a = b
  | [], [], h => rfl
  | a :: as', b :: bs, h => by
    simp only [eqD1s, Bool.and_eq_true] at h
    rw [eqD1_eq h.1, eqD1s_eq h.2]
  | [], _ :: _, h => absurd h (by simp [eqD1s])
  | _ :: _, [], h => absurd h (by simp [eqD1s])
theorem eqD2_eq {a b : DV} (h : eqD2 a b = true) : a = b := by
  unfold eqD2 at h
  split at h
  · rw [eqD1s_eq h]
  · exact eqD1_eq h
theorem eqD2s_eq : ∀ {a b : List DV}, eqD2s a b = true → a = b
  | [], [], h => rfl
  | a :: as', b :: bs, h => by
    simp only [eqD2s, Bool.and_eq_true] at h
    rw [eqD2_eq h.1, eqD2s_eq h.2]
  | [], _ :: _, h => absurd h (by simp [eqD2s])
  | _ :: _, [], h => absurd h (by simp [eqD2s])
theorem eqD_eq {a b : DV} (h : eqD a b = true) : a = b := by
  unfold eqD at h
  split at h
  · rw [eqD2s_eq h]
  · exact eqD2_eq h

def runIs (P : Program) (pol : FuncId → FPol) (k : Nat) (f : FuncId) (args : List DV) (r : DV) : Bool :=
  match callK P pol k 0 f args [] with
  | some (v, σ) => match thawAll 0 σ v with
    | some v' => eqD v' r
    | none => false
  | none => false

theorem pureV_run {k : Nat} {f : FuncId} {args : List DV} {r : DV} {σ : Store} (h : runIs PP pol k f args r = true) (h1 : args.map view = args) (h2 : args.all rowFree = true) : pureV CC f args σ = some r := by
  unfold runIs at h
  split at h
  · rename_i v σ' hc
    split at h
    · rename_i v' ht
      exact pureV_free h1 h2 (callL_at hc) (ht.trans (by rw [eqD_eq h]))
    · exact absurd h (by simp)
  · exact absurd h (by simp)

end Go.D
end
