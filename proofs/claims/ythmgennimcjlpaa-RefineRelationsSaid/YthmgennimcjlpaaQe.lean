/- Copies, bounds, equal lists. -/
import Derived.Test.YthmgennimcjlpaaQd
section
set_option linter.unusedVariables false
set_option linter.unusedSimpArgs false
namespace Go.D

theorem L18 {a b : Option (List Int)} {σ : Store} {lo : Nat} (h0 : L a = L b) (hl : (L a).length ≤ 1000) :
    ∀ (k i : Nat), (L a).length - i = k → i ≤ (L a).length → f18_L0 guardT lo (.p (eSl a)) (.p (eSl b)) (.p (pI (i : Nat))) σ = some (.p (.bool true), σ)
  | 0, i, hk, hi => by
    have : ¬ (i : Int) < ((L a).length : Nat) := by omega
    rw [f18_L0_eq guardT rfl]
    simp only [len22, b_lss, obind, this, decide_false, condK_false]
  | k + 1, i, hk, hi => by
    have h : i < (L a).length := by omega
    have hb : i < (L b).length := by rw [← h0]; exact h
    have h' : (i : Int) < ((L a).length : Nat) := by omega
    rw [f18_L0_eq guardT rfl]
    have e : (L a).getD i 0 = (L b).getD i 0 := by rw [h0]
    simp only [len22, b_lss, obind, h', decide_true, condK_true, idx22 h, idx22 hb, load3, load1_getD h, load1_getD hb, b_neq, e, Bool.not_true, condK_false, b_add, wrap_succ (show i ≤ 1000000 by omega)]
    exact L18 h0 hl k (i + 1) (by omega) (by omega)

theorem S18 {a b : Option (List Int)} {σ : Store} (h0 : L a = L b) (hl : (L a).length ≤ 1000) : pureV CC 18 [.p (eSl a), .p (eSl b)] σ = some (.p (.bool true)) := by
  refine pureV_free (by simp [sl_view]) rfl (F18_call (r := (.p (.bool true), [])) ?_) rfl
  rw [F18_eq]
  have := L18 (lo := 0) (σ := []) h0 hl _ 0 rfl (Nat.zero_le _)
  simp only [len22, obind, b_neq, h0, decide_true, Bool.not_true, condK_false]
  exact this

/-! ### Copies -/
theorem bytes3 : bytes? PP 3 = some 8 := Eq.trans (by kernel_rfl) rfl
theorem bytes100 : bytes? PP 100 = some 24 := Eq.trans (by kernel_rfl) rfl
theorem src22 : srcType PP 22 = true := Eq.trans (by kernel_rfl) rfl
theorem src23 : srcType PP 23 = true := Eq.trans (by kernel_rfl) rfl
theorem bs22_0 (σ : Store) : buildSlice PP none 22 0 [] σ = some (.p (.sl true 0 []), σ) := Eq.trans (by kernel_rfl) rfl
theorem bs23_0 (σ : Store) : buildSlice PP none 23 0 [] σ = some (.p (.sl true 0 []), σ) := Eq.trans (by kernel_rfl) rfl
theorem pures_map (cs : List PV) : pures (cs.map DV.p) = some cs := by
  induction cs with
  | nil => rfl
  | cons a l ih => simp [pures, DV.pure?, ih]

/-- What is appended to an empty literal. -/
theorem app22 {o : Option (List Int)} {lo : Nat} (hl : (L o).length ≤ 1000) (σ : Store) : append PP lo false 22 22 (.p (.sl true 0 [])) (.p (eSl o)) σ = some (if (L o).length = 0 then (.p (.sl true 0 []), σ) else (.osl σ.length 0 1 (L o).length (eInts (L o)), σ ++ [.tok 0])) := by
  have hsrc : source σ 1 (.p (eSl o)) = some ((L o).length, (eInts (L o)).map DV.p) := by
    cases o <;> simp [source, eSl, ints_length, eInts]
  have h1 : (L o).length * 8 ≤ 140737488355328 := by omega
  have h2 : (L o).length ≤ 140737488355328 := by omega
  simp only [append, src22, u22, s3, bytes3, zero3, hsrc, appLit]
  simp [h1, h2, pures_map]
  split <;> rfl
theorem app23 {o : Option (List Edg)} {lo : Nat} (hl : (L o).length ≤ 10000) (σ : Store) : append PP lo false 23 23 (.p (.sl true 0 [])) (.p (eEs o)) σ = some (if (L o).length = 0 then (.p (.sl true 0 []), σ) else (.osl σ.length 0 3 (L o).length (eEdgs (L o)), σ ++ [.tok 0])) := by
  have hsrc : source σ 3 (.p (eEs o)) = some ((L o).length, (eEdgs (L o)).map DV.p) := by
    cases o <;> simp [source, eEs, edgs_length, eEdgs]
  have h1 : (L o).length * 24 ≤ 140737488355328 := by omega
  have h2 : (L o).length ≤ 140737488355328 := by omega
  simp only [append, src23, u23, s100, bytes100, zero100, hsrc, appLit]
  simp [h1, h2, pures_map]
  split <;> rfl

theorem S14 {o : Option (List Int)} {σ : Store} (hl : (L o).length ≤ 1000) : pureV CC 14 [.p (eSl o)] σ = some (.p (eSl (some (L o)))) := by
  refine pureV_any (by simp [sl_view]) fun lo σ0 hs => ?_
  by_cases h : (L o).length = 0
  · refine ⟨.p (.sl true 0 []), σ0, F14_call ?_, ?_⟩
    · rw [F14_eq]
      simp only [bs22_0, obind, app22 hl, h, if_true]
    · have : L o = [] := List.length_eq_zero_iff.1 h
      rw [this]; rfl
  · refine ⟨.osl σ0.length 0 1 (L o).length (eInts (L o)), σ0 ++ [.tok 0], F14_call ?_, ?_⟩
    · rw [F14_eq]
      simp only [bs22_0, obind, app22 hl, h, if_false]
    · simp [thawAll, thawPart, thaw, thaw1, thawP, loosens_ints, eSl]

def ownG (g : Gr) : Gr := ⟨g.n, some (L g.init), some (L g.edges)⟩
def ownP (p : Pair) : Pair := ⟨ownG p.lo, ownG p.up, some (L p.ll), some (L p.ul)⟩

theorem st22_1 (a b c d : DV) (v : PV) (rest : Store) : store PP 0 22 (.ptr 0 1) (.p v) (.mix [a, b, c] :: rest) = some (.mix [a, .p v, c] :: rest) := Eq.trans (by kernel_rfl) rfl
theorem st23_2p (a b c : DV) (v : PV) (rest : Store) : store PP 0 23 (.ptr 0 2) (.p v) (.mix [a, b, c] :: rest) = some (.mix [a, b, .p v] :: rest) := Eq.trans (by kernel_rfl) rfl
theorem st23_2o (a b c : DV) (r ver sz n : Nat) (cs : List PV) (rest : Store) : store PP 0 23 (.ptr 0 2) (.osl r ver sz n cs) (.mix [a, b, c] :: rest) = some (.mix [a, b, .osl r ver sz n cs] :: rest) := Eq.trans (by kernel_rfl) rfl
theorem st25_p (a b c : DV) (x y z : PV) (m : Row) (rest : Store) : store PP 0 25 (.ptr 1 0) (.agg [.p x, .p y, .p z]) (m :: .mix [a, b, c] :: rest) = some (m :: .mix [.p x, .p y, .p z] :: rest) := Eq.trans (by kernel_rfl) rfl
theorem st25_o (a b c : DV) (x y : PV) (r ver sz n : Nat) (cs : List PV) (m : Row) (rest : Store) : store PP 0 25 (.ptr 1 0) (.agg [.p x, .p y, .osl r ver sz n cs]) (m :: .mix [a, b, c] :: rest) = some (m :: .mix [.p x, .p y, .osl r ver sz n cs] :: rest) := Eq.trans (by kernel_rfl) rfl
theorem ld25_0 (a b c : DV) (rest : Store) : loadN (.mix [a, b, c] :: rest) 3 (.ptr 0 0) = some [a, b, c] := Eq.trans (by kernel_rfl) rfl
theorem cv25 (a b c : DV) (m : Row) (rest : Store) : cellV PP 25 (.ptr 1 0) (m :: .mix [a, b, c] :: rest) = some (.agg [a, b, c]) := Eq.trans (by kernel_rfl) rfl

theorem S47 {g : Gr} {σ : Store} (hi : (L g.init).length ≤ 1000) (he : (L g.edges).length ≤ 10000) : pureV CC 47 [.agg (eGr g)] σ = some (.agg (eGr (ownG g))) := by
  refine pureV_any (by simp [gr_view]) fun lo σ0 hs => ?_
  rcases hs with ⟨rfl, rfl, _⟩ | ⟨_, _, h⟩
  case inr => exact absurd h (by simp [rowFree, rowFree1, eGr])
  have g0 : ∀ r, ([Row.mix (eGr g), r] : Store)[0]? = some (.mix (eGr g)) := fun _ => rfl
  by_cases h : (L g.edges).length = 0
  · refine ⟨.agg [.p (pI g.n), .p (eSl (some (L g.init))), .p (.sl true 0 [])], [.mix [.p (pI g.n), .p (eSl (some (L g.init))), .p (.sl true 0 [])], .mix [.p (pI g.n), .p (eSl (some (L g.init))), .p (.sl true 0 [])]], F47_call ?_, ?_⟩
    · rw [F47_eq]
      simp only [box_gr, zero25, obind, List.length_nil, List.nil_append, List.length_cons, List.cons_append, fa25_1, fa25_2, shift_ptr, Nat.zero_add, load22, load23, load25, load1_ptr (off := 1) (g0 _) rfl, load1_ptr (off := 2) (g0 _) rfl, pureFn_fn, List.append_nil, S14 hi, bs23_0, app23 he, h, if_true]
      simp only [eGr, st22_1 _ _ _ (.p .nilsl), obind, st23_2p, ld25_0, omap, st25_p, cv25]
    · have : L g.edges = [] := List.length_eq_zero_iff.1 h
      simp [thawAll, thawPart, mapO, thaw, thaw1, thawP, loosen, loosens, loosen_sl, eGr, ownG, eEs, this, eEdgs]
  · refine ⟨.agg [.p (pI g.n), .p (eSl (some (L g.init))), .osl 2 0 3 (L g.edges).length (eEdgs (L g.edges))], [.mix [.p (pI g.n), .p (eSl (some (L g.init))), .osl 2 0 3 (L g.edges).length (eEdgs (L g.edges))], .mix [.p (pI g.n), .p (eSl (some (L g.init))), .osl 2 0 3 (L g.edges).length (eEdgs (L g.edges))], .tok 0], F47_call ?_, ?_⟩
    · rw [F47_eq]
      simp only [box_gr, zero25, obind, List.length_nil, List.nil_append, List.length_cons, List.cons_append, fa25_1, fa25_2, shift_ptr, Nat.zero_add, load22, load23, load25, load1_ptr (off := 1) (g0 _) rfl, load1_ptr (off := 2) (g0 _) rfl, pureFn_fn, List.append_nil, S14 hi, bs23_0, app23 he, h, if_false]
      simp only [eGr, st22_1 _ _ _ (.p .nilsl), obind, st23_2o, ld25_0, omap, st25_o, cv25]
    · simp [thawAll, thawPart, mapO, thaw, thaw1, thawP, loosen, loosen_sl, eGr, ownG, eEs, loosens_edgs]

theorem bld27 (a b c d e f g h : PV) : build PP 27 [(0, .agg [.p a, .p b, .p c]), (1, .agg [.p d, .p e, .p f]), (2, .p g), (3, .p h)] = some (.agg [.p a, .p b, .p c, .p d, .p e, .p f, .p g, .p h]) := Eq.trans (by kernel_rfl) rfl
theorem st27 (a b c d e f g h : PV) (a' b' c' d' e' f' g' h' : DV) (m : Row) : store PP 0 27 (.ptr 1 0) (.agg [.p a, .p b, .p c, .p d, .p e, .p f, .p g, .p h]) [m, .mix [a', b', c', d', e', f', g', h']] = some [m, .mix [.p a, .p b, .p c, .p d, .p e, .p f, .p g, .p h]] := Eq.trans (by kernel_rfl) rfl
theorem cv27 (a b c d e f g h : DV) (m : Row) : cellV PP 27 (.ptr 1 0) [m, .mix [a, b, c, d, e, f, g, h]] = some (.agg [a, b, c, d, e, f, g, h]) := Eq.trans (by kernel_rfl) rfl

theorem S13 {p : Pair} {σ : Store} (hp : Small p) : pureV CC 13 [.agg (ePair p)] σ = some (.agg (ePair (ownP p))) := by
  refine pureV_any (by simp [pair_view]) fun lo σ0 hs => ?_
  rcases hs with ⟨rfl, rfl, _⟩ | ⟨_, _, h⟩
  case inr => exact absurd h (by simp [rowFree, rowFree1, ePair])
  have g0 : ∀ r, ([Row.mix (ePair p), r] : Store)[0]? = some (.mix (ePair p)) := fun _ => rfl
  refine ⟨.agg (ePair (ownP p)), [.mix (ePair p), .mix (ePair (ownP p))], F13_call ?_, ?_⟩
  · rw [F13_eq]
    simp only [box_pair, zero27, obind, List.length_nil, List.nil_append, List.length_cons, List.cons_append, fa27_0, fa27_1, fa27_2, fa27_3, shift_ptr, Nat.zero_add, load22, load25, pr_lo (g0 _), pr_up (g0 _), pr_6 (g0 _), pr_7 (g0 _), omap, pureFn_fn, List.append_nil, S47 hp.li hp.le, S47 hp.ui hp.ue, S14 hp.ll, S14 hp.ul]
    simp only [eGr, bld27, obind, st27, cv27]
    rfl
  · simp [thawAll, thawPart, mapO, thaw, thaw1, thawP, loosen, loosen_sl, loosen_es, ePair]

/-! ### Bounds -/
def smallG (g : Gr) : Bool := (decide (g.n ≤ 7) || decide (g.n > 40)) && decide ((L g.init).length ≤ 45) && decide ((L g.edges).length ≤ 24)
def fewP (p : Pair) : Bool := smallG p.lo && smallG p.up && decide ((L p.ll).length ≤ 45) && decide ((L p.ul).length ≤ 45)
theorem dec_cast (n m : Nat) : decide ((n : Int) ≤ (m : Int)) = decide (n ≤ m) := by simp

theorem S19 {g : Gr} {σ : Store} : pureV CC 19 [.agg (eGr g)] σ = some (.p (.bool (smallG g))) := by
  refine pureV_any (by simp [gr_view]) fun lo σ0 hs => ?_
  rcases hs with ⟨rfl, rfl, _⟩ | ⟨_, _, h⟩
  case inr => exact absurd h (by simp [rowFree, rowFree1, eGr])
  have g0 : ([Row.mix (eGr g)] : Store)[0]? = some (.mix (eGr g)) := rfl
  have e45 : decide (((L g.init).length : Int) ≤ 45) = decide ((L g.init).length ≤ 45) := dec_cast _ 45
  have e24 : decide (((L g.edges).length : Int) ≤ 24) = decide ((L g.edges).length ≤ 24) := dec_cast _ 24
  have hF : F19 guardT 0 (.agg (eGr g)) [] = some (.p (.bool (smallG g)), [Row.mix (eGr g)]) := by
    rw [F19_eq]
    simp only [box_gr, obind, List.length_nil, List.nil_append, fa25_0, fa25_1, fa25_2, shift_ptr, Nat.zero_add, load3, load1_ptr (off := 0) g0 rfl, b_leq, smallG]
    cases h1 : decide (g.n ≤ 7) <;>
      simp only [guard_tf, guard_ff, guard_sk, obind, pickV_true, pickV_false, load1_ptr (off := 0) g0 rfl, b_gtr, Bool.true_or, Bool.false_or, Bool.true_and]
    · cases h2 : decide (g.n > 40) with
      | false => simp only [guard_ft, guard_sk, obind, pickV_false, Bool.false_and]
      | true =>
        simp only [guard_tt, obind, load22, load1_ptr (off := 1) g0 rfl, len22, b_leq, pickV_true, e45, Bool.true_and]
        cases h3 : decide ((L g.init).length ≤ 45) with
        | false => simp only [guard_ft, guard_sk, obind, pickV_false, Bool.false_and]
        | true => simp only [guard_tt, obind, load23, load1_ptr (off := 2) g0 rfl, len23, b_leq, pickV_true, e24, Bool.true_and]
    · simp only [guard_tt, obind, load22, load1_ptr (off := 1) g0 rfl, len22, b_leq, pickV_true, e45, Bool.true_and]
      cases h3 : decide ((L g.init).length ≤ 45) with
      | false => simp only [guard_ft, guard_sk, obind, pickV_false, Bool.false_and]
      | true => simp only [guard_tt, obind, load23, load1_ptr (off := 2) g0 rfl, len23, b_leq, pickV_true, e24, Bool.true_and]
  exact ⟨_, _, F19_call hF, rfl⟩

theorem S11 {p : Pair} {σ : Store} : pureV CC 11 [.agg (ePair p)] σ = some (.p (.bool (fewP p))) := by
  refine pureV_any (by simp [pair_view]) fun lo σ0 hs => ?_
  rcases hs with ⟨rfl, rfl, _⟩ | ⟨_, _, h⟩
  case inr => exact absurd h (by simp [rowFree, rowFree1, ePair])
  have g0 : ([Row.mix (ePair p)] : Store)[0]? = some (.mix (ePair p)) := rfl
  have e1 : decide (((L p.ll).length : Int) ≤ 45) = decide ((L p.ll).length ≤ 45) := dec_cast _ 45
  have e2 : decide (((L p.ul).length : Int) ≤ 45) = decide ((L p.ul).length ≤ 45) := dec_cast _ 45
  have hF : F11 guardT 0 (.agg (ePair p)) [] = some (.p (.bool (fewP p)), [Row.mix (ePair p)]) := by
    rw [F11_eq]
    simp only [box_pair, obind, List.length_nil, List.nil_append, fa27_0, fa27_1, fa27_2, fa27_3, shift_ptr, Nat.zero_add, load25, pr_lo g0, omap, pureFn_fn, List.append_nil, S19, fewP]
    cases h1 : smallG p.lo with
    | false => simp only [guard_ft, guard_sk, obind, pickV_false, Bool.false_and]
    | true =>
      simp only [guard_tt, obind, pr_up g0, omap, S19, pickV_true, Bool.true_and]
      cases h2 : smallG p.up with
      | false => simp only [guard_ft, guard_sk, obind, pickV_false, Bool.false_and]
      | true =>
        simp only [guard_tt, obind, load22, pr_6 g0, len22, b_leq, pickV_true, e1, Bool.true_and]
        cases h3 : decide ((L p.ll).length ≤ 45) with
        | false => simp only [guard_ft, guard_sk, obind, pickV_false, Bool.false_and]
        | true => simp only [guard_tt, obind, load22, pr_7 g0, len22, b_leq, pickV_true, e2, Bool.true_and]
  exact ⟨_, _, F11_call hF, rfl⟩

end Go.D
end
/- The upper steps as rows of bools, and what they answer. -/
section
set_option linter.unusedVariables false
set_option linter.unusedSimpArgs false
namespace Go.D

theorem zero4 : zeroOf PP 4 = some [.p (.bool false)] := Eq.trans (by kernel_rfl) rfl
theorem zero88 : zeroOf PP 88 = some [.p .nilsl] := Eq.trans (by kernel_rfl) rfl
theorem bytes4 : bytes? PP 4 = some 1 := Eq.trans (by kernel_rfl) rfl
theorem bytes88 : bytes? PP 88 = some 24 := Eq.trans (by kernel_rfl) rfl
theorem src84 : srcType PP 84 = true := Eq.trans (by kernel_rfl) rfl
theorem s84 : size? PP 84 = some 1 := Eq.trans (by kernel_rfl) rfl

theorem dups_one {α : Type} (x : α) : ∀ n, dups [x] n = List.replicate n x
  | 0 => rfl
  | n + 1 => by simp [dups, dups_one x n, List.replicate_succ]
theorem pures_bools (n : Nat) : pures (List.replicate n (.p (.bool false))) = some (eBools (List.replicate n false)) := by
  have := pures_map (eBools (List.replicate n false))
  simpa [eBools] using this

theorem mk88 {n : Nat} (h : n ≤ 1000) (σ : Store) : makeSlice PP false 88 (.p (pI (n : Nat))) (.p (pI (n : Nat))) σ = some (.rsl σ.length 1 0 n, σ ++ [.arr (eBools (List.replicate n false))]) := by
  have h1 : (n : Int) ≤ 140737488355328 := by omega
  simp [makeSlice, u88, s4, bytes4, zero4, h1, newRow, dups_one, pures_bools]
theorem mk84 {n : Nat} (h : n ≤ 1000) (σ : Store) : makeSlice PP true 84 (.p (pI (n : Nat))) (.p (pI (n : Nat))) σ = some (.rsl σ.length 1 0 n, σ ++ [.mix (List.replicate n (.p .nilsl))]) := by
  have h1 : (n : Int) ≤ 140737488355328 := by omega
  have h2 : 24 * (n : Int) ≤ 140737488355328 := by omega
  simp [makeSlice, u84, s88, bytes88, zero88, h1, h2, newRow, dups_one]

theorem bs84_1 (r sz off n : Nat) (σ : Store) : buildSlice PP (some true) 84 1 [(0, .rsl r sz off n)] σ = some (.rsl σ.length 1 0 1, σ ++ [.mix [.rsl r sz off n]]) := Eq.trans (by kernel_rfl) rfl

theorem app84_nil {σ : Store} {q : Nat} {v : DV} (h : σ[q]? = some (.mix [v])) : append PP 0 true 84 84 (.p .nilsl) (.rsl q 1 0 1) σ = some (.rsl σ.length 1 0 1, σ ++ [.mix [v]]) := by
  simp [append, src84, u84, s88, bytes88, zero88, source, loadN, h, appNil]
theorem app84_row {σ : Store} {q R k : Nat} {v : DV} {cs : List DV} (h : σ[q]? = some (.mix [v])) (hR : σ[R]? = some (.mix cs)) (hk : cs.length = k) (hk2 : k ≤ 1000) (hv : v.one = true) :
    append PP 0 true 84 84 (.rsl R 1 0 k) (.rsl q 1 0 1) σ = some (.rsl σ.length 1 0 (k + 1), σ.set R .dead ++ [.mix (cs ++ [v])]) := by
  have h1 : (k + 1) * 24 ≤ 140737488355328 := by omega
  have h2 : k + 1 ≤ 140737488355328 := by omega
  have h3 : ¬ k + 1 ≤ k := by omega
  simp only [append, src84, u84, s88, bytes88, zero88, source, loadN, h]
  simp [appRow, hR, h1, h2, hk, hv]
  intro hh
  omega

theorem st84_8 {σ : Store} {A : List DV} {x v : DV} (h : σ[1]? = some (.mix (A ++ [x]))) (hA : A.length = 8) (hv : v.one = true) (hc : v.cells = [v]) : store PP 0 84 (.ptr 1 8) v σ = some (σ.set 1 (.mix (A ++ [v]))) := by
  have hd : (A ++ [x]).drop 9 = [] := List.drop_eq_nil_of_le (by simp [hA])
  simp [store, s84, hc, storeN, h, hA, hv, splice, hd]

def rowV (n : Nat) (r : Nat) : DV := .rsl r 1 0 n
structure OpenInv (p : Pair) (n : Nat) (σ : Store) (R : Nat) (rs : List Nat) (M : List (List Bool)) : Prop where
  h0 : σ[0]? = some (.mix (ePair p))
  h1 : σ[1]? = some (.mix (ePair p ++ [if rs = [] then .p .nilsl else .rsl R 1 0 rs.length]))
  hR : rs ≠ [] → σ[R]? = some (.mix (rs.map (rowV n))) ∧ 2 ≤ R
  len : M.length = rs.length
  row : ∀ j (h : j < rs.length) (h2 : j < M.length), σ[rs[j]]? = some (.arr (eBools M[j]))
  nodup : rs.Nodup
  ge : ∀ r ∈ rs, 2 ≤ r
  nR : rs ≠ [] → R ∉ rs

theorem get_set_ne {σ : Store} {i j : Nat} {r x : Row} (h : σ[i]? = some x) (hne : i ≠ j) : (σ.set j r)[i]? = some x := by
  rw [List.getElem?_set_ne (Ne.symm hne)]; exact h
theorem get_lt {σ : Store} {i : Nat} {x : Row} (h : σ[i]? = some x) : i < σ.length := (List.getElem?_eq_some_iff.1 h).1

theorem L43_0 {p : Pair} {n : Nat} (hn : p.up.n = (n : Nat)) (hn2 : n ≤ 1000) :
    ∀ (d k : Nat) (σ : Store) (R : Nat) (rs : List Nat), n - k = d → rs.length = k → k ≤ n → OpenInv p n σ R rs (List.replicate k (List.replicate n false)) →
      ∃ σ' R' rs', rs'.length = n ∧ OpenInv p n σ' R' rs' (List.replicate n (List.replicate n false)) ∧
        f43_L0 guardT 0 (.ptr 0 0) (.ptr 1 0) (.p (pI (n : Nat))) (.p (pI (k : Nat))) σ = f43_L1 guardT 0 (.ptr 1 0) (.p (eEs p.up.edges)) (.p (pI ((L p.up.edges).length : Nat))) (.p (pI (0 : Nat))) σ'
  | 0, k, σ, R, rs, hd, hk, hkn, hI => by
    have : k = n := by omega
    subst this
    have hlt : ¬ (k : Int) < (k : Nat) := by omega
    refine ⟨σ, R, rs, hk, hI, ?_⟩
    rw [f43_L0_eq guardT rfl]
    simp only [b_lss, obind, hlt, decide_false, condK_false, fa27_1, fa25_2, shift_ptr, Nat.zero_add, load23, pr_5 hI.h0, len23]
    rfl
  | d + 1, k, σ, R, rs, hd, hk, hkn, hI => by
    have hlt : (k : Int) < (n : Nat) := by omega
    have w : IntKind.wrap .i64 ((k : Int) + 1) = ((k + 1 : Nat) : Int) := wrap_succ (by omega)
    have ha : (σ ++ [Row.arr (eBools (List.replicate n false))])[0]? = some (.mix (ePair p)) := get_old hI.h0
    have l0 := get_lt hI.h0
    have l1 := get_lt hI.h1
    have hmk : ∀ σ, makeSlice PP false 88 (.p (pI p.up.n)) (.p (pI p.up.n)) σ = some (.rsl σ.length 1 0 n, σ ++ [.arr (eBools (List.replicate n false))]) := by rw [hn]; exact mk88 hn2
    have h8 : ∀ (σ' : Store) (x : DV), σ'[1]? = some (.mix (ePair p ++ [x])) → load1 (.ptr 1 8) σ' = some x := fun σ' x h => load1_ptr h (by simp [ePair])
    rw [f43_L0_eq guardT rfl]
    simp only [b_lss, obind, hlt, decide_true, condK_true, nil_ptr, fa118_1, fa27_1, fa25_0, shift_ptr, Nat.zero_add, load84, h8 σ _ hI.h1, load3, pr_3 hI.h0, hmk, bs84_1, b_add, w]
    have hq : ((σ ++ [Row.arr (eBools (List.replicate n false))]) ++ [Row.mix [DV.rsl σ.length 1 0 n]])[(σ ++ [Row.arr (eBools (List.replicate n false))]).length]? = some (.mix [DV.rsl σ.length 1 0 n]) := get_snoc
    by_cases he : rs = []
    · subst he
      have hk0 : k = 0 := by simpa using hk.symm
      subst hk0
      have hs1 : (((σ ++ [Row.arr (eBools (List.replicate n false))]) ++ [Row.mix [DV.rsl σ.length 1 0 n]]) ++ [Row.mix [DV.rsl σ.length 1 0 n]])[1]? = some (.mix (ePair p ++ [.p .nilsl])) := get_old (get_old (get_old (by simpa using hI.h1)))
      simp only [if_true, app84_nil hq, obind, st84_8 hs1 (by simp [ePair]) (v := .rsl ((σ ++ [Row.arr (eBools (List.replicate n false))]) ++ [Row.mix [DV.rsl σ.length 1 0 n]]).length 1 0 1) rfl rfl]
      refine L43_0 hn hn2 d 1 _ ((σ ++ [Row.arr (eBools (List.replicate n false))]) ++ [Row.mix [DV.rsl σ.length 1 0 n]]).length [σ.length] (by omega) rfl (by omega) ⟨?_, ?_, ?_, ?_, ?_, ?_, ?_, ?_⟩
      · exact get_set_ne (get_old (get_old ha)) (by omega)
      · simp
      · intro _
        refine ⟨get_set_ne (by rw [get_snoc]; rfl) (by simp), by simp⟩
      · simp
      · intro j h h2
        have : j = 0 := by simpa using h
        subst this
        exact get_set_ne (get_old (get_old (by simp))) (by simp; omega)
      · simp
      · simp; omega
      · simp
    · obtain ⟨hR, hR2⟩ := hI.hR he
      have lR := get_lt hR
      have hRq : ((σ ++ [Row.arr (eBools (List.replicate n false))]) ++ [Row.mix [DV.rsl σ.length 1 0 n]])[R]? = some (.mix (rs.map (rowV n))) := get_old (get_old hR)
      have hs1 : ((((σ ++ [Row.arr (eBools (List.replicate n false))]) ++ [Row.mix [DV.rsl σ.length 1 0 n]]).set R .dead) ++ [Row.mix (rs.map (rowV n) ++ [DV.rsl σ.length 1 0 n])])[1]? = some (.mix (ePair p ++ [if rs = [] then .p .nilsl else .rsl R 1 0 rs.length])) := get_old (get_set_ne (get_old (get_old hI.h1)) (by omega))
      simp only [he, if_false] at hs1 ⊢
      simp only [app84_row hq hRq (by simp) (show rs.length ≤ 1000 by omega) rfl, obind, st84_8 hs1 (by simp [ePair]) (v := .rsl ((σ ++ [Row.arr (eBools (List.replicate n false))]) ++ [Row.mix [DV.rsl σ.length 1 0 n]]).length 1 0 (rs.length + 1)) rfl rfl]
      have hkeep : ∀ i x d, σ[i]? = some x → i ≠ 1 → i ≠ R → (((((σ ++ [Row.arr (eBools (List.replicate n false))]) ++ [Row.mix [DV.rsl σ.length 1 0 n]]).set R .dead) ++ [Row.mix (rs.map (rowV n) ++ [DV.rsl σ.length 1 0 n])]).set 1 d)[i]? = some x :=
        fun i x d h h1 h2 => get_set_ne (get_old (get_set_ne (get_old (get_old h)) h2)) h1
      refine L43_0 hn hn2 d (k + 1) _ ((σ ++ [Row.arr (eBools (List.replicate n false))]) ++ [Row.mix [DV.rsl σ.length 1 0 n]]).length (rs ++ [σ.length]) (by omega) (by simp [hk]) (by omega) ⟨?_, ?_, ?_, ?_, ?_, ?_, ?_, ?_⟩
      · exact hkeep 0 _ _ hI.h0 (by omega) (by omega)
      · simp
      · intro _
        refine ⟨get_set_ne ?_ (by simp), by simp⟩
        have : (((σ ++ [Row.arr (eBools (List.replicate n false))]) ++ [Row.mix [DV.rsl σ.length 1 0 n]]).set R .dead).length = ((σ ++ [Row.arr (eBools (List.replicate n false))]) ++ [Row.mix [DV.rsl σ.length 1 0 n]]).length := by simp
        rw [← this, get_snoc]
        simp [rowV]
      · simp [hk]
      · intro j h h2
        simp only [List.length_append, List.length_cons, List.length_nil, Nat.zero_add] at h
        rcases Nat.lt_or_ge j rs.length with h3 | h3
        · rw [List.getElem_append_left h3]
          have hr := hI.row j h3 (by simp; omega)
          simp only [List.getElem_replicate] at hr ⊢
          exact hkeep _ _ _ hr (by have := hI.ge _ (List.getElem_mem h3); omega) (fun e => hI.nR he (e ▸ List.getElem_mem h3))
        · have : j = rs.length := by omega
          subst this
          simp only [List.getElem_append_right (Nat.le_refl _), Nat.sub_self, List.getElem_cons_zero, List.getElem_replicate]
          exact get_set_ne (get_old (get_set_ne (get_old (by simp)) (by omega))) (by omega)
      · rw [List.nodup_append]
        refine ⟨hI.nodup, by simp, ?_⟩
        intro a ha' b hb e
        simp at hb
        subst hb; subst e
        obtain ⟨j, hj, e⟩ := List.getElem_of_mem ha'
        have := get_lt (hI.row j hj (by simp; omega))
        omega
      · intro r hr
        simp at hr
        rcases hr with hr | hr
        · exact hI.ge r hr
        · omega
      · intro _ hm
        simp at hm
        obtain ⟨j, hj, e⟩ := List.getElem_of_mem hm
        have := get_lt (hI.row j hj (by simp; omega))
        omega

end Go.D
end
/- open: the upper steps; follows. -/
section
set_option linter.unusedVariables false
set_option linter.unusedSimpArgs false
namespace Go.D

def rowM (n : Nat) (es : List Edg) (u : Nat) : List Bool := (List.range n).map fun (v : Nat) => es.any (stepB (u : Int) (v : Int))
def matM (n : Nat) (es : List Edg) : List (List Bool) := (List.range n).map (rowM n es)
theorem rowM_len (n : Nat) (es : List Edg) (u : Nat) : (rowM n es u).length = n := by simp [rowM]
theorem matM_len (n : Nat) (es : List Edg) : (matM n es).length = n := by simp [matM]
theorem matM_get {n : Nat} {es : List Edg} {u : Nat} (h : u < (matM n es).length) : (matM n es)[u] = rowM n es u := by simp [matM]
theorem matM_nil (n : Nat) : matM n [] = List.replicate n (List.replicate n false) := by
  have h1 : ∀ u, rowM n [] u = List.replicate n false := fun u => by simp [rowM, List.map_const']
  have h2 : rowM n [] = fun _ => List.replicate n false := funext h1
  simp [matM, h2, List.map_const']
theorem rowM_step (n : Nat) (es : List Edg) (e : Edg) (u f t : Nat) (hf : e.f = (f : Nat)) (ht : e.t = (t : Nat)) : rowM n (es ++ [e]) u = if u = f then (rowM n es u).set t true else rowM n es u := by
  apply List.ext_getElem
  · split <;> simp [rowM]
  · intro v h1 h2
    have hv : v < n := by simpa [rowM] using h1
    by_cases e1 : u = f
    · subst e1
      simp only [if_true]
      by_cases e2 : v = t
      · subst e2
        simp [rowM, stepB, hf, ht]
      · have : ¬ (t = v) := fun h => e2 h.symm
        rw [List.getElem_set_ne this]
        have h3 : stepB u v e = false := by simp [stepB, hf, ht]; omega
        simp [rowM, h3]
    · simp only [e1, if_false]
      have h3 : stepB u v e = false := by simp [stepB, hf]; omega
      simp [rowM, h3]

theorem idx84_r {R off n i : Nat} (h : i < n) : indexAddr PP 84 (.rsl R 1 off n) (.p (pI (i : Nat))) = some (.ptr R (off + i)) := by
  have h2 : (0 : Int) ≤ (i : Int) ∧ (i : Int) < (n : Nat) := by omega
  simp [indexAddr, u84, s88, h2, h]
theorem idx88_r {R off n i : Nat} (h : i < n) : indexAddr PP 88 (.rsl R 1 off n) (.p (pI (i : Nat))) = some (.ptr R (off + i)) := by
  have h2 : (0 : Int) ≤ (i : Int) ∧ (i : Int) < (n : Nat) := by omega
  simp [indexAddr, u88, s4, h2, h]
theorem st4 {σ : Store} {r t : Nat} {l : List Bool} {b : Bool} (h : σ[r]? = some (.arr (eBools l))) (ht : t < l.length) : store PP 0 4 (.ptr r t) (.p (.bool b)) σ = some (σ.set r (.arr (eBools (l.set t b)))) := by
  have h1 : t + 1 ≤ (eBools l).length := by rw [bools_length]; omega
  have h2 : splice (eBools l) t [PV.bool b] = eBools (l.set t b) := by
    unfold splice eBools
    rw [List.set_eq_take_append_cons_drop]
    simp [ht]
  simp [store, s4, DV.cells, storeN, h, pures, DV.pure?, h1, h2]

theorem L43_1 {p : Pair} {n : Nat} (hl : (L p.up.edges).length ≤ 10000) (hv : ∀ e ∈ L p.up.edges, 0 ≤ e.f ∧ e.f < n ∧ 0 ≤ e.t ∧ e.t < n) :
    ∀ (k i : Nat) (σ : Store) (R : Nat) (rs : List Nat), (L p.up.edges).length - i = k → i ≤ (L p.up.edges).length → rs.length = n → OpenInv p n σ R rs (matM n ((L p.up.edges).take i)) →
      ∃ σ', OpenInv p n σ' R rs (matM n (L p.up.edges)) ∧ f43_L1 guardT 0 (.ptr 1 0) (.p (eEs p.up.edges)) (.p (pI ((L p.up.edges).length : Nat))) (.p (pI (i : Nat))) σ = some (.ptr 1 0, σ')
  | 0, i, σ, R, rs, hk, hi, hrs, hI => by
    have : ¬ (i : Int) < ((L p.up.edges).length : Nat) := by omega
    refine ⟨σ, ?_, ?_⟩
    · rwa [List.take_of_length_le (by omega)] at hI
    · rw [f43_L1_eq guardT rfl]
      simp only [b_lss, obind, this, decide_false, condK_false]
  | k + 1, i, σ, R, rs, hk, hi, hrs, hI => by
    have h : i < (L p.up.edges).length := by omega
    have h' : (i : Int) < ((L p.up.edges).length : Nat) := by omega
    have w : IntKind.wrap .i64 ((i : Int) + 1) = ((i + 1 : Nat) : Int) := wrap_succ (by omega)
    have egd : (L p.up.edges).getD i default = (L p.up.edges)[i] := by rw [List.getD_eq_getElem?_getD, List.getElem?_eq_getElem h]; rfl
    obtain ⟨hv1, hv2, hv3, hv4⟩ := hv _ (List.getElem_mem h)
    obtain ⟨f, hf⟩ : ∃ f : Nat, (L p.up.edges)[i].f = (f : Nat) := ⟨_, (Int.toNat_of_nonneg hv1).symm⟩
    obtain ⟨t, ht⟩ : ∃ t : Nat, (L p.up.edges)[i].t = (t : Nat) := ⟨_, (Int.toNat_of_nonneg hv3).symm⟩
    have hfn : f < n := by omega
    have htn : t < n := by omega
    have hne : rs ≠ [] := by intro e; rw [e] at hrs; simp at hrs; omega
    obtain ⟨hR, hR2⟩ := hI.hR hne
    have h1 := hI.h1
    simp only [hne, if_false] at h1
    have hfr : f < rs.length := by omega
    have hrow := hI.row f hfr (by rw [matM_len]; exact hfn)
    rw [matM_get] at hrow
    have hr2 := hI.ge _ (List.getElem_mem hfr)
    have hrR : rs[f] ≠ R := fun e => hI.nR hne (e ▸ List.getElem_mem hfr)
    have hx : (σ ++ [Row.mix (edgD (L p.up.edges)[i])])[σ.length]? = some (.mix (edgD (L p.up.edges)[i])) := get_snoc
    have hxf : load1 (.ptr σ.length 0) (σ ++ [Row.mix (edgD (L p.up.edges)[i])]) = some (.p (pI (f : Nat))) := by rw [← hf]; exact load1_ptr hx rfl
    have hxt : load1 (.ptr σ.length 1) (σ ++ [Row.mix (edgD (L p.up.edges)[i])]) = some (.p (pI (t : Nat))) := by rw [← ht]; exact load1_ptr hx rfl
    have h8 : load1 (.ptr 1 8) (σ ++ [Row.mix (edgD (L p.up.edges)[i])]) = some (.rsl R 1 0 rs.length) := load1_ptr (get_old h1) (by simp [ePair])
    have hRf : load1 (.ptr R f) (σ ++ [Row.mix (edgD (L p.up.edges)[i])]) = some (rowV n rs[f]) := load1_ptr (get_old hR) (by simp [hfr])
    have hrowl : (rowM n ((L p.up.edges).take i) f).length = n := rowM_len _ _ _
    have hst := st4 (b := true) (t := t) (get_old (r := Row.mix (edgD (L p.up.edges)[i])) hrow) (by rw [hrowl]; exact htn)
    have l0 := get_lt hI.h0
    have l1 := get_lt hI.h1
    rw [f43_L1_eq guardT rfl]
    simp only [b_lss, obind, h', decide_true, condK_true, idx23 h, load100, load100_D h, egd, zero100, store_new100 σ (L p.up.edges)[i] [.p (pI 0), .p (pI 0), .p (pI 0)] rfl, nil_ptr, fa118_1, fa100_0, fa100_1, shift_ptr, Nat.zero_add, load84, load88, load3, h8, hxf, hxt, idx84_r hfr, hRf]
    simp only [rowV, idx88_r htn, obind, Nat.zero_add, hst, b_add, w]
    have htake : (L p.up.edges).take (i + 1) = (L p.up.edges).take i ++ [(L p.up.edges)[i]] := by rw [List.take_add_one]; simp [h]
    refine L43_1 hl hv k (i + 1) _ R rs (by omega) (by omega) hrs ⟨?_, ?_, ?_, ?_, ?_, hI.nodup, hI.ge, hI.nR⟩
    · exact get_set_ne (get_old hI.h0) (by omega)
    · exact get_set_ne (get_old hI.h1) (by omega)
    · intro _
      exact ⟨get_set_ne (get_old hR) (Ne.symm hrR), hR2⟩
    · rw [matM_len, hrs]
    · intro j hj h2
      rw [matM_get, htake, rowM_step n _ _ j f t hf ht]
      by_cases e : j = f
      · subst e
        simp only [if_true]
        rw [List.getElem?_set_self (by have := get_lt hrow; simp; omega)]
      · simp only [e, if_false]
        have hj2 := hI.row j hj (by rw [matM_len]; omega)
        rw [matM_get] at hj2
        refine get_set_ne (get_old hj2) fun e2 => e ?_
        exact (List.getElem_inj hI.nodup).1 e2

/-! ### What leaves -/
def ePairP (p : Pair) : List PV := [pI p.lo.n, eSl p.lo.init, eEs p.lo.edges, pI p.up.n, eSl p.up.init, eEs p.up.edges, eSl p.ll, eSl p.ul]
def upsV (n : Nat) (M : List (List Bool)) : PV := if M = [] then .nilsl else .sl false M.length (M.map fun r => .sl false n (eBools r))
def graphsV (p : Pair) (n : Nat) : List PV := ePairP p ++ [upsV n (matM n (L p.up.edges))]

theorem thaw_rows {σ : Store} {n d : Nat} : ∀ (rs : List Nat) (M : List (List Bool)), M.length = rs.length → (∀ j (h : j < rs.length) (h2 : j < M.length), σ[rs[j]]? = some (.arr (eBools M[j]))) → (∀ r ∈ M, r.length = n) →
    mapO (thawP 0 σ (d + 1)) (rs.map (rowV n)) = some (M.map fun r => .sl false n (eBools r))
  | [], M, h1, h2, h3 => by
    have : M = [] := List.length_eq_zero_iff.1 h1
    subst this; rfl
  | r :: rs, [], h1, h2, h3 => by simp at h1
  | r :: rs, m :: M, h1, h2, h3 => by
    have hr := h2 0 (by simp) (by simp)
    have hm : m.length = n := h3 m List.mem_cons_self
    have ih := thaw_rows (σ := σ) (n := n) (d := d) rs M (by simpa using h1) (fun j a b => by have := h2 (j + 1) (by simpa using a) (by simpa using b); simpa using this) (fun r hr => h3 r (List.mem_cons_of_mem _ hr))
    simp only [List.getElem_cons_zero] at hr
    have ht : (List.take n (eBools m)) = eBools m := List.take_of_length_le (by rw [bools_length]; omega)
    have hle : n ≤ (eBools m).length := by rw [bools_length]; omega
    have h0 : thawP 0 σ (d + 1) (rowV n r) = some (.sl false n (eBools m)) := by
      simp [thawP, rowV, hr, hle, ht, loosens_bools]
    simp only [List.map_cons, mapO, h0, ih]

theorem S43 {p : Pair} {n : Nat} {σ : Store} (hp : Small p) (hn : p.up.n = (n : Nat)) (hn2 : n ≤ 1000) (hv : ∀ e ∈ L p.up.edges, 0 ≤ e.f ∧ e.f < n ∧ 0 ≤ e.t ∧ e.t < n) : pureV CC 43 [.agg (ePair p)] σ = some (.pptr (graphsV p n) 0) := by
  refine pureV_any (by simp [pair_view]) fun lo σ0 hs => ?_
  rcases hs with ⟨rfl, rfl, _⟩ | ⟨_, _, h⟩
  case inr => exact absurd h (by simp [rowFree, rowFree1, ePair])
  have hb : build PP 118 [(0, .agg (ePair p))] = some (.agg (ePair p ++ [.p .nilsl])) := by
    have : ∀ a b c d e f g h : PV, build PP 118 [(0, .agg [.p a, .p b, .p c, .p d, .p e, .p f, .p g, .p h])] = some (.agg [.p a, .p b, .p c, .p d, .p e, .p f, .p g, .p h, .p .nilsl]) := by intros; kernel_rfl
    exact this ..
  have hbx : boxV (.agg (ePair p ++ [.p .nilsl])) = some (ePair p ++ [.p .nilsl]) := rfl
  have hI0 : OpenInv p n [Row.mix (ePair p), Row.mix (ePair p ++ [.p .nilsl])] 0 [] (List.replicate 0 (List.replicate n false)) :=
    ⟨rfl, rfl, fun h => absurd rfl h, rfl, fun j h => absurd h (by simp), List.nodup_nil, fun r h => absurd h (by simp), fun h => absurd rfl h⟩
  obtain ⟨σ1, R, rs, hrs, hI1, hL0⟩ := L43_0 hn hn2 n 0 _ 0 [] (by omega) rfl (Nat.zero_le _) hI0
  obtain ⟨σ2, hI2, hL1⟩ := L43_1 hp.ue hv _ 0 σ1 R rs rfl (Nat.zero_le _) hrs (by rw [List.take_zero, matM_nil]; exact hI1)
  refine ⟨.ptr 1 0, σ2, F43_call ?_, ?_⟩
  · rw [F43_eq]
    have g0 : ∀ s, (Row.mix (ePair p) :: s : Store)[0]? = some (.mix (ePair p)) := fun _ => rfl
    simp only [box_pair, obind, List.length_nil, List.nil_append, load27, pr_all (g0 _), omap, hb, hbx, List.length_cons, List.cons_append, Nat.zero_add, fa27_1, fa25_0, shift_ptr, load3, pr_3 (g0 _), hn]
    have e : f43_L0 guardT 0 (.ptr 0 0) (.ptr 1 0) (.p (pI (n : Nat))) (.p (pI 0)) [Row.mix (ePair p), Row.mix (ePair p ++ [.p .nilsl])] = _ := hL0
    rw [e, hL1]
  · have hx : thawP 0 σ2 3 (if rs = [] then .p .nilsl else .rsl R 1 0 rs.length) = some (upsV n (matM n (L p.up.edges))) := by
      by_cases he : rs = []
      · have hM : matM n (L p.up.edges) = [] := List.length_eq_zero_iff.1 (by rw [hI2.len, he]; rfl)
        simp [he, thawP, loosen, upsV, hM]
      · obtain ⟨hR, _⟩ := hI2.hR he
        have hM : matM n (L p.up.edges) ≠ [] := fun e => he (List.length_eq_zero_iff.1 (by rw [← hI2.len, e]; rfl))
        have ht := thaw_rows (d := 1) rs _ hI2.len hI2.row (fun r hr => by simp [matM] at hr; obtain ⟨u, _, e⟩ := hr; rw [← e]; exact rowM_len _ _ _)
        have e1 : List.take rs.length (rs.map (rowV n)) = rs.map (rowV n) := List.take_of_length_le (by simp)
        simp [he, thawP, hR, e1, ht, upsV, hM, hI2.len]
    simp only [thawAll, thawPart, thaw, thaw1, hI2.h1, Nat.zero_le, if_true, ePair, List.cons_append, List.nil_append, mapO, hx]
    simp [thawP, loosen, loosen_sl, loosen_es, graphsV, ePairP]

/-! ### follows -/
theorem idx84_p {M : List PV} {i : Nat} {n : Nat} (hi : i < n) : indexAddr PP 84 (.p (.sl false n M)) (.p (pI (i : Nat))) = some (.pptr M i) := by
  have h2 : (0 : Int) ≤ (i : Int) ∧ (i : Int) < (n : Nat) := by omega
  simp [indexAddr, u84, s88, h2, hi]
theorem idx88_p {M : List PV} {i : Nat} {n : Nat} (hi : i < n) : indexAddr PP 88 (.p (.sl false n M)) (.p (pI (i : Nat))) = some (.pptr M i) := by
  have h2 : (0 : Int) ≤ (i : Int) ∧ (i : Int) < (n : Nat) := by omega
  simp [indexAddr, u88, s4, h2, hi]

theorem S45 {p : Pair} {n u v : Nat} {σ : Store} (hu : u < n) (hv : v < n) : pureV CC 45 [.pptr (graphsV p n) 0, .p (pI (u : Nat)), .p (pI (v : Nat))] σ = some (.p (.bool (follows p.up u v))) := by
  refine pureV_free rfl rfl (F45_call (r := (.p (.bool (follows p.up u v)), [])) ?_) rfl
  rw [F45_eq]
  simp only [b_eql, obind, follows]
  by_cases e : u = v
  · subst e
    simp [guard_tf, guard_sk, pickV_true]
  · have e' : ¬ ((u : Int) = (v : Int)) := by omega
    have hM : matM n (L p.up.edges) ≠ [] := fun e => by have := matM_len n (L p.up.edges); rw [e] at this; simp at this; omega
    have h8 : (graphsV p n)[8]? = some (.sl false n ((matM n (L p.up.edges)).map fun r => .sl false n (eBools r))) := by
      simp [graphsV, ePairP, upsV, hM, matM_len]
    have hr : ((matM n (L p.up.edges)).map fun r => PV.sl false n (eBools r))[u]? = some (.sl false n (eBools (rowM n (L p.up.edges) u))) := by
      simp [matM, hu]
    have hc : (eBools (rowM n (L p.up.edges) u))[v]? = some (.bool ((L p.up.edges).any (stepB u v))) := by
      simp [eBools, rowM, hv]
    simp only [e', decide_false, guard_ff, obind, nil_pptr, fa118_1, shift_pptr, Nat.zero_add, load84, load1_pptr h8, idx84_p hu, load88, load1_pptr hr, idx88_p hv, load4, load1_pptr hc, pickV_false, Bool.false_or]

theorem S44 {o : Option (List Int)} {σ : Store} : pureV CC 44 [.p (eSl o)] σ = some (.fn 80 [.pptr [eSl o] 0]) := by
  refine pureV_any (by simp [sl_view]) fun lo σ0 hs => ⟨.fn 80 [.ptr σ0.length 0], σ0 ++ [.mix [.p (eSl o)]], F44_call ?_, ?_⟩
  · rw [F44_eq]
    have : boxV (.p (eSl o)) = some [.p (eSl o)] := rfl
    simp only [this, obind]
  · have hx : (σ0 ++ [Row.mix [.p (eSl o)]])[σ0.length]? = some (.mix [.p (eSl o)]) := get_snoc
    have hlo : lo ≤ σ0.length := by rcases hs with ⟨rfl, rfl, _⟩ | ⟨_, rfl, _⟩ <;> simp_all
    simp [thawAll, thawPart, thaw, mapO, thaw1, hlo, thawP, loosen_sl]

end Go.D
end
/- The upper path of a lower one, as mathematics. -/
section
set_option linter.unusedVariables false
set_option linter.unusedSimpArgs false
namespace Go.D

def labB (p : Pair) (l : List Int) (i u : Nat) : Bool := decide ((L p.ll).getD (l.getD i 0).toNat 0 = (L p.ul).getD u 0)
def anyFrom (q : Nat → Bool) : Nat → Nat → Bool
  | _, 0 => false
  | v, d + 1 => q v || anyFrom q (v + 1) d
/-- From which upper states the rest of the path has an upper one; k steps before the end. -/
def goodK (p : Pair) (l : List Int) (n : Nat) : Nat → Nat → Bool
  | 0 => fun u => labB p l (l.length - 1) u
  | k + 1 => fun u => anyFrom (fun v => follows p.up u v && goodK p l n k v) 0 n && labB p l (l.length - 1 - (k + 1)) u
def goodAt (p : Pair) (l : List Int) (n i : Nat) : Nat → Bool := goodK p l n (l.length - 1 - i)
def rowG (p : Pair) (l : List Int) (n i : Nat) : List Bool := (List.range n).map (goodAt p l n i)
theorem rowG_len (p : Pair) (l : List Int) (n i : Nat) : (rowG p l n i).length = n := by simp [rowG]
theorem rowG_get (p : Pair) (l : List Int) (n i u : Nat) (h : u < n) : (rowG p l n i).getD u false = goodAt p l n i u := by simp [rowG, h]

theorem good_last (p : Pair) (l : List Int) (n : Nat) (u : Nat) : goodAt p l n (l.length - 1) u = labB p l (l.length - 1) u := by
  unfold goodAt
  rw [Nat.sub_self]
  rfl
theorem good_step (p : Pair) (l : List Int) (n i : Nat) (h : i + 1 < l.length) (u : Nat) : goodAt p l n i u = (anyFrom (fun v => follows p.up u v && goodAt p l n (i + 1) v) 0 n && labB p l i u) := by
  unfold goodAt
  have e : l.length - 1 - i = (l.length - 1 - (i + 1)) + 1 := by omega
  rw [e]
  have e2 : l.length - 1 - (l.length - 1 - (i + 1) + 1) = i := by omega
  show (anyFrom _ 0 n && labB p l (l.length - 1 - (l.length - 1 - (i + 1) + 1)) u) = _
  rw [e2]

def fitsB (p : Pair) (i : Nat) (out : List Nat) (u : Nat) : Bool := if i = 0 then hasI (L p.up.init) u else follows p.up (out.getD (i - 1) 0) u
def pickB (p : Pair) (l : List Int) (n i : Nat) (out : List Nat) (u : Nat) : Bool := goodAt p l n i u && fitsB p i out u
def firstFrom (q : Nat → Bool) : Nat → Nat → Option Nat
  | _, 0 => none
  | u, d + 1 => if q u then some u else firstFrom q (u + 1) d
def goUp (p : Pair) (l : List Int) (n : Nat) : Nat → Nat → List Nat → Option (List Nat)
  | 0, _, out => some out
  | k + 1, i, out => match firstFrom (pickB p l n i out) 0 n with
    | none => none
    | some u => goUp p l n k (i + 1) (out ++ [u])
def upPath (p : Pair) (l : List Int) (n : Nat) : Option (List Nat) := goUp p l n l.length 0 []
def natsI (l : List Nat) : List Int := l.map fun (u : Nat) => (u : Int)

theorem firstFrom_lt {q : Nat → Bool} : ∀ (d u : Nat) {w : Nat}, firstFrom q u d = some w → w < u + d
  | 0, u, w, h => by simp [firstFrom] at h
  | d + 1, u, w, h => by
    unfold firstFrom at h
    split at h
    · injection h with h; omega
    · have := firstFrom_lt d (u + 1) h; omega

/-- What the two programs need of the pair and the path. -/
structure Fine (p : Pair) (o : Option (List Int)) (n : Nat) : Prop where
  small : Small p
  n0 : p.up.n = (n : Nat)
  n40 : n ≤ 1000
  steps : ∀ e ∈ L p.up.edges, 0 ≤ e.f ∧ e.f < n ∧ 0 ≤ e.t ∧ e.t < n
  pos : 0 < (L o).length
  len : (L o).length ≤ 1000
  states : ∀ i, i < (L o).length → 0 ≤ (L o).getD i 0 ∧ ((L o).getD i 0).toNat < (L p.ll).length
  ul : (L p.ul).length = n

end Go.D
end
/- UpperPath: from which upper states the rest of the path has an upper one. -/
section
set_option linter.unusedVariables false
set_option linter.unusedSimpArgs false
namespace Go.D

section
variable {p : Pair} {o : Option (List Int)} {n : Nat}

/-- The store while the rows are made. -/
structure GI (p : Pair) (o : Option (List Int)) (n : Nat) (σ : Store) (k : Nat) (cs : List DV) : Prop where
  h0 : σ[0]? = some (.mix (ePair p))
  h1 : σ[1]? = some (.mix [.p (eSl o)])
  h2 : σ[2]? = some (.mix [.pptr (graphsV p n) 0])
  h3 : σ[3]? = some (.mix cs)
  h4 : σ[4]? = some (.mix [.rsl 3 1 0 (L o).length])
  len : cs.length = (L o).length
  row : ∀ j, k ≤ j → j < (L o).length → ∃ q, cs[j]? = some (.rsl q 1 0 n) ∧ 5 ≤ q ∧ σ[q]? = some (.arr (eBools (rowG p (L o) n j)))

/-- One row is being made. -/
structure GS (p : Pair) (o : Option (List Int)) (n : Nat) (σ : Store) (i q : Nat) (row : List Bool) (cs : List DV) : Prop where
  gi : GI p o n σ (i + 1) cs
  i1 : i < (L o).length
  cur : cs[i]? = some (.rsl q 1 0 n)
  q5 : 5 ≤ q
  hq : σ[q]? = some (.arr (eBools row))
  rl : row.length = n
  ne : ∀ j q', i < j → cs[j]? = some (.rsl q' 1 0 n) → q' ≠ q

theorem GS.set {σ : Store} {i q : Nat} {row row' : List Bool} {cs : List DV} (h : GS p o n σ i q row cs) (hr : row'.length = n) : GS p o n (σ.set q (.arr (eBools row'))) i q row' cs := by
  have hq5 := h.q5
  refine ⟨⟨get_set_ne h.gi.h0 (by omega), get_set_ne h.gi.h1 (by omega), get_set_ne h.gi.h2 (by omega), get_set_ne h.gi.h3 (by omega), get_set_ne h.gi.h4 (by omega), h.gi.len, fun j h1 h2 => ?_⟩, h.i1, h.cur, h.q5, ?_, hr, h.ne⟩
  · obtain ⟨q', a, b, c⟩ := h.gi.row j h1 h2
    exact ⟨q', a, b, get_set_ne c (h.ne j q' (by omega) a)⟩
  · rw [List.getElem?_set_self (get_lt h.hq)]

theorem set_same {σ : Store} {q : Nat} {x : Row} (h : σ[q]? = some x) : σ.set q x = σ := by
  apply List.ext_getElem?
  intro j
  by_cases e : q = j
  · subst e; rw [List.getElem?_set_self (get_lt h), h]
  · rw [List.getElem?_set_ne e]

theorem load1_arr {σ : Store} {r i : Nat} {l : List Bool} (h : σ[r]? = some (.arr (eBools l))) (hi : i < l.length) : load1 (.ptr r i) σ = some (.p (.bool (l.getD i false))) := by
  have h1 : i + 1 ≤ (eBools l).length := by rw [bools_length]; omega
  have h2 : (eBools l)[i]? = some (.bool (l.getD i false)) := by
    rw [List.getD_eq_getElem?_getD, List.getElem?_eq_getElem hi]
    simp [eBools, hi]
  obtain ⟨_, h3⟩ := drop_one h2
  simp [load1, loadN, h, h1, h3]

variable {K' : Ex → Store → Option (DV × Store)}

theorem L12_1 (hf : Fine p o n) {i u q : Nat} {row : List Bool} {cs : List DV} {σ : Store} (h : GS p o n σ i q row cs) (hu : u < n) :
    ∀ (d v : Nat) (g : Bool), n - v = d → v ≤ n → (g = false → i + 1 < (L o).length) →
      f12_L1 guardT 0 K' (.ptr 0 0) (.ptr 1 0) (.ptr 2 0) (.ptr 4 0) (.p (pI (i : Nat))) (.p (pI ((L o).getD i 0))) (.p (pI (u : Nat))) (.p (.bool g)) (.p (pI (v : Nat))) (.p (pI (n : Nat))) (.p (pI (u : Nat))) σ =
      f12_L0 guardT 0 K' (.ptr 0 0) (.ptr 1 0) (.ptr 2 0) (.ptr 4 0) (.p (pI (i : Nat))) (.p (pI ((L o).getD i 0))) (.p (pI (n : Nat))) (.p (pI (u + 1 : Nat)))
        (σ.set q (.arr (eBools (row.set u ((g || anyFrom (fun v => follows p.up u v && goodAt p (L o) n (i + 1) v) v d) && labB p (L o) i u))))) := by
  have hn := hf.n0
  have i1 := h.i1
  have hlen := hf.len
  have hn40 := hf.n40
  have e0 : load1 (.ptr 0 3) σ = some (.p (pI (n : Nat))) := by rw [← hn]; exact pr_3 h.gi.h0
  have e4 : load1 (.ptr 4 0) σ = some (.rsl 3 1 0 (L o).length) := load1_ptr h.gi.h4 rfl
  have e3 : load1 (.ptr 3 i) σ = some (.rsl q 1 0 n) := load1_ptr h.gi.h3 h.cur
  have e6 : load1 (.ptr 0 6) σ = some (.p (eSl p.ll)) := pr_6 h.gi.h0
  have e7 : load1 (.ptr 0 7) σ = some (.p (eSl p.ul)) := pr_7 h.gi.h0
  have e2 : load1 (.ptr 2 0) σ = some (.pptr (graphsV p n) 0) := load1_ptr h.gi.h2 rfl
  have wu : IntKind.wrap .i64 ((u : Int) + 1) = ((u + 1 : Nat) : Int) := wrap_succ (by omega)
  have wi : IntKind.wrap .i64 ((i : Int) + 1) = ((i + 1 : Nat) : Int) := wrap_succ (by omega)
  obtain ⟨hs0, hs1⟩ := hf.states i i1
  have es : (L o).getD i 0 = (((L o).getD i 0).toNat : Int) := (Int.toNat_of_nonneg hs0).symm
  have hul : u < (L p.ul).length := by rw [hf.ul]; exact hu
  -- what stands behind the loop
  have fin : ∀ (g : Bool),
      ((load PP 84 (.ptr 4 0) σ).bind fun x87 =>
      (indexAddr PP 84 x87 (.p (pI (i : Nat)))).bind fun x89 =>
      (load PP 88 x89 σ).bind fun x90 =>
      guardT _ (.p (.bool g)) true ((fieldAddr PP 27 (.ptr 0 0) 2).bind fun v => some (v, σ)) σ fun x94 σ1 =>
      guardT _ (.p (.bool g)) true ((load PP 22 x94 σ1).bind fun v => some (v, σ1)) σ1 fun x95 σ2 =>
      guardT _ (.p (.bool g)) true (some (.p (pI ((L o).getD i 0)), σ2)) σ2 fun x96 σ3 =>
      guardT _ (.p (.bool g)) true ((indexAddr PP 22 x95 x96).bind fun v => some (v, σ3)) σ3 fun x97 σ4 =>
      guardT _ (.p (.bool g)) true ((load PP 3 x97 σ4).bind fun v => some (v, σ4)) σ4 fun x98 σ5 =>
      guardT _ (.p (.bool g)) true ((fieldAddr PP 27 (.ptr 0 0) 3).bind fun v => some (v, σ5)) σ5 fun x99 σ6 =>
      guardT _ (.p (.bool g)) true ((load PP 22 x99 σ6).bind fun v => some (v, σ6)) σ6 fun x100 σ7 =>
      guardT _ (.p (.bool g)) true (some (.p (pI (u : Nat)), σ7)) σ7 fun x101 σ8 =>
      guardT _ (.p (.bool g)) true ((indexAddr PP 22 x100 x101).bind fun v => some (v, σ8)) σ8 fun x102 σ9 =>
      guardT _ (.p (.bool g)) true ((load PP 3 x102 σ9).bind fun v => some (v, σ9)) σ9 fun x103 σ10 =>
      guardT _ (.p (.bool g)) true ((binOp PP .eql 3 x98 x103).bind fun v => some (v, σ10)) σ10 fun x104 σ11 =>
      (pickV (.p (.bool g)) x104 (DV.p (PV.bool false))).bind fun x105 =>
      (indexAddr PP 88 x90 (.p (pI (u : Nat)))).bind fun x106 =>
      (store PP 0 4 x106 x105 σ11).bind fun σ12 =>
      (binOp PP .add 3 (.p (pI (u : Nat))) (DV.p (PV.int IntKind.i64 (1)))).bind fun x107 =>
      f12_L0 guardT 0 K' (.ptr 0 0) (.ptr 1 0) (.ptr 2 0) (.ptr 4 0) (.p (pI (i : Nat))) (.p (pI ((L o).getD i 0))) (.p (pI (n : Nat))) x107 σ12) =
      f12_L0 guardT 0 K' (.ptr 0 0) (.ptr 1 0) (.ptr 2 0) (.ptr 4 0) (.p (pI (i : Nat))) (.p (pI ((L o).getD i 0))) (.p (pI (n : Nat))) (.p (pI (u + 1 : Nat)))
        (σ.set q (.arr (eBools (row.set u (g && labB p (L o) i u))))) := by
    intro g
    simp only [load84, load88, e4, obind, idx84_r i1, Nat.zero_add, e3]
    have hst : ∀ b : Bool, store PP 0 4 (.ptr q u) (.p (.bool b)) σ = some (σ.set q (.arr (eBools (row.set u b)))) := fun b => st4 h.hq (by rw [h.rl]; exact hu)
    cases g with
    | false => simp only [guard_ft, guard_sk, obind, pickV_false, idx88_r hu, Nat.zero_add, hst, b_add, wu, Bool.false_and]
    | true =>
      have hl1 : indexAddr PP 22 (.p (eSl p.ll)) (.p (pI ((L o).getD i 0))) = some (.pptr (eInts (L p.ll)) ((L o).getD i 0).toNat) := by
        have := idx22 (o := p.ll) hs1
        rw [← es] at this
        exact this
      simp only [guard_tt, obind, fa27_2, fa27_3, shift_ptr, Nat.zero_add, load22, e6, e7, hl1, load3, load1_getD hs1, idx22 hul, load1_getD hul, b_eql, pickV_true, idx88_r hu, hst, b_add, wu, Bool.true_and, labB]
  intro d
  induction d with
  | zero =>
    intro v g hd hv hg
    have hlt : ¬ (v : Int) < (n : Nat) := by omega
    rw [f12_L1_eq guardT rfl]
    simp only [fa27_1, fa25_0, shift_ptr, Nat.zero_add, load3, e0, obind, b_lss, hlt, decide_false, guard_ft, guard_sk, pickV_false, condK_false]
    have := fin g
    simp only [load3] at this
    rw [this]
    simp [anyFrom]
  | succ d ih =>
    intro v g hd hv hg
    have hlt : (v : Int) < (n : Nat) := by omega
    have hvn : v < n := by omega
    rw [f12_L1_eq guardT rfl]
    simp only [fa27_1, fa25_0, shift_ptr, Nat.zero_add, load3, e0, obind, b_lss, hlt, decide_true, guard_tt, not_bool, pickV_true]
    cases g with
    | true =>
      simp only [Bool.not_true, condK_false]
      have := fin true
      simp only [load3] at this
      rw [this]
      simp
    | false =>
      have hi2 := hg rfl
      obtain ⟨q', ha, hb, hc⟩ := h.gi.row (i + 1) (Nat.le_refl _) hi2
      have e3' : load1 (.ptr 3 (i + 1)) σ = some (.rsl q' 1 0 n) := load1_ptr h.gi.h3 ha
      have wv : IntKind.wrap .i64 ((v : Int) + 1) = ((v + 1 : Nat) : Int) := wrap_succ (by omega)
      simp only [Bool.not_false, condK_true, load82, e2, obind, pureFn_fn, List.append_nil, S45 hu hvn, Bool.false_or, anyFrom]
      cases hfo : follows p.up u v with
      | false =>
        simp only [guard_ft, guard_sk, obind, pickV_false, b_add, wv]
        rw [ih (v + 1) false (by omega) (by omega) hg]
        simp
      | true =>
        simp only [guard_tt, obind, load84, e4, b_add, wi, idx84_r hi2, Nat.zero_add, load88, e3', idx88_r hvn, load4, load1_arr hc (show v < (rowG p (L o) n (i + 1)).length by rw [rowG_len]; exact hvn), rowG_get _ _ _ _ _ hvn, pickV_true, wv]
        rw [ih (v + 1) (goodAt p (L o) n (i + 1) v) (by omega) (by omega) (fun _ => hi2)]
        simp

theorem L12_0 (hf : Fine p o n) {i q : Nat} {cs : List DV} :
    ∀ (d u : Nat) (row : List Bool) (σ : Store), n - u = d → u ≤ n → GS p o n σ i q row cs → (∀ j, j < u → row.getD j false = goodAt p (L o) n i j) →
      f12_L0 guardT 0 K' (.ptr 0 0) (.ptr 1 0) (.ptr 2 0) (.ptr 4 0) (.p (pI (i : Nat))) (.p (pI ((L o).getD i 0))) (.p (pI (n : Nat))) (.p (pI (u : Nat))) σ = K' .normal (σ.set q (.arr (eBools (rowG p (L o) n i))))
  | 0, u, row, σ, hd, hu, h, hrow => by
    have hlt : ¬ (u : Int) < (n : Nat) := by omega
    rw [f12_L0_eq guardT rfl]
    simp only [b_lss, obind, hlt, decide_false, condK_false]
    have : row = rowG p (L o) n i := by
      apply List.ext_getElem (by rw [h.rl, rowG_len])
      intro j h1 h2
      have hj : j < n := by rw [← h.rl]; exact h1
      have e1 := hrow j (by omega)
      rw [List.getD_eq_getElem?_getD, List.getElem?_eq_getElem h1] at e1
      have e2 := rowG_get p (L o) n i j hj
      rw [List.getD_eq_getElem?_getD, List.getElem?_eq_getElem h2] at e2
      exact e1.trans e2.symm
    rw [← this, set_same h.hq]
  | d + 1, u, row, σ, hd, hu, h, hrow => by
    have hlt : (u : Int) < (n : Nat) := by omega
    have hun : u < n := by omega
    have i1 := h.i1
    have hlen := hf.len
    have e1 : load1 (.ptr 1 0) σ = some (.p (eSl o)) := load1_ptr h.gi.h1 rfl
    have wm : IntKind.wrap .i64 (((L o).length : Nat) - 1 : Int) = (((L o).length - 1 : Nat) : Int) := wrap_pred (by omega) (by omega)
    have hi0 : decide ((i : Int) = (((L o).length - 1 : Nat) : Int)) = decide (i = (L o).length - 1) := by simp only [decide_eq_decide]; omega
    rw [f12_L0_eq guardT rfl]
    simp only [b_lss, obind, hlt, decide_true, condK_true, load22, e1, len22, b_sub, wm, b_eql, hi0]
    have e := L12_1 (K' := K') hf h hun n 0 (decide (i = (L o).length - 1)) (by omega) (Nat.zero_le _) (by intro hg; simp at hg; omega)
    have e' : f12_L1 guardT 0 K' (.ptr 0 0) (.ptr 1 0) (.ptr 2 0) (.ptr 4 0) (.p (pI (i : Nat))) (.p (pI ((L o).getD i 0))) (.p (pI (u : Nat))) (.p (.bool (decide (i = (L o).length - 1)))) (.p (pI 0)) (.p (pI (n : Nat))) (.p (pI (u : Nat))) σ = _ := e
    rw [e']
    have hg : ((decide (i = (L o).length - 1) || anyFrom (fun v => follows p.up u v && goodAt p (L o) n (i + 1) v) 0 n) && labB p (L o) i u) = goodAt p (L o) n i u := by
      by_cases hl : i = (L o).length - 1
      · rw [hl, good_last]; simp
      · rw [good_step p (L o) n i (by omega)]; simp [hl]
    rw [hg, L12_0 hf d (u + 1) _ _ (by omega) (by omega) (h.set (row' := row.set u (goodAt p (L o) n i u)) (by simp [h.rl])) (by
      intro j hj
      rcases Nat.lt_or_ge j u with h3 | h3
      · rw [List.getD_eq_getElem?_getD, List.getElem?_set_ne (by omega), ← List.getD_eq_getElem?_getD]; exact hrow j h3
      · have : j = u := by omega
        subst this
        rw [List.getD_eq_getElem?_getD, List.getElem?_set_self (by rw [h.rl]; exact hun)]
        rfl)]
    rw [List.set_set]

end
end Go.D
end
/- UpperPath: the rounds, the path. -/
section
set_option linter.unusedVariables false
set_option linter.unusedSimpArgs false
namespace Go.D

section
variable {p : Pair} {o : Option (List Int)} {n : Nat}

theorem st88_m {σ : Store} {cs : List DV} {i q : Nat} (h : σ[3]? = some (.mix cs)) (hi : i < cs.length) : store PP 0 88 (.ptr 3 i) (.rsl q 1 0 n) σ = some (σ.set 3 (.mix (cs.set i (.rsl q 1 0 n)))) := by
  have h1 : splice cs i [DV.rsl q 1 0 n] = cs.set i (.rsl q 1 0 n) := by
    unfold splice
    rw [List.set_eq_take_append_cons_drop]
    simp [hi]
  have hle : i + 1 ≤ cs.length := hi
  simp [store, s88, DV.cells, storeN, h, DV.one, h1, hle]

/-- One round of the range over the path, backward. -/
theorem R12 (hf : Fine p o n) {k : Nat} {cs : List DV} {σ : Store} (h : GI p o n σ (k + 1) cs) (hk : k < (L o).length) (x0 x1 x4 x5 x6 x7 x21 x22 x23 x24 x26 x27 x28 x29 x30 x31 x33 x34 x35 x36 x37 x38 x39 : DV) :
    ∃ σ' cs', GI p o n σ' k cs' ∧ ∀ K', f12_R0 guardT 0 x0 x1 (.ptr 0 0) (.ptr 1 0) x4 x5 x6 x7 (.ptr 2 0) (.ptr 4 0) x21 x22 x23 x24 x26 x27 x28 x29 x30 x31 x33 x34 x35 x36 x37 x38 x39 [.p (pI (k : Nat)), .p (pI ((L o).getD k 0))] σ K' = K' .normal σ' := by
  have hn := hf.n0
  have hn40 := hf.n40
  have l4 := get_lt h.h4
  have e0 : load1 (.ptr 0 3) σ = some (.p (pI (n : Nat))) := by rw [← hn]; exact pr_3 h.h0
  have e4 : load1 (.ptr 4 0) σ = some (.rsl 3 1 0 (L o).length) := load1_ptr h.h4 rfl
  have g3 : (σ ++ [Row.arr (eBools (List.replicate n false))])[3]? = some (.mix cs) := get_old h.h3
  have hkc : k < cs.length := by rw [h.len]; exact hk
  have hnew : (σ ++ [Row.arr (eBools (List.replicate n false))])[σ.length]? = some (.arr (eBools (List.replicate n false))) := get_snoc
  have hgs : GS p o n ((σ ++ [Row.arr (eBools (List.replicate n false))]).set 3 (.mix (cs.set k (.rsl σ.length 1 0 n)))) k σ.length (List.replicate n false) (cs.set k (.rsl σ.length 1 0 n)) := by
    refine ⟨⟨get_set_ne (get_old h.h0) (by omega), get_set_ne (get_old h.h1) (by omega), get_set_ne (get_old h.h2) (by omega), ?_, get_set_ne (get_old h.h4) (by omega), by simp [h.len], fun j h1 h2 => ?_⟩, hk, ?_, by omega, get_set_ne hnew (by omega), by simp, fun j q' h1 h2 => ?_⟩
    · rw [List.getElem?_set_self (by simp; omega)]
    · obtain ⟨q, a, b, c⟩ := h.row j h1 h2
      refine ⟨q, by rw [List.getElem?_set_ne (by omega)]; exact a, b, get_set_ne (get_old c) (by omega)⟩
    · rw [List.getElem?_set_self hkc]
    · rw [List.getElem?_set_ne (by omega)] at h2
      rcases Nat.lt_or_ge j (L o).length with h3 | h3
      · obtain ⟨q, a, b, c⟩ := h.row j h1 h3
        rw [a] at h2
        injection h2 with h2; injection h2 with h2
        have := get_lt c
        omega
      · rw [List.getElem?_eq_none (by rw [h.len]; exact h3)] at h2
        exact absurd h2 (by simp)
  have hg2 := hgs.set (row' := rowG p (L o) n k) (rowG_len _ _ _ _)
  refine ⟨_, _, ⟨hg2.gi.h0, hg2.gi.h1, hg2.gi.h2, hg2.gi.h3, hg2.gi.h4, hg2.gi.len, fun j h1 h2 => ?_⟩, fun K' => ?_⟩
  · rcases Nat.eq_or_lt_of_le h1 with h3 | h3
    · subst h3
      exact ⟨σ.length, hg2.cur, by omega, hg2.hq⟩
    · exact hg2.gi.row j h3 h2
  rw [f12_R0_eq]
  simp only [load84, e4, obind, fa27_1, fa25_0, shift_ptr, Nat.zero_add, load3, e0, mk88 hn40, idx84_r hk, st88_m g3 hkc]
  generalize (σ ++ [Row.arr (eBools (List.replicate n false))]).set 3 (.mix (cs.set k (.rsl σ.length 1 0 n))) = ρ at hgs ⊢
  have e4' : load1 (.ptr 4 0) ρ = some (.rsl 3 1 0 (L o).length) := load1_ptr hgs.gi.h4 rfl
  have e3' : load1 (.ptr 3 k) ρ = some (.rsl σ.length 1 0 n) := load1_ptr hgs.gi.h3 hgs.cur
  have hl88 : len PP 88 (.rsl σ.length 1 0 n) ρ = some (.p (pI (n : Nat))) := by simp [len, u88]
  simp only [e4', obind, idx84_r hk, Nat.zero_add, load88, e3', hl88]
  exact L12_0 (K' := K') hf n 0 _ ρ (by omega) (Nat.zero_le _) hgs (fun j hj => absurd hj (by omega))

theorem rounds12 (hf : Fine p o n) {run : List DV → Store → (Ex → Store → Option (DV × Store)) → Option (DV × Store)} {K : Ex → Store → Option (DV × Store)}
    (hrun : ∀ (k : Nat) (cs : List DV) (σ : Store), GI p o n σ (k + 1) cs → k < (L o).length → ∃ σ' cs', GI p o n σ' k cs' ∧ ∀ K', run [.p (pI (k : Nat)), .p (pI ((L o).getD k 0))] σ K' = K' .normal σ') :
    ∀ (k : Nat) (cs : List DV) (σ : Store), GI p o n σ k cs → k ≤ (L o).length → ∃ σ' cs', GI p o n σ' 0 cs' ∧ roundsK run (downFrom false 1 (eInts (L o)) k) σ K = K .normal σ'
  | 0, cs, σ, h, hk => ⟨σ, cs, h, rfl⟩
  | k + 1, cs, σ, h, hk => by
    obtain ⟨σ1, cs1, h1, e1⟩ := hrun k cs σ h (by omega)
    obtain ⟨σ2, cs2, h2, e2⟩ := rounds12 hf hrun k cs1 σ1 h1 (by omega)
    refine ⟨σ2, cs2, h2, ?_⟩
    have helem : elemOf false 1 (eInts (L o)) k = .p (pI ((L o).getD k 0)) := by
      have hk' : k < (L o).length := by omega
      have hx : (eInts (L o))[k]? = some (pI (L o)[k]) := by simp [eInts, hk']
      have hy : (L o).getD k 0 = (L o)[k] := by rw [List.getD_eq_getElem?_getD, List.getElem?_eq_getElem hk']; rfl
      rw [hy]
      simp [elemOf, hx]
    show roundsK run ([.p (pI (k : Nat)), elemOf false 1 (eInts (L o)) k] :: downFrom false 1 (eInts (L o)) k) σ K = _
    rw [helem]
    simp only [roundsK]
    rw [e1]
    exact e2

theorem range12 (hf : Fine p o n) {run : List DV → Store → (Ex → Store → Option (DV × Store)) → Option (DV × Store)} {K : Ex → Store → Option (DV × Store)} {cs : List DV} {σ : Store}
    (hrun : ∀ (k : Nat) (cs : List DV) (σ : Store), GI p o n σ (k + 1) cs → k < (L o).length → ∃ σ' cs', GI p o n σ' k cs' ∧ ∀ K', run [.p (pI (k : Nat)), .p (pI ((L o).getD k 0))] σ K' = K' .normal σ')
    (h : GI p o n σ (L o).length cs) : ∃ σ' cs', GI p o n σ' 0 cs' ∧ rangeK (pol 12) (.fn 80 [.pptr [eSl o] 0]) 2 true true run σ K = K .normal σ' := by
  obtain ⟨l, rfl⟩ : ∃ l, o = some l := by
    cases o with
    | none => have := hf.pos; simp at this
    | some l => exact ⟨l, rfl⟩
  have hlen := hf.len
  have hc : (eInts l).length = l.length * 1 ∧ 0 < 1 ∧ l.length ≤ 140737488355328 ∧ (false = false → 1 = 1) := by
    simp only [Option.getD_some] at hlen
    exact ⟨by simp [ints_length], by omega, by omega, fun _ => rfl⟩
  have hseq : ((pol 12).seq 80).bind (fun kind => seqList kind [.pptr [eSl (some l)] 0]) = some (downFrom false 1 (eInts l) l.length) := by
    show seqList (.backward false 1) [.pptr [eSl (some l)] 0] = _
    simp [seqList, eSl, ints_length, hc.2.2.1]
  have hall : ∀ k, (downFrom false 1 (eInts l) k).all (fun x => x.length == 2) = true := by
    intro k
    induction k with
    | zero => rfl
    | succ k ih => simp [downFrom, ih]
  obtain ⟨σ', cs', h1, h2⟩ := rounds12 hf hrun l.length cs σ h (Nat.le_refl _)
  refine ⟨σ', cs', h1, ?_⟩
  simp only [rangeK, hseq, hall, Bool.and_self, if_true]
  exact h2

/-! ### The path -/
def OutRel (σ : Store) (n : Nat) (out : List Nat) (x : DV) : Prop :=
  (∀ u ∈ out, u < n) ∧ ((out = [] ∧ x = .p .nilsl) ∨ (out ≠ [] ∧ ∃ r ver, x = .osl r ver 1 out.length (eInts (natsI out)) ∧ σ[r]? = some (.tok ver) ∧ 5 ≤ r))

theorem GI.push {σ : Store} {k : Nat} {cs : List DV} (h : GI p o n σ k cs) (r : Row) : GI p o n (σ ++ [r]) k cs :=
  ⟨get_old h.h0, get_old h.h1, get_old h.h2, get_old h.h3, get_old h.h4, h.len, fun j h1 h2 => let ⟨q, a, b, c⟩ := h.row j h1 h2; ⟨q, a, b, get_old c⟩⟩
theorem GI.tok {σ : Store} {k : Nat} {cs : List DV} (h : GI p o n σ k cs) {r v v' : Nat} (hr : σ[r]? = some (.tok v)) (h5 : 5 ≤ r) : GI p o n (σ.set r (.tok v')) k cs := by
  refine ⟨get_set_ne h.h0 (by omega), get_set_ne h.h1 (by omega), get_set_ne h.h2 (by omega), get_set_ne h.h3 (by omega), get_set_ne h.h4 (by omega), h.len, fun j h1 h2 => ?_⟩
  obtain ⟨q, a, b, c⟩ := h.row j h1 h2
  exact ⟨q, a, b, get_set_ne c fun e => by rw [e, hr] at c; injection c with c; cases c⟩

theorem bs22_1 (x : Int) (σ : Store) : buildSlice PP none 22 1 [(0, .p (pI x))] σ = some (.p (.sl true 1 [pI x]), σ) := Eq.trans (by kernel_rfl) rfl
theorem app22_nil (x : Int) (σ : Store) : append PP 0 false 22 22 (.p .nilsl) (.p (.sl true 1 [pI x])) σ = some (.osl σ.length 0 1 1 [pI x], σ ++ [.tok 0]) := by
  simp [append, src22, u22, s3, bytes3, zero3, source, appNil, pures, DV.pure?]
theorem app22_tok {σ : Store} {r ver m : Nat} {cs : List PV} (x : Int) (h : σ[r]? = some (.tok ver)) (hc : cs.length = m) (hm : m ≤ 1000) : append PP 0 false 22 22 (.osl r ver 1 m cs) (.p (.sl true 1 [pI x])) σ = some (.osl r (ver + 1) 1 (m + 1) (cs ++ [pI x]), σ.set r (.tok (ver + 1))) := by
  have h1 : (m + 1) * 8 ≤ 140737488355328 := by omega
  have h2 : m + 1 ≤ 140737488355328 := by omega
  simp [append, src22, u22, s3, bytes3, zero3, source, appTok, h, h1, h2, hc, pures, DV.pure?]

theorem app_out {σ : Store} {out : List Nat} {x : DV} {u : Nat} (h5 : 5 ≤ σ.length) (h : OutRel σ n out x) (hu : u < n) (hl : out.length ≤ 1000) :
    ∃ x' σ', append PP 0 false 22 22 x (.p (.sl true 1 [pI (u : Nat)])) σ = some (x', σ') ∧ OutRel σ' n (out ++ [u]) x' ∧ (∀ (p : Pair) (o : Option (List Int)) (k : Nat) (cs : List DV), GI p o n σ k cs → GI p o n σ' k cs) := by
  obtain ⟨h0, h⟩ := h
  have hall : ∀ w ∈ out ++ [u], w < n := by
    intro w hw
    rcases List.mem_append.1 hw with h1 | h1
    · exact h0 w h1
    · simp at h1; omega
  rcases h with ⟨rfl, rfl⟩ | ⟨hne, r, ver, rfl, hr, h5⟩
  · exact ⟨_, _, app22_nil _ σ, ⟨hall, .inr ⟨by simp, σ.length, 0, rfl, get_snoc, h5⟩⟩, fun p o k cs h => h.push _⟩
  · refine ⟨_, _, app22_tok _ hr (by simp [ints_length, natsI]) hl, ⟨hall, .inr ⟨by simp, r, ver + 1, by simp [natsI, eInts], ?_, h5⟩⟩, fun p o k cs h => h.tok hr h5⟩
    rw [List.getElem?_set_self (get_lt hr)]

end
end Go.D
end
/- UpperPath: what it answers. -/
section
set_option linter.unusedVariables false
set_option linter.unusedSimpArgs false
namespace Go.D

section
variable {p : Pair} {o : Option (List Int)} {n : Nat}

theorem idx22_o {σ : Store} {out : List Nat} {r ver i : Nat} (h : i < out.length) : indexAddr PP 22 (.osl r ver 1 out.length (eInts (natsI out))) (.p (pI (i : Nat))) = some (.pptr (eInts (natsI out)) i) := by
  have h2 : (0 : Int) ≤ (i : Int) ∧ (i : Int) < (out.length : Nat) := by omega
  simp [indexAddr, u22, s3, h2, h]
theorem natsI_get {out : List Nat} {i : Nat} (h : i < out.length) : (natsI out).getD i 0 = ((out.getD i 0 : Nat) : Int) := by
  simp [natsI, h]
theorem natsI_len (out : List Nat) : (natsI out).length = out.length := by simp [natsI]

theorem L12_3 (hf : Fine p o n) {i q : Nat} {cs : List DV} {σ : Store} {out : List Nat} {x : DV} (h : GI p o n σ 0 cs) (hi : i < (L o).length) (hq : σ[q]? = some (.arr (eBools (rowG p (L o) n i)))) (hout : OutRel σ n out x) (hol : out.length = i) :
    ∀ (d u : Nat), n - u = d → u ≤ n → f12_L3 guardT 0 (.ptr 0 0) (.ptr 2 0) (.ptr 4 0) x (.p (pI (i : Nat))) (.p (pI (-1))) (.p (pI ((L o).length : Nat))) (.p (pI (i : Nat))) (.rsl q 1 0 n) (.p (pI (n : Nat))) (.p (pI (u : Nat))) σ =
      f12_J0 guardT 0 (.ptr 0 0) (.ptr 2 0) (.ptr 4 0) x (.p (pI (match firstFrom (pickB p (L o) n i out) u d with | some w => (w : Int) | none => -1))) (.p (pI ((L o).length : Nat))) (.p (pI (i : Nat))) σ := by
  have e4 : load1 (.ptr 0 4) σ = some (.p (eSl p.up.init)) := pr_4 h.h0
  have e2 : load1 (.ptr 2 0) σ = some (.pptr (graphsV p n) 0) := load1_ptr h.h2 rfl
  have hn40 := hf.n40
  have hlen := hf.len
  intro d
  induction d with
  | zero =>
    intro u hd hu
    have hlt : ¬ (u : Int) < (n : Nat) := by omega
    rw [f12_L3_eq guardT rfl]
    simp only [b_lss, obind, hlt, decide_false, condK_false, firstFrom]
  | succ d ih =>
    intro u hd hu
    have hlt : (u : Int) < (n : Nat) := by omega
    have hun : u < n := by omega
    have wu : IntKind.wrap .i64 ((u : Int) + 1) = ((u + 1 : Nat) : Int) := wrap_succ (by omega)
    have hi0 : decide ((i : Int) = 0) = decide (i = 0) := by simp only [decide_eq_decide]; omega
    have hig : decide ((i : Int) > 0) = decide (i > 0) := by simp only [decide_eq_decide]; omega
    have ih' := ih (u + 1) (by omega) (by omega)
    rw [f12_L3_eq guardT rfl]
    simp only [b_lss, obind, hlt, decide_true, condK_true, idx88_r hun, Nat.zero_add, load4, load1_arr hq (show u < (rowG p (L o) n i).length by rw [rowG_len]; exact hun), rowG_get _ _ _ _ _ hun, b_eql, hi0]
    -- how the end goes
    have fin : ∀ fits : Bool, fits = fitsB p i out u →
        (guardT _ (.p (.bool (goodAt p (L o) n i u))) true (some (.p (.bool fits), σ)) σ fun x148 σ1 =>
          (pickV (.p (.bool (goodAt p (L o) n i u))) x148 (DV.p (PV.bool false))).bind fun x149 =>
          condK x149 (f12_J0 guardT 0 (.ptr 0 0) (.ptr 2 0) (.ptr 4 0) x (.p (pI (u : Nat))) (.p (pI ((L o).length : Nat))) (.p (pI (i : Nat))) σ1)
            ((binOp PP .add 3 (.p (pI (u : Nat))) (DV.p (PV.int IntKind.i64 (1)))).bind fun x151 =>
              f12_L3 guardT 0 (.ptr 0 0) (.ptr 2 0) (.ptr 4 0) x (.p (pI (i : Nat))) (.p (pI (-1))) (.p (pI ((L o).length : Nat))) (.p (pI (i : Nat))) (.rsl q 1 0 n) (.p (pI (n : Nat))) x151 σ1)) =
        f12_J0 guardT 0 (.ptr 0 0) (.ptr 2 0) (.ptr 4 0) x (.p (pI (match firstFrom (pickB p (L o) n i out) u (d + 1) with | some w => (w : Int) | none => -1))) (.p (pI ((L o).length : Nat))) (.p (pI (i : Nat))) σ := by
      intro fits hfi
      have hpk : pickB p (L o) n i out u = (goodAt p (L o) n i u && fits) := by rw [hfi]; rfl
      unfold firstFrom
      rw [hpk]
      cases goodAt p (L o) n i u with
      | false =>
        simp only [guard_ft, guard_sk, obind, pickV_false, condK_false, b_add, wu, Bool.false_and, Bool.false_eq_true, if_false]
        exact ih'
      | true =>
        simp only [guard_tt, obind, pickV_true, Bool.true_and]
        cases fits with
        | false =>
          simp only [condK_false, b_add, obind, wu, Bool.false_eq_true, if_false]
          exact ih'
        | true => simp only [condK_true, if_true]
    by_cases h0 : i = 0
    · have hd0 : decide (i = 0) = true := by simp [h0]
      have hd1 : decide (i > 0) = false := by simp [h0]
      simp only [hd0, guard_tt, obind, fa27_1, fa25_1, shift_ptr, Nat.zero_add, load22, e4, pureFn_fn, List.append_nil, S46 hf.small.ui, pickV_true]
      cases hh : hasI (L p.up.init) u with
      | true =>
        simp only [guard_tf, guard_sk, obind, pickV_true]
        exact fin true (by simp [fitsB, h0, hh])
      | false =>
        simp only [guard_ff, obind, b_gtr, hig, hd1, guard_ft, guard_sk, pickV_false]
        exact fin false (by simp [fitsB, h0, hh])
    · have hd0 : decide (i = 0) = false := by simp [h0]
      have hd1 : decide (i > 0) = true := by simp; omega
      have hne : out ≠ [] := by intro e; rw [e] at hol; simp at hol; omega
      obtain ⟨hall, hor⟩ := hout
      rcases hor with ⟨e, _⟩ | ⟨_, r, ver, rfl, hr, h5⟩
      · exact absurd e hne
      have hi1 : i - 1 < out.length := by omega
      have hw : out.getD (i - 1) 0 < n := by
        rw [List.getD_eq_getElem?_getD, List.getElem?_eq_getElem hi1]
        exact hall _ (List.getElem_mem hi1)
      simp only [hd0, guard_ft, guard_sk, obind, pickV_false, guard_ff, b_gtr, hig, hd1, guard_tt, load82, e2, b_sub, wrap_pred (show 0 < i by omega) (show i ≤ 1000000 by omega), idx22_o (σ := σ) hi1, load3, load1_getD (show i - 1 < (natsI out).length by rw [natsI_len]; exact hi1), natsI_get hi1, pureFn_fn, List.append_nil, S45 hw hun, pickV_true]
      exact fin _ (by simp [fitsB, h0])

def resUp : Option (List Nat) → DV
  | none => .tuple [.p .nilsl, .p (pI 25)]
  | some r => .tuple [.p (eSl (some (natsI r))), .p (pI 0)]

theorem L12_2 (hf : Fine p o n) :
    ∀ (k i : Nat) (out : List Nat) (σ : Store) (x : DV) (cs : List DV), (L o).length - i = k → i ≤ (L o).length → out.length = i → GI p o n σ 0 cs → OutRel σ n out x →
      ∃ v σ', f12_L2 guardT 0 (.ptr 0 0) (.ptr 2 0) (.ptr 4 0) x (.p (pI ((L o).length : Nat))) (.p (pI (i : Nat))) σ = some (v, σ') ∧ thawAll 0 σ' v = some (resUp (goUp p (L o) n k i out))
  | 0, i, out, σ, x, cs, hk, hi, hol, h, hout => by
    have hlt : ¬ (i : Int) < ((L o).length : Nat) := by omega
    have hpos := hf.pos
    refine ⟨.tuple [x, .p (pI 0)], σ, ?_, ?_⟩
    · rw [f12_L2_eq guardT rfl]
      simp only [b_lss, obind, hlt, decide_false, condK_false]
    · obtain ⟨_, hor⟩ := hout
      rcases hor with ⟨e, _⟩ | ⟨_, r, ver, rfl, hr, h5⟩
      · rw [e] at hol; simp at hol; omega
      · simp [thawAll, thawPart, mapO, thaw, thaw1, thawP, loosen, resUp, goUp, eSl, natsI_len, loosens_ints]
  | k + 1, i, out, σ, x, cs, hk, hi, hol, h, hout => by
    have hlt : (i : Int) < ((L o).length : Nat) := by omega
    have hil : i < (L o).length := by omega
    have hlen := hf.len
    have hn40 := hf.n40
    obtain ⟨q, hc, h5, hq⟩ := h.row i (Nat.zero_le _) hil
    have e4 : load1 (.ptr 4 0) σ = some (.rsl 3 1 0 (L o).length) := load1_ptr h.h4 rfl
    have e3 : load1 (.ptr 3 i) σ = some (.rsl q 1 0 n) := load1_ptr h.h3 hc
    have hl88 : len PP 88 (.rsl q 1 0 n) σ = some (.p (pI (n : Nat))) := by simp [len, u88]
    have l4 := get_lt h.h4
    rw [f12_L2_eq guardT rfl]
    simp only [b_lss, obind, hlt, decide_true, condK_true, load84, e4, idx84_r hil, Nat.zero_add, load88, e3, hl88]
    have e := L12_3 hf h hil hq hout hol n 0 (by omega) (Nat.zero_le _)
    have e' : f12_L3 guardT 0 (.ptr 0 0) (.ptr 2 0) (.ptr 4 0) x (.p (pI (i : Nat))) (.p (pI (-1))) (.p (pI ((L o).length : Nat))) (.p (pI (i : Nat))) (.rsl q 1 0 n) (.p (pI (n : Nat))) (.p (pI 0)) σ = _ := e
    rw [e', f12_J0_eq]
    unfold goUp
    cases hfst : firstFrom (pickB p (L o) n i out) 0 n with
    | none =>
      refine ⟨.tuple [.p .nilsl, .p (pI 25)], σ, ?_, rfl⟩
      simp [b_lss, condK_true]
    | some u =>
      have hun : u < n := by have := firstFrom_lt n 0 hfst; omega
      have hneg : ¬ (u : Int) < 0 := by omega
      obtain ⟨x', σ', happ, hout', hgi⟩ := app_out (σ := σ) (by omega) hout hun (by omega)
      simp only [b_lss, hneg, decide_false, obind, condK_false, bs22_1, happ, b_add, wrap_succ (show i ≤ 1000000 by omega)]
      exact L12_2 hf k (i + 1) (out ++ [u]) σ' x' cs (by omega) (by omega) (by simp [hol]) (hgi _ _ _ _ h) hout'

end
end Go.D
end
/- UpperPath as a whole. -/
section
set_option linter.unusedVariables false
set_option linter.unusedSimpArgs false
namespace Go.D

theorem orL_zero : ∀ {l : List Int}, orL l = 0 → ∀ a ∈ l, a = 0
  | [], _, a, h => absurd h (by simp)
  | b :: l, h, a, ha => by
    unfold orL at h
    split at h
    · rename_i hb
      rcases List.mem_cons.1 ha with e | e
      · rw [e]; exact hb
      · exact orL_zero h a e
    · rename_i hb; exact absurd h hb

theorem fine_of {p : Pair} {o : Option (List Int)} (hp : Small p) (hl : (L o).length ≤ 1000) (he : errP p = 0) (hq : errPath p.lo (L o) = 0) : Fine p o p.up.n.toNat := by
  have h1 : e1P p = 0 := orL_zero he _ (by simp)
  have h2 : e2P p = 0 := orL_zero he _ (by simp)
  have h3 : e3P p = 0 := orL_zero he _ (by simp)
  have g1 : isG p.lo = true ∧ isG p.up = true := by
    unfold e1P at h1
    split at h1
    · rename_i h; simpa using h
    · omega
  have g3 : ((L p.ll).length : Int) = p.lo.n ∧ ((L p.ul).length : Int) = p.up.n := by
    unfold e3P at h3
    split at h3
    · rename_i h; simpa using h
    · omega
  have hup := g1.2
  have hlo := g1.1
  simp only [isG, Bool.and_eq_true, decide_eq_true_eq] at hup hlo
  have nu : 0 ≤ p.up.n ∧ p.up.n ≤ 400 := by simpa [inR] using hup.1.1.1
  have nl : 0 ≤ p.lo.n ∧ p.lo.n ≤ 400 := by simpa [inR] using hlo.1.1.1
  have pu : pred p.up.n = p.up.n - 1 := wrap_ok (by omega) (by omega)
  have pl : pred p.lo.n = p.lo.n - 1 := wrap_ok (by omega) (by omega)
  have q1 : ¬ (L o).length = 0 := by intro h; simp [errPath, h] at hq
  have q2 : ¬ (L o).length > 60 := by intro h; simp [errPath, q1, h] at hq
  have q3 : (L o).any (badN p.lo) = false := by
    cases h : (L o).any (badN p.lo) with
    | false => rfl
    | true => simp [errPath, q1, q2, h] at hq
  refine ⟨hp, by omega, by omega, ?_, by omega, hl, ?_, by omega⟩
  · intro e hm
    obtain ⟨i, hi, rfl⟩ := List.getElem_of_mem hm
    have := (allFrom_iff _ _).1 hup.2 i (Nat.zero_le _) (by omega)
    have eg : (L p.up.edges).getD i default = (L p.up.edges)[i] := by rw [List.getD_eq_getElem?_getD, List.getElem?_eq_getElem hi]; rfl
    simp only [okE, eg, pu, inR, Bool.and_eq_true, decide_eq_true_eq] at this
    omega
  · intro i hi
    have eg : (L o).getD i 0 = (L o)[i] := by rw [List.getD_eq_getElem?_getD, List.getElem?_eq_getElem hi]; rfl
    have hb : badN p.lo (L o)[i] = false := by
      cases h : badN p.lo (L o)[i] with
      | false => rfl
      | true => rw [List.any_eq_true.2 ⟨_, List.getElem_mem hi, h⟩] at q3; exact absurd q3 (by simp)
    simp only [badN, inR, pl, Bool.not_eq_false', Bool.and_eq_true, decide_eq_true_eq] at hb
    rw [eg]
    omega

section
variable {p : Pair} {o : Option (List Int)} {n : Nat}

theorem range12' (hf : Fine p o n) {run : List DV → Store → (Ex → Store → Option (DV × Store)) → Option (DV × Store)} {K : Ex → Store → Option (DV × Store)} {cs : List DV} {σ : Store} {T : DV → Store → Prop}
    (hrun : ∀ (k : Nat) (cs : List DV) (σ : Store), GI p o n σ (k + 1) cs → k < (L o).length → ∃ σ' cs', GI p o n σ' k cs' ∧ ∀ K', run [.p (pI (k : Nat)), .p (pI ((L o).getD k 0))] σ K' = K' .normal σ')
    (h : GI p o n σ (L o).length cs) (hK : ∀ σ' cs', GI p o n σ' 0 cs' → ∃ v σ2, K .normal σ' = some (v, σ2) ∧ T v σ2) :
    ∃ v σ2, rangeK (pol 12) (.fn 80 [.pptr [eSl o] 0]) 2 true true run σ K = some (v, σ2) ∧ T v σ2 := by
  obtain ⟨σ', cs', h1, h2⟩ := range12 (K := K) hf hrun h
  obtain ⟨v, σ2, h3, h4⟩ := hK σ' cs' h1
  exact ⟨v, σ2, h2.trans h3, h4⟩

def resU (p : Pair) (o : Option (List Int)) : DV :=
  if errP p = 0 then if errPath p.lo (L o) = 0 then resUp (upPath p (L o) p.up.n.toNat) else .tuple [.p .nilsl, .p (pI (errPath p.lo (L o)))] else .tuple [.p .nilsl, .p (pI (errP p))]

theorem st82 (cs : List PV) (off : Nat) (x : DV) (a b : Row) : store PP 0 82 (.ptr 2 0) (.pptr cs off) [a, b, .mix [x]] = some [a, b, .mix [.pptr cs off]] := Eq.trans (by kernel_rfl) rfl
theorem st84_4 (r sz off m : Nat) (x : DV) (a b c d : Row) : store PP 0 84 (.ptr 4 0) (.rsl r sz off m) [a, b, c, d, .mix [x]] = some [a, b, c, d, .mix [.rsl r sz off m]] := Eq.trans (by kernel_rfl) rfl

theorem S12 {σ : Store} (hp : Small p) (hl : (L o).length ≤ 1000) : pureV CC 12 [.agg (ePair p), .p (eSl o)] σ = some (resU p o) := by
  refine pureV_any (by simp [pair_view, sl_view]) fun lo σ0 hs => ?_
  rcases hs with ⟨rfl, rfl, _⟩ | ⟨_, _, h⟩
  case inr => exact absurd h (by simp [rowFree, rowFree1, ePair])
  have hF : ∃ v σ', F12 guardT 0 (.agg (ePair p)) (.p (eSl o)) [] = some (v, σ') ∧ thawAll 0 σ' v = some (resU p o) := by
    have g0 : ∀ s, (Row.mix (ePair p) :: s : Store)[0]? = some (.mix (ePair p)) := fun _ => rfl
    have hbx : boxV (.p (eSl o)) = some [.p (eSl o)] := rfl
    have e1 : ∀ a s, load1 (.ptr 1 0) (a :: Row.mix [.p (eSl o)] :: s) = some (.p (eSl o)) := fun a s => load1_ptr (cs := [.p (eSl o)]) rfl rfl
    rw [F12_eq]
    simp only [box_pair, hbx, obind, List.length_nil, List.nil_append, List.length_cons, List.cons_append, Nat.zero_add, load27, pr_all (g0 _), omap, pureFn_fn, List.append_nil, S41 hp, b_neq]
    by_cases he : errP p = 0
    · simp only [he, decide_true, Bool.not_true, condK_false, fa27_0, shift_ptr, Nat.zero_add, obind, load25, pr_lo (g0 _), omap, load22, e1, pureFn_fn, List.append_nil, S42 hl hp.li hp.le, b_neq]
      by_cases hq : errPath p.lo (L o) = 0
      · have hf := fine_of hp hl he hq
        simp only [hq, decide_true, Bool.not_true, condK_false, load27, pr_all (g0 _), omap, obind, pureFn_fn, List.append_nil, S43 hp hf.n0 hf.n40 hf.steps, zero82, Nat.reduceAdd, st82, load22, e1, len22, mk84 hl, zero84, List.length_cons, List.length_nil, List.cons_append, List.nil_append, Nat.zero_add, st84_4, S44]
        refine range12' (n := p.up.n.toNat) hf (fun k cs σ h hk => R12 hf h hk _ _ _ _ _ _ _ _ _ _ _ _ _ _ _ _ _ _ _ _ _ _ _) (cs := List.replicate (L o).length (.p .nilsl)) ⟨rfl, rfl, rfl, rfl, rfl, by simp, fun j h1 h2 => absurd h1 (by omega)⟩ ?_
        intro σ' cs' h
        have e1' : load1 (.ptr 1 0) σ' = some (.p (eSl o)) := load1_ptr h.h1 rfl
        rw [f12_X0_normal]
        simp only [load22, e1', obind, len22]
        obtain ⟨v, σ2, h3, h4⟩ := L12_2 hf (L o).length 0 [] σ' (.p .nilsl) cs' (by omega) (Nat.zero_le _) rfl h ⟨fun u hu => absurd hu (by simp), .inl ⟨rfl, rfl⟩⟩
        refine ⟨v, σ2, h3, ?_⟩
        rw [h4]
        simp only [resU, he, hq, if_true, upPath]
      · simp only [hq, decide_false, Bool.not_false, condK_true]
        refine ⟨_, _, rfl, ?_⟩
        simp only [resU, he, hq, if_true, if_false]
        rfl
    · simp only [he, decide_false, Bool.not_false, condK_true]
      refine ⟨_, _, rfl, ?_⟩
      simp only [resU, he, if_false]
      rfl
  obtain ⟨v, σ', h1, h2⟩ := hF
  exact ⟨v, σ', F12_call h1, h2⟩

end
end Go.D
end
/- The reference's Upper. -/
section
set_option linter.unusedVariables false
set_option linter.unusedSimpArgs false
namespace Go.D

section
variable {p : Pair} {o : Option (List Int)} {n : Nat}

structure HI (p : Pair) (o : Option (List Int)) (n : Nat) (σ : Store) (k : Nat) (cs : List DV) : Prop where
  h0 : σ[0]? = some (.mix (ePair p))
  h1 : σ[1]? = some (.mix cs)
  len : cs.length = (L o).length
  row : ∀ j, k ≤ j → j < (L o).length → ∃ q, cs[j]? = some (.rsl q 1 0 n) ∧ 2 ≤ q ∧ σ[q]? = some (.arr (eBools (rowG p (L o) n j)))

structure HS (p : Pair) (o : Option (List Int)) (n : Nat) (σ : Store) (i q : Nat) (row : List Bool) (cs : List DV) : Prop where
  gi : HI p o n σ (i + 1) cs
  i1 : i < (L o).length
  cur : cs[i]? = some (.rsl q 1 0 n)
  q5 : 2 ≤ q
  hq : σ[q]? = some (.arr (eBools row))
  rl : row.length = n
  ne : ∀ j q', i < j → cs[j]? = some (.rsl q' 1 0 n) → q' ≠ q

theorem HS.set {σ : Store} {i q : Nat} {row row' : List Bool} {cs : List DV} (h : HS p o n σ i q row cs) (hr : row'.length = n) : HS p o n (σ.set q (.arr (eBools row'))) i q row' cs := by
  have hq5 := h.q5
  refine ⟨⟨get_set_ne h.gi.h0 (by omega), get_set_ne h.gi.h1 (by omega), h.gi.len, fun j h1 h2 => ?_⟩, h.i1, h.cur, h.q5, ?_, hr, h.ne⟩
  · obtain ⟨q', a, b, c⟩ := h.gi.row j h1 h2
    exact ⟨q', a, b, get_set_ne c (h.ne j q' (by omega) a)⟩
  · rw [List.getElem?_set_self (get_lt h.hq)]

abbrev mat (m : Nat) : DV := .rsl 1 1 0 m

theorem L17_2 (hf : Fine p o n) {i u q : Nat} {row : List Bool} {cs : List DV} {σ : Store} (h : HS p o n σ i q row cs) (hu : u < n) :
    ∀ (d v : Nat) (g : Bool), n - v = d → v ≤ n → (g = false → i + 1 < (L o).length) →
      f17_L2 guardT 0 (.p (eSl o)) (.ptr 0 0) (mat (L o).length) (.p (pI (i : Nat))) (.p (pI (u : Nat))) (.p (.bool g)) (.p (pI (v : Nat))) σ =
      f17_L1 guardT 0 (.p (eSl o)) (.ptr 0 0) (mat (L o).length) (.p (pI (i : Nat))) (.p (pI (u + 1 : Nat)))
        (σ.set q (.arr (eBools (row.set u ((g || anyFrom (fun v => follows p.up u v && goodAt p (L o) n (i + 1) v) v d) && labB p (L o) i u))))) := by
  have hn := hf.n0
  have i1 := h.i1
  have hlen := hf.len
  have hn40 := hf.n40
  have e0 : load1 (.ptr 0 3) σ = some (.p (pI (n : Nat))) := by rw [← hn]; exact pr_3 h.gi.h0
  have e3 : load1 (.ptr 1 i) σ = some (.rsl q 1 0 n) := load1_ptr h.gi.h1 h.cur
  have e6 : load1 (.ptr 0 6) σ = some (.p (eSl p.ll)) := pr_6 h.gi.h0
  have e7 : load1 (.ptr 0 7) σ = some (.p (eSl p.ul)) := pr_7 h.gi.h0
  have wu : IntKind.wrap .i64 ((u : Int) + 1) = ((u + 1 : Nat) : Int) := wrap_succ (by omega)
  have wi : IntKind.wrap .i64 ((i : Int) + 1) = ((i + 1 : Nat) : Int) := wrap_succ (by omega)
  obtain ⟨hs0, hs1⟩ := hf.states i i1
  have es : (L o).getD i 0 = (((L o).getD i 0).toNat : Int) := (Int.toNat_of_nonneg hs0).symm
  have hul : u < (L p.ul).length := by rw [hf.ul]; exact hu
  have hst : ∀ b : Bool, store PP 0 4 (.ptr q u) (.p (.bool b)) σ = some (σ.set q (.arr (eBools (row.set u b)))) := fun b => st4 h.hq (by rw [h.rl]; exact hu)
  have hl1 : indexAddr PP 22 (.p (eSl p.ll)) (.p (pI ((L o).getD i 0))) = some (.pptr (eInts (L p.ll)) ((L o).getD i 0).toNat) := by
    have := idx22 (o := p.ll) hs1
    rw [← es] at this
    exact this
  intro d
  induction d with
  | zero =>
    intro v g hd hv hg
    have hlt : ¬ (v : Int) < (n : Nat) := by omega
    rw [f17_L2_eq guardT rfl]
    simp only [fa27_1, fa25_0, shift_ptr, Nat.zero_add, load3, e0, obind, b_lss, hlt, decide_false, guard_ft, guard_sk, pickV_false, condK_false, idx84_r i1, load88, e3]
    cases g with
    | false => simp only [guard_ft, guard_sk, obind, pickV_false, idx88_r hu, Nat.zero_add, hst, b_add, wu, anyFrom, Bool.false_or, Bool.false_and]
    | true => simp only [guard_tt, obind, fa27_2, fa27_3, shift_ptr, Nat.zero_add, load22, e6, e7, idx22 i1, load1_getD i1, hl1, load3, load1_getD hs1, idx22 hul, load1_getD hul, b_eql, pickV_true, idx88_r hu, hst, b_add, wu, anyFrom, Bool.true_or, Bool.true_and, labB]
  | succ d ih =>
    intro v g hd hv hg
    have hlt : (v : Int) < (n : Nat) := by omega
    have hvn : v < n := by omega
    rw [f17_L2_eq guardT rfl]
    simp only [fa27_1, fa25_0, shift_ptr, Nat.zero_add, load3, e0, obind, b_lss, hlt, decide_true, guard_tt, not_bool, pickV_true]
    cases g with
    | true =>
      simp only [Bool.not_true, condK_false, idx84_r i1, Nat.zero_add, obind, load88, e3, guard_tt, fa27_2, fa27_3, shift_ptr, load22, e6, e7, idx22 i1, load1_getD i1, hl1, load3, load1_getD hs1, idx22 hul, load1_getD hul, b_eql, pickV_true, idx88_r hu, hst, b_add, wu, Bool.true_or, Bool.true_and, labB]
    | false =>
      have hi2 := hg rfl
      obtain ⟨q', ha, hb, hc⟩ := h.gi.row (i + 1) (Nat.le_refl _) hi2
      have e3' : load1 (.ptr 1 (i + 1)) σ = some (.rsl q' 1 0 n) := load1_ptr h.gi.h1 ha
      have wv : IntKind.wrap .i64 ((v : Int) + 1) = ((v + 1 : Nat) : Int) := wrap_succ (by omega)
      simp only [Bool.not_false, condK_true, b_add, obind, wi, idx84_r hi2, Nat.zero_add, load88, e3', idx88_r hvn, load4, load1_arr hc (show v < (rowG p (L o) n (i + 1)).length by rw [rowG_len]; exact hvn), rowG_get _ _ _ _ _ hvn, Bool.false_or, anyFrom]
      cases hfo : goodAt p (L o) n (i + 1) v with
      | false =>
        simp only [guard_ft, guard_sk, obind, pickV_false, b_add, wv]
        rw [ih (v + 1) false (by omega) (by omega) hg]
        simp
      | true =>
        simp only [guard_tt, obind, fa27_1, shift_ptr, Nat.zero_add, load25, pr_up h.gi.h0, omap, pureFn_fn, List.append_nil, S50 hf.small.ue, pickV_true, b_add, wv]
        rw [ih (v + 1) (follows p.up u v) (by omega) (by omega) (fun _ => hi2)]
        simp

theorem L17_1 (hf : Fine p o n) {i q : Nat} {cs : List DV} :
    ∀ (d u : Nat) (row : List Bool) (σ : Store), n - u = d → u ≤ n → HS p o n σ i q row cs → (∀ j, j < u → row.getD j false = goodAt p (L o) n i j) →
      f17_L1 guardT 0 (.p (eSl o)) (.ptr 0 0) (mat (L o).length) (.p (pI (i : Nat))) (.p (pI (u : Nat))) σ = f17_L0 guardT 0 (.p (eSl o)) (.ptr 0 0) (mat (L o).length) (.p (pI ((i : Int) - 1))) (σ.set q (.arr (eBools (rowG p (L o) n i))))
  | 0, u, row, σ, hd, hu, h, hrow => by
    have hlt : ¬ (u : Int) < (n : Nat) := by omega
    have e0 : load1 (.ptr 0 3) σ = some (.p (pI (n : Nat))) := by rw [← hf.n0]; exact pr_3 h.gi.h0
    have hlen := hf.len
    have i1 := h.i1
    have wi : IntKind.wrap .i64 ((i : Int) - 1) = (i : Int) - 1 := wrap_ok (by omega) (by omega)
    rw [f17_L1_eq guardT rfl]
    simp only [fa27_1, fa25_0, shift_ptr, Nat.zero_add, load3, e0, b_lss, obind, hlt, decide_false, condK_false, b_sub, wi]
    have : row = rowG p (L o) n i := by
      apply List.ext_getElem (by rw [h.rl, rowG_len])
      intro j h1 h2
      have hj : j < n := by rw [← h.rl]; exact h1
      have e1 := hrow j (by omega)
      rw [List.getD_eq_getElem?_getD, List.getElem?_eq_getElem h1] at e1
      have e2 := rowG_get p (L o) n i j hj
      rw [List.getD_eq_getElem?_getD, List.getElem?_eq_getElem h2] at e2
      exact e1.trans e2.symm
    rw [← this, set_same h.hq]
  | d + 1, u, row, σ, hd, hu, h, hrow => by
    have hlt : (u : Int) < (n : Nat) := by omega
    have hun : u < n := by omega
    have i1 := h.i1
    have hlen := hf.len
    have e0 : load1 (.ptr 0 3) σ = some (.p (pI (n : Nat))) := by rw [← hf.n0]; exact pr_3 h.gi.h0
    have wm : IntKind.wrap .i64 (((L o).length : Nat) - 1 : Int) = (((L o).length - 1 : Nat) : Int) := wrap_pred (by omega) (by omega)
    have hi0 : decide ((i : Int) = (((L o).length - 1 : Nat) : Int)) = decide (i = (L o).length - 1) := by simp only [decide_eq_decide]; omega
    rw [f17_L1_eq guardT rfl]
    simp only [fa27_1, fa25_0, shift_ptr, Nat.zero_add, load3, e0, b_lss, obind, hlt, decide_true, condK_true, len22, b_sub, wm, b_eql, hi0]
    have e := L17_2 hf h hun n 0 (decide (i = (L o).length - 1)) (by omega) (Nat.zero_le _) (by intro hg; simp at hg; omega)
    have e' : f17_L2 guardT 0 (.p (eSl o)) (.ptr 0 0) (mat (L o).length) (.p (pI (i : Nat))) (.p (pI (u : Nat))) (.p (.bool (decide (i = (L o).length - 1)))) (.p (pI 0)) σ = _ := e
    rw [e']
    have hg : ((decide (i = (L o).length - 1) || anyFrom (fun v => follows p.up u v && goodAt p (L o) n (i + 1) v) 0 n) && labB p (L o) i u) = goodAt p (L o) n i u := by
      by_cases hl : i = (L o).length - 1
      · rw [hl, good_last]; simp
      · rw [good_step p (L o) n i (by omega)]; simp [hl]
    rw [hg, L17_1 hf d (u + 1) _ _ (by omega) (by omega) (h.set (row' := row.set u (goodAt p (L o) n i u)) (by simp [h.rl])) (by
      intro j hj
      rcases Nat.lt_or_ge j u with h3 | h3
      · rw [List.getD_eq_getElem?_getD, List.getElem?_set_ne (by omega), ← List.getD_eq_getElem?_getD]; exact hrow j h3
      · have : j = u := by omega
        subst this
        rw [List.getD_eq_getElem?_getD, List.getElem?_set_self (by rw [h.rl]; exact hun)]
        rfl)]
    rw [List.set_set]

theorem st88_1 {σ : Store} {cs : List DV} {i q : Nat} (h : σ[1]? = some (.mix cs)) (hi : i < cs.length) : store PP 0 88 (.ptr 1 i) (.rsl q 1 0 n) σ = some (σ.set 1 (.mix (cs.set i (.rsl q 1 0 n)))) := by
  have h1 : splice cs i [DV.rsl q 1 0 n] = cs.set i (.rsl q 1 0 n) := by
    unfold splice
    rw [List.set_eq_take_append_cons_drop]
    simp [hi]
  have hle : i + 1 ≤ cs.length := hi
  simp [store, s88, DV.cells, storeN, h, DV.one, h1, hle]

theorem L17_0 (hf : Fine p o n) :
    ∀ (k : Nat) (cs : List DV) (σ : Store), HI p o n σ k cs → k ≤ (L o).length → ∃ σ' cs', HI p o n σ' 0 cs' ∧
      f17_L0 guardT 0 (.p (eSl o)) (.ptr 0 0) (mat (L o).length) (.p (pI ((k : Int) - 1))) σ = f17_L3 guardT 0 (.p (eSl o)) (.ptr 0 0) (mat (L o).length) (.p .nilsl) (.p (pI (0 : Nat))) σ'
  | 0, cs, σ, h, hk => by
    refine ⟨σ, cs, h, ?_⟩
    rw [f17_L0_eq guardT rfl]
    have : ¬ ((0 : Nat) : Int) - 1 ≥ 0 := by omega
    simp only [b_geq, obind, this, decide_false, condK_false]
    rfl
  | k + 1, cs, σ, h, hk => by
    have hk' : k < (L o).length := by omega
    have hn := hf.n0
    have hn40 := hf.n40
    have l1 := get_lt h.h1
    have e0 : load1 (.ptr 0 3) σ = some (.p (pI (n : Nat))) := by rw [← hn]; exact pr_3 h.h0
    have g3 : (σ ++ [Row.arr (eBools (List.replicate n false))])[1]? = some (.mix cs) := get_old h.h1
    have hkc : k < cs.length := by rw [h.len]; exact hk'
    have hnew : (σ ++ [Row.arr (eBools (List.replicate n false))])[σ.length]? = some (.arr (eBools (List.replicate n false))) := get_snoc
    have hgs : HS p o n ((σ ++ [Row.arr (eBools (List.replicate n false))]).set 1 (.mix (cs.set k (.rsl σ.length 1 0 n)))) k σ.length (List.replicate n false) (cs.set k (.rsl σ.length 1 0 n)) := by
      refine ⟨⟨get_set_ne (get_old h.h0) (by omega), ?_, by simp [h.len], fun j h1 h2 => ?_⟩, hk', ?_, by omega, get_set_ne hnew (by omega), by simp, fun j q' h1 h2 => ?_⟩
      · rw [List.getElem?_set_self (by simp; omega)]
      · obtain ⟨q, a, b, c⟩ := h.row j h1 h2
        refine ⟨q, by rw [List.getElem?_set_ne (by omega)]; exact a, b, get_set_ne (get_old c) (by omega)⟩
      · rw [List.getElem?_set_self hkc]
      · rw [List.getElem?_set_ne (by omega)] at h2
        rcases Nat.lt_or_ge j (L o).length with h3 | h3
        · obtain ⟨q, a, b, c⟩ := h.row j h1 h3
          rw [a] at h2
          injection h2 with h2; injection h2 with h2
          have := get_lt c
          omega
        · rw [List.getElem?_eq_none (by rw [h.len]; exact h3)] at h2
          exact absurd h2 (by simp)
    have hg2 := hgs.set (row' := rowG p (L o) n k) (rowG_len _ _ _ _)
    obtain ⟨σ', cs', h1, h2⟩ := L17_0 hf k (cs.set k (.rsl σ.length 1 0 n)) _ ⟨hg2.gi.h0, hg2.gi.h1, hg2.gi.len, fun j h1 h2 => by
      rcases Nat.eq_or_lt_of_le h1 with h3 | h3
      · subst h3
        exact ⟨σ.length, hg2.cur, by omega, hg2.hq⟩
      · exact hg2.gi.row j h3 h2⟩ (by omega)
    refine ⟨σ', cs', h1, ?_⟩
    have ek : (((k + 1 : Nat) : Int) - 1) = (k : Int) := by omega
    have hge : (k : Int) ≥ 0 := by omega
    rw [f17_L0_eq guardT rfl, ek]
    simp only [b_geq, obind, hge, decide_true, condK_true, fa27_1, fa25_0, shift_ptr, Nat.zero_add, load3, e0, mk88 hn40, idx84_r hk', st88_1 g3 hkc]
    have e : f17_L1 guardT 0 (.p (eSl o)) (.ptr 0 0) (mat (L o).length) (.p (pI (k : Nat))) (.p (pI 0)) _ = _ := L17_1 hf n 0 _ _ (by omega) (Nat.zero_le _) hgs (fun j hj => absurd hj (by omega))
    exact e.trans h2

end
end Go.D
end
/- The reference's Upper: what it answers. -/
section
set_option linter.unusedVariables false
set_option linter.unusedSimpArgs false
namespace Go.D

theorem firstFrom_last {q : Nat → Bool} : ∀ (d u : Nat), firstFrom q u (d + 1) = match firstFrom q u d with
    | some w => some w
    | none => if q (u + d) then some (u + d) else none
  | 0, u => by simp [firstFrom]
  | d + 1, u => by
    rw [firstFrom, firstFrom_last d (u + 1)]
    conv => rhs; rw [firstFrom]
    cases h : q u with
    | true => simp
    | false =>
      simp only [Bool.false_eq_true, if_false]
      have e : u + 1 + d = u + (d + 1) := by omega
      rw [e]

section
variable {p : Pair} {o : Option (List Int)} {n : Nat}

def orD (w : Int) : Option Nat → Int
  | some v => v
  | none => w

def OutRel2 (σ : Store) (n : Nat) (out : List Nat) (x : DV) : Prop :=
  (∀ u ∈ out, u < n) ∧ ((out = [] ∧ x = .p .nilsl) ∨ (out ≠ [] ∧ ∃ r ver, x = .osl r ver 1 out.length (eInts (natsI out)) ∧ σ[r]? = some (.tok ver) ∧ 2 ≤ r))

theorem HI.push {σ : Store} {k : Nat} {cs : List DV} (h : HI p o n σ k cs) (r : Row) : HI p o n (σ ++ [r]) k cs :=
  ⟨get_old h.h0, get_old h.h1, h.len, fun j h1 h2 => let ⟨q, a, b, c⟩ := h.row j h1 h2; ⟨q, a, b, get_old c⟩⟩
theorem HI.tok {σ : Store} {k : Nat} {cs : List DV} (h : HI p o n σ k cs) {r v v' : Nat} (hr : σ[r]? = some (.tok v)) (h5 : 2 ≤ r) : HI p o n (σ.set r (.tok v')) k cs := by
  refine ⟨get_set_ne h.h0 (by omega), get_set_ne h.h1 (by omega), h.len, fun j h1 h2 => ?_⟩
  obtain ⟨q, a, b, c⟩ := h.row j h1 h2
  exact ⟨q, a, b, get_set_ne c fun e => by rw [e, hr] at c; injection c with c; cases c⟩

theorem app_out2 {σ : Store} {out : List Nat} {x : DV} {u : Nat} (h5 : 2 ≤ σ.length) (h : OutRel2 σ n out x) (hu : u < n) (hl : out.length ≤ 1000) :
    ∃ x' σ', append PP 0 false 22 22 x (.p (.sl true 1 [pI (u : Nat)])) σ = some (x', σ') ∧ OutRel2 σ' n (out ++ [u]) x' ∧ (∀ (p : Pair) (o : Option (List Int)) (k : Nat) (cs : List DV), HI p o n σ k cs → HI p o n σ' k cs) := by
  obtain ⟨h0, h⟩ := h
  have hall : ∀ w ∈ out ++ [u], w < n := by
    intro w hw
    rcases List.mem_append.1 hw with h1 | h1
    · exact h0 w h1
    · simp at h1; omega
  rcases h with ⟨rfl, rfl⟩ | ⟨hne, r, ver, rfl, hr, h5⟩
  · exact ⟨_, _, app22_nil _ σ, ⟨hall, .inr ⟨by simp, σ.length, 0, rfl, get_snoc, h5⟩⟩, fun p o k cs h => h.push _⟩
  · refine ⟨_, _, app22_tok _ hr (by simp [ints_length, natsI]) hl, ⟨hall, .inr ⟨by simp, r, ver + 1, by simp [natsI, eInts], ?_, h5⟩⟩, fun p o k cs h => h.tok hr h5⟩
    rw [List.getElem?_set_self (get_lt hr)]

theorem L17_4 (hf : Fine p o n) {i q : Nat} {cs : List DV} {σ : Store} {out : List Nat} {x : DV} (h : HI p o n σ 0 cs) (hi : i < (L o).length) (hcq : cs[i]? = some (.rsl q 1 0 n)) (hq : σ[q]? = some (.arr (eBools (rowG p (L o) n i)))) (hout : OutRel2 σ n out x) (hol : out.length = i) :
    ∀ (d : Nat) (w : Int), d ≤ n → f17_L4 guardT 0 (.p (eSl o)) (.ptr 0 0) (mat (L o).length) x (.p (pI (i : Nat))) (.p (pI w)) (.p (pI ((d : Int) - 1))) σ =
      f17_L4 guardT 0 (.p (eSl o)) (.ptr 0 0) (mat (L o).length) x (.p (pI (i : Nat))) (.p (pI (orD w (firstFrom (pickB p (L o) n i out) 0 d)))) (.p (pI (-1))) σ := by
  have e4 : load1 (.ptr 0 4) σ = some (.p (eSl p.up.init)) := pr_4 h.h0
  have e3 : load1 (.ptr 1 i) σ = some (.rsl q 1 0 n) := load1_ptr h.h1 hcq
  have hn40 := hf.n40
  have hlen := hf.len
  intro d
  induction d with
  | zero => intro w hd; simp [firstFrom, orD]
  | succ d ih =>
    intro w hd
    have hun : d < n := by omega
    have ed : (((d + 1 : Nat) : Int) - 1) = (d : Int) := by omega
    have hge : (d : Int) ≥ 0 := by omega
    have wd : IntKind.wrap .i64 ((d : Int) - 1) = (d : Int) - 1 := wrap_ok (by omega) (by omega)
    have hi0 : decide ((i : Int) = 0) = decide (i = 0) := by simp only [decide_eq_decide]; omega
    have hig : decide ((i : Int) > 0) = decide (i > 0) := by simp only [decide_eq_decide]; omega
    have hres : ∀ b : Bool, b = pickB p (L o) n i out d → orD w (firstFrom (pickB p (L o) n i out) 0 (d + 1)) = orD (bif b then (d : Int) else w) (firstFrom (pickB p (L o) n i out) 0 d) := by
      intro b hb
      rw [firstFrom_last, Nat.zero_add, ← hb]
      cases firstFrom (pickB p (L o) n i out) 0 d with
      | some v => rfl
      | none => cases b <;> rfl
    rw [ed]
    conv => lhs; rw [f17_L4_eq guardT rfl]
    simp only [b_geq, obind, hge, decide_true, condK_true, idx84_r hi, Nat.zero_add, load88, e3, idx88_r hun, load4, load1_arr hq (show d < (rowG p (L o) n i).length by rw [rowG_len]; exact hun), rowG_get _ _ _ _ _ hun]
    cases hg : goodAt p (L o) n i d with
    | false =>
      have hpk : pickB p (L o) n i out d = false := by simp [pickB, hg]
      simp only [guard_ft, guard_sk, obind, pickV_false, condK_false, f17_J0_eq, b_sub, wd]
      rw [hres false hpk.symm]
      exact ih w (by omega)
    | true =>
      have hpk : pickB p (L o) n i out d = fitsB p i out d := by simp [pickB, hg]
      simp only [guard_tt, obind, b_eql, hi0]
      by_cases h0 : i = 0
      · have hd0 : decide (i = 0) = true := by simp [h0]
        have hd1 : decide (i > 0) = false := by simp [h0]
        have hfi : fitsB p i out d = hasI (L p.up.init) d := by simp [fitsB, h0]
        simp only [hd0, guard_tt, obind, fa27_1, fa25_1, shift_ptr, Nat.zero_add, load22, e4, pureFn_fn, List.append_nil, S49 hf.small.ui, pickV_true]
        cases hh : hasI (L p.up.init) d with
        | true =>
          simp only [guard_tf, guard_sk, obind, pickV_true, condK_true, f17_J0_eq, b_sub, wd]
          rw [hres true (by rw [hpk, hfi, hh])]
          exact ih d (by omega)
        | false =>
          simp only [guard_ff, obind, b_gtr, hig, hd1, guard_ft, guard_sk, pickV_false, condK_false, f17_J0_eq, b_sub, wd]
          rw [hres false (by rw [hpk, hfi, hh])]
          exact ih w (by omega)
      · have hd0 : decide (i = 0) = false := by simp [h0]
        have hd1 : decide (i > 0) = true := by simp; omega
        have hne : out ≠ [] := by intro e; rw [e] at hol; simp at hol; omega
        obtain ⟨hall, hor⟩ := hout
        rcases hor with ⟨e, _⟩ | ⟨_, r, ver, rfl, hr, h5⟩
        · exact absurd e hne
        have hi1 : i - 1 < out.length := by omega
        have hfi : fitsB p i out d = follows p.up (out.getD (i - 1) 0 : Nat) d := by simp [fitsB, h0]
        simp only [hd0, guard_ft, guard_sk, obind, pickV_false, guard_ff, b_gtr, hig, hd1, guard_tt, fa27_1, shift_ptr, Nat.zero_add, load25, pr_up h.h0, omap, b_sub, wrap_pred (show 0 < i by omega) (show i ≤ 1000000 by omega), idx22_o (σ := σ) hi1, load3, load1_getD (show i - 1 < (natsI out).length by rw [natsI_len]; exact hi1), natsI_get hi1, pureFn_fn, List.append_nil, S50 hf.small.ue, pickV_true]
        cases hh : follows p.up (out.getD (i - 1) 0 : Nat) d with
        | true =>
          simp only [condK_true, f17_J0_eq, b_sub, obind, wd]
          rw [hres true (by rw [hpk, hfi, hh])]
          exact ih d (by omega)
        | false =>
          simp only [condK_false, f17_J0_eq, b_sub, obind, wd]
          rw [hres false (by rw [hpk, hfi, hh])]
          exact ih w (by omega)

def resR : Option (List Nat) → DV
  | none => .tuple [.p .nilsl, .p (.bool false)]
  | some r => .tuple [.p (eSl (some (natsI r))), .p (.bool true)]

theorem L17_3 (hf : Fine p o n) :
    ∀ (k i : Nat) (out : List Nat) (σ : Store) (x : DV) (cs : List DV), (L o).length - i = k → i ≤ (L o).length → out.length = i → HI p o n σ 0 cs → OutRel2 σ n out x →
      ∃ v σ', f17_L3 guardT 0 (.p (eSl o)) (.ptr 0 0) (mat (L o).length) x (.p (pI (i : Nat))) σ = some (v, σ') ∧ thawAll 0 σ' v = some (resR (goUp p (L o) n k i out))
  | 0, i, out, σ, x, cs, hk, hi, hol, h, hout => by
    have hlt : ¬ (i : Int) < ((L o).length : Nat) := by omega
    have hpos := hf.pos
    refine ⟨.tuple [x, .p (.bool true)], σ, ?_, ?_⟩
    · rw [f17_L3_eq guardT rfl]
      simp only [len22, b_lss, obind, hlt, decide_false, condK_false]
    · obtain ⟨_, hor⟩ := hout
      rcases hor with ⟨e, _⟩ | ⟨_, r, ver, rfl, hr, h5⟩
      · rw [e] at hol; simp at hol; omega
      · simp [thawAll, thawPart, mapO, thaw, thaw1, thawP, loosen, resR, goUp, eSl, natsI_len, loosens_ints]
  | k + 1, i, out, σ, x, cs, hk, hi, hol, h, hout => by
    have hlt : (i : Int) < ((L o).length : Nat) := by omega
    have hil : i < (L o).length := by omega
    have hlen := hf.len
    have hn40 := hf.n40
    obtain ⟨q, hc, h5, hq⟩ := h.row i (Nat.zero_le _) hil
    have l4 := get_lt h.h1
    have e0 : load1 (.ptr 0 3) σ = some (.p (pI (n : Nat))) := by rw [← hf.n0]; exact pr_3 h.h0
    have wn : IntKind.wrap .i64 ((n : Int) - 1) = (n : Int) - 1 := wrap_ok (by omega) (by omega)
    rw [f17_L3_eq guardT rfl]
    simp only [len22, b_lss, obind, hlt, decide_true, condK_true, fa27_1, fa25_0, shift_ptr, Nat.zero_add, load3, e0, b_sub, wn]
    rw [L17_4 hf h hil hc hq hout hol n (-1) (Nat.le_refl _), f17_L4_eq guardT rfl]
    have hneg1 : ¬ (-1 : Int) ≥ 0 := by omega
    simp only [b_geq, obind, hneg1, decide_false, condK_false]
    unfold goUp
    cases hfst : firstFrom (pickB p (L o) n i out) 0 n with
    | none =>
      refine ⟨.tuple [.p .nilsl, .p (.bool false)], σ, ?_, rfl⟩
      simp [orD, b_lss, condK_true]
    | some u =>
      have hun : u < n := by have := firstFrom_lt n 0 hfst; omega
      have hneg : ¬ (u : Int) < 0 := by omega
      obtain ⟨x', σ', happ, hout', hgi⟩ := app_out2 (σ := σ) (by omega) hout hun (by omega)
      simp only [orD, b_lss, hneg, decide_false, obind, condK_false, bs22_1, happ, b_add, wrap_succ (show i ≤ 1000000 by omega)]
      exact L17_3 hf k (i + 1) (out ++ [u]) σ' x' cs (by omega) (by omega) (by simp [hol]) (hgi _ _ _ _ h) hout'

theorem S17 {σ : Store} (hf : Fine p o n) : pureV CC 17 [.agg (ePair p), .p (eSl o)] σ = some (resR (upPath p (L o) n)) := by
  refine pureV_any (by simp [pair_view, sl_view]) fun lo σ0 hs => ?_
  rcases hs with ⟨rfl, rfl, _⟩ | ⟨_, _, h⟩
  case inr => exact absurd h (by simp [rowFree, rowFree1, ePair])
  have hF : ∃ v σ', F17 guardT 0 (.agg (ePair p)) (.p (eSl o)) [] = some (v, σ') ∧ thawAll 0 σ' v = some (resR (upPath p (L o) n)) := by
    have hlen := hf.len
    have hpos := hf.pos
    have wm : IntKind.wrap .i64 (((L o).length : Nat) - 1 : Int) = ((L o).length : Int) - 1 := wrap_ok (by omega) (by omega)
    rw [F17_eq]
    simp only [box_pair, obind, List.length_nil, List.nil_append, len22, mk84 hlen, b_sub, wm]
    obtain ⟨σ', cs', h1, h2⟩ := L17_0 hf (L o).length (List.replicate (L o).length (.p .nilsl)) [Row.mix (ePair p), .mix (List.replicate (L o).length (.p .nilsl))] ⟨rfl, rfl, by simp, fun j h1 h2 => absurd h1 (by omega)⟩ (Nat.le_refl _)
    obtain ⟨v, σ2, h3, h4⟩ := L17_3 hf (L o).length 0 [] σ' (.p .nilsl) cs' (by omega) (Nat.zero_le _) rfl h1 ⟨fun u hu => absurd hu (by simp), .inl ⟨rfl, rfl⟩⟩
    exact ⟨v, σ2, h2.trans h3, h4⟩
  obtain ⟨v, σ', h1, h2⟩ := hF
  exact ⟨v, σ', F17_call h1, h2⟩

end
end Go.D
end
/- RefinePaths: what the law answers, if awake answers true. -/
section
set_option linter.unusedVariables false
set_option linter.unusedSimpArgs false
namespace Go.D

theorem small_of {p : Pair} (h : fewP p = true) : Small p := by
  simp only [fewP, smallG, Bool.and_eq_true, decide_eq_true_eq] at h
  exact ⟨by omega, by omega, by omega, by omega, by omega, by omega⟩
theorem small_own {p : Pair} (h : Small p) : Small (ownP p) := ⟨h.li, h.le, h.ui, h.ue, h.ll, h.ul⟩

theorem goUp_len {p : Pair} {l : List Int} {n : Nat} : ∀ (k i : Nat) (out r : List Nat), goUp p l n k i out = some r → r.length = out.length + k
  | 0, i, out, r, h => by simp only [goUp] at h; injection h with h; rw [h]; rfl
  | k + 1, i, out, r, h => by
    unfold goUp at h
    split at h
    · exact absurd h (by simp)
    · have := goUp_len k (i + 1) _ r h
      simp at this
      omega

theorem ex0 (a b : DV) : extractV (.tuple [a, b]) 0 = some a := Eq.trans rfl rfl
theorem ex1 (a b : DV) : extractV (.tuple [a, b]) 1 = some b := Eq.trans rfl rfl
theorem len22_nil (σ : Store) : len PP 22 (.p .nilsl) σ = some (.p (.int .i64 0)) := by simp [len, u22]

theorem goodK_own (p : Pair) (l : List Int) (n : Nat) : ∀ k, goodK (ownP p) l n k = goodK p l n k
  | 0 => rfl
  | k + 1 => by
    funext u
    simp only [goodK, goodK_own p l n k]
    rfl
theorem goUp_own (p : Pair) (l : List Int) (n : Nat) : ∀ k i out, goUp (ownP p) l n k i out = goUp p l n k i out
  | 0, i, out => rfl
  | k + 1, i, out => by
    have h : pickB (ownP p) l n i out = pickB p l n i out := by
      funext u
      simp only [pickB, goodAt, goodK_own]
      rfl
    simp only [goUp, h, goUp_own p l n k]

theorem resU_own (p : Pair) (o : Option (List Int)) : resU (ownP p) (some (L o)) = resU p o := by
  have h1 : errP (ownP p) = errP p := rfl
  have h2 : errPath (ownP p).lo (L (some (L o))) = errPath p.lo (L o) := rfl
  have h3 : ∀ n, upPath (ownP p) (L (some (L o))) n = upPath p (L o) n := fun n => goUp_own p _ n _ 0 []
  unfold resU
  rw [h1, h2, h3]
  rfl

theorem law3 (hawake : ∀ σ, pureV CC 10 [] σ = some (.p (.bool true))) (p : Pair) (o : Option (List Int)) : ∃ σ', F3 guardT 0 (.agg (ePair p)) (.p (eSl o)) [] = some (.p (.bool true), σ') := by
  have g0 : ([Row.mix (ePair p)] : Store)[0]? = some (.mix (ePair p)) := rfl
  refine ⟨[Row.mix (ePair p)], ?_⟩
  rw [F3_eq]
  simp only [box_pair, obind, List.length_nil, List.nil_append, pureFn_fn, List.append_nil, hawake, not_bool, Bool.not_true, condK_false, load27, pr_all g0, omap, S11]
  cases hfew : fewP p with
  | false => simp only [Bool.not_false, guard_tf, guard_sk, obind, pickV_true, condK_true]
  | true =>
    have hp := small_of hfew
    simp only [Bool.not_true, guard_ff, obind, len22, b_gtr, pickV_false]
    by_cases hl : ((L o).length : Int) > 62
    · simp only [hl, decide_true, condK_true]
    · have hl' : (L o).length ≤ 1000 := by omega
      have hown : (L (some (L o))).length ≤ 1000 := hl'
      simp only [hl, decide_false, condK_false, load27, pr_all g0, omap, obind, pureFn_fn, List.append_nil, S13 hp, S14 hl', S12 (small_own hp) hown, resU_own, S15 hp]
      by_cases he : errP p = 0
      · simp only [resU, he, if_true]
        by_cases hq : errPath p.lo (L o) = 0
        · have hf := fine_of hp hl' he hq
          simp only [hq, if_true]
          cases hu : upPath p (L o) p.up.n.toNat with
          | none =>
            simp only [resUp, ex0, ex1, obind, load27, pr_all g0, omap, pureFn_fn, List.append_nil, b_eql, decide_true, condK_true, S16 hl' hp.li hp.le, hq, f3_J0_eq, b_neq, Bool.not_true, condK_false, S17 hf, hu, resR, not_bool, Bool.not_false, guard_tt, len22_nil, pickV_true]
          | some r =>
            have hr := goUp_len _ _ _ _ hu
            have hlr : (L (some (natsI r))).length ≤ 1000 := by simp [natsI_len]; simp at hr; omega
            simp only [resUp, ex0, ex1, obind, load27, pr_all g0, omap, pureFn_fn, List.append_nil, b_eql, decide_true, condK_true, S16 hl' hp.li hp.le, hq, f3_J0_eq, b_neq, Bool.not_true, condK_false, S17 hf, hu, resR, not_bool, guard_tt, S18 (rfl : L (some (natsI r)) = L (some (natsI r))) hlr, pickV_true]
        · simp only [hq, if_false, ex0, ex1, obind, load27, pr_all g0, omap, pureFn_fn, List.append_nil, b_eql, decide_true, condK_true, S16 hl' hp.li hp.le, f3_J0_eq, b_neq, decide_false, Bool.not_false, guard_tt, len22_nil, pickV_true]
      · simp only [resU, he, if_false, ex0, ex1, obind, b_eql, decide_false, condK_false, f3_J0_eq, b_neq, Bool.not_false, condK_true, decide_true, guard_tt, len22_nil, pickV_true]

theorem call3 (hawake : ∀ σ, pureV CC 10 [] σ = some (.p (.bool true))) (p : Pair) (o : Option (List Int)) : ∃ σ', CC 0 3 [.agg (ePair p), .p (eSl o)] [] = some (.p (.bool true), σ') := by
  obtain ⟨σ', h⟩ := law3 hawake p o
  exact ⟨σ', F3_call h⟩

end Go.D
end
