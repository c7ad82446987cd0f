/- Chapter 13: errors of words, copies, comparisons, in the program and in the reference. -/
import Derived.Test.YtpacancmcjbckaaGreatDoorUc
import Derived.Orders
section
set_option linter.unusedVariables false
set_option linter.unusedSimpArgs false
namespace Go.D
open Las
theorem fn_view (f : FuncId) (caps : List DV) : view (.fn f caps) = .fn f caps := rfl
def idxFrom {α : Type} (q : α → Bool) : List α → Nat → Int
  | [], _ => -1
  | v :: l, i => if q v = true then (i : Int) else idxFrom q l (i + 1)
theorem idxFrom_ge {α : Type} (q : α → Bool) : ∀ (l : List α) (i : Nat), decide (idxFrom q l i ≥ 0) = l.any q
  | [], i => by simp [idxFrom]
  | v :: l, i => by
    unfold idxFrom
    by_cases h : q v = true
    · rw [if_pos h, List.any_cons, h]
      simp
    · rw [if_neg h, List.any_cons, (Bool.not_eq_true _).mp h, Bool.false_or]
      exact idxFrom_ge q l (i + 1)
theorem L122 {o : OI} {f : FuncId} {caps : List DV} {σ : Store} {lo : Nat} {q : Int → Bool} (hl : (L o).length ≤ 100000) (hq : ∀ v, pureV CC f (.p (.int .i64 v) :: caps) σ = some (.p (.bool (q v)))) :
    ∀ (k i : Nat), (L o).length - i = k → i ≤ (L o).length → f122_L0 guardT lo (.p (eSl o)) (.fn f caps) (N (L o).length) (N i) σ = some (.p (.int .i64 (idxFrom q ((L o).drop i) i)), σ)
  | 0, i, hk, hi => by
    rw [f122_L0_eq guardT rfl, List.drop_eq_nil_of_le (by omega)]
    simp (disch := omega) only [N, b_lss, ltF, gG, idxFrom]
  | k + 1, i, hk, hi => by
    have h : i < (L o).length := by omega
    have ih := L122 (lo := lo) hl hq k (i + 1) (by omega) (by omega)
    rw [f122_L0_eq guardT rfl, drop_cons h]
    simp (disch := omega) only [N, b_lss, ltT, gG, (PL.sl o).idx h, load3, load1_getD h, pureFn_fn, List.singleton_append, hq, idxFrom]
    cases q ((L o).getD i 0) with
    | true => simp only [gG, if_true]
    | false =>
      simp (disch := omega) only [gG, add1, Bool.false_eq_true, if_false]
      exact ih
theorem S122 {o : OI} {f : FuncId} {caps : List DV} {q : Int → Bool} (hl : (L o).length ≤ 100000) (hc : caps.all rowFree1 = true) (hq : ∀ v, pureV CC f (.p (.int .i64 v) :: caps) [] = some (.p (.bool (q v)))) (σ : Store) :
    pureV CC 122 [.p (eSl o), .fn f caps] σ = some (.p (.int .i64 (idxFrom q (L o) 0))) := by
  refine pureV_free (by simp [sl_view, fn_view]) (by simp [rowFree, rowFree1] at hc ⊢; exact hc) (F122_call (r := (.p (.int .i64 (idxFrom q (L o) 0)), [])) ?_) rfl
  rw [F122_eq]
  simp only [(PL.sl o).len, obind]
  have := L122 (lo := 0) hl hq _ 0 rfl (Nat.zero_le _)
  simpa [N] using this
theorem S68 {o : OI} {f : FuncId} {caps : List DV} {q : Int → Bool} (hl : (L o).length ≤ 100000) (hc : caps.all rowFree1 = true) (hq : ∀ v, pureV CC f (.p (.int .i64 v) :: caps) [] = some (.p (.bool (q v)))) (σ : Store) :
    pureV CC 68 [.p (eSl o), .fn f caps] σ = some (.p (.bool ((L o).any q))) := by
  refine pureV_free (by simp [sl_view, fn_view]) (by simp [rowFree, rowFree1] at hc ⊢; exact hc) (F68_call (r := (.p (.bool ((L o).any q)), [])) ?_) rfl
  rw [F68_eq]
  simp only [shift_ptr, shift_pptr, Nat.zero_add, Nat.add_zero, pureFn_fn, List.append_nil, List.singleton_append, List.cons_append, List.nil_append, S122 hl hc hq, gG, b_geq, idxFrom_ge]
theorem app24 {x : DV} {l : List Int} (h : PL x l) (hl : l.length ≤ 1000000) (lo : Nat) (σ : Store) : ∃ y σ', append PP lo false 24 24 (.p (.sl true 0 [])) x σ = some (y, σ') ∧ PL y l ∧ thawAll lo σ' y = some (.p (eSl (some l))) := by
  by_cases hb : l = []
  · subst hb
    refine ⟨.p (.sl true 0 []), σ, ?_, .inr (.inl ⟨true, by simp; rfl⟩), rfl⟩
    simp [append, src24, u24, s3, bytes3, zero3, h.src σ, appLit]
  · have hb0 : ¬ (l.length = 0) := fun e => hb (List.length_eq_zero_iff.1 e)
    refine ⟨.osl σ.length 0 1 l.length (eInts l), σ ++ [.tok 0], ?_, .inr (.inr ⟨σ.length, 0, rfl⟩), by simp [thawAll, thawPart, thaw, thaw1, thawP, loosens_ints, eSl]⟩
    simp [append, src24, u24, s3, bytes3, zero3, h.src σ, appLit, hb0, pures_map, hb]
    omega
theorem S52 {o : OI} (hl : (L o).length ≤ 1000000) (σ : Store) : pureV CC 52 [.p (eSl o)] σ = some (.p (eSl (some (L o)))) := by
  obtain ⟨y, σ', h1, h2, h3⟩ := app24 (PL.sl o) hl 0 []
  refine pureV_free (by simp [sl_view]) rfl (F52_call (r := (y, σ')) ?_) h3
  rw [F52_eq]
  simp only [bs24_0, gG, h1]
def eqFrom (a b : List Int) : Nat → Nat → Bool
  | 0, _ => true
  | d + 1, i => decide (a.getD i 0 = b.getD i 0) && eqFrom a b d (i + 1)
theorem eqFrom_iff {a b : List Int} (h : a.length = b.length) : eqFrom a b a.length 0 = decide (a = b) := by
  have key : ∀ d i, a.length - i = d → i ≤ a.length → (eqFrom a b d i = true ↔ a.drop i = b.drop i) := by
    intro d
    induction d with
    | zero =>
      intro i hd hi
      rw [List.drop_eq_nil_of_le (by omega), List.drop_eq_nil_of_le (by omega)]
      simp [eqFrom]
    | succ d ih =>
      intro i hd hi
      rw [drop_cons (show i < a.length by omega), drop_cons (show i < b.length by omega), eqFrom, Bool.and_eq_true, decide_eq_true_iff, ih (i + 1) (by omega) (by omega), List.cons.injEq]
  rw [Bool.eq_iff_iff, key a.length 0 rfl (Nat.zero_le _), decide_eq_true_iff]
  simp
theorem L80 {o o' : OI} (h : (L o).length = (L o').length) (hl : (L o).length ≤ 100000) (lo : Nat) (σ : Store) : ∀ (d i : Nat), (L o).length - i = d → i ≤ (L o).length →
    f80_L0 guardT lo (.p (eSl o)) (.p (eSl o')) (N i) σ = some (.p (.bool (eqFrom (L o) (L o') d i)), σ)
  | 0, i, hd, hi => by
    rw [f80_L0_eq guardT rfl]
    simp (disch := omega) only [N, (PL.sl _).len, gG, b_lss, ltF, eqFrom]
  | d + 1, i, hd, hi => by
    have h1 : i < (L o).length := by omega
    have h2 : i < (L o').length := by omega
    have ih := L80 h hl lo σ d (i + 1) (by omega) (by omega)
    rw [f80_L0_eq guardT rfl]
    simp (disch := omega) only [N, (PL.sl _).len, gG, b_lss, ltT, (PL.sl o).idx h1, (PL.sl o').idx h2, load3, load1_getD h1, load1_getD h2, b_neq, eqFrom]
    by_cases e : (L o).getD i 0 = (L o').getD i 0
    · simp (disch := omega) only [eqT e, gG, add1, Bool.true_and]
      exact ih
    · simp only [eqF e, gG, Bool.false_and]
theorem S80 {o o' : OI} (hl : (L o).length ≤ 100000) (σ : Store) : pureV CC 80 [.p (eSl o), .p (eSl o')] σ = some (.p (.bool (decide (L o = L o')))) := by
  refine pureV_free (by simp [sl_view]) rfl (F80_call (r := (.p (.bool (decide (L o = L o'))), [])) ?_) rfl
  rw [F80_eq]
  simp only [(PL.sl _).len, gG, b_neq]
  by_cases h : (L o).length = (L o').length
  · have h' : ((L o).length : Int) = ((L o').length : Nat) := by omega
    have := L80 h hl 0 [] _ 0 rfl (Nat.zero_le _)
    rw [Nat.sub_zero, eqFrom_iff h] at this
    simp only [eqT h', gG]
    exact this
  · have h' : ¬ ((L o).length : Int) = ((L o').length : Nat) := by omega
    have hne : ¬ (L o = L o') := fun e => h (by rw [e])
    simp only [eqF h', gG, decide_eq_false hne]
theorem S33 {u w : Wd} (h0 : (L u.p).length ≤ 100000) (h1 : (L u.l).length ≤ 100000) (σ : Store) : pureV CC 33 [vWd u, vWd w] σ = some (.p (.bool (decide (L u.p = L w.p) && decide (L u.l = L w.l)))) := by
  refine pureV_free (by simp [wd_view]) (by simp [wd_free]) (F33_call (r := (.p (.bool (decide (L u.p = L w.p) && decide (L u.l = L w.l))), [])) ?_) rfl
  rw [F33_eq]
  simp only [box_wd, gG, fa26_0, fa26_1, shift_ptr, shift_pptr, Nat.zero_add, Nat.add_zero, pureFn_fn, List.append_nil, List.singleton_append, List.cons_append, List.nil_append, load24, wd_0, wd_1, S80 h0]
  cases decide (L u.p = L w.p) with
  | true => simp only [gG, shift_ptr, shift_pptr, Nat.zero_add, Nat.add_zero, pureFn_fn, List.append_nil, List.singleton_append, List.cons_append, List.nil_append, load24, wd_1, S80 h1, Bool.true_and]
  | false => simp only [gG, Bool.false_and]
end Go.D
end
/- Closed calls, worked out by the kernel one by one. -/
section
set_option linter.unusedVariables false
set_option maxRecDepth 100000
namespace Go.D

mutual
def eqPV : PV → PV → Bool
  | .bool a, .bool b => a == b
  | .int k n, .int k' m => k == k' && n == m
  | .nilsl, .nilsl => true
  | .sl a n cs, .sl b m ds => a == b && n == m && eqPVs cs ds
  | _, _ => false
def eqPVs : List PV → List PV → Bool
  | [], [] => true
  | a :: as', b :: bs => eqPV a b && eqPVs as' bs
  | _, _ => false
end
mutual
theorem eqPV_eq : ∀ (a b : PV), eqPV a b = true → a = b
  | .bool a, .bool b, h => by simp [eqPV] at h; rw [h]
  | .int k n, .int k' m, h => by
    simp [eqPV] at h
    rw [h.1, h.2]
  | .nilsl, .nilsl, h => rfl
  | .sl a n cs, .sl b m ds, h => by
    simp [eqPV] at h
    rw [h.1.1, h.1.2, eqPVs_eq cs ds h.2]
  | .bool _, .int .., h | .bool _, .str _, h | .bool _, .nilptr, h | .bool _, .nilsl, h | .bool _, .nilmap, h | .bool _, .nilfn, h | .bool _, .niliface, h | .bool _, .sl .., h => by simp [eqPV] at h
  | .int .., .bool _, h | .int .., .str _, h | .int .., .nilptr, h | .int .., .nilsl, h | .int .., .nilmap, h | .int .., .nilfn, h | .int .., .niliface, h | .int .., .sl .., h => by simp [eqPV] at h
  | .nilsl, .bool _, h | .nilsl, .int .., h | .nilsl, .str _, h | .nilsl, .nilptr, h | .nilsl, .nilmap, h | .nilsl, .nilfn, h | .nilsl, .niliface, h | .nilsl, .sl .., h => by simp [eqPV] at h
  | .sl .., .bool _, h | .sl .., .int .., h | .sl .., .str _, h | .sl .., .nilptr, h | .sl .., .nilsl, h | .sl .., .nilmap, h | .sl .., .nilfn, h | .sl .., .niliface, h => by simp [eqPV] at h
  | .str _, b, h | .nilptr, b, h | .nilmap, b, h | .nilfn, b, h | .niliface, b, h => by cases b <;> simp [eqPV] at h
theorem eqPVs_eq : ∀ (a b : List PV), eqPVs a b = true → a = b
  | [], [], h => rfl
  | a :: as', b :: bs, h => by
    simp [eqPVs] at h
    rw [eqPV_eq a b h.1, eqPVs_eq as' bs h.2]
  | [], _ :: _, h | _ :: _, [], h => by simp [eqPVs] at h
end

def flatD : DV → Option (List (Nat × PV))
  | .p v => some [(0, v)]
  | .agg cs => some (cs.filterMap fun c => match c with | .p v => some (1, v) | _ => none)
  | _ => none

def eqD1 : DV → DV → Bool
  | .p v, .p w => eqPV v w
  | _, _ => false
def eqD1s : List DV → List DV → Bool
  | [], [] => true
  | a :: as', b :: bs => eqD1 a b && eqD1s as' bs
  | _, _ => false
def eqD2 : DV → DV → Bool
  | .agg cs, .agg ds => eqD1s cs ds
  | a, b => eqD1 a b
def eqD2s : List DV → List DV → Bool
  | [], [] => true
  | a :: as', b :: bs => eqD2 a b && eqD2s as' bs
  | _, _ => false
def eqD : DV → DV → Bool
  | .tuple cs, .tuple ds => eqD2s cs ds
  | a, b => eqD2 a b

theorem eqD1_eq {a b : DV} (h : eqD1 a b = true) : a = b := by
  unfold eqD1 at h
  split at h
  · rw [eqPV_eq _ _ h]
  · exact absurd h (by simp)
theorem eqD1s_eq : ∀ {a b : List DV}, eqD1s a b = true → a = b
  | [], [], h => rfl
  | a :: as', b :: bs, h => by
    simp only [eqD1s, Bool.and_eq_true] at h
    rw [eqD1_eq h.1, eqD1s_eq h.2]
  | [], _ :: _, h => absurd h (by simp [eqD1s])
  | _ :: _, [], h => absurd h (by simp [eqD1s])
theorem eqD2_eq {a b : DV} (h : eqD2 a b = true) : a = b := by
  unfold eqD2 at h
  split at h
  · rw [eqD1s_eq h]
  · exact eqD1_eq h
theorem eqD2s_eq : ∀ {a b : List DV}, eqD2s a b = true → a = b
  | [], [], h => rfl
  | a :: as', b :: bs, h => by
    simp only [eqD2s, Bool.and_eq_true] at h
    rw [eqD2_eq h.1, eqD2s_eq h.2]
  | [], _ :: _, h => absurd h (by simp [eqD2s])
  | _ :: _, [], h => absurd h (by simp [eqD2s])
theorem eqD_eq {a b : DV} (h : eqD a b = true) : a = b := by
  unfold eqD at h
  split at h
  · rw [eqD2s_eq h]
  · exact eqD2_eq h

def runIs (P : Program) (pol : FuncId → FPol) (k : Nat) (f : FuncId) (args : List DV) (r : DV) : Bool :=
  match callK P pol k 0 f args [] with
  | some (v, σ) => match thawAll 0 σ v with
    | some v' => eqD v' r
    | none => false
  | none => false

theorem pureV_run {k : Nat} {f : FuncId} {args : List DV} {r : DV} {σ : Store} (h : runIs PP pol k f args r = true) (h1 : args.map view = args) (h2 : args.all rowFree = true) : pureV CC f args σ = some r := by
  unfold runIs at h
  split at h
  · rename_i v σ' hc
    split at h
    · rename_i v' ht
      exact pureV_free h1 h2 (callL_at hc) (ht.trans (by rw [eqD_eq h]))
    · exact absurd h (by simp)
  · exact absurd h (by simp)

end Go.D
end
/- Chapter 13: rows of numbers: concatenated, compacted in place, repeated. -/
section
set_option linter.unusedVariables false
set_option linter.unusedSimpArgs false
namespace Go.D
open Las
def ints (l : List Int) : List DV := (eInts l).map .p
theorem ints_len (l : List Int) : (ints l).length = l.length := by simp [ints, eInts]
theorem ints_take (l : List Int) (k : Nat) : (ints l).take k = ints (l.take k) := by simp [ints, eInts, List.map_take]
theorem ints_pures (l : List Int) : pures (ints l) = some (eInts l) := pures_map _
structure RowS (σ : Store) (r off : Nat) (l : List Int) : Prop where
  ex : ∃ A, σ[r]? = some (.mix (ints A)) ∧ (A.drop off).take l.length = l ∧ off + l.length ≤ A.length
theorem RowS.idx {σ : Store} {r off : Nat} {l : List Int} (h : RowS σ r off l) {i : Nat} (hi : i < l.length) : indexAddr PP 24 (.rsl r 1 off l.length) (.p (.int .i64 (i : Nat))) = some (.ptr r (off + i)) := by
  have h2 : (0 : Int) ≤ (i : Int) ∧ (i : Int) < (l.length : Nat) := by omega
  simp [indexAddr, u24, s3, h2]
theorem rs_len (r off n : Nat) (σ : Store) : len PP 24 (.rsl r 1 off n) σ = some (.p (.int .i64 (n : Nat))) := by simp [len, u24]
theorem rs_idx {r off n i : Nat} (hi : i < n) : indexAddr PP 24 (.rsl r 1 off n) (.p (.int .i64 (i : Nat))) = some (.ptr r (off + i)) := by
  have h2 : (0 : Int) ≤ (i : Int) ∧ (i : Int) < (n : Nat) := by omega
  simp [indexAddr, u24, s3, h2]
theorem rs_take {r off n k : Nat} (hk : k ≤ n) : sliceOp PP 24 (.rsl r 1 off n) none (some (.p (.int .i64 (k : Nat)))) none = some (.rsl r 1 off k) := by
  have hb := bound_nat hk n
  simp [sliceOp, u24, s3, hb, show bound none 0 k = some 0 from rfl]
theorem rs_drop {r off n k : Nat} (hk : k ≤ n) : sliceOp PP 24 (.rsl r 1 off n) (some (.p (.int .i64 (k : Nat)))) none none = some (.rsl r 1 (off + k) (n - k)) := by
  have hb := bound_nat hk 0
  simp [sliceOp, u24, s3, hb, show bound none n n = some n from rfl]
theorem dups_zero (n : Nat) : dups [DV.p (pI 0)] n = ints (List.replicate n 0) := by
  induction n with
  | zero => rfl
  | succ n ih => rw [dups, ih, List.replicate_succ]; rfl
theorem u3 : PP.underlying 3 = some (.int .i64) := Eq.trans (by kernel_rfl) rfl
theorem s24 : size? PP 24 = some 1 := Eq.trans (by kernel_rfl) rfl
section
variable {l : List Int} {r lo : Nat} (hl : l.length ≤ 100000) (hlo : lo ≤ r)
include hl hlo
end
end Go.D
end
/- Chapter 13: the shortest form and the word without stuttering, in the program. -/
section
set_option linter.unusedVariables false
set_option linter.unusedSimpArgs false
namespace Go.D
open Las
theorem wrapU {n : Nat} (h : n ≤ 1000000) : IntKind.u64.wrap (n : Int) = (n : Int) := by
  unfold IntKind.wrap IntKind.bits IntKind.signed
  simp
  omega
theorem andU {a : Nat} (h : a ≤ 1000000) (t : TypeId) : binOp PP .and t (.p (.int .u64 (a : Nat))) (.p (.int .u64 4294967295)) = some (.p (.int .u64 (a : Nat))) := by
  have e : (BitVec.ofInt 64 (a : Int) &&& BitVec.ofInt 64 4294967295).toNat = a := by
    have h1 : (BitVec.ofInt 64 (a : Int)).toNat = a := by rw [BitVec.ofInt_natCast, BitVec.toNat_ofNat]; omega
    have h2 : (BitVec.ofInt 64 4294967295).toNat = 2 ^ 32 - 1 := by decide
    rw [BitVec.toNat_and, h1, h2, Nat.and_two_pow_sub_one_eq_mod]
    omega
  have e2 : binInt .and .u64 (a : Int) 4294967295 = some (.int .u64 (a : Nat)) := by
    show some (PV.int .u64 (IntKind.u64.wrap ((BitVec.ofInt 64 (a : Int) &&& BitVec.ofInt 64 4294967295).toNat : Int))) = _
    rw [e, wrapU h]
  show (if IntKind.u64 = IntKind.u64 then (binInt .and .u64 (a : Int) 4294967295).map DV.p else none) = _
  rw [if_pos rfl, e2]
  rfl
theorem shrU {a : Nat} (h : a ≤ 1000000) (t : TypeId) : binOp PP .shr t (.p (.int .u64 (a : Nat))) (.p (.int .u64 32)) = some (.p (.int .u64 ((0 : Nat) : Int))) := by
  have e : (a : Int).fdiv (2 ^ 32) = 0 := by
    rw [Int.fdiv_eq_ediv_of_nonneg _ (by decide)]
    omega
  show (some (PV.int .u64 ((a : Int).fdiv (2 ^ 32)))).map DV.p = _
  rw [e]
  rfl
theorem mulU {a b : Nat} (h : a * b ≤ 1000000) (t : TypeId) : binOp PP .mul t (.p (.int .u64 (a : Nat))) (.p (.int .u64 (b : Nat))) = some (.p (.int .u64 ((a * b : Nat) : Int))) := by
  have e : IntKind.u64.wrap ((a : Int) * (b : Int)) = ((a * b : Nat) : Int) := by rw [← Int.natCast_mul, wrapU h]
  show some (DV.p (PV.int .u64 (IntKind.u64.wrap ((a : Int) * (b : Int))))) = _
  rw [e]
theorem addU {a b : Nat} (h : a + b ≤ 1000000) (t : TypeId) : binOp PP .add t (.p (.int .u64 (a : Nat))) (.p (.int .u64 (b : Nat))) = some (.p (.int .u64 ((a + b : Nat) : Int))) := by
  have e : IntKind.u64.wrap ((a : Int) + (b : Int)) = ((a + b : Nat) : Int) := by rw [← Int.natCast_add, wrapU h]
  show some (DV.p (PV.int .u64 (IntKind.u64.wrap ((a : Int) + (b : Int))))) = _
  rw [e]
theorem S174 {a b : Nat} (ha : a ≤ 1000000) (hb : b ≤ 1000000) (h : a * b ≤ 1000000) (σ : Store) : pureV CC 174 [.p (.int .u64 (a : Nat)), .p (.int .u64 (b : Nat))] σ = some (.tuple [.p (.int .u64 ((0 : Nat) : Int)), .p (.int .u64 ((a * b : Nat) : Int))]) := by
  refine pureV_free rfl rfl (F174_call (r := (.tuple [.p (.int .u64 ((0 : Nat) : Int)), .p (.int .u64 ((a * b : Nat) : Int))], [])) ?_) rfl
  have m0 : ∀ n : Nat, 0 * n ≤ 1000000 := fun n => by omega
  have m1 : ∀ n : Nat, n * 0 ≤ 1000000 := fun n => by omega
  have z : (0 : Nat) ≤ 1000000 := by decide
  have zz : (0 : Nat) + 0 ≤ 1000000 := by decide
  have q1 := mulU (m0 b) 197
  have q2 := mulU (m1 a) 197
  have q3 := mulU (m0 0) 197
  rw [Nat.zero_mul] at q1
  rw [Nat.mul_zero] at q2
  have q4 := addU zz 197
  rw [F174_eq]
  simp only [andU ha, andU hb, shrU ha, shrU hb, obind, mulU h, q1, shrU h, q4, andU z, shrU z, q2, q3]
theorem S156 {a b : Nat} (ha : a ≤ 1000000) (hb : b ≤ 1000000) (h : a * b ≤ 1000000) (σ : Store) : pureV CC 156 [.p (.int .u64 (a : Nat)), .p (.int .u64 (b : Nat))] σ = some (.tuple [.p (.int .u64 0), .p (.int .u64 ((a * b : Nat) : Int))]) := by
  refine pureV_free rfl rfl (F156_call (r := (.tuple [.p (.int .u64 0), .p (.int .u64 ((a * b : Nat) : Int))], [])) ?_) rfl
  have e0 : ∀ a b : DV, extractV (.tuple [a, b]) 0 = some a := fun _ _ => Eq.trans rfl rfl
  have e1 : ∀ a b : DV, extractV (.tuple [a, b]) 1 = some b := fun _ _ => Eq.trans rfl rfl
  rw [F156_eq]
  simp only [gG, shift_ptr, shift_pptr, Nat.zero_add, Nat.add_zero, pureFn_fn, List.append_nil, List.singleton_append, List.cons_append, List.nil_append, S174 ha hb h, e0, e1]
  rfl
theorem u179 : PP.underlying 179 = some (.int .u64) := Eq.trans (by kernel_rfl) rfl
theorem cvU {n : Nat} (h : n ≤ 1000000) : convert PP 3 179 (.p (.int .i64 (n : Nat))) = some (.p (.int .u64 (n : Nat))) := by
  simp [convert, u3, u179, wrapU h]
theorem cvI {n : Nat} (h : n ≤ 1000000) : convert PP 179 3 (.p (.int .u64 (n : Nat))) = some (.p (.int .i64 (n : Nat))) := by
  have e : IntKind.i64.wrap (n : Int) = (n : Int) := wrap_ok (by omega) (by omega)
  simp [convert, u3, u179, e]
theorem b_gtrU (P : Program) (t : TypeId) (a b : Int) : binOp P .gtr t (.p (.int .u64 a)) (.p (.int .u64 b)) = some (.p (.bool (decide (a > b)))) := Eq.trans rfl rfl
theorem mk24 {n : Nat} (h : n ≤ 1000000) (σ : Store) : makeSlice PP false 24 (.p (.int .i64 (n : Nat))) (.p (.int .i64 (n : Nat))) σ = some (.rsl σ.length 1 0 n, σ ++ [.arr (eInts (List.replicate n 0))]) := by
  have hp : pures (ints (List.replicate n 0)) = some (eInts (List.replicate n 0)) := pures_map _
  have hc : (0 : Int) ≤ (n : Int) ∧ (n : Int) ≤ (n : Int) ∧ (n : Int) ≤ 140737488355328 ∧ ((8 : Nat) : Int) * (n : Int) ≤ 140737488355328 ∧ 1 = 1 := ⟨by omega, by omega, by omega, by omega, rfl⟩
  simp [makeSlice, u24, s3, bytes3, zero3, newRow, dups_zero, hp]
  omega
theorem splice_ints (A B : List Int) (k : Nat) : splice (eInts A) k (eInts B) = eInts (A.take k ++ B ++ A.drop (k + B.length)) := by
  unfold splice
  rw [eInts_take, ints_length, eInts_drop, eInts_app, eInts_app]
theorem cp_pl {σ : Store} {r lo T : Nat} {A l : List Int} {x : DV} (h : σ[r]? = some (.arr (eInts A))) (hx : PL x l) (h0 : 0 < l.length) (hl : l.length ≤ T) (hA : A.length = T) (hlo : lo ≤ r) :
    copyOp PP lo 24 (.rsl r 1 0 T) x σ = some (N l.length, σ.set r (.arr (eInts (l ++ A.drop l.length)))) := by
  have hs := hx.src σ
  have hm : min l.length T = l.length := Nat.min_eq_left hl
  have hn : ¬ (l.length * 1 = 0) := by omega
  have ht : ((eInts l).map DV.p).take (l.length * 1) = ints l := by
    show (ints l).take (l.length * 1) = ints l
    rw [Nat.mul_one, List.take_of_length_le (by rw [ints_len]; exact Nat.le_refl _)]
  have hb : 0 + (ints l).length ≤ (eInts A).length := by rw [ints_len, ints_length]; omega
  have e := splice_ints A l 0
  rw [List.take_zero, List.nil_append, Nat.zero_add] at e
  simp only [copyOp, u24, s3, hs, if_true, hm, if_neg hn, ht, storeN, if_pos hlo, h, ints_pures, if_pos hb, e, Option.map_some, N]
theorem cp_self {σ : Store} {r lo T n : Nat} {A : List Int} (h : σ[r]? = some (.arr (eInts A))) (h0 : 0 < n) (hn : n < T) (hA : A.length = T) (hlo : lo ≤ r) :
    copyOp PP lo 24 (.rsl r 1 n (T - n)) (.rsl r 1 0 n) σ = some (N (min n (T - n)), σ.set r (.arr (eInts (A.take n ++ A.take (min n (T - n)) ++ A.drop (n + min n (T - n)))))) := by
  generalize hk : min n (T - n) = k
  have hkn : k ≤ n := by omega
  have hkT : n + k ≤ T := by omega
  have hk0 : ¬ (k * 1 = 0) := by omega
  have hl : 0 + n * 1 ≤ (eInts A).length := by rw [ints_length]; omega
  have hs : source σ 1 (.rsl r 1 0 n) = some (n, ints (A.take n)) := by
    simp only [source, if_true, loadN, h, if_pos hl]
    simp only [List.drop_zero, Nat.mul_one, eInts_take, Option.map_some]
    rfl
  have ht : (ints (A.take n)).take (k * 1) = ints (A.take k) := by
    rw [Nat.mul_one, ints_take, List.take_take, Nat.min_eq_left hkn]
  have hlen : (A.take k).length = k := by rw [List.length_take]; omega
  have hb : n + (ints (A.take k)).length ≤ (eInts A).length := by rw [ints_len, ints_length, hlen]; omega
  have e := splice_ints A (A.take k) n
  rw [hlen] at e
  simp only [copyOp, u24, s3, hs, if_true, hk, if_neg hk0, ht, storeN, if_pos hlo, h, ints_pures, if_pos hb, e, Option.map_some, N]
theorem L113 {R : List Int} {r lo T : Nat} (hR : R.length = T) (hT : T ≤ 100000) (hlo : lo ≤ r) : ∀ (d n : Nat) (A : List Int) (σ : Store), T - n ≤ d → 0 < n → n ≤ T → A.length = T → σ[r]? = some (.arr (eInts A)) → A.take n = R.take n →
    (∀ i, n + i < T → R.getD (n + i) 0 = R.getD i 0) → ∃ σ', f113_L0 guardT lo (.rsl r 1 0 T) (N n) σ = some (.rsl r 1 0 T, σ') ∧ σ'[r]? = some (.arr (eInts R))
  | d, n, A, σ, hd, h0, hn, hA, hr, hp, hper => by
    by_cases hlt : n < T
    · cases d with
      | zero => omega
      | succ d =>
        have hc := cp_self (lo := lo) hr h0 hlt hA hlo
        generalize hk : min n (T - n) = k at hc
        have hkn : k ≤ n := by omega
        have hk0 : 0 < k := by omega
        have hl1 : (A.take n).length = n := by rw [List.length_take]; omega
        have hl2 : (A.take k).length = k := by rw [List.length_take]; omega
        have hAk : A.take k = R.take k := by
          have := congrArg (List.take k) hp
          rwa [List.take_take, List.take_take, Nat.min_eq_left hkn] at this
        have hnew : (A.take n ++ A.take k ++ A.drop (n + k)).take (n + k) = R.take (n + k) := by
          have ha : (A.take n ++ A.take k).length = n + k := by rw [List.length_append, hl1, hl2]
          have hb : (A.take n ++ A.take k ++ A.drop (n + k)).take (n + k) = A.take n ++ A.take k := by
            rw [List.take_append_of_le_length (by omega), List.take_of_length_le (by omega)]
          have hc2 : R.take (n + k) = R.take n ++ (R.drop n).take k := List.take_add
          have hd2 : R.take k = (R.drop n).take k := by
            refine List.ext_getElem (by rw [List.length_take, List.length_take, List.length_drop]; omega) fun i h1 h2 => ?_
            rw [List.length_take] at h1
            have := hper i (by omega)
            simp only [List.getElem_take, List.getElem_drop]
            simp only [List.getD_eq_getElem?_getD] at this
            rw [List.getElem?_eq_getElem (by omega), List.getElem?_eq_getElem (by omega)] at this
            exact this.symm
          rw [hb, hc2, hp, hAk, hd2]
        obtain ⟨σ', r1, r2⟩ := L113 hR hT hlo d (n + k) (A.take n ++ A.take k ++ A.drop (n + k)) (σ.set r (.arr (eInts (A.take n ++ A.take k ++ A.drop (n + k))))) (by omega) (by omega) (by omega) (by simp; omega) (by rw [List.getElem?_set_self (get_lt hr)]) hnew (fun i hi => by
          have hkk : k = n := by omega
          rw [hkk] at hi ⊢
          rw [show n + n + i = n + (n + i) by omega, hper (n + i) (by omega), hper i (by omega)])
        refine ⟨σ', ?_, r2⟩
        rw [← r1, f113_L0_eq guardT rfl]
        simp (disch := omega) only [N, rs_len, gG, b_lss, ltT, rs_drop, rs_take, Nat.zero_add, hc, addN]
    · have e : n = T := by omega
      subst e
      rw [List.take_of_length_le (by omega), List.take_of_length_le (by omega)] at hp
      subst hp
      refine ⟨σ, ?_, hr⟩
      rw [f113_L0_eq guardT rfl]
      simp (disch := omega) only [N, rs_len, gG, b_lss, ltF]
end Go.D
end
/- Chapter 13: Shortest and Unstuttered, in the program and in the reference. -/
section
set_option linter.unusedVariables false
set_option linter.unusedSimpArgs false
namespace Go.D
open Las
def Out (σ : Store) (lo sz n : Nat) (cs : List PV) (x : DV) : Prop :=
  cs.length = n * sz ∧ ((n = 0 ∧ x = .p .nilsl) ∨ (n ≠ 0 ∧ ∃ r ver, x = .osl r ver sz n cs ∧ σ[r]? = some (.tok ver) ∧ lo ≤ r))
def Others (σ σ' : Store) (x : DV) : Prop := ∀ i row, σ[i]? = some row → (∀ r ver sz n cs, x = .osl r ver sz n cs → i ≠ r) → σ'[i]? = some row
theorem Out.zero {σ : Store} {lo sz : Nat} : Out σ lo sz 0 [] (.p .nilsl) := ⟨by simp, .inl ⟨rfl, rfl⟩⟩
theorem Others.mix {σ σ' : Store} {lo sz n : Nat} {cs : List PV} {x : DV} (h : Others σ σ' x) (ho : Out σ lo sz n cs x) {i : Nat} {row : Row} (hi : σ[i]? = some row) (hr : ∀ v, row ≠ .tok v) : σ'[i]? = some row := by
  refine h i row hi ?_
  rintro r ver sz' n' cs' rfl rfl
  rcases ho.2 with ⟨_, h2⟩ | ⟨_, r2, ver2, h2, h3, _⟩
  · cases h2
  · injection h2 with e1
    subst e1
    rw [hi] at h3
    injection h3 with h3
    exact hr _ h3
theorem Out.push {σ : Store} {t e lo sz b n : Nat} {z : List DV} {cs vs : List PV} {x : DV} (hs : srcType PP t = true) (hu : PP.underlying t = some (.slice e)) (h1 : size? PP e = some sz) (h2 : bytes? PP e = some b) (h3 : zeroOf PP e = some z)
    (h4 : z.length = sz) (hz : 0 < sz) (hb : 0 < b) (hb2 : b ≤ 1000) (hv : vs.length = sz) (ho : Out σ lo sz n cs x) (hn : n ≤ 1000000) (hlo : lo ≤ σ.length) :
    ∃ x' σ', append PP lo false t t x (.p (.sl true 1 vs)) σ = some (x', σ') ∧ Out σ' lo sz (n + 1) (cs ++ vs) x' ∧ Others σ σ' x ∧ σ.length ≤ σ'.length := by
  have hsrc : source σ sz (.p (.sl true 1 vs)) = some (1, vs.map DV.p) := by simp [source, hv]
  have hz0 : ¬ (z.length ≠ sz ∨ sz = 0) := by omega
  obtain ⟨hc, ho⟩ := ho
  rcases ho with ⟨rfl, rfl⟩ | ⟨hn0, r, ver, rfl, hr, hl⟩
  · refine ⟨.osl σ.length 0 sz 1 vs, σ ++ [.tok 0], ?_, ⟨by simp [hc, hv], .inr ⟨by simp, σ.length, 0, ?_, get_snoc, hlo⟩⟩, ?_, by simp⟩
    · have : b ≤ 140737488355328 := by omega
      simp only [append, hs, hu, h1, h2, h3, hz0, hsrc, appNil]
      simp [this, hb, pures_map, h4, hz, Nat.ne_of_gt hz]
    · have : cs = [] := List.length_eq_zero_iff.1 (by simpa using hc)
      rw [this]; simp
    · intro i row hi _
      exact get_old hi
  · refine ⟨.osl r (ver + 1) sz (n + 1) (cs ++ vs), σ.set r (.tok (ver + 1)), ?_, ⟨by simp [hc, hv, Nat.add_mul], .inr ⟨by simp, r, ver + 1, rfl, ?_, hl⟩⟩, ?_, by simp⟩
    · have e1 : (n + 1) * b ≤ 140737488355328 := Nat.le_trans (Nat.mul_le_mul (show n + 1 ≤ 1000001 by omega) hb2) (by decide)
      have e2 : n + 1 ≤ 140737488355328 := by omega
      simp only [append, hs, hu, h1, h2, h3, hz0, hsrc, appTok]
      simp [e1, e2, hb, hc, hl, hr, pures_map, h4, Nat.ne_of_gt hz]
    · rw [List.getElem?_set_self (get_lt hr)]
    · intro i row hi hne
      rw [List.getElem?_set_ne (fun e => hne _ _ _ _ _ rfl e.symm)]
      exact hi
theorem Out.twAll {σ : Store} {lo sz n : Nat} {cs : List PV} {x : DV} (ho : Out σ lo sz n cs x) (m : Nat) : thawAll m σ x = some (.p (if n = 0 then .nilsl else .sl false n (loosens cs))) := by
  rcases ho.2 with ⟨rfl, rfl⟩ | ⟨hn, r, ver, rfl, _, _⟩
  · rfl
  · simp [thawAll, thawPart, thaw, thaw1, thawP, hn]
theorem Out.push24 {σ : Store} {lo n : Nat} {cs : List PV} {v : PV} {x : DV} (ho : Out σ lo 1 n cs x) (hn : n ≤ 1000000) (hlo : lo ≤ σ.length) :
    ∃ x' σ', append PP lo false 24 24 x (.p (.sl true 1 [v])) σ = some (x', σ') ∧ Out σ' lo 1 (n + 1) (cs ++ [v]) x' ∧ Others σ σ' x ∧ σ.length ≤ σ'.length :=
  Out.push src24 u24 s3 bytes3 zero3 rfl (by decide) (by decide) (by decide) rfl ho hn hlo
end Go.D
end
/- Chapter 13: formulas as the program's values; their errors in the reference. -/
section
set_option linter.unusedVariables false
set_option linter.unusedSimpArgs false
namespace Go.D
open Las
def eNds : List Nd → List PV
  | [] => []
  | x :: l => pI x.k :: pI x.n :: eSl x.a :: eNds l
def eFm : Fm → PV
  | none => .nilsl
  | some l => .sl false l.length (eNds l)
theorem loosens_nds (l : List Nd) : loosens (eNds l) = eNds l := by
  induction l with
  | nil => rfl
  | cons a l ih => simp only [eNds, loosens, loosen, loosen_sl, ih]
theorem loosen_fm (f : Fm) : loosen (eFm f) = eFm f := by
  cases f <;> simp [eFm, loosen, loosens_nds]
theorem fm_view (f : Fm) : view (.p (eFm f)) = .p (eFm f) := by simp [view, viewCell, loosen_fm]
theorem nds_length (l : List Nd) : (eNds l).length = l.length * 3 := by
  induction l with
  | nil => rfl
  | cons a l ih => simp [eNds, ih]; omega
theorem eNds_app (l m : List Nd) : eNds (l ++ m) = eNds l ++ eNds m := by
  induction l with
  | nil => rfl
  | cons a l ih => simp [eNds, ih]
theorem nds_get : ∀ (l : List Nd) (i : Nat) (h : i < l.length), (eNds l)[i * 3]? = some (pI (l.getD i default).k) ∧ (eNds l)[i * 3 + 1]? = some (pI (l.getD i default).n) ∧ (eNds l)[i * 3 + 2]? = some (eSl (l.getD i default).a)
  | e :: l, 0, h => by simp [eNds]
  | e :: l, i + 1, h => by
    have := nds_get l i (by simpa using h)
    have e3 : (i + 1) * 3 = i * 3 + 1 + 1 + 1 := by omega
    rw [e3]
    simpa [eNds] using this
theorem u23 : PP.underlying 23 = some (.slice 67) := Eq.trans (by kernel_rfl) rfl
theorem s67 : size? PP 67 = some 3 := Eq.trans (by kernel_rfl) rfl
theorem src23 : srcType PP 23 = true := Eq.trans (by kernel_rfl) rfl
theorem zero67 : zeroOf PP 67 = some [.p (pI 0), .p (pI 0), .p .nilsl] := Eq.trans (by kernel_rfl) rfl
theorem bytes67 : bytes? PP 67 = some 40 := Eq.trans (by kernel_rfl) rfl
theorem fa67_0 (x : DV) : fieldAddr PP 67 x 0 = shiftPtr x 0 := Eq.trans (by kernel_rfl) rfl
theorem fa67_1 (x : DV) : fieldAddr PP 67 x 1 = shiftPtr x 1 := Eq.trans (by kernel_rfl) rfl
theorem fa67_2 (x : DV) : fieldAddr PP 67 x 2 = shiftPtr x 2 := Eq.trans (by kernel_rfl) rfl
theorem load67 (x : DV) (σ : Store) : load PP 67 x σ = (loadN σ 3 x).map .agg := Eq.trans (by kernel_rfl) rfl
theorem len23 (f : Fm) (σ : Store) : len PP 23 (.p (eFm f)) σ = some (N (L f).length) := by cases f <;> simp [len, u23, eFm, N]
theorem idx23 {f : Fm} {i : Nat} (h : i < (L f).length) : indexAddr PP 23 (.p (eFm f)) (.p (.int .i64 (i : Nat))) = some (.pptr (eNds (L f)) (i * 3)) := by
  cases f with
  | none => simp at h
  | some l =>
    have h2 : (0 : Int) ≤ (i : Int) ∧ (i : Int) < (l.length : Nat) := by simp at h; omega
    simp [indexAddr, u23, s67, eFm, h2]
def ndD (x : Nd) : List DV := [.p (pI x.k), .p (pI x.n), .p (eSl x.a)]
section
variable {F : List Nd} {i : Nat} (h : i < F.length) (σ : Store)
include h
theorem nd_k : load1 (.pptr (eNds F) (i * 3)) σ = some (.p (.int .i64 (F.getD i default).k)) := load1_pptr (nds_get F i h).1 σ
theorem nd_a : load1 (.pptr (eNds F) (i * 3 + 2)) σ = some (.p (eSl (F.getD i default).a)) := load1_pptr (nds_get F i h).2.2 σ
theorem nd_all : (loadN σ 3 (.pptr (eNds F) (i * 3))).map DV.agg = some (.agg (ndD (F.getD i default))) := by
  have hle : i * 3 + 3 ≤ (eNds F).length := by rw [nds_length]; omega
  obtain ⟨h1, h2, h3⟩ := nds_get F i h
  have hd : ((eNds F).drop (i * 3)).take 3 = [pI (F.getD i default).k, pI (F.getD i default).n, eSl (F.getD i default).a] := by
    apply List.ext_getElem?
    intro j
    match j with
    | 0 => simpa using h1
    | 1 => simpa using h2
    | 2 => simpa using h3
    | j + 3 => simp; omega
  simp only [loadN, if_pos hle, hd]
  rfl
end
theorem st67 {σ : Store} {lo : Nat} {z : List DV} (x : Nd) (hz : z.length = 3) (hlo : lo ≤ σ.length) : store PP lo 67 (.ptr σ.length 0) (.agg (ndD x)) (σ ++ [.mix z]) = some (σ ++ [.mix (ndD x)]) := by
  have e : splice z 0 (ndD x) = ndD x := by simp [splice, hz, ndD]
  have e2 : (ndD x).all DV.one = true := rfl
  have e3 : (ndD x).length = 3 := rfl
  simp [store, s67, DV.cells, storeN, hz, e, e2, e3, hlo]
section
variable {σ : Store} {r : Nat} {x : Nd} (h : σ[r]? = some (.mix (ndD x)))
include h
theorem row_k : load1 (.ptr r 0) σ = some (.p (.int .i64 x.k)) := load1_ptr h rfl
theorem row_n : load1 (.ptr r 1) σ = some (.p (.int .i64 x.n)) := load1_ptr h rfl
theorem row_a : load1 (.ptr r 2) σ = some (.p (eSl x.a)) := load1_ptr h rfl
theorem row_nd : (loadN σ 3 (.ptr r 0)).map DV.agg = some (.agg (ndD x)) := by rw [loadN_ptr (vs := ndD x) h rfl (by simp [ndD])]; rfl
end
theorem subI {r : Nat} (h : r ≤ 1000000) : binOp PP .sub 3 (.p (.int .i64 (r : Nat))) (.p (.int .i64 1)) = some (.p (.int .i64 ((r : Int) - 1))) := by
  rw [b_sub, wrap_ok] <;> omega
theorem subJ {r : Int} (h : -1000000 ≤ r) (h2 : r ≤ 1000000) : binOp PP .sub 3 (.p (.int .i64 r)) (.p (.int .i64 1)) = some (.p (.int .i64 (r - 1))) := by
  rw [b_sub, wrap_ok] <;> omega
def FSm (f : Fm) : Prop := (L f).length ≤ 1000 ∧ ∀ i, (nA (L f) i).length ≤ 1000
theorem S13 (f : Fm) (σ : Store) : ∃ b, pureV CC 13 [.p (eFm f)] σ = some (.p (.bool b)) ∧ (b = true → FSm f) := by
  have hL : ∀ (d i : Nat), (L f).length ≤ 45 → (L f).length - i = d → i ≤ (L f).length → ∃ b, f13_L0 guardT 0 (.p (eFm f)) (N i) [] = some (.p (.bool b), []) ∧ (b = true → ∀ j, i ≤ j → j < (L f).length → (nA (L f) j).length ≤ 45) := by
    intro d
    induction d with
    | zero =>
      intro i h45 hd hi
      refine ⟨true, ?_, fun _ j h1 h2 => by omega⟩
      rw [f13_L0_eq guardT rfl]
      simp (disch := omega) only [N, len23, gG, b_lss, ltF]
    | succ d ih =>
      intro i h45 hd hi
      have hlt : i < (L f).length := by omega
      have e1 : (.p (.int .i64 (i : Nat)) : DV) = N i := rfl
      by_cases hc : ((nA (L f) i).length : Int) > 45
      · refine ⟨false, ?_, fun h => absurd h (by simp)⟩
        rw [f13_L0_eq guardT rfl]
        have hc' : ((L ((L f).getD i default).a).length : Int) > 45 := hc
        simp (disch := omega) only [N, len23, gG, b_lss, ltT, idx23 hlt, fa67_2, shift_ptr, shift_pptr, Nat.zero_add, Nat.add_zero, pureFn_fn, List.append_nil, List.singleton_append, List.cons_append, List.nil_append, load24, nd_a hlt, (PL.sl _).len, b_gtr, gtT hc']
      · obtain ⟨b, b1, b2⟩ := ih (i + 1) h45 (by omega) (by omega)
        refine ⟨b, ?_, fun hb j h1 h2 => ?_⟩
        · rw [f13_L0_eq guardT rfl]
          have hc' : ¬ ((L ((L f).getD i default).a).length : Int) > 45 := hc
          simp only [N] at b1
          simp (disch := omega) only [N, len23, gG, b_lss, ltT, idx23 hlt, fa67_2, shift_ptr, shift_pptr, Nat.zero_add, Nat.add_zero, pureFn_fn, List.append_nil, List.singleton_append, List.cons_append, List.nil_append, load24, nd_a hlt, (PL.sl _).len, b_gtr, gtF hc', add1, b1]
        · by_cases e : j = i
          · subst e; omega
          · exact b2 hb j (by omega) h2
  by_cases h45 : ((L f).length : Int) > 45
  · refine ⟨false, pureV_free (by simp [fm_view]) rfl (F13_call (r := (.p (.bool false), [])) ?_) rfl, fun h => absurd h (by simp)⟩
    rw [F13_eq]
    simp only [len23, N, gG, b_gtr, gtT h45]
  · obtain ⟨b, b1, b2⟩ := hL _ 0 (by omega) rfl (Nat.zero_le _)
    refine ⟨b, pureV_free (by simp [fm_view]) rfl (F13_call (r := (.p (.bool b), [])) ?_) rfl, fun hb => ⟨by omega, fun i => ?_⟩⟩
    · rw [F13_eq]
      simp only [len23, N, gG, b_gtr, gtF h45]
      exact b1
    · by_cases hi : i < (L f).length
      · have := b2 hb i (Nat.zero_le _) hi; omega
      · have : nA (L f) i = [] := by
          unfold nA
          rw [List.getD_eq_getElem?_getD, List.getElem?_eq_none (by omega)]; rfl
        rw [this]; simp
theorem S103 (k : Int) (σ : Store) : pureV CC 103 [.p (.int .i64 k)] σ = some (.p (.int .i64 (ar k))) := by
  refine pureV_free rfl rfl (F103_call (r := (.p (.int .i64 (ar k)), [])) ?_) rfl
  rw [F103_eq]
  unfold ar
  by_cases h0 : k = 0
  · simp only [b_eql, eqT h0, gG, f103_J0_eq, if_pos (show k = 0 ∨ k = 1 from .inl h0)]
  · by_cases h1 : k = 1
    · simp only [b_eql, eqF h0, eqT h1, gG, f103_J0_eq, if_pos (show k = 0 ∨ k = 1 from .inr h1)]
    · rw [if_neg (show ¬ (k = 0 ∨ k = 1) by omega)]
      by_cases h2 : k = 2
      · simp only [b_eql, eqF h0, eqF h1, eqT h2, gG, f103_J0_eq, f103_J1_eq, if_pos (show k = 2 ∨ k = 6 ∨ k = 7 from .inl h2)]
      · by_cases h3 : k = 6
        · simp only [b_eql, eqF h0, eqF h1, eqF h2, eqT h3, gG, f103_J0_eq, f103_J1_eq, if_pos (show k = 2 ∨ k = 6 ∨ k = 7 from .inr (.inl h3))]
        · by_cases h4 : k = 7
          · simp only [b_eql, eqF h0, eqF h1, eqF h2, eqF h3, eqT h4, gG, f103_J0_eq, f103_J1_eq, if_pos (show k = 2 ∨ k = 6 ∨ k = 7 from .inr (.inr h4))]
          · simp only [b_eql, eqF h0, eqF h1, eqF h2, eqF h3, eqF h4, gG, f103_J0_eq, f103_J1_eq, if_neg (show ¬ (k = 2 ∨ k = 6 ∨ k = 7) by omega)]
theorem S99 (k : Int) (σ : Store) : pureV CC 99 [.p (.int .i64 k)] σ = some (.p (.int .i64 (ar k))) := by
  refine pureV_free rfl rfl (F99_call (r := (.p (.int .i64 (ar k)), [])) ?_) rfl
  rw [F99_eq]
  unfold ar
  by_cases h0 : k = 0
  · simp only [b_eql, eqT h0, gG, f99_J0_eq, if_pos (show k = 0 ∨ k = 1 from .inl h0)]
  · by_cases h1 : k = 1
    · simp only [b_eql, eqF h0, eqT h1, gG, f99_J0_eq, if_pos (show k = 0 ∨ k = 1 from .inr h1)]
    · rw [if_neg (show ¬ (k = 0 ∨ k = 1) by omega)]
      by_cases h2 : k = 2
      · simp only [b_eql, eqF h0, eqF h1, eqT h2, gG, f99_J0_eq, f99_J1_eq, if_pos (show k = 2 ∨ k = 6 ∨ k = 7 from .inl h2)]
      · by_cases h3 : k = 6
        · simp only [b_eql, eqF h0, eqF h1, eqF h2, eqT h3, gG, f99_J0_eq, f99_J1_eq, if_pos (show k = 2 ∨ k = 6 ∨ k = 7 from .inr (.inl h3))]
        · by_cases h4 : k = 7
          · simp only [b_eql, eqF h0, eqF h1, eqF h2, eqF h3, eqT h4, gG, f99_J0_eq, f99_J1_eq, if_pos (show k = 2 ∨ k = 6 ∨ k = 7 from .inr (.inr h4))]
          · simp only [b_eql, eqF h0, eqF h1, eqF h2, eqF h3, eqF h4, gG, f99_J0_eq, f99_J1_eq, if_neg (show ¬ (k = 2 ∨ k = 6 ∨ k = 7) by omega)]
section
variable {f : Fm} (hf : FSm f)
include hf
theorem L105 : ∀ (d r : Nat), r < d → r < (L f).length → f105_L0 guardT 0 (.p (eFm f)) (N r) [] = some (.p (.int .i64 (fo (L f) r)), [])
  | 0, r, h, _ => by omega
  | d + 1, r, hd, hr => by
    have h1 := hf.1
    have ha : L ((L f).getD r default).a = nA (L f) r := rfl
    have ga := nd_a hr
    rw [fo_eq, f105_L0_eq guardT rfl]
    by_cases h0 : nA (L f) r = []
    · rw [if_pos h0]
      have hz : ¬ (((nA (L f) r).length : Nat) : Int) > 0 := by rw [h0]; decide
      simp only [N, idx23 hr, gG, fa67_2, shift_ptr, shift_pptr, Nat.zero_add, Nat.add_zero, pureFn_fn, List.append_nil, List.singleton_append, List.cons_append, List.nil_append, load24, ga, (PL.sl _).len, ha, b_gtr, gtF hz]
    · have hp := List.length_pos_iff.2 h0
      have hz : (((nA (L f) r).length : Nat) : Int) > 0 := by omega
      rw [if_neg h0]
      have i1 := (PL.sl ((L f).getD r default).a).idx (i := 0) (by rw [ha]; exact hp)
      have l1 := load1_getD (l := nA (L f) r) hp []
      have z0 : (.p (.int .i64 ((0 : Nat) : Int)) : DV) = .p (.int .i64 0) := rfl
      rw [z0, ha] at i1
      have hin : inR ((nA (L f) r).getD 0 0) 0 ((r : Int) - 1) = decide (0 ≤ (nA (L f) r).getD 0 0 ∧ (nA (L f) r).getD 0 0 ≤ (r : Int) - 1) := by
        rw [Bool.eq_iff_iff, inR_iff, decide_eq_true_iff]
      by_cases h2 : 0 ≤ (nA (L f) r).getD 0 0 ∧ (nA (L f) r).getD 0 0 ≤ (r : Int) - 1
      · rw [if_pos h2]
        have ih := L105 d ((nA (L f) r).getD 0 0).toNat (by omega) (by omega)
        have e : N ((nA (L f) r).getD 0 0).toNat = .p (.int .i64 ((nA (L f) r).getD 0 0)) := by unfold N; rw [Int.toNat_of_nonneg h2.1]
        rw [e] at ih
        simp (disch := omega) only [N, idx23 hr, gG, fa67_2, shift_ptr, shift_pptr, Nat.zero_add, Nat.add_zero, pureFn_fn, List.append_nil, List.singleton_append, List.cons_append, List.nil_append, load24, ga, (PL.sl _).len, ha, b_gtr, gtT hz, i1, load3, l1, subI, S26, hin, decide_eq_true h2, ih]
      · rw [if_neg h2]
        simp (disch := omega) only [N, idx23 hr, gG, fa67_2, shift_ptr, shift_pptr, Nat.zero_add, Nat.add_zero, pureFn_fn, List.append_nil, List.singleton_append, List.cons_append, List.nil_append, load24, ga, (PL.sl _).len, ha, b_gtr, gtT hz, i1, load3, l1, subI, S26, hin, decide_eq_false h2]
theorem S105 {r : Int} (hr : r < (L f).length) (σ : Store) : pureV CC 105 [.p (eFm f), .p (.int .i64 r)] σ = some (.p (.int .i64 (foI (L f) r))) := by
  refine pureV_free (by simp [view, viewCell, loosen, loosen_fm]) rfl (F105_call (r := (.p (.int .i64 (foI (L f) r)), [])) ?_) rfl
  rw [F105_eq]
  unfold foI
  by_cases h0 : r < 0
  · rw [if_pos h0]
    simp only [b_lss, ltT h0, gG]
  · rw [if_neg h0]
    have := L105 hf _ r.toNat (Nat.lt_succ_self _) (by omega)
    have e : N r.toNat = .p (.int .i64 r) := by unfold N; rw [Int.toNat_of_nonneg (by omega)]
    rw [e] at this
    simp only [b_lss, ltF h0, gG, this]
theorem L104 {i : Nat} (hi : i < (L f).length) : ∀ (k : Nat) (x : Int), x ≤ i → -1 ≤ x → k ≤ (nA (L f) i).length → f104_L0 guardT 0 (.p (eFm f)) (N i) (.p (.int .i64 x)) (.p (.int .i64 ((k : Int) - 1))) [] = some (.p (.bool (stB (L f) (nA (L f) i) x k).isSome), [])
  | 0, x, hx, hx0, hk => by
    have h1 : ¬ (((0 : Nat) : Int) - 1 ≥ 0) := by omega
    rw [f104_L0_eq guardT rfl]
    simp only [b_geq, geF h1, gG, stB, Option.isSome_some]
  | k + 1, x, hx, hx0, hk => by
    have e : (((k + 1 : Nat) : Int) - 1) = (k : Nat) := by omega
    have h1 : ((k : Nat) : Int) ≥ 0 := by omega
    have h2 := hf.1
    have h3 := hf.2 i
    have ha : L ((L f).getD i default).a = nA (L f) i := rfl
    have i1 := (PL.sl ((L f).getD i default).a).idx (i := k) (by rw [ha]; omega)
    have l1 := load1_getD (l := nA (L f) i) (i := k) (by omega) []
    rw [ha] at i1
    have hS := S105 hf (r := x - 1) (by omega)
    have hfo : foI (L f) (x - 1) ≤ i ∧ -1 ≤ foI (L f) (x - 1) := by
      unfold foI
      split
      · omega
      · have := fo_le (L f) (x - 1).toNat; omega
    rw [e, f104_L0_eq guardT rfl]
    unfold stB
    by_cases c1 : (nA (L f) i).getD k 0 = x - 1
    · rw [if_pos c1]
      by_cases c2 : foI (L f) (x - 1) < 0
      · rw [if_pos c2]
        simp (disch := omega) only [N, b_geq, geT h1, gG, idx23 hi, fa67_2, shift_ptr, shift_pptr, Nat.zero_add, Nat.add_zero, pureFn_fn, List.append_nil, List.singleton_append, List.cons_append, List.nil_append, load24, nd_a hi, i1, load3, l1, subJ, b_neq, eqT c1, hS, b_lss, ltT c2, Option.isSome_none]
      · rw [if_neg c2]
        have ih := L104 hi k (foI (L f) (x - 1)) hfo.1 hfo.2 (by omega)
        simp only [N] at ih
        simp (disch := omega) only [N, b_geq, geT h1, gG, idx23 hi, fa67_2, shift_ptr, shift_pptr, Nat.zero_add, Nat.add_zero, pureFn_fn, List.append_nil, List.singleton_append, List.cons_append, List.nil_append, load24, nd_a hi, i1, load3, l1, subJ, b_neq, eqT c1, hS, b_lss, ltF c2, subI, ih]
    · rw [if_neg c1]
      simp (disch := omega) only [N, b_geq, geT h1, gG, idx23 hi, fa67_2, shift_ptr, shift_pptr, Nat.zero_add, Nat.add_zero, pureFn_fn, List.append_nil, List.singleton_append, List.cons_append, List.nil_append, load24, nd_a hi, i1, load3, l1, subJ, b_neq, eqF c1, Option.isSome_none]
theorem S104 {i : Nat} (hi : i < (L f).length) (σ : Store) : pureV CC 104 [.p (eFm f), .p (.int .i64 (i : Nat))] σ = some (.p (.bool (stands (L f) i))) := by
  have h2 := hf.1
  have h3 := hf.2 i
  have ha : L ((L f).getD i default).a = nA (L f) i := rfl
  have hL := L104 hf hi (nA (L f) i).length i (Int.le_refl _) (by omega) (Nat.le_refl _)
  refine pureV_free (by simp [view, viewCell, loosen, loosen_fm]) rfl (F104_call (r := (.p (.bool (stands (L f) i)), [])) ?_) rfl
  rw [F104_eq]
  simp only [N] at hL
  simp (disch := omega) only [idx23 hi, gG, fa67_2, shift_ptr, shift_pptr, Nat.zero_add, Nat.add_zero, pureFn_fn, List.append_nil, List.singleton_append, List.cons_append, List.nil_append, load24, nd_a hi, (PL.sl _).len, ha, subI, hL]
  rfl
end
end Go.D
end
/- Chapter 13: formulas as arguments. -/
section
set_option linter.unusedVariables false
set_option linter.unusedSimpArgs false
set_option maxRecDepth 100000
namespace Go.D
open Go.ChangeShapes Go.WideShapes Go.ChangeAt Go.RowKit
theorem dec67 {a : List PV} (h : Plain PP 67 a) : ∃ x : Nd, a = [pI x.k, pI x.n, eSl x.a] := by
  have h1 := h.inv_struct Go.Proofs.Tryz.underlying67
  obtain ⟨a1, b1, h2, h3, rfl⟩ := PlainL.inv_cons h1
  obtain ⟨a2, b2, h4, h5, rfl⟩ := PlainL.inv_cons h3
  obtain ⟨a3, b3, h6, h7, rfl⟩ := PlainL.inv_cons h5
  obtain ⟨x, rfl⟩ := dec3 h2
  obtain ⟨y, rfl⟩ := dec3 h4
  obtain ⟨z, rfl⟩ := dec24 h6
  obtain rfl := PlainL.inv_nil h7
  exact ⟨⟨x, y, z⟩, rfl⟩
theorem flat67 (l : List Nd) : l.flatMap (fun x => [pI x.k, pI x.n, eSl x.a]) = eNds l := by
  induction l with
  | nil => rfl
  | cons a l ih => simp [ih, eNds]
theorem dec23 {a : List PV} (h : Plain PP 23 a) : ∃ f, a = [eFm f] := by
  rcases h.inv_slice u23 with rfl | ⟨n, xs, hx, rfl⟩
  · exact ⟨none, rfl⟩
  · obtain ⟨l, rfl, rfl⟩ := hx.inv_rep (f := fun x : Nd => [pI x.k, pI x.n, eSl x.a]) fun a ha => dec67 ha
    exact ⟨some l, by rw [flat67]; rfl⟩
section
variable {H : Type} {enc : TypeId × Value → H} {W : World} {hd : Bool} {r : Reach} {b0 : Nat} {v : Value} {d : DataW H} {ps : List MemPlace}
theorem read_fm (hok : Value.okWide PP W r b0 23 v) (h : DataW.Trod enc PP W 0 (fun _ => true) hd 23 v d ps) : ∃ f, VRel (fun _ _ => none) (memOf W) (.p (eFm f)) v := by
  obtain ⟨c, h1, h2⟩ := read_slice 8 u23 (by kernel_rfl) hok h
  obtain ⟨f, hf⟩ := dec23 h1
  injection hf with hf
  exact ⟨f, by rw [← hf]; exact h2⟩
end
end Go.D
end
/- Truths on a ring of places: until by two walks back, and by looking on. Plain Lean. -/
section
set_option linter.unusedVariables false
set_option linter.unusedSimpArgs false
namespace Go.D.Las
def pl (n back t : Nat) : Nat := if t < back then t else back + (t - back) % (n - back)
end Go.D.Las
end
/- Chapter 13: what a formula says at the places of a word, in plain Lean. -/
section
set_option linter.unusedVariables false
set_option linter.unusedSimpArgs false
namespace Go.D
namespace Las
structure Good (F : List Nd) (i : Nat) : Prop where
  k : inR (F.getD i default).k 0 9 = true
  a : (((nA F i).length : Nat) : Int) = ar (F.getD i default).k
  s : stands F i = true
  b : bad (F.getD i default) = false
theorem chkF_ok {F : List Nd} : ∀ (d i : Nat), (chkF F d i).2 = 0 → (∀ j, i ≤ j → j < i + d → Good F j) ∧ fo F (F.length - 1) = 0
  | 0, i, h => by
    unfold chkF at h
    by_cases c : fo F (F.length - 1) = 0
    · exact ⟨fun j h1 h2 => by omega, c⟩
    · rw [if_neg c] at h
      exact absurd h (by simp)
  | d + 1, i, h => by
    unfold chkF at h
    by_cases c1 : inR (F.getD i default).k 0 9 = true
    · rw [if_pos c1] at h
      by_cases c2 : (((nA F i).length : Nat) : Int) = ar (F.getD i default).k ∧ stands F i = true
      · rw [if_pos c2] at h
        by_cases c3 : bad (F.getD i default) = true
        · rw [if_pos c3] at h
          exact absurd h (by simp)
        · rw [if_neg c3] at h
          obtain ⟨h1, h2⟩ := chkF_ok d (i + 1) h
          refine ⟨fun j j1 j2 => ?_, h2⟩
          by_cases e : j = i
          · subst e; exact ⟨c1, c2.1, c2.2, (Bool.not_eq_true _).mp c3⟩
          · exact h1 j (by omega) (by omega)
      · rw [if_neg c2] at h
        exact absurd h (by simp)
    · rw [if_neg c1] at h
      exact absurd h (by simp)
structure Ok (F : List Nd) : Prop where
  pos : 0 < F.length
  le : F.length ≤ 40
  good : ∀ j, j < F.length → Good F j
  fst : fo F (F.length - 1) = 0
theorem chk_ok {F : List Nd} (h : (chk F).2 = 0) : Ok F := by
  unfold chk at h
  by_cases c1 : F.length = 0
  · rw [if_pos c1] at h; exact absurd h (by decide)
  · rw [if_neg c1] at h
    by_cases c2 : F.length > 40
    · rw [if_pos c2] at h; exact absurd h (by decide)
    · rw [if_neg c2] at h
      obtain ⟨h1, h2⟩ := chkF_ok _ _ h
      exact ⟨by omega, by omega, fun j hj => h1 j (Nat.zero_le _) (by omega), h2⟩
theorem Good.args {F : List Nd} {i : Nat} (h : Good F i) (hne : nA F i ≠ []) : 1 ≤ i ∧ 0 ≤ (nA F i).getD 0 0 ∧ (nA F i).getD 0 0 < i ∧ (nA F i).getD ((nA F i).length - 1) 0 = (i : Int) - 1 := by
  obtain ⟨y, hy⟩ := Option.isSome_iff_exists.1 h.s
  obtain ⟨m, hm⟩ : ∃ m, (nA F i).length = m + 1 := ⟨(nA F i).length - 1, by have := List.length_pos_iff.2 hne; omega⟩
  rw [hm] at hy
  obtain ⟨a, b, _, _⟩ := stB_end m _ _ hy
  have hl : (nA F i).getD m 0 = (i : Int) - 1 := by
    unfold stB at hy
    by_cases c : (nA F i).getD m 0 = (i : Int) - 1
    · exact c
    · rw [if_neg c] at hy; exact absurd hy (by simp)
  rw [hm, Nat.add_sub_cancel]
  exact ⟨by omega, b, by omega, hl⟩
def bit (x m : Int) : Bool := decide (x.toNat / 2 ^ m.toNat % 2 = 1)
end Las
end Go.D
end
/- Chapter 13: parts of formulas: spans, parents; guarded atoms. Plain Lean. -/
section
set_option linter.unusedVariables false
set_option linter.unusedSimpArgs false
namespace Go.D
namespace Las
variable {F : List Nd}
def inS (F : List Nd) (r i : Nat) : Prop := fo F r ≤ i ∧ i ≤ r
def chd (F : List Nd) (r c : Nat) : Prop := ∃ k, k < (nA F r).length ∧ (nA F r).getD k 0 = c
theorem stB_tile {us : List Int} : ∀ (k : Nat) (x y : Int), stB F us x k = some y → ∀ i : Int, y ≤ i → i < x → ∃ j, j < k ∧ 0 ≤ us.getD j 0 ∧ us.getD j 0 < x ∧ fo F (us.getD j 0).toNat ≤ i ∧ i ≤ us.getD j 0
  | 0, x, y, h, i, h1, h2 => by
    injection h with h
    omega
  | k + 1, x, y, h, i, h1, h2 => by
    unfold stB at h
    by_cases c1 : us.getD k 0 = x - 1
    · rw [if_pos c1] at h
      by_cases c2 : foI F (x - 1) < 0
      · rw [if_pos c2] at h; exact absurd h (by simp)
      · rw [if_neg c2] at h
        have h3 : ¬ x - 1 < 0 := fun hh => c2 (by unfold foI; rw [if_pos hh]; decide)
        have h4 : foI F (x - 1) = fo F (x - 1).toNat := by unfold foI; rw [if_neg h3]
        have h5 := fo_le F (x - 1).toNat
        by_cases c3 : foI F (x - 1) ≤ i
        · exact ⟨k, Nat.lt_succ_self _, by omega, by omega, by rw [c1, ← h4]; exact c3, by omega⟩
        · obtain ⟨j, j1, j2, j3, j4⟩ := stB_tile k _ y h i h1 (by omega)
          exact ⟨j, by omega, j2, by omega, j4⟩
    · rw [if_neg c1] at h; exact absurd h (by simp)
theorem stB_in {us : List Int} : ∀ (k : Nat) (x y : Int), stB F us x k = some y → ∀ j, j < k → 0 ≤ us.getD j 0 ∧ us.getD j 0 < x ∧ y ≤ fo F (us.getD j 0).toNat ∧ 0 ≤ fo F (us.getD j 0).toNat
  | 0, x, y, h, j, hj => by omega
  | k + 1, x, y, h, j, hj => by
    have hend := stB_end k x y h
    unfold stB at h
    by_cases c1 : us.getD k 0 = x - 1
    · rw [if_pos c1] at h
      by_cases c2 : foI F (x - 1) < 0
      · rw [if_pos c2] at h; exact absurd h (by simp)
      · rw [if_neg c2] at h
        have h3 : ¬ x - 1 < 0 := fun hh => c2 (by unfold foI; rw [if_pos hh]; decide)
        have h4 : foI F (x - 1) = fo F (x - 1).toNat := by unfold foI; rw [if_neg h3]
        have h5 := fo_le F (x - 1).toNat
        have hle : y ≤ foI F (x - 1) := by
          cases k with
          | zero => injection h with h; omega
          | succ k =>
            obtain ⟨a, b, c, d⟩ := stB_end k _ _ h
            have := fo_le F (us.getD 0 0).toNat
            omega
        by_cases e : j = k
        · subst e
          rw [c1, ← h4]
          exact ⟨by omega, by omega, hle, by omega⟩
        · obtain ⟨a, b, c⟩ := stB_in k _ y h j (by omega)
          exact ⟨a, by omega, c⟩
    · rw [if_neg c1] at h; exact absurd h (by simp)
theorem Good.st {r : Nat} (h : Good F r) : stB F (nA F r) r (nA F r).length = some (fo F r) := by
  obtain ⟨y, hy⟩ := Option.isSome_iff_exists.1 h.s
  rw [hy, stands_fo hy]
theorem Good.op {r c : Nat} (h : Good F r) (hc : chd F r c) : c < r ∧ fo F r ≤ fo F c ∧ 0 ≤ fo F c := by
  obtain ⟨k, k1, k2⟩ := hc
  obtain ⟨a, b, d⟩ := stB_in _ _ _ h.st k k1
  rw [k2, Int.toNat_natCast] at d
  exact ⟨by omega, d⟩
theorem Good.part {r i : Nat} (h : Good F r) (hi : inS F r i) (hne : i ≠ r) : ∃ c, chd F r c ∧ inS F c i := by
  have h1 := hi.1
  have h2 := hi.2
  obtain ⟨j, j1, j2, j3, j4, j5⟩ := stB_tile _ _ _ h.st i h1 (by omega)
  exact ⟨((nA F r).getD j 0).toNat, ⟨j, j1, by omega⟩, j4, by omega⟩
variable (hk : Ok F)
include hk
omit hk in
theorem inS_self (r : Nat) : inS F r r := ⟨(fo_le F r).2, Nat.le_refl _⟩
theorem inS_chd {r c : Nat} (hr : r < F.length) (hc : chd F r c) : inS F r c := by
  obtain ⟨a, b, _⟩ := (hk.good r hr).op hc
  have := fo_le F c
  exact ⟨by omega, by omega⟩
theorem nest : ∀ (m d i : Nat), d < m → d < F.length → inS F d i → fo F d ≤ fo F i
  | 0, d, i, h, _, _ => by omega
  | m + 1, d, i, h, hd, hi => by
    by_cases e : i = d
    · subst e; exact Int.le_refl _
    · obtain ⟨c, c1, c2⟩ := (hk.good d hd).part hi e
      obtain ⟨a, b, _⟩ := (hk.good d hd).op c1
      have := nest m c i (by omega) (by omega) c2
      omega
theorem inS_trans {r c i : Nat} (hr : r < F.length) (hc : inS F r c) (hi : inS F c i) : inS F r i := by
  have := nest hk _ r c (Nat.lt_succ_self _) hr hc
  exact ⟨by have := hi.1; omega, Nat.le_trans hi.2 hc.2⟩
theorem one_up {r r' c : Nat} (hr : r < F.length) (hr' : r' < F.length) (h : chd F r c) (h' : chd F r' c) : ¬ r < r' := fun hlt => by
  obtain ⟨a, b, _⟩ := (hk.good r hr).op h
  obtain ⟨a', b', _⟩ := (hk.good r' hr').op h'
  have hc := fo_le F c
  have hin : inS F r' r := ⟨by omega, by omega⟩
  obtain ⟨d, d1, d2⟩ := (hk.good r' hr').part hin (by omega)
  -- the tiles do not meet
  have hd := nest hk _ d r (Nat.lt_succ_self _) (by have := ((hk.good r' hr').op d1).1; omega) d2
  have hdis : ∀ (k : Nat) (x y : Int), stB F (nA F r') x k = some y → ∀ j j', j < k → j' < k → ∀ c d : Nat, (nA F r').getD j 0 = c → (nA F r').getD j' 0 = d → c < d → (c : Int) < fo F d := by
    intro k
    induction k with
    | zero => intro x y _ j j' hj; omega
    | succ k ih =>
      intro x y hs j j' hj hj' c d e1 e2 hcd
      have hin := stB_in (k + 1) x y hs
      unfold stB at hs
      by_cases c1 : (nA F r').getD k 0 = x - 1
      · rw [if_pos c1] at hs
        by_cases c2 : foI F (x - 1) < 0
        · rw [if_pos c2] at hs; exact absurd hs (by simp)
        · rw [if_neg c2] at hs
          have h3 : ¬ x - 1 < 0 := fun hh => c2 (by unfold foI; rw [if_pos hh]; decide)
          have h4 : foI F (x - 1) = fo F (x - 1).toNat := by unfold foI; rw [if_neg h3]
          by_cases f1 : j' = k
          · subst f1
            have f2 : j ≠ j' := fun e => by subst e; omega
            obtain ⟨g1, g2, _⟩ := stB_in _ _ _ hs j (by omega)
            have : (x - 1).toNat = d := by omega
            rw [h4, this] at g2
            omega
          · by_cases f2 : j = k
            · subst f2
              obtain ⟨g1, g2, _⟩ := hin j' (by omega)
              omega
            · exact ih _ _ hs j j' (by omega) (by omega) c d e1 e2 hcd
      · rw [if_neg c1] at hs; exact absurd hs (by simp)
  obtain ⟨k, k1, k2⟩ := h'
  obtain ⟨k', k1', k2'⟩ := d1
  have hcd : c < d := by
    have := d2.2
    omega
  have := hdis _ _ _ (hk.good r' hr').st k k' k1 k1' c d k2 k2' hcd
  omega
theorem up_eq {r r' c : Nat} (hr : r < F.length) (hr' : r' < F.length) (h : chd F r c) (h' : chd F r' c) : r = r' := by
  have h1 := one_up hk hr hr' h h'
  have h2 := one_up hk hr' hr h' h
  omega
end Las
end Go.D
end
/- Chapter 13: a formula is guarded: by parts, and by looking up from each atom. Plain Lean. -/
section
set_option linter.unusedVariables false
set_option linter.unusedSimpArgs false
namespace Go.D
namespace Las
variable {F : List Nd} {st : List Int}
def kd (F : List Nd) (i : Nat) : Int := (F.getD i default).k
def badA (F : List Nd) (st : List Int) (i : Nat) : Prop := kd F i = 1 ∧ (F.getD i default).n ∈ st
def okIn (F : List Nd) (r i : Nat) : Prop := ∃ p, chd F p i ∧ inS F r p ∧ (kd F p = 7 ∨ (kd F p = 2 ∧ ∃ q, chd F q p ∧ inS F r q ∧ kd F q = 6))
def c7 (F : List Nd) (r : Nat) : Bool := decide (kd F r = 7) && decide (kd F ((nA F r).getD 0 0).toNat = 1)
def c6 (F : List Nd) (r : Nat) : Bool := decide (kd F r = 6) && decide (kd F ((nA F r).getD 0 0).toNat = 2) && decide (kd F ((nA F ((nA F r).getD 0 0).toNat).getD 0 0).toNat = 1)
def gR (F : List Nd) (st : List Int) : Nat → Nat → Bool
  | 0, _ => true
  | k + 1, r => if kd F r = 1 then !decide ((F.getD r default).n ∈ st) else if c7 F r = true then true else if c6 F r = true then true else (nA F r).all fun c => gR F st k c.toNat
def RHS (F : List Nd) (st : List Int) (r : Nat) : Prop := ∀ i, inS F r i → badA F st i → okIn F r i
section
variable (hk : Ok F)
include hk
theorem par_in : ∀ (m c i : Nat), c < m → c < F.length → inS F c i → i ≠ c → ∃ p, chd F p i ∧ inS F c p
  | 0, c, i, h, _, _, _ => by omega
  | m + 1, c, i, h, hc, hi, hne => by
    obtain ⟨d, d1, d2⟩ := (hk.good c hc).part hi hne
    obtain ⟨a, _, _⟩ := (hk.good c hc).op d1
    by_cases e : i = d
    · subst e; exact ⟨c, d1, inS_self _⟩
    · obtain ⟨p, p1, p2⟩ := par_in m d i (by omega) (by omega) d2 e
      exact ⟨p, p1, inS_trans hk hc (inS_chd hk hc d1) p2⟩
theorem chd_lt {r c : Nat} (hr : r < F.length) (h : chd F r c) : c < r := ((hk.good r hr).op h).1
theorem len_of {r : Nat} (hr : r < F.length) : ((nA F r).length : Int) = ar (kd F r) := (hk.good r hr).a
theorem chd_one {r c : Nat} (hr : r < F.length) (h1 : ar (kd F r) = 1) (h : chd F r c) : c = ((nA F r).getD 0 0).toNat := by
  obtain ⟨k, k1, k2⟩ := h
  have := len_of hk hr
  have : k = 0 := by omega
  subst this
  omega
theorem atom_self {r i : Nat} (hr : r < F.length) (h1 : kd F r = 1) (hi : inS F r i) : i = r := by
  by_cases e : i = r
  · exact e
  · obtain ⟨c, ⟨k, k1, _⟩, _⟩ := (hk.good r hr).part hi e
    have := len_of hk hr
    rw [h1] at this
    have e2 : ar 1 = 0 := rfl
    omega
theorem gR_iff : ∀ (m r : Nat), r < m → r < F.length → (gR F st m r = true ↔ RHS F st r)
  | 0, r, h, _ => by omega
  | m + 1, r, hm, hr => by
    unfold gR
    by_cases k1 : kd F r = 1
    · rw [if_pos k1, Bool.not_eq_true', decide_eq_false_iff_not]
      constructor
      · intro h i hi hb
        have := atom_self hk hr k1 hi
        subst this
        exact absurd hb.2 h
      · intro h hm2
        obtain ⟨p, p1, p2, _⟩ := h r (inS_self _) ⟨k1, hm2⟩
        have hp : p < F.length := by have := p2.2; omega
        have := chd_lt hk hp p1
        have := p2.2
        omega
    · rw [if_neg k1]
      by_cases k7 : c7 F r = true
      · rw [if_pos k7]
        refine ⟨fun _ => ?_, fun _ => rfl⟩
        unfold c7 at k7
        rw [Bool.and_eq_true, decide_eq_true_iff, decide_eq_true_iff] at k7
        obtain ⟨e7, e1⟩ := k7
        have har : ar (kd F r) = 1 := by rw [e7]; rfl
        intro i hi hb
        have hne : i ≠ r := fun e => by subst e; exact k1 hb.1
        obtain ⟨c, h1, h2⟩ := (hk.good r hr).part hi hne
        have hc := chd_one hk hr har h1
        have hlt := chd_lt hk hr h1
        rw [← hc] at e1
        have := atom_self hk (by omega) e1 h2
        subst this
        exact ⟨r, h1, inS_self _, .inl e7⟩
      · rw [if_neg k7]
        by_cases k6 : c6 F r = true
        · rw [if_pos k6]
          refine ⟨fun _ => ?_, fun _ => rfl⟩
          unfold c6 at k6
          rw [Bool.and_eq_true, Bool.and_eq_true, decide_eq_true_iff, decide_eq_true_iff, decide_eq_true_iff] at k6
          obtain ⟨⟨e6, e2⟩, e1⟩ := k6
          have har : ar (kd F r) = 1 := by rw [e6]; rfl
          intro i hi hb
          have hne : i ≠ r := fun e => by subst e; exact k1 hb.1
          obtain ⟨c, h1, h2⟩ := (hk.good r hr).part hi hne
          have hc := chd_one hk hr har h1
          have hlt := chd_lt hk hr h1
          rw [← hc] at e1 e2
          have har2 : ar (kd F c) = 1 := by rw [e2]; rfl
          have hne2 : i ≠ c := fun e => by subst e; rw [hb.1] at e2; exact absurd e2 (by decide)
          obtain ⟨d, h3, h4⟩ := (hk.good c (by omega)).part h2 hne2
          have hd := chd_one hk (by omega) har2 h3
          have hlt2 := chd_lt hk (by omega) h3
          rw [← hd] at e1
          have := atom_self hk (by omega) e1 h4
          subst this
          exact ⟨c, h3, inS_chd hk hr h1, .inr ⟨e2, r, h1, inS_self _, e6⟩⟩
        · rw [if_neg k6, List.all_eq_true]
          have hall : (∀ v ∈ nA F r, gR F st m v.toNat = true) ↔ ∀ c, chd F r c → RHS F st c := by
            constructor
            · intro h c hc
              have hlt := chd_lt hk hr hc
              obtain ⟨k, h1, h2⟩ := hc
              have hmem : (nA F r).getD k 0 ∈ nA F r := by
                rw [List.getD_eq_getElem?_getD, List.getElem?_eq_getElem h1]
                exact List.getElem_mem h1
              have := h _ hmem
              rw [h2, Int.toNat_natCast] at this
              exact (gR_iff m c (by omega) (by omega)).1 this
            · intro h v hv
              obtain ⟨k, h1, h2⟩ := List.getElem_of_mem hv
              have hg : (nA F r).getD k 0 = v := by rw [List.getD_eq_getElem?_getD, List.getElem?_eq_getElem h1]; exact h2
              have hin := stB_in _ _ _ (hk.good r hr).st k h1
              rw [hg] at hin
              have hc : chd F r v.toNat := ⟨k, h1, by omega⟩
              have hlt := chd_lt hk hr hc
              exact (gR_iff m v.toNat (by omega) (by omega)).2 (h _ hc)
          rw [hall]
          constructor
          · intro h i hi hb
            have hne : i ≠ r := fun e => by subst e; exact k1 hb.1
            obtain ⟨c, h1, h2⟩ := (hk.good r hr).part hi hne
            obtain ⟨p, p1, p2, p3⟩ := h c h1 i h2 hb
            have hcr := inS_chd hk hr h1
            refine ⟨p, p1, inS_trans hk hr hcr p2, p3.imp id ?_⟩
            rintro ⟨q1, q, q2, q3, q4⟩
            exact ⟨q1, q, q2, inS_trans hk hr hcr q3, q4⟩
          · intro h c hc i hi hb
            have hlt := chd_lt hk hr hc
            have hcr := inS_chd hk hr hc
            obtain ⟨p, p1, p2, p3⟩ := h i (inS_trans hk hr hcr hi) hb
            have hp : p < F.length := by have := p2.2; omega
            by_cases e : i = c
            · exfalso
              subst e
              have := up_eq hk hp hr p1 hc
              subst this
              rcases p3 with p3 | ⟨p3, q, q1, q2, _⟩
              · apply k7
                unfold c7
                have har : ar (kd F p) = 1 := by rw [p3]; rfl
                rw [decide_eq_true p3, ← chd_one hk hr har hc, decide_eq_true hb.1]; rfl
              · have hq : q < F.length := by have := q2.2; omega
                have := chd_lt hk hq q1
                have := q2.2
                omega
            · obtain ⟨p', h1, h2⟩ := par_in hk _ c i (Nat.lt_succ_self _) (by omega) hi e
              have hp' : p' < F.length := by have := h2.2; omega
              have := up_eq hk hp hp' p1 h1
              subst this
              refine ⟨p, p1, h2, ?_⟩
              rcases p3 with p3 | ⟨p3, q, q1, q2, q3⟩
              · exact .inl p3
              · refine .inr ⟨p3, q, q1, ?_, q3⟩
                have hq : q < F.length := by have := q2.2; omega
                by_cases e2 : p = c
                · exfalso
                  subst e2
                  have := up_eq hk hq hr q1 hc
                  subst this
                  apply k6
                  unfold c6
                  have har : ar (kd F q) = 1 := by rw [q3]; rfl
                  have har2 : ar (kd F p) = 1 := by rw [p3]; rfl
                  rw [← chd_one hk hr har hc, ← chd_one hk hp har2 p1, decide_eq_true q3, decide_eq_true p3, decide_eq_true hb.1]; rfl
                · obtain ⟨q', h3, h4⟩ := par_in hk _ c p (Nat.lt_succ_self _) (by omega) h2 e2
                  have hq' : q' < F.length := by have := h4.2; omega
                  have := up_eq hk hq hq' q1 h3
                  subst this
                  exact h4
end
end Las
end Go.D
end
/- Equations of functions 9, 51, 112, 114, 91, 141, 53, 54, 115, 95, printed by gen.py. -/
section
set_option linter.unusedVariables false
set_option maxRecDepth 10000
namespace Go.D
open Go.Proofs
noncomputable section
variable (G : GuardT) (lo : Nat) {σ : Store} {r : DV × Store}
open _root_.Go.D.Code (fstC sndC)
open _root_.Go.D.Ann (left right)
def c9_0 : Code := bodyOf Tryz.f9
def a9_0 : Ann := (pol 9).ann
def c9_28 : Code := sndC (sndC (sndC (sndC (sndC (sndC c9_0)))))
def a9_28 : Ann := right (right (right (right (right (right a9_0)))))
def f9_J0_fr (x0 x1 x4 x5 x6 x7 x8 x9 x10 x11 x12 x13 x14 x15 x16 x17 x18 x19 x20 x21 x22 x23 x24 x25 x26 x27 x28 x29 x30 x31 : DV) : Frame := (x0 :: x1 :: Z :: Z :: x4 :: x5 :: x6 :: x7 :: x8 :: x9 :: x10 :: x11 :: x12 :: x13 :: x14 :: x15 :: x16 :: x17 :: x18 :: x19 :: x20 :: x21 :: x22 :: x23 :: x24 :: x25 :: x26 :: x27 :: x28 :: x29 :: x30 :: x31 :: zn 18 [])
def f9_J0 (x0 x1 x4 x5 x6 x7 x8 x9 x10 x11 x12 x13 x14 x15 x16 x17 x18 x19 x20 x21 x22 x23 x24 x25 x26 x27 x28 x29 x30 x31 : DV) (σ : Store) : RS :=
 (seqC G PP (pol 9) CC lo c9_28 a9_28 (finR PP Tryz.f9.results.toList)) .normal (f9_J0_fr x0 x1 x4 x5 x6 x7 x8 x9 x10 x11 x12 x13 x14 x15 x16 x17 x18 x19 x20 x21 x22 x23 x24 x25 x26 x27 x28 x29 x30 x31) σ
def F9 (x0 x1 : DV) (σ : Store) : RS :=
 codeF G PP (pol 9) CC lo c9_0 a9_0 (x0 :: x1 :: zn 48 []) σ (finR PP Tryz.f9.results.toList)
theorem f9_J0_eq (G : GuardT) (lo : Nat) (x0 x1 x4 x5 x6 x7 x8 x9 x10 x11 x12 x13 x14 x15 x16 x17 x18 x19 x20 x21 x22 x23 x24 x25 x26 x27 x28 x29 x30 x31 : DV) (σ : Store) : f9_J0 G lo x0 x1 x4 x5 x6 x7 x8 x9 x10 x11 x12 x13 x14 x15 x16 x17 x18 x19 x20 x21 x22 x23 x24 x25 x26 x27 x28 x29 x30 x31 σ =
 (binOp PP .neq 3 x7 I0).bind fun x33 =>
 condK x33
 (
 (binOp PP .eql 3 x6 x7).bind fun x36 =>
 G _ x36 true (some (x5, σ)) σ fun x38 σ4 =>
 G _ x36 true ((unOp .not x38).bind fun v => some (v, σ4)) σ4 fun x39 σ5 =>
 (pickV x36 x39 (DV.p (PV.bool false))).bind fun x40 =>
 some (x40, σ5)
 )
 (
 (binOp PP .eql 30 x6 I0).bind fun x42 =>
 G _ x42 true (some (x5, σ)) σ fun x44 σ6 =>
 G _ x42 true (some (x0, σ6)) σ6 fun x45 σ7 =>
 G _ x42 true (some (x1, σ7)) σ7 fun x46 σ8 =>
 G _ x42 true ((pureFn CC (DV.fn 54 []) [x45, x46] σ8).bind fun v => some (v, σ8)) σ8 fun x47 σ9 =>
 G _ x42 true ((binOp PP .eql 4 x44 x47).bind fun v => some (v, σ9)) σ9 fun x48 σ10 =>
 (pickV x42 x48 (DV.p (PV.bool false))).bind fun x49 =>
 some (x49, σ10)
 ) := by kernel_rfl
theorem F9_eq (G : GuardT) (lo : Nat) (x0 x1 : DV) (σ : Store) : F9 G lo x0 x1 σ =
 (pureFn CC (DV.fn 12 []) [] σ).bind fun x8 =>
 (unOp .not x8).bind fun x9 =>
 condK x9
 (
 some ((DV.p (PV.bool false)), σ)
 )
 (
 (pureFn CC (DV.fn 13 []) [x0] σ).bind fun x11 =>
 (unOp .not x11).bind fun x12 =>
 G _ x12 false (some (x1, σ)) σ fun x14 σ1 =>
 G _ x12 false ((len PP 24 x14 σ1).bind fun v => some (v, σ1)) σ1 fun x15 σ2 =>
 G _ x12 false ((binOp PP .gtr 3 x15 (DV.p (PV.int IntKind.i64 (15)))).bind fun v => some (v, σ2)) σ2 fun x16 σ3 =>
 (pickV x12 (DV.p (PV.bool true)) x16).bind fun x17 =>
 condK x17
 (
 some ((DV.p (PV.bool true)), σ3)
 )
 (
 (pureFn CC (DV.fn 19 []) [x0] σ3).bind fun x20 =>
 (pureFn CC (DV.fn 52 []) [x1] σ3).bind fun x22 =>
 (pureFn CC (DV.fn 51 []) [x20, x22] σ3).bind fun x23 =>
 (extractV x23 0).bind fun x24 =>
 (extractV x23 1).bind fun x25 =>
 (pureFn CC (DV.fn 25 []) [x0] σ3).bind fun x27 =>
 (binOp PP .eql 3 x27 I0).bind fun x29 =>
 condK x29
 (
 (pureFn CC (DV.fn 53 []) [x1] σ3).bind fun x31 =>
 f9_J0 G lo x0 x1 (DV.p (PV.bool false)) x24 x25 x31 x8 x9 x0 x11 x12 x12 x14 x15 x16 x17 x23 x0 x20 x1 x22 x23 x24 x25 x0 x27 x27 x29 x1 x31 σ3
 )
 (
 f9_J0 G lo x0 x1 (DV.p (PV.bool false)) x24 x25 x27 x8 x9 x0 x11 x12 x12 x14 x15 x16 x17 x23 x0 x20 x1 x22 x23 x24 x25 x0 x27 x27 x29 Z Z σ3
 )
 )
 ) := by kernel_rfl
theorem F9_call {lo : Nat} {x0 x1 : DV} (h : F9 guardT lo x0 x1 σ = some r) : CC lo 9 [x0, x1] σ = some r :=
 callL_run Tryz.func9 (by decide +kernel) rfl (by decide +kernel) h
def c51_0 : Code := bodyOf Tryz.f51
def a51_0 : Ann := (pol 51).ann
def a51_19 : Ann := right (left (right (right (right (right a51_0)))))
def a51_20 : Ann := left a51_19
def c51_21 : Code := fstC (fstC (sndC (fstC (sndC (sndC (sndC (sndC c51_0)))))))
def a51_28 : Ann := left (right (right (left a51_20)))
def a51_33 : Ann := right (right (left a51_28))
def a51_34 : Ann := left a51_33
def c51_35 : Code := fstC (fstC (sndC (sndC (fstC (fstC (sndC (sndC c51_21)))))))
def c51_47 : Code := sndC (sndC (sndC c51_21))
def a51_47 : Ann := right (right (right (left a51_20)))
def c51_48 : Code := sndC (sndC (sndC (sndC (sndC c51_0))))
def a51_48 : Ann := right (right (right (right (right a51_0))))
def a51_53 : Ann := right (left (right a51_48))
def a51_54 : Ann := left a51_53
def c51_55 : Code := fstC (fstC (sndC (fstC (sndC c51_48))))
def c51_80 : Code := sndC (sndC (sndC c51_55))
def a51_80 : Ann := right (right (right (left a51_54)))
def c51_81 : Code := sndC (sndC c51_48)
def a51_81 : Ann := right (right a51_48)
def f51_L0 (x1 x2 x8 x36 x37 x38 : DV) (σ : Store) : RS :=
 codeF G PP (pol 51) CC lo (.loop c51_21) a51_20 (Z :: x1 :: x2 :: zn 5 (x8 :: zn 27 (x36 :: x37 :: x38 :: zn 54 []))) σ
 (blockC 0 a51_19 (seqC G PP (pol 51) CC lo c51_48 a51_48 (finR PP Tryz.f51.results.toList)))
def f51_L1 (x1 x2 x8 x9 x36 x37 x38 x44 x45 x46 : DV) (σ : Store) : RS :=
 codeF G PP (pol 51) CC lo (.loop c51_35) a51_34 (Z :: x1 :: x2 :: zn 5 (x8 :: x9 :: zn 26 (x36 :: x37 :: x38 :: zn 5 (x44 :: x45 :: x46 :: zn 46 [])))) σ
 (blockC 2 a51_33 (blockC 1 a51_28 (seqC G PP (pol 51) CC lo c51_47 a51_47 (loopC G PP (pol 51) CC lo c51_21 a51_20 (blockC 0 a51_19 (seqC G PP (pol 51) CC lo c51_48 a51_48 (finR PP Tryz.f51.results.toList)))))))
def f51_L2 (x1 x8 x13 x57 x58 x59 : DV) (σ : Store) : RS :=
 codeF G PP (pol 51) CC lo (.loop c51_55) a51_54 (Z :: x1 :: zn 6 (x8 :: Z :: Z :: Z :: Z :: x13 :: zn 43 (x57 :: x58 :: x59 :: zn 33 []))) σ
 (blockC 4 a51_53 (seqC G PP (pol 51) CC lo c51_81 a51_81 (finR PP Tryz.f51.results.toList)))
def f51_J0_fr (x1 x8 x13 x57 x58 x59 : DV) : Frame := (Z :: x1 :: zn 6 (x8 :: Z :: Z :: Z :: Z :: x13 :: zn 43 (x57 :: x58 :: x59 :: zn 33 [])))
def f51_J0 (x1 x8 x13 x57 x58 x59 : DV) (σ : Store) : RS :=
 (seqC G PP (pol 51) CC lo c51_80 a51_80 (loopC G PP (pol 51) CC lo c51_55 a51_54 (blockC 4 a51_53 (seqC G PP (pol 51) CC lo c51_81 a51_81 (finR PP Tryz.f51.results.toList))))) .normal (f51_J0_fr x1 x8 x13 x57 x58 x59) σ
def F51 (x0 x1 : DV) (σ : Store) : RS :=
 codeF G PP (pol 51) CC lo c51_0 a51_0 (x0 :: x1 :: zn 91 []) σ (finR PP Tryz.f51.results.toList)
theorem f51_L0_eq (G : GuardT) (hG : GuardOk G) (lo : Nat) (x1 x2 x8 x36 x37 x38 : DV) (σ : Store) : f51_L0 G lo x1 x2 x8 x36 x37 x38 σ =
 (binOp PP .lss 3 x38 x37).bind fun x39 =>
 condK x39
 (
 (indexAddr PP 23 x36 x38).bind fun x41 =>
 (load PP 67 x41 σ).bind fun x42 =>
 (zeroOf PP 67).bind fun z10 =>
 (store PP lo 67 (DV.ptr (List.length σ) 0) x42 (σ ++ [Row.mix z10])).bind fun σ5 =>
 (fieldAddr PP 67 (DV.ptr (List.length σ) 0) 2).bind fun x43 =>
 (load PP 24 x43 σ5).bind fun x44 =>
 (len PP 24 x44 σ5).bind fun x45 =>
 f51_L1 G lo x1 x2 x8 x38 x36 x37 x38 x44 x45 I0 σ5
 )
 (
 (load PP 23 x2 σ).bind fun x57 =>
 (len PP 23 x57 σ).bind fun x58 =>
 f51_L2 G lo x1 x8 (DV.fn 114 [x8, x2]) x57 x58 I0 σ
 ) := (loopF_eq G hG).trans (by kernel_rfl)
theorem f51_L1_eq (G : GuardT) (hG : GuardOk G) (lo : Nat) (x1 x2 x8 x9 x36 x37 x38 x44 x45 x46 : DV) (σ : Store) : f51_L1 G lo x1 x2 x8 x9 x36 x37 x38 x44 x45 x46 σ =
 (binOp PP .lss 3 x46 x45).bind fun x47 =>
 condK x47
 (
 (indexAddr PP 24 x44 x46).bind fun x48 =>
 (load PP 3 x48 σ).bind fun x49 =>
 (load PP 24 x8 σ).bind fun x50 =>
 (indexAddr PP 24 x50 x49).bind fun x53 =>
 (store PP lo 3 x53 x9 σ).bind fun σ6 =>
 (binOp PP .add 3 x46 I1).bind fun x54 =>
 f51_L1 G lo x1 x2 x8 x9 x36 x37 x38 x44 x45 x54 σ6
 )
 (
 (binOp PP .add 3 x38 I1).bind fun x55 =>
 f51_L0 G lo x1 x2 x8 x36 x37 x55 σ
 ) := (loopF_eq G hG).trans (by kernel_rfl)
theorem f51_L2_eq (G : GuardT) (hG : GuardOk G) (lo : Nat) (x1 x8 x13 x57 x58 x59 : DV) (σ : Store) : f51_L2 G lo x1 x8 x13 x57 x58 x59 σ =
 (binOp PP .lss 3 x59 x58).bind fun x60 =>
 condK x60
 (
 (indexAddr PP 23 x57 x59).bind fun x62 =>
 (load PP 67 x62 σ).bind fun x63 =>
 (zeroOf PP 67).bind fun z15 =>
 (store PP lo 67 (DV.ptr (List.length σ) 0) x63 (σ ++ [Row.mix z15])).bind fun σ7 =>
 (fieldAddr PP 67 (DV.ptr (List.length σ) 0) 0).bind fun x64 =>
 (load PP 3 x64 σ7).bind fun x65 =>
 (binOp PP .neq 3 x65 I1).bind fun x66 =>
 G _ x66 false (some (x1, σ7)) σ7 fun x68 σ8 =>
 G _ x66 false ((fieldAddr PP 67 (DV.ptr (List.length σ) 0) 1).bind fun v => some (v, σ8)) σ8 fun x69 σ9 =>
 G _ x66 false ((load PP 3 x69 σ9).bind fun v => some (v, σ9)) σ9 fun x70 σ10 =>
 G _ x66 false ((pureFn CC (DV.fn 91 []) [x68, x70] σ10).bind fun v => some (v, σ10)) σ10 fun x71 σ11 =>
 G _ x66 false ((unOp .not x71).bind fun v => some (v, σ11)) σ11 fun x72 σ12 =>
 (pickV x66 (DV.p (PV.bool true)) x72).bind fun x73 =>
 condK x73
 (
 f51_J0 G lo x1 x8 x13 x57 x58 x59 σ12
 )
 (
 (pureFn CC x13 [x59] σ12).bind fun x76 =>
 (binOp PP .neq 3 x76 (DV.p (PV.int IntKind.i64 (7)))).bind fun x78 =>
 G _ x78 true (some (x76, σ12)) σ12 fun x80 σ13 =>
 G _ x78 true ((binOp PP .neq 3 x80 (DV.p (PV.int IntKind.i64 (2)))).bind fun v => some (v, σ13)) σ13 fun x81 σ14 =>
 G _ x78 true (some (x81, σ14)) σ14 fun x82 σ15 =>
 G _ x82 false (some (x13, σ15)) σ15 fun x83 σ16 =>
 G _ x82 false ((load PP 24 x8 σ16).bind fun v => some (v, σ16)) σ16 fun x84 σ17 =>
 G _ x82 false (some (x59, σ17)) σ17 fun x85 σ18 =>
 G _ x82 false ((indexAddr PP 24 x84 x85).bind fun v => some (v, σ18)) σ18 fun x86 σ19 =>
 G _ x82 false ((load PP 3 x86 σ19).bind fun v => some (v, σ19)) σ19 fun x87 σ20 =>
 G _ x82 false ((pureFn CC x83 [x87] σ20).bind fun v => some (v, σ20)) σ20 fun x88 σ21 =>
 G _ x82 false ((binOp PP .neq 3 x88 (DV.p (PV.int IntKind.i64 (6)))).bind fun v => some (v, σ21)) σ21 fun x89 σ22 =>
 G _ x78 true ((pickV x82 (DV.p (PV.bool true)) x89).bind fun v => some (v, σ22)) σ22 fun x90 σ23 =>
 (pickV x78 x90 (DV.p (PV.bool false))).bind fun x91 =>
 condK x91
 (
 some ((DV.tuple [(DV.p (PV.bool false)), I0]), σ23)
 )
 (
 f51_J0 G lo x1 x8 x13 x57 x58 x59 σ23
 )
 )
 )
 (
 some ((DV.tuple [(DV.p (PV.bool true)), I0]), σ)
 ) := (loopF_eq G hG).trans (by kernel_rfl)
theorem f51_J0_eq (G : GuardT) (lo : Nat) (x1 x8 x13 x57 x58 x59 : DV) (σ : Store) : f51_J0 G lo x1 x8 x13 x57 x58 x59 σ =
 (binOp PP .add 3 x59 I1).bind fun x92 =>
 f51_L2 G lo x1 x8 x13 x57 x58 x92 σ := by kernel_rfl
theorem F51_eq (G : GuardT) (lo : Nat) (x0 x1 : DV) (σ : Store) : F51 G lo x0 x1 σ =
 (boxP x0).bind fun x2 =>
 (load PP 23 x2 σ).bind fun x17 =>
 (pureFn CC (DV.fn 70 []) [x17] σ).bind fun x18 =>
 (len PP 24 x1 σ).bind fun x20 =>
 (binOp PP .gtr 3 x20 (DV.p (PV.int IntKind.i64 (12)))).bind fun x21 =>
 (pureFn CC (DV.fn 67 []) [x21, (DV.p (PV.int IntKind.i64 (2)))] σ).bind fun x22 =>
 (pureFn CC (DV.fn 68 []) [x1, (DV.fn 112 [])] σ).bind fun x25 =>
 (pureFn CC (DV.fn 67 []) [x25, (DV.p (PV.int IntKind.i64 (3)))] σ).bind fun x26 =>
 (buildSlice PP none 160 3 [(0, x18), (1, x22), (2, x26)] σ).bind fun r27_1 =>
 (pureFn CC (DV.fn 66 []) [r27_1.1] r27_1.2).bind fun x28 =>
 (binOp PP .neq 30 x28 I0).bind fun x30 =>
 condK x30
 (
 some ((DV.tuple [(DV.p (PV.bool false)), x28]), r27_1.2)
 )
 (
 (buildSlice PP none 24 1 [(0, (DV.p (PV.int IntKind.i64 (-1))))] r27_1.2).bind fun r32_2 =>
 (load PP 23 x2 r32_2.2).bind fun x33 =>
 (len PP 23 x33 r32_2.2).bind fun x34 =>
 (plainFn CC lo (DV.fn 113 []) [r32_2.1, x34] r32_2.2).bind fun r35_3 =>
 (zeroOf PP 24).bind fun z8 =>
 (store PP lo 24 (DV.ptr (List.length r35_3.2) 0) r35_3.1 (r35_3.2 ++ [Row.mix z8])).bind fun σ4 =>
 (load PP 23 x2 σ4).bind fun x36 =>
 (len PP 23 x36 σ4).bind fun x37 =>
 f51_L0 G lo x1 x2 (DV.ptr (List.length r35_3.2) 0) x36 x37 I0 σ4
 ) := by kernel_rfl
theorem F51_call {lo : Nat} {x0 x1 : DV} (h : F51 guardT lo x0 x1 σ = some r) : CC lo 51 [x0, x1] σ = some r :=
 callL_run Tryz.func51 (by decide +kernel) rfl (by decide +kernel) h
def c112_0 : Code := bodyOf Tryz.f112
def a112_0 : Ann := (pol 112).ann
def F112 (x0 : DV) (σ : Store) : RS :=
 codeF G PP (pol 112) CC lo c112_0 a112_0 (x0 :: zn 5 []) σ (finR PP Tryz.f112.results.toList)
theorem F112_eq (G : GuardT) (lo : Nat) (x0 : DV) (σ : Store) : F112 G lo x0 σ =
 (pureFn CC (DV.fn 65 []) [x0, I0, (DV.p (PV.int IntKind.i64 (11)))] σ).bind fun x4 =>
 (unOp .not x4).bind fun x5 =>
 some (x5, σ) := by kernel_rfl
theorem F112_call {lo : Nat} {x0 : DV} (h : F112 guardT lo x0 σ = some r) : CC lo 112 [x0] σ = some r :=
 callL_run Tryz.func112 (by decide +kernel) rfl (by decide +kernel) h
def c114_0 : Code := bodyOf Tryz.f114
def a114_0 : Ann := (pol 114).ann
def F114 (x0 x1 x2 : DV) (σ : Store) : RS :=
 codeF G PP (pol 114) CC lo c114_0 a114_0 (x0 :: x1 :: x2 :: zn 15 []) σ (finR PP Tryz.f114.results.toList)
theorem F114_eq (G : GuardT) (lo : Nat) (x0 x1 x2 : DV) (σ : Store) : F114 G lo x0 x1 x2 σ =
 (load PP 24 x1 σ).bind fun x5 =>
 (indexAddr PP 24 x5 x0).bind fun x7 =>
 (load PP 3 x7 σ).bind fun x8 =>
 (binOp PP .eql 3 x8 (DV.p (PV.int IntKind.i64 (-1)))).bind fun x9 =>
 condK x9
 (
 some ((DV.p (PV.int IntKind.i64 (-1))), σ)
 )
 (
 (load PP 23 x2 σ).bind fun x10 =>
 (load PP 24 x1 σ).bind fun x11 =>
 (indexAddr PP 24 x11 x0).bind fun x13 =>
 (load PP 3 x13 σ).bind fun x14 =>
 (indexAddr PP 23 x10 x14).bind fun x15 =>
 (fieldAddr PP 67 x15 0).bind fun x16 =>
 (load PP 3 x16 σ).bind fun x17 =>
 some (x17, σ)
 ) := by kernel_rfl
theorem F114_call {lo : Nat} {x0 x1 x2 : DV} (h : F114 guardT lo x0 x1 x2 σ = some r) : CC lo 114 [x0, x1, x2] σ = some r :=
 callL_run Tryz.func114 (by decide +kernel) rfl (by decide +kernel) h
def c91_0 : Code := bodyOf Tryz.f91
def a91_0 : Ann := (pol 91).ann
def F91 (x0 x1 : DV) (σ : Store) : RS :=
 codeF G PP (pol 91) CC lo c91_0 a91_0 (x0 :: x1 :: zn 7 []) σ (finR PP Tryz.f91.results.toList)
theorem F91_eq (G : GuardT) (lo : Nat) (x0 x1 : DV) (σ : Store) : F91 G lo x0 x1 σ =
 (pureFn CC (DV.fn 141 []) [x0, x1] σ).bind fun x7 =>
 (binOp PP .geq 3 x7 I0).bind fun x8 =>
 some (x8, σ) := by kernel_rfl
theorem F91_call {lo : Nat} {x0 x1 : DV} (h : F91 guardT lo x0 x1 σ = some r) : CC lo 91 [x0, x1] σ = some r :=
 callL_run Tryz.func91 (by decide +kernel) rfl (by decide +kernel) h
def c141_0 : Code := bodyOf Tryz.f141
def a141_0 : Ann := (pol 141).ann
def a141_5 : Ann := right (left (right a141_0))
def a141_6 : Ann := left a141_5
def c141_7 : Code := fstC (fstC (sndC (fstC (sndC c141_0))))
def c141_25 : Code := sndC (sndC c141_0)
def a141_25 : Ann := right (right a141_0)
def f141_L0 (x0 x1 x7 x8 : DV) (σ : Store) : RS :=
 codeF G PP (pol 141) CC lo (.loop c141_7) a141_6 (x0 :: x1 :: zn 5 (x7 :: x8 :: zn 10 [])) σ
 (blockC 0 a141_5 (seqC G PP (pol 141) CC lo c141_25 a141_25 (finR PP Tryz.f141.results.toList)))
def F141 (x0 x1 : DV) (σ : Store) : RS :=
 codeF G PP (pol 141) CC lo c141_0 a141_0 (x0 :: x1 :: zn 17 []) σ (finR PP Tryz.f141.results.toList)
theorem f141_L0_eq (G : GuardT) (hG : GuardOk G) (lo : Nat) (x0 x1 x7 x8 : DV) (σ : Store) : f141_L0 G lo x0 x1 x7 x8 σ =
 (binOp PP .lss 3 x8 x7).bind fun x9 =>
 condK x9
 (
 (indexAddr PP 24 x0 x8).bind fun x14 =>
 (load PP 3 x14 σ).bind fun x15 =>
 (binOp PP .eql 3 x1 x15).bind fun x16 =>
 condK x16
 (
 some (x8, σ)
 )
 (
 (binOp PP .add 3 x8 I1).bind fun x18 =>
 f141_L0 G lo x0 x1 x7 x18 σ
 )
 )
 (
 some ((DV.p (PV.int IntKind.i64 (-1))), σ)
 ) := (loopF_eq G hG).trans (by kernel_rfl)
theorem F141_eq (G : GuardT) (lo : Nat) (x0 x1 : DV) (σ : Store) : F141 G lo x0 x1 σ =
 (len PP 24 x0 σ).bind fun x7 =>
 f141_L0 G lo x0 x1 x7 I0 σ := by kernel_rfl
theorem F141_call {lo : Nat} {x0 x1 : DV} (h : F141 guardT lo x0 x1 σ = some r) : CC lo 141 [x0, x1] σ = some r :=
 callL_run Tryz.func141 (by decide +kernel) rfl (by decide +kernel) h
def c53_0 : Code := bodyOf Tryz.f53
def a53_0 : Ann := (pol 53).ann
def a53_13 : Ann := right (left (right (right a53_0)))
def a53_14 : Ann := left a53_13
def c53_15 : Code := fstC (fstC (sndC (fstC (sndC (sndC c53_0)))))
def c53_31 : Code := sndC (sndC (sndC c53_0))
def a53_31 : Ann := right (right (right a53_0))
def f53_L0 (x0 x3 : DV) (σ : Store) : RS :=
 codeF G PP (pol 53) CC lo (.loop c53_15) a53_14 (x0 :: Z :: Z :: x3 :: zn 15 []) σ
 (blockC 0 a53_13 (seqC G PP (pol 53) CC lo c53_31 a53_31 (finR PP Tryz.f53.results.toList)))
def F53 (x0 : DV) (σ : Store) : RS :=
 codeF G PP (pol 53) CC lo c53_0 a53_0 (x0 :: zn 18 []) σ (finR PP Tryz.f53.results.toList)
theorem f53_L0_eq (G : GuardT) (hG : GuardOk G) (lo : Nat) (x0 x3 : DV) (σ : Store) : f53_L0 G lo x0 x3 σ =
 (len PP 24 x0 σ).bind fun x9 =>
 (binOp PP .lss 3 x3 x9).bind fun x10 =>
 condK x10
 (
 (indexAddr PP 24 x0 x3).bind fun x15 =>
 (load PP 3 x15 σ).bind fun x16 =>
 (pureFn CC (DV.fn 26 []) [x16, I0, (DV.p (PV.int IntKind.i64 (11)))] σ).bind fun x17 =>
 (unOp .not x17).bind fun x18 =>
 condK x18
 (
 some ((DV.p (PV.int IntKind.i64 (3))), σ)
 )
 (
 (binOp PP .add 3 x3 I1).bind fun x12 =>
 f53_L0 G lo x0 x12 σ
 )
 )
 (
 some (I0, σ)
 ) := (loopF_eq G hG).trans (by kernel_rfl)
theorem F53_eq (G : GuardT) (lo : Nat) (x0 : DV) (σ : Store) : F53 G lo x0 σ =
 (len PP 24 x0 σ).bind fun x5 =>
 (binOp PP .gtr 3 x5 (DV.p (PV.int IntKind.i64 (12)))).bind fun x6 =>
 condK x6
 (
 some ((DV.p (PV.int IntKind.i64 (2))), σ)
 )
 (
 f53_L0 G lo x0 I0 σ
 ) := by kernel_rfl
theorem F53_call {lo : Nat} {x0 : DV} (h : F53 guardT lo x0 σ = some r) : CC lo 53 [x0] σ = some r :=
 callL_run Tryz.func53 (by decide +kernel) rfl (by decide +kernel) h
def c54_0 : Code := bodyOf Tryz.f54
def a54_0 : Ann := (pol 54).ann
def F54 (x0 x1 : DV) (σ : Store) : RS :=
 codeF G PP (pol 54) CC lo c54_0 a54_0 (x0 :: x1 :: zn 9 []) σ (finR PP Tryz.f54.results.toList)
theorem F54_eq (G : GuardT) (lo : Nat) (x0 x1 : DV) (σ : Store) : F54 G lo x0 x1 σ =
 (len PP 23 x0 σ).bind fun x7 =>
 (binOp PP .sub 3 x7 I1).bind fun x8 =>
 (pureFn CC (DV.fn 115 []) [x0, x8, x1] σ).bind fun x10 =>
 some (x10, σ) := by kernel_rfl
theorem F54_call {lo : Nat} {x0 x1 : DV} (h : F54 guardT lo x0 x1 σ = some r) : CC lo 54 [x0, x1] σ = some r :=
 callL_run Tryz.func54 (by decide +kernel) rfl (by decide +kernel) h
def c115_0 : Code := bodyOf Tryz.f115
def a115_0 : Ann := (pol 115).ann
def a115_31 : Ann := right (left (right (right (right (right (right a115_0))))))
def a115_32 : Ann := left a115_31
def c115_33 : Code := fstC (fstC (sndC (fstC (sndC (sndC (sndC (sndC (sndC c115_0))))))))
def c115_49 : Code := sndC (sndC (sndC (sndC (sndC (sndC c115_0)))))
def a115_49 : Ann := right (right (right (right (right (right a115_0)))))
def f115_L0 (x0 x2 x7 x8 : DV) (σ : Store) : RS :=
 codeF G PP (pol 115) CC lo (.loop c115_33) a115_32 (x0 :: Z :: x2 :: Z :: Z :: Z :: Z :: x7 :: x8 :: zn 73 []) σ
 (blockC 0 a115_31 (seqC G PP (pol 115) CC lo c115_49 a115_49 (finR PP Tryz.f115.results.toList)))
def F115 (x0 x1 x2 : DV) (σ : Store) : RS :=
 codeF G PP (pol 115) CC lo c115_0 a115_0 (x0 :: x1 :: x2 :: zn 79 []) σ (finR PP Tryz.f115.results.toList)
theorem f115_L0_eq (G : GuardT) (hG : GuardOk G) (lo : Nat) (x0 x2 x7 x8 : DV) (σ : Store) : f115_L0 G lo x0 x2 x7 x8 σ =
 (fieldAddr PP 67 x7 2).bind fun x67 =>
 (load PP 24 x67 σ).bind fun x68 =>
 (len PP 24 x68 σ).bind fun x69 =>
 (binOp PP .lss 3 x8 x69).bind fun x70 =>
 condK x70
 (
 (fieldAddr PP 67 x7 2).bind fun x74 =>
 (load PP 24 x74 σ).bind fun x75 =>
 (indexAddr PP 24 x75 x8).bind fun x77 =>
 (load PP 3 x77 σ).bind fun x78 =>
 (pureFn CC (DV.fn 115 []) [x0, x78, x2] σ).bind fun x80 =>
 (unOp .not x80).bind fun x81 =>
 condK x81
 (
 some ((DV.p (PV.bool false)), σ)
 )
 (
 (binOp PP .add 3 x8 I1).bind fun x72 =>
 f115_L0 G lo x0 x2 x7 x72 σ
 )
 )
 (
 some ((DV.p (PV.bool true)), σ)
 ) := (loopF_eq G hG).trans (by kernel_rfl)
theorem F115_eq (G : GuardT) (lo : Nat) (x0 x1 x2 : DV) (σ : Store) : F115 G lo x0 x1 x2 σ =
 (indexAddr PP 23 x0 x1).bind fun x11 =>
 (load PP 67 x11 σ).bind fun x12 =>
 (zeroOf PP 67).bind fun z7 =>
 (store PP lo 67 (DV.ptr (List.length σ) 0) x12 (σ ++ [Row.mix z7])).bind fun σ1 =>
 (fieldAddr PP 67 (DV.ptr (List.length σ) 0) 0).bind fun x13 =>
 (load PP 3 x13 σ1).bind fun x14 =>
 (binOp PP .eql 3 x14 I1).bind fun x15 =>
 condK x15
 (
 (fieldAddr PP 67 (DV.ptr (List.length σ) 0) 1).bind fun x17 =>
 (load PP 3 x17 σ1).bind fun x18 =>
 (pureFn CC (DV.fn 95 []) [x2, x18] σ1).bind fun x19 =>
 (unOp .not x19).bind fun x20 =>
 some (x20, σ1)
 )
 (
 (fieldAddr PP 67 (DV.ptr (List.length σ) 0) 0).bind fun x21 =>
 (load PP 3 x21 σ1).bind fun x22 =>
 (binOp PP .eql 3 x22 (DV.p (PV.int IntKind.i64 (7)))).bind fun x23 =>
 G _ x23 true (some (x0, σ1)) σ1 fun x25 σ2 =>
 G _ x23 true ((fieldAddr PP 67 (DV.ptr (List.length σ) 0) 2).bind fun v => some (v, σ2)) σ2 fun x26 σ3 =>
 G _ x23 true ((load PP 24 x26 σ3).bind fun v => some (v, σ3)) σ3 fun x27 σ4 =>
 G _ x23 true ((indexAddr PP 24 x27 I0).bind fun v => some (v, σ4)) σ4 fun x28 σ5 =>
 G _ x23 true ((load PP 3 x28 σ5).bind fun v => some (v, σ5)) σ5 fun x29 σ6 =>
 G _ x23 true ((indexAddr PP 23 x25 x29).bind fun v => some (v, σ6)) σ6 fun x30 σ7 =>
 G _ x23 true ((fieldAddr PP 67 x30 0).bind fun v => some (v, σ7)) σ7 fun x31 σ8 =>
 G _ x23 true ((load PP 3 x31 σ8).bind fun v => some (v, σ8)) σ8 fun x32 σ9 =>
 G _ x23 true ((binOp PP .eql 3 x32 I1).bind fun v => some (v, σ9)) σ9 fun x33 σ10 =>
 (pickV x23 x33 (DV.p (PV.bool false))).bind fun x34 =>
 condK x34
 (
 some ((DV.p (PV.bool true)), σ10)
 )
 (
 (fieldAddr PP 67 (DV.ptr (List.length σ) 0) 0).bind fun x35 =>
 (load PP 3 x35 σ10).bind fun x36 =>
 (binOp PP .eql 3 x36 (DV.p (PV.int IntKind.i64 (6)))).bind fun x37 =>
 G _ x37 true (some (x0, σ10)) σ10 fun x39 σ11 =>
 G _ x37 true ((fieldAddr PP 67 (DV.ptr (List.length σ) 0) 2).bind fun v => some (v, σ11)) σ11 fun x40 σ12 =>
 G _ x37 true ((load PP 24 x40 σ12).bind fun v => some (v, σ12)) σ12 fun x41 σ13 =>
 G _ x37 true ((indexAddr PP 24 x41 I0).bind fun v => some (v, σ13)) σ13 fun x42 σ14 =>
 G _ x37 true ((load PP 3 x42 σ14).bind fun v => some (v, σ14)) σ14 fun x43 σ15 =>
 G _ x37 true ((indexAddr PP 23 x39 x43).bind fun v => some (v, σ15)) σ15 fun x44 σ16 =>
 G _ x37 true ((fieldAddr PP 67 x44 0).bind fun v => some (v, σ16)) σ16 fun x45 σ17 =>
 G _ x37 true ((load PP 3 x45 σ17).bind fun v => some (v, σ17)) σ17 fun x46 σ18 =>
 G _ x37 true ((binOp PP .eql 3 x46 (DV.p (PV.int IntKind.i64 (2)))).bind fun v => some (v, σ18)) σ18 fun x47 σ19 =>
 (pickV x37 x47 (DV.p (PV.bool false))).bind fun x48 =>
 G _ x48 true (some (x0, σ19)) σ19 fun x50 σ20 =>
 G _ x48 true (some (x0, σ20)) σ20 fun x51 σ21 =>
 G _ x48 true ((fieldAddr PP 67 (DV.ptr (List.length σ) 0) 2).bind fun v => some (v, σ21)) σ21 fun x52 σ22 =>
 G _ x48 true ((load PP 24 x52 σ22).bind fun v => some (v, σ22)) σ22 fun x53 σ23 =>
 G _ x48 true ((indexAddr PP 24 x53 I0).bind fun v => some (v, σ23)) σ23 fun x54 σ24 =>
 G _ x48 true ((load PP 3 x54 σ24).bind fun v => some (v, σ24)) σ24 fun x55 σ25 =>
 G _ x48 true ((indexAddr PP 23 x51 x55).bind fun v => some (v, σ25)) σ25 fun x56 σ26 =>
 G _ x48 true ((fieldAddr PP 67 x56 2).bind fun v => some (v, σ26)) σ26 fun x57 σ27 =>
 G _ x48 true ((load PP 24 x57 σ27).bind fun v => some (v, σ27)) σ27 fun x58 σ28 =>
 G _ x48 true ((indexAddr PP 24 x58 I0).bind fun v => some (v, σ28)) σ28 fun x59 σ29 =>
 G _ x48 true ((load PP 3 x59 σ29).bind fun v => some (v, σ29)) σ29 fun x60 σ30 =>
 G _ x48 true ((indexAddr PP 23 x50 x60).bind fun v => some (v, σ30)) σ30 fun x61 σ31 =>
 G _ x48 true ((fieldAddr PP 67 x61 0).bind fun v => some (v, σ31)) σ31 fun x62 σ32 =>
 G _ x48 true ((load PP 3 x62 σ32).bind fun v => some (v, σ32)) σ32 fun x63 σ33 =>
 G _ x48 true ((binOp PP .eql 3 x63 I1).bind fun v => some (v, σ33)) σ33 fun x64 σ34 =>
 (pickV x48 x64 (DV.p (PV.bool false))).bind fun x65 =>
 condK x65
 (
 some ((DV.p (PV.bool true)), σ34)
 )
 (
 f115_L0 G lo x0 x2 (DV.ptr (List.length σ) 0) I0 σ34
 )
 )
 ) := by kernel_rfl
theorem F115_call {lo : Nat} {x0 x1 x2 : DV} (h : F115 guardT lo x0 x1 x2 σ = some r) : CC lo 115 [x0, x1, x2] σ = some r :=
 callL_run Tryz.func115 (by decide +kernel) rfl (by decide +kernel) h
def c95_0 : Code := bodyOf Tryz.f95
def a95_0 : Ann := (pol 95).ann
def a95_5 : Ann := right (left (right a95_0))
def a95_6 : Ann := left a95_5
def c95_7 : Code := fstC (fstC (sndC (fstC (sndC c95_0))))
def c95_23 : Code := sndC (sndC c95_0)
def a95_23 : Ann := right (right a95_0)
def f95_L0 (x0 x1 x5 : DV) (σ : Store) : RS :=
 codeF G PP (pol 95) CC lo (.loop c95_7) a95_6 (x0 :: x1 :: Z :: Z :: Z :: x5 :: zn 12 []) σ
 (blockC 0 a95_5 (seqC G PP (pol 95) CC lo c95_23 a95_23 (finR PP Tryz.f95.results.toList)))
def F95 (x0 x1 : DV) (σ : Store) : RS :=
 codeF G PP (pol 95) CC lo c95_0 a95_0 (x0 :: x1 :: zn 16 []) σ (finR PP Tryz.f95.results.toList)
theorem f95_L0_eq (G : GuardT) (hG : GuardOk G) (lo : Nat) (x0 x1 x5 : DV) (σ : Store) : f95_L0 G lo x0 x1 x5 σ =
 (len PP 24 x0 σ).bind fun x8 =>
 (binOp PP .lss 3 x5 x8).bind fun x9 =>
 condK x9
 (
 (indexAddr PP 24 x0 x5).bind fun x14 =>
 (load PP 3 x14 σ).bind fun x15 =>
 (binOp PP .eql 3 x15 x1).bind fun x17 =>
 condK x17
 (
 some ((DV.p (PV.bool true)), σ)
 )
 (
 (binOp PP .add 3 x5 I1).bind fun x11 =>
 f95_L0 G lo x0 x1 x11 σ
 )
 )
 (
 some ((DV.p (PV.bool false)), σ)
 ) := (loopF_eq G hG).trans (by kernel_rfl)
theorem F95_eq (G : GuardT) (lo : Nat) (x0 x1 : DV) (σ : Store) : F95 G lo x0 x1 σ =
 f95_L0 G lo x0 x1 I0 σ := by kernel_rfl
theorem F95_call {lo : Nat} {x0 x1 : DV} (h : F95 guardT lo x0 x1 σ = some r) : CC lo 95 [x0, x1] σ = some r :=
 callL_run Tryz.func95 (by decide +kernel) rfl (by decide +kernel) h
end
end Go.D
end
/- Chapter 13: Shortest and Unstuttered in the reference; LassoWords. -/
section
set_option linter.unusedVariables false
set_option linter.unusedSimpArgs false
namespace Go.D
open Las
section
variable {w : Wd} {Q : List Int} (hQ : Q.length ≤ 1000) (hP : (L w.p).length ≤ 1000) {lo : Nat} {x2 : DV} {σ : Store}
include hQ hP
end
theorem out_pl {σ : Store} {lo : Nat} {l : List Int} {x : DV} (h : Out σ lo 1 l.length (eInts l) x) : PL x l := by
  rcases h.2 with ⟨h1, rfl⟩ | ⟨_, r, v, rfl, _, _⟩
  · exact .inl ⟨rfl, List.length_eq_zero_iff.1 h1⟩
  · exact .inr (.inr ⟨r, v, rfl⟩)
theorem Out.pushI {σ : Store} {lo : Nat} {l : List Int} {v : Int} {x : DV} (ho : Out σ lo 1 l.length (eInts l) x) (hn : l.length ≤ 100000) (hlo : lo ≤ σ.length) :
    ∃ x' σ', append PP lo false 24 24 x (.p (.sl true 1 [.int .i64 v])) σ = some (x', σ') ∧ Out σ' lo 1 (l ++ [v]).length (eInts (l ++ [v])) x' ∧ Others σ σ' x ∧ σ.length ≤ σ'.length := by
  obtain ⟨x', σ', h1, h2, h3, h4⟩ := Out.push24 (v := pI v) ho (by omega) hlo
  refine ⟨x', σ', h1, ?_, h3, h4⟩
  have e : eInts l ++ [pI v] = eInts (l ++ [v]) := by simp [eInts]
  rw [e] at h2
  rw [List.length_append]
  exact h2
section
variable {x : DV} {l : List Int} (hx : PL x l) (hl : l.length ≤ 10000)
include hx hl
end
end Go.D
end
/- Chapter 13: Unstuttered in the reference. -/
section
set_option linter.unusedVariables false
set_option linter.unusedSimpArgs false
namespace Go.D
open Las
section
variable {s : Wd} (hQ : 0 < (L s.l).length) (hP : (L s.p).length + (L s.l).length ≤ 1000)
include hQ hP
end
end Go.D
end
/- Chapter 13: the errors of formulas, in the reference and in the program. -/
section
set_option linter.unusedVariables false
set_option linter.unusedSimpArgs false
set_option maxRecDepth 4000
namespace Go.D
open Las
def pr2 (x : Int × Int) : DV := .tuple [.p (.int .i64 x.1), .p (.int .i64 x.2)]
theorem nd_case {F : List Nd} {d i : Nat} : chkF F (d + 1) i = if inR (F.getD i default).k 0 9 = true then
      if (((nA F i).length : Nat) : Int) = ar (F.getD i default).k ∧ stands F i = true then
        if bad (F.getD i default) = true then (((i : Nat) : Int), (3 : Int)) else chkF F d (i + 1)
      else (((i : Nat) : Int), (6 : Int))
    else (((i : Nat) : Int), (4 : Int)) := rfl
section
variable {f : Fm} (hf : FSm f)
include hf
theorem L46 : ∀ (d i : Nat) (σ : Store), 0 < (L f).length → (L f).length - i = d → i ≤ (L f).length → ∃ σ', f46_L0 guardT 0 (.p (eFm f)) (N i) σ = some (pr2 (chkF (L f) d i), σ')
  | 0, i, σ, hp, hd, hi => by
    have h1 := hf.1
    have e : i = (L f).length := by omega
    subst e
    have e1 : foI (L f) (((L f).length : Int) - 1) = fo (L f) ((L f).length - 1) := by
      unfold foI
      rw [if_neg (by omega)]
      congr 1; omega
    have hS := S105 hf (r := ((L f).length : Int) - 1) (by omega)
    rw [e1] at hS
    have e2 : (((L f).length - 1 : Nat) : Int) = ((L f).length : Int) - 1 := by omega
    refine ⟨σ, ?_⟩
    rw [f46_L0_eq guardT rfl]
    unfold chkF pr2
    by_cases c : fo (L f) ((L f).length - 1) = 0
    · rw [if_pos c]
      simp (disch := omega) only [N, len23, gG, b_lss, ltF, subI, shift_ptr, shift_pptr, Nat.zero_add, Nat.add_zero, pureFn_fn, List.append_nil, List.singleton_append, List.cons_append, List.nil_append, hS, b_neq, eqT c]
    · rw [if_neg c, e2]
      simp (disch := omega) only [N, len23, gG, b_lss, ltF, subI, shift_ptr, shift_pptr, Nat.zero_add, Nat.add_zero, pureFn_fn, List.append_nil, List.singleton_append, List.cons_append, List.nil_append, hS, b_neq, eqF c]
  | d + 1, i, σ, hp, hd, hi => by
    have h1 := hf.1
    have hlt : i < (L f).length := by omega
    have h3 := hf.2 i
    have ha : L ((L f).getD i default).a = nA (L f) i := rfl
    have hS := S104 hf hlt
    have hnd := nd_all hlt
    rw [nd_case]
    generalize hx : (L f).getD i default = x at *
    have g : (σ ++ [Row.mix (ndD x)])[σ.length]? = some (.mix (ndD x)) := get_snoc
    have st := st67 (σ := σ) (lo := 0) (z := [.p (pI 0), .p (pI 0), .p .nilsl]) x rfl (Nat.zero_le _)
    by_cases c1 : inR x.k 0 9 = true
    · rw [if_pos c1]
      by_cases c2 : (((nA (L f) i).length : Nat) : Int) = ar x.k
      · by_cases c3 : stands (L f) i = true
        · rw [if_pos ⟨c2, c3⟩]
          have hnext : bad x = false → ∃ σ', f46_L0 guardT 0 (.p (eFm f)) (N (i + 1)) (σ ++ [Row.mix (ndD x)]) = some (pr2 (if bad x = true then (((i : Nat) : Int), (3 : Int)) else chkF (L f) d (i + 1)), σ') := fun hb => by
            obtain ⟨σ', h⟩ := L46 d (i + 1) (σ ++ [Row.mix (ndD x)]) hp (by omega) (by omega)
            exact ⟨σ', by rw [h, if_neg (by rw [hb]; simp)]⟩
          by_cases c4 : x.k = 1
          · by_cases c5 : inR x.n 0 11 = true
            · have hb : bad x = false := by unfold bad; rw [if_pos c4, c5]; rfl
              obtain ⟨σ', h⟩ := hnext hb
              refine ⟨σ', ?_⟩
              rw [← h, f46_L0_eq guardT rfl]
              simp (disch := omega) only [N, len23, gG, b_lss, ltT, idx23 hlt, load67, hnd, zero67, st, fa67_0, fa67_1, fa67_2, shift_ptr, shift_pptr, Nat.zero_add, Nat.add_zero, pureFn_fn, List.append_nil, List.singleton_append, List.cons_append, List.nil_append, load3, row_k g, S26, c1, load24, row_a g, (PL.sl _).len, ha, S103, b_neq, eqT c2, hS, c3, b_eql, eqT c4, row_n g, c5, add1]
            · have hb : bad x = true := by unfold bad; rw [if_pos c4, (Bool.not_eq_true _).mp c5]; rfl
              refine ⟨σ ++ [Row.mix (ndD x)], ?_⟩
              rw [if_pos hb, f46_L0_eq guardT rfl]
              simp (disch := omega) only [N, len23, gG, b_lss, ltT, idx23 hlt, load67, hnd, zero67, st, fa67_0, fa67_1, fa67_2, shift_ptr, shift_pptr, Nat.zero_add, Nat.add_zero, pureFn_fn, List.append_nil, List.singleton_append, List.cons_append, List.nil_append, load3, row_k g, S26, c1, load24, row_a g, (PL.sl _).len, ha, S103, b_neq, eqT c2, hS, c3, b_eql, eqT c4, row_n g, (Bool.not_eq_true _).mp c5, pr2]
          · by_cases c5 : x.n = 0
            · have hb : bad x = false := by unfold bad; rw [if_neg c4, eqT c5]; rfl
              obtain ⟨σ', h⟩ := hnext hb
              refine ⟨σ', ?_⟩
              rw [← h, f46_L0_eq guardT rfl]
              simp (disch := omega) only [N, len23, gG, b_lss, ltT, idx23 hlt, load67, hnd, zero67, st, fa67_0, fa67_1, fa67_2, shift_ptr, shift_pptr, Nat.zero_add, Nat.add_zero, pureFn_fn, List.append_nil, List.singleton_append, List.cons_append, List.nil_append, load3, row_k g, S26, c1, load24, row_a g, (PL.sl _).len, ha, S103, b_neq, eqT c2, hS, c3, b_eql, eqF c4, row_n g, eqT c5, add1]
            · have hb : bad x = true := by unfold bad; rw [if_neg c4, eqF c5]; rfl
              refine ⟨σ ++ [Row.mix (ndD x)], ?_⟩
              rw [if_pos hb, f46_L0_eq guardT rfl]
              simp (disch := omega) only [N, len23, gG, b_lss, ltT, idx23 hlt, load67, hnd, zero67, st, fa67_0, fa67_1, fa67_2, shift_ptr, shift_pptr, Nat.zero_add, Nat.add_zero, pureFn_fn, List.append_nil, List.singleton_append, List.cons_append, List.nil_append, load3, row_k g, S26, c1, load24, row_a g, (PL.sl _).len, ha, S103, b_neq, eqT c2, hS, c3, b_eql, eqF c4, row_n g, eqF c5, pr2]
        · rw [if_neg (fun h => c3 h.2)]
          refine ⟨σ ++ [Row.mix (ndD x)], ?_⟩
          rw [f46_L0_eq guardT rfl]
          simp (disch := omega) only [N, len23, gG, b_lss, ltT, idx23 hlt, load67, hnd, zero67, st, fa67_0, fa67_1, fa67_2, shift_ptr, shift_pptr, Nat.zero_add, Nat.add_zero, pureFn_fn, List.append_nil, List.singleton_append, List.cons_append, List.nil_append, load3, row_k g, S26, c1, load24, row_a g, (PL.sl _).len, ha, S103, b_neq, eqT c2, hS, (Bool.not_eq_true _).mp c3, pr2]
      · rw [if_neg (fun h => c2 h.1)]
        refine ⟨σ ++ [Row.mix (ndD x)], ?_⟩
        rw [f46_L0_eq guardT rfl]
        simp (disch := omega) only [N, len23, gG, b_lss, ltT, idx23 hlt, load67, hnd, zero67, st, fa67_0, fa67_1, fa67_2, shift_ptr, shift_pptr, Nat.zero_add, Nat.add_zero, pureFn_fn, List.append_nil, List.singleton_append, List.cons_append, List.nil_append, load3, row_k g, S26, c1, load24, row_a g, (PL.sl _).len, ha, S103, b_neq, eqF c2, pr2]
    · rw [if_neg c1]
      refine ⟨σ ++ [Row.mix (ndD x)], ?_⟩
      rw [f46_L0_eq guardT rfl]
      simp (disch := omega) only [N, len23, gG, b_lss, ltT, idx23 hlt, load67, hnd, zero67, st, fa67_0, shift_ptr, shift_pptr, Nat.zero_add, Nat.add_zero, pureFn_fn, List.append_nil, List.singleton_append, List.cons_append, List.nil_append, load3, row_k g, S26, (Bool.not_eq_true _).mp c1, pr2]
theorem S46 (σ : Store) : pureV CC 46 [.p (eFm f)] σ = some (pr2 (chk (L f))) := by
  have h1 := hf.1
  unfold chk
  by_cases c1 : (L f).length = 0
  · have c1' : ((L f).length : Int) = 0 := by omega
    rw [if_pos c1]
    refine pureV_free (by simp [fm_view]) rfl (F46_call (r := (pr2 (0, 1), [])) ?_) rfl
    rw [F46_eq]
    simp only [len23, N, gG, b_eql, eqT c1', pr2]
  · have c1' : ¬ ((L f).length : Int) = 0 := by omega
    rw [if_neg c1]
    by_cases c2 : (L f).length > 40
    · have c2' : ((L f).length : Int) > 40 := by omega
      rw [if_pos c2]
      refine pureV_free (by simp [fm_view]) rfl (F46_call (r := (pr2 (0, 2), [])) ?_) rfl
      rw [F46_eq]
      simp only [len23, N, gG, b_eql, eqF c1', b_gtr, gtT c2', pr2]
    · have c2' : ¬ ((L f).length : Int) > 40 := by omega
      rw [if_neg c2]
      obtain ⟨σ', h⟩ := L46 hf _ 0 [] (by omega) rfl (Nat.zero_le _)
      rw [Nat.sub_zero] at h
      refine pureV_free (by simp [fm_view]) rfl (F46_call (r := (pr2 (chkF (L f) (L f).length 0), σ')) ?_) rfl
      rw [F46_eq, ← h]
      simp only [len23, N, gG, b_eql, eqF c1', b_gtr, gtF c2']
      rfl
theorem S25 (σ : Store) : pureV CC 25 [.p (eFm f)] σ = some (.p (.int .i64 (chk (L f)).2)) := by
  refine pureV_free (by simp [fm_view]) rfl (F25_call (r := (.p (.int .i64 (chk (L f)).2), [])) ?_) rfl
  have ex0 : ∀ (a b : DV), extractV (.tuple [a, b]) 0 = some a := fun _ _ => rfl
  have ex1 : ∀ (a b : DV), extractV (.tuple [a, b]) 1 = some b := fun _ _ => rfl
  rw [F25_eq]
  simp only [shift_ptr, shift_pptr, Nat.zero_add, Nat.add_zero, pureFn_fn, List.append_nil, List.singleton_append, List.cons_append, List.nil_append, S46 hf, pr2, gG, ex0, ex1]
end
end Go.D
end
/- Equations of functions 98, 60, 132, 133, 73, 74, 75, 22, 71, 123, 124, 125, 126, 127, 128, 93, 131, 130, 129, 72, 18, 20, 21, 3, printed by gen.py. -/
section
set_option linter.unusedVariables false
set_option maxRecDepth 10000
namespace Go.D
open Go.Proofs
noncomputable section
variable (G : GuardT) (lo : Nat) {σ : Store} {r : DV × Store}
open _root_.Go.D.Code (fstC sndC)
open _root_.Go.D.Ann (left right)
def c98_0 : Code := bodyOf Tryz.f98
def a98_0 : Ann := (pol 98).ann
def F98 (x0 : DV) (σ : Store) : RS :=
 codeF G PP (pol 98) CC lo c98_0 a98_0 [x0, Z, Z, Z] σ (finR PP Tryz.f98.results.toList)
theorem F98_eq (G : GuardT) (lo : Nat) (x0 : DV) (σ : Store) : F98 G lo x0 σ =
 (boxP x0).bind fun x1 =>
 some ((DV.fn 143 [x1]), σ) := by kernel_rfl
theorem F98_call {lo : Nat} {x0 : DV} (h : F98 guardT lo x0 σ = some r) : CC lo 98 [x0] σ = some r :=
 callL_run Tryz.func98 (by decide +kernel) rfl (by decide +kernel) h
end
end Go.D
end
/- Chapter 13: the errors of formulas in the program; copies of formulas. -/
section
set_option linter.unusedVariables false
set_option linter.unusedSimpArgs false
set_option maxRecDepth 4000
namespace Go.D
open Las
theorem st3 {σ : Store} {t lo : Nat} {z : DV} {v : Int} (h : σ[t]? = some (.mix [z])) (hlo : lo ≤ t) : store PP lo 3 (.ptr t 0) (.p (.int .i64 v)) σ = some (σ.set t (.mix [.p (.int .i64 v)])) := by
  have e : splice [z] 0 [DV.p (.int .i64 v)] = [.p (.int .i64 v)] := rfl
  simp [store, s3, DV.cells, storeN, h, e, DV.one, hlo]
theorem st24 {σ : Store} {t lo : Nat} {z x : DV} {l : List Int} (hx : PL x l) (h : σ[t]? = some (.mix [z])) (hlo : lo ≤ t) : store PP lo 24 (.ptr t 0) x σ = some (σ.set t (.mix [x])) := by
  have e : splice [z] 0 [x] = [x] := rfl
  simp [store, s24, hx.one.2, hx.one.1, storeN, h, e, hlo]
theorem new3 {σ : Store} {lo : Nat} {z : DV} {v : Int} (hlo : lo ≤ σ.length) : store PP lo 3 (.ptr σ.length 0) (.p (.int .i64 v)) (σ ++ [.mix [z]]) = some (σ ++ [.mix [.p (.int .i64 v)]]) := by
  rw [st3 (z := z) get_snoc hlo]; simp
theorem S98 (o : OI) (σ : Store) : pureV CC 98 [.p (eSl o)] σ = some (.fn 143 [.pptr [eSl o] 0]) := by
  refine pureV_free (by simp [sl_view]) rfl (F98_call (r := (.fn 143 [.pptr [eSl o] 0], [])) ?_) ?_
  · rw [F98_eq]; rfl
  · simp [thawAll, thawPart, thaw, thaw1, mapO, loosen_sl, loosens]
theorem f44_X0_exit (G : GuardT) (lo : Nat) (x0 x2 x3 x5 x6 x7 x8 x27 x28 x29 x30 x31 x32 x33 x34 x35 x36 x37 x39 x40 x41 x42 : DV) (σ : Store) : f44_X0 G lo (.exit 2) x0 x2 x3 x5 x6 x7 x8 x27 x28 x29 x30 x31 x32 x33 x34 x35 x36 x37 x39 x40 x41 x42 σ =
 f44_J0 G lo x0 x2 x3 x5 x6 x7 x8 x27 x28 x29 σ := by kernel_rfl
theorem down_all : ∀ (cells : List PV) (k : Nat), (downFrom false 1 cells k).all (fun x => x.length == 2) = true
  | _, 0 => rfl
  | cells, k + 1 => by simp [downFrom, down_all cells k]
theorem elem_int {l : List Int} {k : Nat} (hk : k < l.length) : elemOf false 1 (eInts l) k = .p (.int .i64 (l.getD k 0)) := by
  have hx : (eInts l)[k]? = some (pI l[k]) := by simp [eInts, hk]
  have hy : l.getD k 0 = l[k] := by rw [List.getD_eq_getElem?_getD, List.getElem?_eq_getElem hk]; rfl
  rw [hy]
  simp [elemOf, hx]
def Kept (t : Nat) (σ σ' : Store) : Prop := σ'.length = σ.length ∧ ∀ j, j ≠ t → σ'[j]? = σ[j]?
section
variable {us B : List Int} {y : DV} {t i : Nat} (hB : PL y B) (ht : 0 < t) (hi : i ≤ 1000) (hBl : B.length = i) (hb2 : ∀ j, j < i → B.getD j 0 ≤ i ∧ 0 ≤ B.getD j 0)
variable {x0 x2 x3 x6 x7 x27 x28 x29 x30 x31 x32 x33 x34 x35 x36 x37 x39 x40 x41 x42 : DV}
include hB ht hi hBl hb2
theorem rounds44 {K : Ex → Store → Option (DV × Store)} : ∀ (k : Nat) (b : Int) (σ : Store), k ≤ us.length → 0 ≤ b → b ≤ i → σ[t]? = some (.mix [.p (.int .i64 b)]) → σ[0]? = some (.mix [y]) →
    ∃ ex σ', (ex = .normal ∨ ex = .exit 2) ∧ roundsK (fun xs ρ K' => f44_R0 guardT 0 x0 x2 x3 (.ptr 0 0) x6 x7 (.ptr t 0) x27 x28 x29 x30 x31 x32 x33 x34 x35 x36 x37 x39 x40 x41 x42 xs ρ K') (downFrom false 1 (eInts us) k) σ K = K ex σ' ∧
      σ'[t]? = some (.mix [.p (.int .i64 (bgB B us b k))]) ∧ Kept t σ σ'
  | 0, b, σ, hk, hb, hbi, g, g0 => ⟨.normal, σ, .inl rfl, rfl, g, rfl, fun _ _ => rfl⟩
  | k + 1, b, σ, hk, hb, hbi, g, g0 => by
    have hl : load1 (.ptr t 0) σ = some (.p (.int .i64 b)) := load1_ptr g rfl
    have hl0 : load1 (.ptr 0 0) σ = some y := load1_ptr g0 rfl
    have he := elem_int (l := us) (k := k) (by omega)
    unfold bgB
    by_cases c1 : us.getD k 0 = b - 1
    · by_cases c2 : us.getD k 0 < 0
      · rw [if_neg (fun h => h.2 c2)]
        refine ⟨.exit 2, σ.set t (.mix [.p (.int .i64 (-1))]), .inr rfl, ?_, by rw [List.getElem?_set_self (get_lt g)], by simp, fun j hj => List.getElem?_set_ne (fun e => hj e.symm)⟩
        simp only [downFrom, roundsK, he]
        rw [f44_R0_eq]
        simp (disch := omega) only [load3, hl, gG, subJ, b_neq, eqT c1, b_lss, ltT c2, st3 g (Nat.zero_le _)]
      · rw [if_pos ⟨c1, c2⟩]
        have hlt : (us.getD k 0).toNat < i := by omega
        have e1 : us.getD k 0 = ((us.getD k 0).toNat : Int) := by omega
        have i1 := hB.idx (i := (us.getD k 0).toNat) (by omega)
        have l1 := load1_getD (l := B) (i := (us.getD k 0).toNat) (by omega) σ
        rw [← e1] at i1
        obtain ⟨hb3, hb4⟩ := hb2 _ hlt
        generalize hv : B.getD (us.getD k 0).toNat 0 = v at *
        obtain ⟨ex, σ', r1, r2, r3, r4⟩ := rounds44 (K := K) k v (σ.set t (.mix [.p (.int .i64 v)])) (by omega) hb4 hb3 (by rw [List.getElem?_set_self (get_lt g)]) (by rw [List.getElem?_set_ne (by omega)]; exact g0)
        refine ⟨ex, σ', r1, ?_, r3, by rw [r4.1]; simp, fun j hj => by rw [r4.2 j hj, List.getElem?_set_ne (fun e => hj e.symm)]⟩
        rw [← r2]
        simp only [downFrom, roundsK, he]
        rw [f44_R0_eq]
        simp (disch := omega) only [load3, hl, gG, subJ, b_neq, eqT c1, b_lss, ltF c2, load24, hl0, i1, l1, st3 g (Nat.zero_le _)]
    · rw [if_neg (fun h => c1 h.1)]
      refine ⟨.exit 2, σ.set t (.mix [.p (.int .i64 (-1))]), .inr rfl, ?_, by rw [List.getElem?_set_self (get_lt g)], by simp, fun j hj => List.getElem?_set_ne (fun e => hj e.symm)⟩
      simp only [downFrom, roundsK, he]
      rw [f44_R0_eq]
      simp (disch := omega) only [load3, hl, gG, subJ, b_neq, eqF c1, st3 g (Nat.zero_le _)]
theorem range44 {o : OI} (ho : L o = us) (hu : us.length ≤ 1000) {σ : Store} (g : σ[t]? = some (.mix [.p (.int .i64 (i : Nat))])) (g0 : σ[0]? = some (.mix [y])) {K : Ex → Store → Option (DV × Store)} :
    ∃ ex σ', (ex = .normal ∨ ex = .exit 2) ∧ rangeK (pol 44) (.fn 143 [.pptr [eSl o] 0]) 2 true true (fun xs ρ K' => f44_R0 guardT 0 x0 x2 x3 (.ptr 0 0) x6 x7 (.ptr t 0) x27 x28 x29 x30 x31 x32 x33 x34 x35 x36 x37 x39 x40 x41 x42 xs ρ K') σ K = K ex σ' ∧
      σ'[t]? = some (.mix [.p (.int .i64 (bgB B us i us.length))]) ∧ Kept t σ σ' := by
  have hseq : ((pol 44).seq 143).bind (fun kind => seqList kind [.pptr [eSl o] 0]) = some (downFrom false 1 (eInts us) us.length) := by
    show seqList (.backward false 1) [.pptr [eSl o] 0] = _
    cases o with
    | none =>
      have : us = [] := ho.symm
      subst this
      rfl
    | some l =>
      have : l = us := ho
      subst this
      have h2 : l.length ≤ 140737488355328 := by omega
      simp [seqList, eSl, ints_length, h2]
  obtain ⟨ex, σ', r1, r2, r3⟩ := rounds44 hB ht hi hBl hb2 (K := K) us.length i σ (Nat.le_refl _) (by omega) (Int.le_refl _) g g0
  refine ⟨ex, σ', r1, ?_, r3⟩
  simp only [rangeK, hseq, down_all, Bool.and_self, if_true]
  exact r2
end
theorem Out.keep {σ σ' : Store} {lo sz n : Nat} {cs : List PV} {x : DV} (ho : Out σ lo sz n cs x) (h : ∀ (r v : Nat), σ[r]? = some (.tok v) → σ'[r]? = some (.tok v)) : Out σ' lo sz n cs x := by
  refine ⟨ho.1, ?_⟩
  rcases ho.2 with h1 | ⟨h1, r, ver, h2, h3, h4⟩
  · exact .inl h1
  · exact .inr ⟨h1, r, ver, h2, h _ _ h3, h4⟩
theorem map_get (g : Nat → Int) {i j : Nat} (h : j < i) : ((List.range i).map g).getD j 0 = g j := by
  simp [List.getD_eq_getElem?_getD, h]
section
variable {x : Nd} {s i m : Nat} {b : Int} {y x0 x27 : DV} {B : List Int} {σ : Store} {R : Int × Int} (gs : σ[s]? = some (.mix (ndD x))) (gb : σ[s + 1]? = some (.mix [.p (.int .i64 b)])) (g0 : σ[0]? = some (.mix [y]))
variable (ho : Out σ 0 1 B.length (eInts B) y) (hBl : B.length ≤ 1000) (hi : i ≤ 1000)
variable (hn : 0 ≤ b → ∀ (y' : DV) (σ' : Store), σ'[0]? = some (.mix [y']) → Out σ' 0 1 (B ++ [b]).length (eInts (B ++ [b])) y' → ∃ σ'', f44_L0 guardT 0 x0 (.p (.int .i64 0)) (.p (.int .i64 0)) (.ptr 0 0) x27 (N m) (N (i + 1)) σ' = some (pr2 R, σ''))
include gs gb g0 ho hBl hi hn
theorem J44_1 (x57 x58 x59 x60 x61 x62 x63 x64 x65 x66 : DV) : ∃ σ'', f44_J1 guardT 0 x0 (.p (.int .i64 0)) (.p (.int .i64 0)) (.ptr 0 0) (N i) (.ptr s 0) (.ptr (s + 1) 0) (.p (.bool (bad x))) x27 (N m) (N i) x57 x58 x59 x60 x61 x62 x63 x64 x65 x66 σ =
    some (pr2 (if (((L x.a).length : Nat) : Int) = ar x.k ∧ 0 ≤ b then if bad x = true then (((i : Nat) : Int), (3 : Int)) else R else (((i : Nat) : Int), (6 : Int))), σ'') := by
  have hb : load1 (.ptr (s + 1) 0) σ = some (.p (.int .i64 b)) := load1_ptr gb rfl
  have hl0 : load1 (.ptr 0 0) σ = some y := load1_ptr g0 rfl
  have q2 : ∀ (a c : Int) (σ : Store), pureV CC 66 [.p (.sl true 2 [pI a, pI c])] σ = some (.p (.int .i64 (orL [a, c]))) := fun a c σ => S66 (ex := true) (l := [a, c]) (by simp) σ
  rw [f44_J1_eq]
  by_cases c1 : b < 0
  · rw [if_neg (fun h => by omega)]
    refine ⟨σ, ?_⟩
    have e : orL [wrg true 6, wrg (bad x) 3] = 6 := rfl
    simp (disch := omega) only [load3, hb, gG, b_lss, ltT c1, shift_ptr, shift_pptr, Nat.zero_add, Nat.add_zero, pureFn_fn, List.append_nil, List.singleton_append, List.cons_append, List.nil_append, S67, bs160_2, q2, e, b_neq, eqF (show ¬ (6 : Int) = 0 by decide), pr2, N]
  · by_cases c2 : (((L x.a).length : Nat) : Int) = ar x.k
    · rw [if_pos ⟨c2, by omega⟩]
      by_cases c3 : bad x = true
      · rw [if_pos c3, c3]
        refine ⟨σ, ?_⟩
        have e : orL [wrg false 6, wrg true 3] = 3 := rfl
        simp (disch := omega) only [load3, hb, gG, b_lss, ltF c1, fa67_0, fa67_2, shift_ptr, shift_pptr, Nat.zero_add, Nat.add_zero, pureFn_fn, List.append_nil, List.singleton_append, List.cons_append, List.nil_append, load24, row_a gs, (PL.sl _).len, row_k gs, S99, b_neq, eqT c2, S67, bs160_2, q2, e, eqF (show ¬ (3 : Int) = 0 by decide), pr2, N]
      · rw [if_neg c3, (Bool.not_eq_true _).mp c3]
        obtain ⟨y', σ', p1, p2, p3, p4⟩ := Out.pushI (v := b) ho (by omega) (Nat.zero_le _)
        have k0 := p3.mix ho g0 (fun v h => by cases h)
        have st := st24 (out_pl p2) k0 (Nat.zero_le 0)
        obtain ⟨σ'', r⟩ := hn (by omega) y' (σ'.set 0 (.mix [y'])) (by rw [List.getElem?_set_self (get_lt k0)]) (p2.keep fun r v hr => by
          rw [List.getElem?_set_ne]
          · exact hr
          · intro e; subst e; rw [k0] at hr; injection hr with hr; cases hr)
        refine ⟨σ'', ?_⟩
        rw [← r]
        have e : orL [wrg false 6, wrg false 3] = 0 := rfl
        simp (disch := omega) only [load3, hb, gG, b_lss, ltF c1, fa67_0, fa67_2, shift_ptr, shift_pptr, Nat.zero_add, Nat.add_zero, pureFn_fn, List.append_nil, List.singleton_append, List.cons_append, List.nil_append, load24, row_a gs, (PL.sl _).len, row_k gs, S99, b_neq, eqT c2, S67, bs160_2, q2, e, eqT (rfl : (0 : Int) = 0), hl0, bs24_1, p1, st, add1, N]
    · rw [if_neg (fun h => c2 h.1)]
      refine ⟨σ, ?_⟩
      have e : orL [wrg true 6, wrg (bad x) 3] = 6 := rfl
      simp (disch := omega) only [load3, hb, gG, b_lss, ltF c1, fa67_0, fa67_2, shift_ptr, shift_pptr, Nat.zero_add, Nat.add_zero, pureFn_fn, List.append_nil, List.singleton_append, List.cons_append, List.nil_append, load24, row_a gs, (PL.sl _).len, row_k gs, S99, b_neq, eqF c2, S67, bs160_2, q2, e, eqF (show ¬ (6 : Int) = 0 by decide), pr2, N]
theorem J44 : ∃ σ'', f44_J0 guardT 0 x0 (.p (.int .i64 0)) (.p (.int .i64 0)) (.ptr 0 0) (N i) (.ptr s 0) (.ptr (s + 1) 0) x27 (N m) (N i) σ =
    some (pr2 (if (((L x.a).length : Nat) : Int) = ar x.k ∧ 0 ≤ b then if bad x = true then (((i : Nat) : Int), (3 : Int)) else R else (((i : Nat) : Int), (6 : Int))), σ'') := by
  rw [f44_J0_eq]
  by_cases c : x.k = 1
  · have e : (.p (.bool (!inR x.n 0 11)) : DV) = .p (.bool (bad x)) := by unfold bad; rw [if_pos c]
    simp only [fa67_0, fa67_1, shift_ptr, shift_pptr, Nat.zero_add, Nat.add_zero, pureFn_fn, List.append_nil, List.singleton_append, List.cons_append, List.nil_append, gG, load3, row_n gs, row_k gs, b_neq, b_eql, eqT c, S65, e]
    exact J44_1 gs gb g0 ho hBl hi hn _ _ _ _ _ _ _ _ _ _
  · have e : (.p (.bool (!decide (x.n = 0))) : DV) = .p (.bool (bad x)) := by unfold bad; rw [if_neg c]
    simp only [fa67_0, fa67_1, shift_ptr, shift_pptr, Nat.zero_add, Nat.add_zero, pureFn_fn, List.append_nil, List.singleton_append, List.cons_append, List.nil_append, gG, load3, row_n gs, row_k gs, b_neq, b_eql, eqF c, e]
    exact J44_1 gs gb g0 ho hBl hi hn _ _ _ _ _ _ _ _ _ _
end
section
variable {f : Fm} (hf : FSm f) (h40 : (L f).length ≤ 40)
include hf h40
theorem L44 : ∀ (d i : Nat) (y : DV) (σ : Store), 0 < (L f).length → (L f).length - i = d → i ≤ (L f).length → σ[0]? = some (.mix [y]) → (∀ j, j < i → 0 ≤ fo (L f) j) →
    Out σ 0 1 ((List.range i).map (fo (L f))).length (eInts ((List.range i).map (fo (L f)))) y →
    ∃ σ', f44_L0 guardT 0 (.p (eFm f)) (.p (.int .i64 0)) (.p (.int .i64 0)) (.ptr 0 0) (.p (eFm f)) (N (L f).length) (N i) σ = some (pr2 (chkF (L f) d i), σ')
  | 0, i, y, σ, hp, hd, hi, g0, hB, ho => by
    have e : i = (L f).length := by omega
    subst e
    have hy := out_pl ho
    have i1 := hy.idx (i := (L f).length - 1) (by simp; omega)
    have l1 := load1_getD (l := (List.range (L f).length).map (fo (L f))) (i := (L f).length - 1) (by simp; omega) σ
    rw [map_get _ (by omega)] at l1
    have hl0 : load1 (.ptr 0 0) σ = some y := load1_ptr g0 rfl
    refine ⟨σ, ?_⟩
    rw [f44_L0_eq guardT rfl]
    unfold chkF pr2
    by_cases c : fo (L f) ((L f).length - 1) = 0
    · rw [if_pos c]
      simp (disch := omega) only [N, len23, gG, b_lss, ltF, sub1, load24, hl0, i1, load3, l1, b_neq, eqT c]
    · rw [if_neg c]
      simp (disch := omega) only [N, len23, gG, b_lss, ltF, sub1, load24, hl0, i1, load3, l1, b_neq, eqF c]
  | d + 1, i, y, σ, hp, hd, hi, g0, hB, ho => by
    have hlt : i < (L f).length := by omega
    have h3 := hf.2 i
    have ha : L ((L f).getD i default).a = nA (L f) i := rfl
    have hnd := nd_all hlt
    rw [nd_case]
    generalize hx : (L f).getD i default = x at *
    have g : (σ ++ [Row.mix (ndD x)])[σ.length]? = some (.mix (ndD x)) := get_snoc
    have st := st67 (σ := σ) (lo := 0) (z := [.p (pI 0), .p (pI 0), .p .nilsl]) x rfl (Nat.zero_le _)
    have hs0 := get_lt g0
    by_cases c1 : inR x.k 0 9 = true
    · rw [if_pos c1]
      have st' := new3 (σ := σ ++ [Row.mix (ndD x)]) (lo := 0) (z := .p (pI 0)) (v := (i : Nat)) (Nat.zero_le _)
      have hlen : (σ ++ [Row.mix (ndD x)]).length = σ.length + 1 := by simp
      rw [hlen] at st'
      have gt : ((σ ++ [Row.mix (ndD x)]) ++ [Row.mix [.p (.int .i64 (i : Nat))]])[σ.length + 1]? = some (.mix [.p (.int .i64 (i : Nat))]) := by
        rw [← hlen]; exact get_snoc
      have g2 : ((σ ++ [Row.mix (ndD x)]) ++ [Row.mix [.p (.int .i64 (i : Nat))]])[σ.length]? = some (.mix (ndD x)) := get_old g
      have g02 : ((σ ++ [Row.mix (ndD x)]) ++ [Row.mix [.p (.int .i64 (i : Nat))]])[0]? = some (.mix [y]) := get_old (get_old g0)
      have hB2 : ∀ j, j < i → ((List.range i).map (fo (L f))).getD j 0 = fo (L f) j ∧ 0 ≤ fo (L f) j := fun j hj => ⟨map_get _ hj, hB j hj⟩
      have hB3 : ∀ j, j < i → ((List.range i).map (fo (L f))).getD j 0 ≤ i ∧ 0 ≤ ((List.range i).map (fo (L f))).getD j 0 := fun j hj => by
        rw [map_get _ hj]
        have := fo_le (L f) j
        exact ⟨by omega, hB j hj⟩
      have hbg := bgB_eq (F := L f) (us := nA (L f) i) hB2 (nA (L f) i).length i (Int.le_refl _)
      obtain ⟨ex, σ4, hex, key, k1, k2⟩ := range44 (out_pl ho) (t := σ.length + 1) (by omega) (i := i) (by omega) (by simp) hB3 (x0 := .p (eFm f)) (x2 := .p (.int .i64 0)) (x3 := .p (.int .i64 0)) (x6 := N i) (x7 := .ptr σ.length 0) (x27 := .p (eFm f)) (x28 := N (L f).length) (x29 := N i) (x30 := .p (.bool true)) (x31 := N i) (x32 := .pptr (eNds (L f)) (i * 3)) (x33 := .agg (ndD x)) (x34 := .ptr σ.length 0) (x35 := .p (.int .i64 x.k)) (x36 := .p (.bool true)) (x37 := .p (.bool false)) (x39 := N i) (x40 := .ptr σ.length 2) (x41 := .p (eSl x.a)) (x42 := .fn 143 [.pptr [eSl x.a] 0]) (o := x.a) ha (by omega) gt g02
        (K := fun ex ρ => f44_X0 guardT 0 ex (.p (eFm f)) (.p (.int .i64 0)) (.p (.int .i64 0)) (.ptr 0 0) (N i) (.ptr σ.length 0) (.ptr (σ.length + 1) 0) (.p (eFm f)) (N (L f).length) (N i) (.p (.bool true)) (N i) (.pptr (eNds (L f)) (i * 3)) (.agg (ndD x)) (.ptr σ.length 0) (.p (.int .i64 x.k)) (.p (.bool true)) (.p (.bool false)) (N i) (.ptr σ.length 2) (.p (eSl x.a)) (.fn 143 [.pptr [eSl x.a] 0]) ρ)
      have key2 := key.trans (show _ = f44_J0 guardT 0 (.p (eFm f)) (.p (.int .i64 0)) (.p (.int .i64 0)) (.ptr 0 0) (N i) (.ptr σ.length 0) (.ptr (σ.length + 1) 0) (.p (eFm f)) (N (L f).length) (N i) σ4 from by
        rcases hex with rfl | rfl
        · exact f44_X0_normal guardT 0 _ _ _ _ _ _ _ _ _ _ _ _ _ _ _ _ _ _ _ _ _ _ σ4
        · exact f44_X0_exit guardT 0 _ _ _ _ _ _ _ _ _ _ _ _ _ _ _ _ _ _ _ _ _ _ σ4)
      have hst : stands (L f) i = decide (0 ≤ bgB ((List.range i).map (fo (L f))) (nA (L f) i) i (nA (L f) i).length) := by
        rw [hbg, stands]
        cases hq : stB (L f) (nA (L f) i) i (nA (L f) i).length with
        | none => rfl
        | some q =>
          have := stB_pos _ _ _ (by omega) hq
          simp [this]
      have hJ := J44 (x := x) (s := σ.length) (i := i) (m := (L f).length) (b := bgB ((List.range i).map (fo (L f))) (nA (L f) i) i (nA (L f) i).length) (y := y) (x0 := .p (eFm f)) (x27 := .p (eFm f)) (B := (List.range i).map (fo (L f))) (σ := σ4)
        (R := chkF (L f) d (i + 1)) (by rw [k2.2 _ (by omega)]; exact g2) k1 (by rw [k2.2 _ (by omega)]; exact g02)
        (ho.keep fun r v hr => by
          have hr' := get_old (row' := Row.mix [.p (.int .i64 (i : Nat))]) (get_old (row' := Row.mix (ndD x)) hr)
          rw [k2.2 r (by have := get_lt hr; omega)]; exact hr')
        (by simp; omega) (by omega) (fun h0 y' σ' q0 qo => by
          have hs1 : stands (L f) i = true := by rw [hst, decide_eq_true h0]
          have hfo : bgB ((List.range i).map (fo (L f))) (nA (L f) i) i (nA (L f) i).length = fo (L f) i := by
            rw [hbg]
            unfold stands at hs1
            obtain ⟨q, hq⟩ := Option.isSome_iff_exists.1 hs1
            rw [hq, stands_fo hq]; rfl
          have hm : (List.range i).map (fo (L f)) ++ [fo (L f) i] = (List.range (i + 1)).map (fo (L f)) := by rw [List.range_succ, List.map_append]; rfl
          rw [hfo, hm] at qo
          rw [hfo] at h0
          exact L44 d (i + 1) y' σ' hp (by omega) (by omega) q0 (fun j hj => by
            by_cases e : j = i
            · subst e; exact h0
            · exact hB j (by omega)) qo)
      obtain ⟨σ'', hJ⟩ := hJ
      refine ⟨σ'', ?_⟩
      have hiff : ((((nA (L f) i).length : Nat) : Int) = ar x.k ∧ stands (L f) i = true) ↔ ((((L x.a).length : Nat) : Int) = ar x.k ∧ 0 ≤ bgB ((List.range i).map (fo (L f))) (nA (L f) i) i (nA (L f) i).length) := by
        rw [ha, hst, decide_eq_true_iff]
      simp only [hiff]
      rw [← hJ, ← key2, f44_L0_eq guardT rfl]
      simp (disch := omega) only [N, gG, b_lss, ltT, idx23 hlt, load67, hnd, zero67, st, fa67_0, fa67_2, shift_ptr, shift_pptr, Nat.zero_add, Nat.add_zero, pureFn_fn, List.append_nil, List.singleton_append, List.cons_append, List.nil_append, load3, row_k g, S65, c1, zero3, st', hlen, load24, row_a g2, S98]
    · rw [if_neg c1]
      refine ⟨σ ++ [Row.mix (ndD x)], ?_⟩
      rw [f44_L0_eq guardT rfl]
      simp (disch := omega) only [N, gG, b_lss, ltT, idx23 hlt, load67, hnd, zero67, st, fa67_0, shift_ptr, shift_pptr, Nat.zero_add, Nat.add_zero, pureFn_fn, List.append_nil, List.singleton_append, List.cons_append, List.nil_append, load3, row_k g, S65, (Bool.not_eq_true _).mp c1, pr2]
omit h40 in
theorem S44 (σ : Store) : pureV CC 44 [.p (eFm f)] σ = some (pr2 (chk (L f))) := by
  have h1 := hf.1
  have q2 : ∀ (a c : Int) (σ : Store), pureV CC 66 [.p (.sl true 2 [pI a, pI c])] σ = some (.p (.int .i64 (orL [a, c]))) := fun a c σ => S66 (ex := true) (l := [a, c]) (by simp) σ
  unfold chk
  by_cases c1 : (L f).length = 0
  · have c1' : ((L f).length : Int) = 0 := by omega
    have c2' : ¬ ((L f).length : Int) > 40 := by omega
    rw [if_pos c1]
    refine pureV_free (by simp [fm_view]) rfl (F44_call (r := (pr2 (0, 1), [])) ?_) rfl
    have e : orL [wrg true 1, wrg false 2] = 1 := rfl
    rw [F44_eq]
    simp only [len23, N, gG, b_eql, eqT c1', b_gtr, gtF c2', shift_ptr, shift_pptr, Nat.zero_add, Nat.add_zero, pureFn_fn, List.append_nil, List.singleton_append, List.cons_append, List.nil_append, S67, bs160_2, q2, e, b_neq, eqF (show ¬ (1 : Int) = 0 by decide), pr2]
  · have c1' : ¬ ((L f).length : Int) = 0 := by omega
    rw [if_neg c1]
    by_cases c2 : (L f).length > 40
    · have c2' : ((L f).length : Int) > 40 := by omega
      rw [if_pos c2]
      refine pureV_free (by simp [fm_view]) rfl (F44_call (r := (pr2 (0, 2), [])) ?_) rfl
      have e : orL [wrg false 1, wrg true 2] = 2 := rfl
      rw [F44_eq]
      simp only [len23, N, gG, b_eql, eqF c1', b_gtr, gtT c2', shift_ptr, shift_pptr, Nat.zero_add, Nat.add_zero, pureFn_fn, List.append_nil, List.singleton_append, List.cons_append, List.nil_append, S67, bs160_2, q2, e, b_neq, eqF (show ¬ (2 : Int) = 0 by decide), pr2]
    · have c2' : ¬ ((L f).length : Int) > 40 := by omega
      rw [if_neg c2]
      obtain ⟨σ', h⟩ := L44 hf (by omega) _ 0 (.p .nilsl) [.mix [.p .nilsl]] (by omega) rfl (Nat.zero_le _) rfl (fun j hj => by omega) Out.zero
      rw [Nat.sub_zero] at h
      refine pureV_free (by simp [fm_view]) rfl (F44_call (r := (pr2 (chkF (L f) (L f).length 0), σ')) ?_) rfl
      have e : orL [wrg false 1, wrg false 2] = 0 := rfl
      have z24 : zeroOf PP 24 = some [.p .nilsl] := Eq.trans (by kernel_rfl) rfl
      rw [F44_eq, ← h]
      simp only [len23, N, gG, b_eql, eqF c1', b_gtr, gtF c2', shift_ptr, shift_pptr, Nat.zero_add, Nat.add_zero, pureFn_fn, List.append_nil, List.singleton_append, List.cons_append, List.nil_append, S67, bs160_2, q2, e, b_neq, eqT (rfl : (0 : Int) = 0), z24, List.length_nil]
      rfl
omit h40 in
theorem S70 (σ : Store) : pureV CC 70 [.p (eFm f)] σ = some (.p (.int .i64 (chk (L f)).2)) := by
  refine pureV_free (by simp [fm_view]) rfl (F70_call (r := (.p (.int .i64 (chk (L f)).2), [])) ?_) rfl
  have ex0 : ∀ (a b : DV), extractV (.tuple [a, b]) 0 = some a := fun _ _ => rfl
  have ex1 : ∀ (a b : DV), extractV (.tuple [a, b]) 1 = some b := fun _ _ => rfl
  rw [F70_eq]
  simp only [shift_ptr, shift_pptr, Nat.zero_add, Nat.add_zero, pureFn_fn, List.append_nil, List.singleton_append, List.cons_append, List.nil_append, S44 hf, pr2, gG, ex0, ex1]
end
def ownN (x : Nd) : Nd := ⟨x.k, x.n, some (L x.a)⟩
def oF (l : List Nd) : Fm := if l = [] then none else some l
theorem L_oF (l : List Nd) : L (oF l) = l := by
  unfold oF
  split
  · rename_i h; rw [h]; rfl
  · rfl
theorem own_get (F : List Nd) (i : Nat) : L ((F.map ownN).getD i default).a = L (F.getD i default).a ∧ ((F.map ownN).getD i default).k = (F.getD i default).k ∧ ((F.map ownN).getD i default).n = (F.getD i default).n := by
  rw [List.getD_eq_getElem?_getD, List.getD_eq_getElem?_getD, List.getElem?_map]
  cases F[i]? <;> exact ⟨rfl, rfl, rfl⟩
theorem nA_own (F : List Nd) (i : Nat) : nA (F.map ownN) i = nA F i := (own_get F i).1
theorem foK_own (F : List Nd) : ∀ (k r : Nat), foK (F.map ownN) k r = foK F k r
  | 0, r => rfl
  | k + 1, r => by unfold foK; rw [nA_own, foK_own F k]
theorem foI_own (F : List Nd) (r : Int) : foI (F.map ownN) r = foI F r := by unfold foI fo; rw [foK_own]
theorem stB_own (F : List Nd) (us : List Int) : ∀ (k : Nat) (x : Int), stB (F.map ownN) us x k = stB F us x k
  | 0, x => rfl
  | k + 1, x => by unfold stB; rw [foI_own, stB_own F us k]
theorem chkF_own (F : List Nd) : ∀ (d i : Nat), chkF (F.map ownN) d i = chkF F d i
  | 0, i => by unfold chkF fo; rw [List.length_map, foK_own]
  | d + 1, i => by
    have hb : bad ((F.map ownN).getD i default) = bad (F.getD i default) := by unfold bad; rw [(own_get F i).2.1, (own_get F i).2.2]
    unfold chkF stands
    rw [nA_own, stB_own, hb, (own_get F i).2.1, chkF_own F d]
theorem chk_own (F : List Nd) : chk (F.map ownN) = chk F := by unfold chk; rw [List.length_map, chkF_own]
theorem FSm.own {f : Fm} (h : FSm f) : FSm (oF ((L f).map ownN)) := by
  refine ⟨by rw [L_oF, List.length_map]; exact h.1, fun i => ?_⟩
  rw [L_oF, nA_own]
  exact h.2 i
def eNd (x : Nd) : List PV := [pI x.k, pI x.n, eSl x.a]
theorem bs23_1 (x : Nd) (σ : Store) : buildSlice PP none 23 1 [(0, .agg (ndD x))] σ = some (.p (.sl true 1 (eNd x)), σ) := Eq.trans (by kernel_rfl) rfl
theorem st67_2 {σ : Store} {lo r : Nat} {x : Nd} {a : OI} (h : σ[r]? = some (.mix (ndD x))) (hlo : lo ≤ r) : store PP lo 24 (.ptr r 2) (.p (eSl a)) σ = some (σ.set r (.mix (ndD ⟨x.k, x.n, a⟩))) := by
  have e : splice (ndD x) 2 [DV.p (eSl a)] = ndD ⟨x.k, x.n, a⟩ := rfl
  have e3 : (ndD x).length = 3 := rfl
  simp [store, s24, DV.cells, storeN, h, e, e3, DV.one, hlo]
section
variable {f : Fm} (hf : FSm f)
include hf
theorem L19 : ∀ (d i : Nat) (y : DV) (σ : Store), (L f).length - i = d → i ≤ (L f).length → Out σ 0 3 i (eNds (((L f).take i).map ownN)) y →
    ∃ y' σ', f19_L0 guardT 0 (.p (eFm f)) y (N i) σ = some (y', σ') ∧ Out σ' 0 3 (L f).length (eNds ((L f).map ownN)) y'
  | 0, i, y, σ, hd, hi, ho => by
    have e : i = (L f).length := by omega
    subst e
    have h1 := hf.1
    rw [List.take_length] at ho
    refine ⟨y, σ, ?_, ho⟩
    rw [f19_L0_eq guardT rfl]
    simp (disch := omega) only [N, len23, gG, b_lss, ltF]
  | d + 1, i, y, σ, hd, hi, ho => by
    have h1 := hf.1
    have h2 := hf.2 i
    have hlt : i < (L f).length := by omega
    have hnd := nd_all hlt
    have ha : L ((L f).getD i default).a = nA (L f) i := rfl
    have ht : (((L f).take (i + 1)).map ownN) = ((L f).take i).map ownN ++ [ownN ((L f).getD i default)] := by
      rw [List.take_succ_eq_append_getElem hlt, List.map_append, List.getD_eq_getElem?_getD, List.getElem?_eq_getElem hlt]; rfl
    generalize hx : (L f).getD i default = x at *
    have g : (σ ++ [Row.mix (ndD x)])[σ.length]? = some (.mix (ndD x)) := get_snoc
    have st := st67 (σ := σ) (lo := 0) (z := [.p (pI 0), .p (pI 0), .p .nilsl]) x rfl (Nat.zero_le _)
    have st2 := st67_2 (lo := 0) (a := some (L x.a)) g (Nat.zero_le _)
    have e2 : (σ ++ [Row.mix (ndD x)]).set σ.length (.mix (ndD ⟨x.k, x.n, some (L x.a)⟩)) = σ ++ [Row.mix (ndD (ownN x))] := by simp [ownN]
    rw [e2] at st2
    have g2 : (σ ++ [Row.mix (ndD (ownN x))])[σ.length]? = some (.mix (ndD (ownN x))) := get_snoc
    have ho2 : Out (σ ++ [Row.mix (ndD (ownN x))]) 0 3 i (eNds (((L f).take i).map ownN)) y := ho.keep fun r v hr => get_old hr
    obtain ⟨y', σ', p1, p2, _, _⟩ := Out.push (vs := eNd (ownN x)) src23 u23 s67 bytes67 zero67 rfl (by decide) (by decide) (by decide) rfl ho2 (by omega) (Nat.zero_le _)
    have e3 : eNds (((L f).take i).map ownN) ++ eNd (ownN x) = eNds (((L f).take (i + 1)).map ownN) := by rw [ht, eNds_app]; rfl
    rw [e3] at p2
    obtain ⟨y2, σ2, r1, r2⟩ := L19 d (i + 1) y' σ' (by omega) (by omega) p2
    refine ⟨y2, σ2, ?_, r2⟩
    rw [← r1, f19_L0_eq guardT rfl]
    simp (disch := omega) only [N, len23, gG, b_lss, ltT, idx23 hlt, load67, hnd, zero67, st, fa67_2, shift_ptr, shift_pptr, Nat.zero_add, Nat.add_zero, pureFn_fn, List.append_nil, List.singleton_append, List.cons_append, List.nil_append, load24, row_a g, S52 (show (L x.a).length ≤ 1000000 by rw [ha]; omega), st2, row_nd g2, bs23_1, p1, add1]
theorem S19 (σ : Store) : pureV CC 19 [.p (eFm f)] σ = some (.p (eFm (oF ((L f).map ownN)))) := by
  obtain ⟨y, σ', h1, h2⟩ := L19 hf _ 0 (.p .nilsl) [] rfl (Nat.zero_le _) Out.zero
  refine pureV_free (by simp [fm_view]) rfl (F19_call (r := (y, σ')) ?_) ?_
  · rw [F19_eq]; exact h1
  · rw [h2.twAll, loosens_nds]
    congr 2
    unfold oF eFm
    by_cases h0 : (L f).length = 0
    · have h0' : L f = [] := List.length_eq_zero_iff.1 h0
      rw [if_pos h0, h0']; rfl
    · have h0' : ¬ (L f).map ownN = [] := fun e => h0 (by have := congrArg List.length e; simpa using this)
      rw [if_neg h0, if_neg h0']
      simp
end
end Go.D
end
/- Chapter 13: small functions of LassoGuards; the reference's Guarded. -/
section
set_option linter.unusedVariables false
set_option linter.unusedSimpArgs false
set_option maxRecDepth 8000
namespace Go.D
open Las
theorem any_mem (l : List Int) (v : Int) : l.any (fun x => decide (v = x)) = decide (v ∈ l) := by
  rw [Bool.eq_iff_iff, List.any_eq_true, decide_eq_true_iff]
  constructor
  · rintro ⟨x, h1, h2⟩
    rw [decide_eq_true_iff] at h2
    rw [h2]; exact h1
  · exact fun h => ⟨v, h, decide_eq_true rfl⟩
theorem L141 {o : OI} {v : Int} {σ : Store} {lo : Nat} (hl : (L o).length ≤ 100000) :
    ∀ (k i : Nat), (L o).length - i = k → i ≤ (L o).length → f141_L0 guardT lo (.p (eSl o)) (.p (.int .i64 v)) (N (L o).length) (N i) σ = some (.p (.int .i64 (idxFrom (fun x => decide (v = x)) ((L o).drop i) i)), σ)
  | 0, i, hk, hi => by
    rw [f141_L0_eq guardT rfl, List.drop_eq_nil_of_le (by omega)]
    simp (disch := omega) only [N, b_lss, ltF, gG, idxFrom]
  | k + 1, i, hk, hi => by
    have h : i < (L o).length := by omega
    have ih := L141 (v := v) (σ := σ) (lo := lo) hl k (i + 1) (by omega) (by omega)
    rw [f141_L0_eq guardT rfl, drop_cons h]
    unfold idxFrom
    by_cases c : v = (L o).getD i 0
    · rw [if_pos (decide_eq_true c)]
      simp (disch := omega) only [N, b_lss, ltT, gG, (PL.sl o).idx h, load3, load1_getD h, b_eql, eqT c]
    · rw [if_neg (by rw [decide_eq_false c]; simp)]
      simp (disch := omega) only [N, b_lss, ltT, gG, (PL.sl o).idx h, load3, load1_getD h, b_eql, eqF c, add1]
      exact ih
theorem S141 {o : OI} (hl : (L o).length ≤ 100000) (v : Int) (σ : Store) : pureV CC 141 [.p (eSl o), .p (.int .i64 v)] σ = some (.p (.int .i64 (idxFrom (fun x => decide (v = x)) (L o) 0))) := by
  refine pureV_free (by simp [view, viewCell, loosen, loosen_sl]) rfl (F141_call (r := (.p (.int .i64 (idxFrom (fun x => decide (v = x)) (L o) 0)), [])) ?_) rfl
  rw [F141_eq]
  have := L141 (o := o) (v := v) (σ := []) (lo := 0) hl _ 0 rfl (Nat.zero_le _)
  rw [List.drop_zero] at this
  simp only [(PL.sl o).len, gG]
  exact this
theorem S91 {o : OI} (hl : (L o).length ≤ 100000) (v : Int) (σ : Store) : pureV CC 91 [.p (eSl o), .p (.int .i64 v)] σ = some (.p (.bool (decide (v ∈ L o)))) := by
  refine pureV_free (by simp [view, viewCell, loosen, loosen_sl]) rfl (F91_call (r := (.p (.bool (decide (v ∈ L o))), [])) ?_) rfl
  rw [F91_eq]
  simp only [shift_ptr, shift_pptr, Nat.zero_add, Nat.add_zero, pureFn_fn, List.append_nil, List.singleton_append, List.cons_append, List.nil_append, S141 hl, gG, b_geq, idxFrom_ge, any_mem]
theorem L95 {o : OI} {v : Int} (hl : (L o).length ≤ 100000) : ∀ (k i : Nat), (L o).length - i = k → i ≤ (L o).length → f95_L0 guardT 0 (.p (eSl o)) (.p (.int .i64 v)) (N i) [] = some (.p (.bool (((L o).drop i).any fun x => decide (v = x))), [])
  | 0, i, hk, hi => by
    rw [f95_L0_eq guardT rfl, List.drop_eq_nil_of_le (by omega)]
    simp (disch := omega) only [N, (PL.sl o).len, b_lss, ltF, gG, List.any_nil]
  | k + 1, i, hk, hi => by
    have h : i < (L o).length := by omega
    have ih := L95 (v := v) hl k (i + 1) (by omega) (by omega)
    rw [f95_L0_eq guardT rfl, drop_cons h, List.any_cons]
    by_cases c : (L o).getD i 0 = v
    · rw [decide_eq_true c.symm, Bool.true_or]
      simp (disch := omega) only [N, (PL.sl o).len, b_lss, ltT, gG, (PL.sl o).idx h, load3, load1_getD h, b_eql, eqT c]
    · rw [decide_eq_false (fun e => c e.symm), Bool.false_or]
      simp (disch := omega) only [N, (PL.sl o).len, b_lss, ltT, gG, (PL.sl o).idx h, load3, load1_getD h, b_eql, eqF c, add1]
      exact ih
theorem S95 {o : OI} (hl : (L o).length ≤ 100000) (v : Int) (σ : Store) : pureV CC 95 [.p (eSl o), .p (.int .i64 v)] σ = some (.p (.bool (decide (v ∈ L o)))) := by
  refine pureV_free (by simp [view, viewCell, loosen, loosen_sl]) rfl (F95_call (r := (.p (.bool (decide (v ∈ L o))), [])) ?_) rfl
  have := L95 (o := o) (v := v) hl _ 0 rfl (Nat.zero_le _)
  rw [List.drop_zero, any_mem] at this
  rw [F95_eq]
  exact this
def oddA (v : Int) : Bool := !inR v 0 11
theorem S112 (v : Int) (σ : Store) : pureV CC 112 [.p (.int .i64 v)] σ = some (.p (.bool (oddA v))) := by
  refine pureV_free rfl rfl (F112_call (r := (.p (.bool (oddA v)), [])) ?_) rfl
  rw [F112_eq]
  simp only [shift_ptr, shift_pptr, Nat.zero_add, Nat.add_zero, pureFn_fn, List.append_nil, List.singleton_append, List.cons_append, List.nil_append, S65, gG]
  rfl
def stErr (l : List Int) : Int := if l.length > 12 then 2 else if l.any oddA = true then 3 else 0
theorem L53 {o : OI} (hl : (L o).length ≤ 100000) : ∀ (k i : Nat), (L o).length - i = k → i ≤ (L o).length → f53_L0 guardT 0 (.p (eSl o)) (N i) [] = some (.p (.int .i64 (if ((L o).drop i).any oddA = true then 3 else 0)), [])
  | 0, i, hk, hi => by
    rw [f53_L0_eq guardT rfl, List.drop_eq_nil_of_le (by omega)]
    simp (disch := omega) only [N, (PL.sl o).len, b_lss, ltF, gG, List.any_nil, Bool.false_eq_true, if_false]
  | k + 1, i, hk, hi => by
    have h : i < (L o).length := by omega
    have ih := L53 hl k (i + 1) (by omega) (by omega)
    rw [f53_L0_eq guardT rfl, drop_cons h, List.any_cons]
    cases c : inR ((L o).getD i 0) 0 11 with
    | false =>
      have e : oddA ((L o).getD i 0) = true := by unfold oddA; rw [c]; rfl
      rw [e, Bool.true_or, if_pos rfl]
      simp (disch := omega) only [N, (PL.sl o).len, b_lss, ltT, gG, (PL.sl o).idx h, load3, load1_getD h, shift_ptr, shift_pptr, Nat.zero_add, Nat.add_zero, pureFn_fn, List.append_nil, List.singleton_append, List.cons_append, List.nil_append, S26, c]
    | true =>
      have e : oddA ((L o).getD i 0) = false := by unfold oddA; rw [c]; rfl
      rw [e, Bool.false_or, ← ih]
      simp (disch := omega) only [N, (PL.sl o).len, b_lss, ltT, gG, (PL.sl o).idx h, load3, load1_getD h, shift_ptr, shift_pptr, Nat.zero_add, Nat.add_zero, pureFn_fn, List.append_nil, List.singleton_append, List.cons_append, List.nil_append, S26, c, add1]
theorem S53 {o : OI} (hl : (L o).length ≤ 1000) (σ : Store) : pureV CC 53 [.p (eSl o)] σ = some (.p (.int .i64 (stErr (L o)))) := by
  refine pureV_free (by simp [sl_view]) rfl (F53_call (r := (.p (.int .i64 (stErr (L o))), [])) ?_) rfl
  rw [F53_eq]
  unfold stErr
  by_cases h : (L o).length > 12
  · have h' : ((L o).length : Int) > 12 := by omega
    rw [if_pos h]
    simp only [(PL.sl o).len, gG, b_gtr, gtT h']
  · have h' : ¬ ((L o).length : Int) > 12 := by omega
    have := L53 (o := o) (by omega) _ 0 rfl (Nat.zero_le _)
    rw [List.drop_zero] at this
    rw [if_neg h]
    simp only [(PL.sl o).len, gG, b_gtr, gtF h']
    exact this
end Go.D
end
/- Chapter 13: the reference's Guarded. -/
section
set_option linter.unusedVariables false
set_option linter.unusedSimpArgs false
set_option maxRecDepth 8000
namespace Go.D
open Las
section
variable {f : Fm} {o : OI} (hf : FSm f) (hk : Ok (L f)) (ho : (L o).length ≤ 1000)
include hf hk ho
omit ho in
theorem L115 {r m : Nat} {x : Nd} (hx : (L f).getD r default = x) (hr : r < (L f).length) (hrec : ∀ (v : Int), 0 ≤ v → v < r → ∀ τ : Store, pureV CC 115 [.p (eFm f), .p (.int .i64 v), .p (eSl o)] τ = some (.p (.bool (gR (L f) (L o) m v.toNat)))) :
    ∀ (d i : Nat) (σ : Store), (nA (L f) r).length - i = d → i ≤ (nA (L f) r).length → σ[0]? = some (.mix (ndD x)) → f115_L0 guardT 0 (.p (eFm f)) (.p (eSl o)) (.ptr 0 0) (N i) σ = some (.p (.bool (((nA (L f) r).drop i).all fun c => gR (L f) (L o) m c.toNat)), σ)
  | 0, i, σ, hd, hi, gs => by
    have ha : L x.a = nA (L f) r := by rw [← hx]; rfl
    have lA := (PL.sl x.a).len
    rw [ha] at lA
    have hlen := hf.2 r
    rw [f115_L0_eq guardT rfl, List.drop_eq_nil_of_le (by omega)]
    simp (disch := omega) only [fa67_2, shift_ptr, shift_pptr, Nat.zero_add, Nat.add_zero, pureFn_fn, List.append_nil, List.singleton_append, List.cons_append, List.nil_append, gG, load24, row_a gs, lA, N, b_lss, ltF, List.all_nil]
  | d + 1, i, σ, hd, hi, gs => by
    have ha : L x.a = nA (L f) r := by rw [← hx]; rfl
    have lA := (PL.sl x.a).len
    rw [ha] at lA
    have hlen := hf.2 r
    have hlt : i < (nA (L f) r).length := by omega
    have ix := (PL.sl x.a).idx (i := i) (by rw [ha]; exact hlt)
    have ld := load1_getD (l := nA (L f) r) hlt σ
    rw [ha] at ix
    have hin := stB_in _ _ _ (hk.good r hr).st i hlt
    have hq := hrec ((nA (L f) r).getD i 0) hin.1 hin.2.1 σ
    have ih := L115 hx hr hrec d (i + 1) σ (by omega) (by omega) gs
    have hdrop : (nA (L f) r).drop i = (nA (L f) r).getD i 0 :: (nA (L f) r).drop (i + 1) := drop_cons hlt
    rw [f115_L0_eq guardT rfl, hdrop, List.all_cons]
    cases hb : gR (L f) (L o) m ((nA (L f) r).getD i 0).toNat with
    | false =>
      rw [hb] at hq
      simp (disch := omega) only [fa67_2, shift_ptr, shift_pptr, Nat.zero_add, Nat.add_zero, pureFn_fn, List.append_nil, List.singleton_append, List.cons_append, List.nil_append, gG, load24, row_a gs, lA, N, b_lss, ltT, ix, load3, ld, hq, Bool.false_and]
    | true =>
      rw [hb] at hq
      simp only [N] at ih
      simp (disch := omega) only [fa67_2, shift_ptr, shift_pptr, Nat.zero_add, Nat.add_zero, pureFn_fn, List.append_nil, List.singleton_append, List.cons_append, List.nil_append, gG, load24, row_a gs, lA, N, b_lss, ltT, ix, load3, ld, hq, Bool.true_and, add1, ih]
theorem S115 : ∀ (m r : Nat), r < m → r < (L f).length → ∀ σ : Store, pureV CC 115 [.p (eFm f), N r, .p (eSl o)] σ = some (.p (.bool (gR (L f) (L o) m r)))
  | 0, r, h, _, _ => by omega
  | m + 1, r, hm, hr, σ => by
    have hlen := hf.2 r
    have hg := hk.good r hr
    have hnd := nd_all hr
    have hga := hg.a
    have hrec : ∀ (v : Int), 0 ≤ v → v < r → ∀ τ : Store, pureV CC 115 [.p (eFm f), .p (.int .i64 v), .p (eSl o)] τ = some (.p (.bool (gR (L f) (L o) m v.toNat))) := fun v v0 v1 τ => by
      have := S115 m v.toNat (by omega) (by omega) τ
      have e : N v.toNat = .p (.int .i64 v) := by unfold N; rw [Int.toNat_of_nonneg v0]
      rwa [e] at this
    have hdec : kd (L f) r = ((L f).getD r default).k := rfl
    have hone : ∀ r', r' < (L f).length → ar (kd (L f) r') = 1 → nA (L f) r' ≠ [] ∧ 0 ≤ (nA (L f) r').getD 0 0 ∧ (nA (L f) r').getD 0 0 < r' := fun r' h1 h2 => by
      have hg' := hk.good r' h1
      have h3 := hg'.a
      have hne : nA (L f) r' ≠ [] := fun e => by
        rw [e] at h3
        have : ar ((L f).getD r' default).k = 1 := h2
        rw [this] at h3; simp at h3
      obtain ⟨_, a, b, _⟩ := hg'.args hne
      exact ⟨hne, a, b⟩
    have hkid : ∀ (v : Int) (τ : Store), 0 ≤ v → v < (L f).length → indexAddr PP 23 (.p (eFm f)) (.p (.int .i64 v)) = some (.pptr (eNds (L f)) (v.toNat * 3)) ∧ load1 (.pptr (eNds (L f)) (v.toNat * 3)) τ = some (.p (.int .i64 (kd (L f) v.toNat))) ∧ load1 (.pptr (eNds (L f)) (v.toNat * 3 + 2)) τ = some (.p (eSl ((L f).getD v.toNat default).a)) := fun v τ v0 v1 => by
      have i1 := idx23 (f := f) (i := v.toNat) (by omega)
      rw [Int.toNat_of_nonneg v0] at i1
      exact ⟨i1, nd_k (by omega) τ, nd_a (by omega) τ⟩
    generalize hx : (L f).getD r default = x at *
    have ha : L x.a = nA (L f) r := by rw [← hx]; rfl
    have st := st67 (σ := []) (lo := 0) (z := [.p (pI 0), .p (pI 0), .p .nilsl]) x rfl (Nat.zero_le _)
    rw [List.length_nil, List.nil_append] at st
    have g : ([Row.mix (ndD x)] : Store)[0]? = some (.mix (ndD x)) := rfl
    refine pureV_free (by simp only [List.map_cons, List.map_nil, fm_view, sl_view]; rfl) rfl (F115_call (r := (.p (.bool (gR (L f) (L o) (m + 1) r)), [.mix (ndD x)])) ?_) rfl
    have hL := L115 hf hk hx hr hrec _ 0 [.mix (ndD x)] rfl (Nat.zero_le _) g
    rw [List.drop_zero] at hL
    rw [F115_eq]
    unfold gR
    rw [hdec, hx]
    by_cases k1 : x.k = 1
    · rw [if_pos k1]
      simp (disch := omega) only [N, idx23 hr, gG, load67, hnd, zero67, List.length_nil, List.nil_append, st, fa67_0, fa67_1, shift_ptr, shift_pptr, Nat.zero_add, Nat.add_zero, pureFn_fn, List.append_nil, List.singleton_append, List.cons_append, List.nil_append, load3, row_k g, row_n g, b_eql, eqT k1, S95 (show (L o).length ≤ 100000 by omega)]
    · rw [if_neg k1]
      by_cases e7 : x.k = 7
      · have e6 : ¬ x.k = 6 := by omega
        have har : ar (kd (L f) r) = 1 := by rw [hdec, e7]; rfl
        obtain ⟨hne, a0, a1⟩ := hone r hr har
        have hp := List.length_pos_iff.2 hne
        have i1 := (PL.sl x.a).idx (i := 0) (by rw [ha]; exact hp)
        have l1 := fun σ => load1_getD (l := nA (L f) r) hp σ
        have z0 : (.p (.int .i64 ((0 : Nat) : Int)) : DV) = .p (.int .i64 0) := rfl
        rw [z0, ha] at i1
        obtain ⟨q1, q2, _⟩ := hkid _ [Row.mix (ndD x)] a0 (by omega)
        have hc6 : c6 (L f) r = false := by unfold c6; rw [hdec, decide_eq_false e6]; rfl
        by_cases e1 : kd (L f) ((nA (L f) r).getD 0 0).toNat = 1
        · have hc7 : c7 (L f) r = true := by unfold c7; rw [hdec, decide_eq_true e7, decide_eq_true e1]; rfl
          rw [if_pos hc7]
          simp (disch := omega) only [N, idx23 hr, gG, load67, hnd, zero67, List.length_nil, List.nil_append, st, fa67_0, fa67_2, shift_ptr, shift_pptr, Nat.zero_add, Nat.add_zero, pureFn_fn, List.append_nil, List.singleton_append, List.cons_append, List.nil_append, load3, row_k g, load24, row_a g, b_eql, eqF k1, eqT e7, i1, l1, q1, q2, eqT e1]
        · have hc7 : ¬ c7 (L f) r = true := by unfold c7; rw [hdec, decide_eq_false e1, Bool.and_false]; simp
          rw [if_neg hc7, hc6, if_neg (by simp)]
          simp (disch := omega) only [N, idx23 hr, gG, load67, hnd, zero67, List.length_nil, List.nil_append, st, fa67_0, fa67_2, shift_ptr, shift_pptr, Nat.zero_add, Nat.add_zero, pureFn_fn, List.append_nil, List.singleton_append, List.cons_append, List.nil_append, load3, row_k g, load24, row_a g, b_eql, eqF k1, eqT e7, i1, l1, q1, q2, eqF e1, eqF e6]
          exact hL
      · have hc7 : ¬ c7 (L f) r = true := by unfold c7; rw [hdec, decide_eq_false e7, Bool.false_and]; simp
        rw [if_neg hc7]
        by_cases e6 : x.k = 6
        · have har : ar (kd (L f) r) = 1 := by rw [hdec, e6]; rfl
          obtain ⟨hne, a0, a1⟩ := hone r hr har
          have hp := List.length_pos_iff.2 hne
          have i1 := (PL.sl x.a).idx (i := 0) (by rw [ha]; exact hp)
          have l1 := fun σ => load1_getD (l := nA (L f) r) hp σ
          have z0 : (.p (.int .i64 ((0 : Nat) : Int)) : DV) = .p (.int .i64 0) := rfl
          rw [z0, ha] at i1
          obtain ⟨q1, q2, q3⟩ := hkid _ [Row.mix (ndD x)] a0 (by omega)
          by_cases e2 : kd (L f) ((nA (L f) r).getD 0 0).toNat = 2
          · have hr2 : ((nA (L f) r).getD 0 0).toNat < (L f).length := by omega
            obtain ⟨hne2, b0, b1⟩ := hone _ hr2 (by rw [e2]; rfl)
            have hp2 := List.length_pos_iff.2 hne2
            have ha2 : L ((L f).getD ((nA (L f) r).getD 0 0).toNat default).a = nA (L f) ((nA (L f) r).getD 0 0).toNat := rfl
            have i2 := (PL.sl ((L f).getD ((nA (L f) r).getD 0 0).toNat default).a).idx (i := 0) (by rw [ha2]; exact hp2)
            have l2 := fun σ => load1_getD (l := nA (L f) ((nA (L f) r).getD 0 0).toNat) hp2 σ
            rw [z0, ha2] at i2
            obtain ⟨s1, s2, _⟩ := hkid _ [Row.mix (ndD x)] b0 (by omega)
            by_cases e1 : kd (L f) ((nA (L f) ((nA (L f) r).getD 0 0).toNat).getD 0 0).toNat = 1
            · have hc6 : c6 (L f) r = true := by unfold c6; rw [hdec, decide_eq_true e6, decide_eq_true e2, decide_eq_true e1]; rfl
              rw [if_pos hc6]
              simp (disch := omega) only [N, idx23 hr, gG, load67, hnd, zero67, List.length_nil, List.nil_append, st, fa67_0, fa67_2, shift_ptr, shift_pptr, Nat.zero_add, Nat.add_zero, pureFn_fn, List.append_nil, List.singleton_append, List.cons_append, List.nil_append, load3, row_k g, load24, row_a g, b_eql, eqF k1, eqF e7, eqT e6, i1, l1, q1, q2, q3, eqT e2, i2, l2, s1, s2, eqT e1]
            · have hc6 : ¬ c6 (L f) r = true := by unfold c6; rw [decide_eq_false e1, Bool.and_false]; simp
              rw [if_neg hc6]
              simp (disch := omega) only [N, idx23 hr, gG, load67, hnd, zero67, List.length_nil, List.nil_append, st, fa67_0, fa67_2, shift_ptr, shift_pptr, Nat.zero_add, Nat.add_zero, pureFn_fn, List.append_nil, List.singleton_append, List.cons_append, List.nil_append, load3, row_k g, load24, row_a g, b_eql, eqF k1, eqF e7, eqT e6, i1, l1, q1, q2, q3, eqT e2, i2, l2, s1, s2, eqF e1]
              exact hL
          · have hc6 : ¬ c6 (L f) r = true := by unfold c6; rw [decide_eq_false e2, Bool.and_false, Bool.false_and]; simp
            rw [if_neg hc6]
            simp (disch := omega) only [N, idx23 hr, gG, load67, hnd, zero67, List.length_nil, List.nil_append, st, fa67_0, fa67_2, shift_ptr, shift_pptr, Nat.zero_add, Nat.add_zero, pureFn_fn, List.append_nil, List.singleton_append, List.cons_append, List.nil_append, load3, row_k g, load24, row_a g, b_eql, eqF k1, eqF e7, eqT e6, i1, l1, q1, q2, eqF e2]
            exact hL
        · have hc6 : ¬ c6 (L f) r = true := by unfold c6; rw [hdec, decide_eq_false e6]; simp
          rw [if_neg hc6]
          simp (disch := omega) only [N, idx23 hr, gG, load67, hnd, zero67, List.length_nil, List.nil_append, st, fa67_0, fa67_2, shift_ptr, shift_pptr, Nat.zero_add, Nat.add_zero, pureFn_fn, List.append_nil, List.singleton_append, List.cons_append, List.nil_append, load3, row_k g, load24, row_a g, b_eql, eqF k1, eqF e7, eqF e6]
          exact hL
theorem S54 (σ : Store) : pureV CC 54 [.p (eFm f), .p (eSl o)] σ = some (.p (.bool (gR (L f) (L o) (L f).length ((L f).length - 1)))) := by
  have hp := hk.pos
  have hle := hk.le
  have h := S115 hf hk ho (L f).length ((L f).length - 1) (by omega) (by omega) []
  refine pureV_free (by simp only [List.map_cons, List.map_nil, fm_view, sl_view]) rfl (F54_call (r := (.p (.bool (gR (L f) (L o) (L f).length ((L f).length - 1))), [])) ?_) rfl
  simp only [N] at h
  rw [F54_eq]
  simp (disch := omega) only [len23, N, gG, sub1, shift_ptr, shift_pptr, Nat.zero_add, Nat.add_zero, pureFn_fn, List.append_nil, List.singleton_append, List.cons_append, List.nil_append, h]
end
end Go.D
end
/- Chapter 13: lists of truths; what the program computes on a ring of places. -/
section
set_option linter.unusedVariables false
set_option linter.unusedSimpArgs false
set_option maxRecDepth 8000
namespace Go.D
open Las
theorem take_set_drop {α : Type} {A : List α} {i : Nat} {v : α} (hi : i < A.length) : A.take i ++ [v] ++ A.drop (i + 1) = A.set i v := by
  rw [List.set_eq_take_append_cons_drop, if_pos hi]; simp
section
variable {n back : Nat} {f : List Bool} (hb : back < n) (hn : n ≤ 1000) (hf : f.length = n)
include hb hn hf
end
end Go.D
end
/- Chapter 13: IsGuarded of the program: whose operand each node is. -/
section
set_option linter.unusedVariables false
set_option linter.unusedSimpArgs false
set_option maxRecDepth 8000
namespace Go.D
open Las
namespace Las
def upd (U : List Int) (i : Nat) : List Int → List Int
  | [] => U
  | v :: us => upd (U.set v.toNat (i : Nat)) i us
theorem upd_len (i : Nat) : ∀ (us U : List Int), (upd U i us).length = U.length
  | [], U => rfl
  | v :: us, U => by unfold upd; rw [upd_len i us]; simp
theorem upd_get (i c : Nat) : ∀ (us U : List Int), c < U.length → (∀ v ∈ us, 0 ≤ v) → (upd U i us).getD c 0 = if (c : Int) ∈ us then (i : Int) else U.getD c 0
  | [], U, hc, hv => by simp [upd]
  | v :: us, U, hc, hv => by
    have h0 := hv v List.mem_cons_self
    unfold upd
    rw [upd_get i c us _ (by simpa using hc) (fun w hw => hv w (List.mem_cons_of_mem _ hw))]
    by_cases h1 : (c : Int) ∈ us
    · rw [if_pos h1, if_pos (List.mem_cons_of_mem _ h1)]
    · rw [if_neg h1]
      by_cases h2 : (c : Int) = v
      · rw [if_pos (by rw [h2]; exact List.mem_cons_self)]
        have : v.toNat = c := by omega
        rw [this, List.getD_eq_getElem?_getD, List.getElem?_set_self hc]; rfl
      · rw [if_neg (fun h => by rcases List.mem_cons.1 h with h | h; exact h2 h; exact h1 h)]
        rw [List.getD_eq_getElem?_getD, List.getElem?_set_ne (by omega), List.getD_eq_getElem?_getD]
def ups (F : List Nd) : Nat → Nat → List Int → List Int
  | 0, _, U => U
  | d + 1, i, U => ups F d (i + 1) (upd U i (nA F i))
def UpTo (F : List Nd) (i : Nat) (U : List Int) : Prop := U.length = F.length ∧ ∀ c, c < F.length → (∀ r, r < i → chd F r c → U.getD c 0 = r) ∧ ((∀ r, r < i → ¬ chd F r c) → U.getD c 0 = -1)
theorem chd_mem {F : List Nd} {r c : Nat} : chd F r c ↔ (c : Int) ∈ nA F r := by
  constructor
  · rintro ⟨k, h1, h2⟩
    rw [← h2, List.getD_eq_getElem?_getD, List.getElem?_eq_getElem h1]
    exact List.getElem_mem h1
  · intro h
    obtain ⟨k, h1, h2⟩ := List.getElem_of_mem h
    exact ⟨k, h1, by rw [List.getD_eq_getElem?_getD, List.getElem?_eq_getElem h1]; exact h2⟩
theorem ups_ok {F : List Nd} (hk : Ok F) : ∀ (d i : Nat) (U : List Int), i + d = F.length → UpTo F i U → UpTo F F.length (ups F d i U)
  | 0, i, U, h, hu => by
    have : i = F.length := by omega
    subst this
    exact hu
  | d + 1, i, U, h, hu => by
    have hi : i < F.length := by omega
    refine ups_ok hk d (i + 1) _ (by omega) ⟨by rw [upd_len]; exact hu.1, fun c hc => ?_⟩
    have hv : ∀ v ∈ nA F i, 0 ≤ v := fun v hv => by
      obtain ⟨k, h1, h2⟩ := List.getElem_of_mem hv
      have := stB_in _ _ _ (hk.good i hi).st k h1
      rw [List.getD_eq_getElem?_getD, List.getElem?_eq_getElem h1] at this
      have h3 : 0 ≤ (nA F i)[k] := this.1
      omega
    rw [upd_get i c _ _ (by rw [hu.1]; exact hc) hv]
    obtain ⟨h1, h2⟩ := hu.2 c hc
    by_cases e : chd F i c
    · rw [if_pos (chd_mem.1 e)]
      refine ⟨fun r hr hrc => ?_, fun hn => absurd e (hn i (Nat.lt_succ_self _))⟩
      rw [up_eq hk (by omega) hi hrc e]
    · rw [if_neg (fun h => e (chd_mem.2 h))]
      refine ⟨fun r hr hrc => ?_, fun hn => h2 fun r hr => hn r (by omega)⟩
      have : r ≠ i := fun e2 => by subst e2; exact e hrc
      exact h1 r (by omega) hrc
end Las
theorem C113 {l : List Int} {c : Nat} (h0 : l ≠ []) (hc : 1 ≤ c) (h60 : l.length * c ≤ 60) : ∃ σ', CC 0 113 [.p (.sl true l.length (eInts l)), .p (.int .i64 (c : Nat))] [] = some (.rsl 0 1 0 (l.length * c), σ') ∧ σ'[0]? = some (.arr (eInts (rep l c))) := by
  have hl := List.length_pos_iff.2 h0
  have hle : l.length ≤ l.length * c := Nat.le_mul_of_pos_right _ hc
  have hcle : c ≤ l.length * c := Nat.le_mul_of_pos_left _ hl
  have hRl : (rep l c).length = l.length * c := by rw [rep_len, Nat.mul_comm]
  have hpo : PL (.p (.sl true l.length (eInts l))) l := .inr (.inl ⟨true, rfl⟩)
  have hr0 : ([Row.arr (eInts (List.replicate (l.length * c) 0))] : Store)[0]? = some (.arr (eInts (List.replicate (l.length * c) 0))) := rfl
  have hcp := cp_pl (σ := [.arr (eInts (List.replicate (l.length * c) 0))]) (r := 0) (lo := 0) (T := l.length * c) hr0 hpo hl hle (by simp) (Nat.le_refl _)
  have hmk := mk24 (n := l.length * c) (by omega) []
  simp only [List.length_nil, List.nil_append] at hmk
  simp only [List.set_cons_zero] at hcp
  obtain ⟨σ', r1, r2⟩ := L113 (R := rep l c) (r := 0) (lo := 0) (T := l.length * c) hRl (by omega) (Nat.le_refl _) _ l.length (l ++ (List.replicate (l.length * c) 0).drop l.length) [.arr (eInts (l ++ (List.replicate (l.length * c) 0).drop l.length))] (Nat.le_refl _) hl hle (by simp; omega) rfl
    (by
      rw [List.take_append_of_le_length (Nat.le_refl _), List.take_length]
      refine List.ext_getElem (by rw [List.length_take, hRl]; omega) fun i h1 h2 => ?_
      have := rep_get (l := l) (k := c) (i := i) (by rw [Nat.mul_comm]; omega)
      rw [Nat.mod_eq_of_lt h1, List.getD_eq_getElem?_getD, List.getD_eq_getElem?_getD, List.getElem?_eq_getElem h1, List.getElem?_eq_getElem (by rw [hRl]; omega)] at this
      simp only [List.getElem_take]
      exact this.symm) (fun i hi => by
      rw [rep_get (by rw [Nat.mul_comm]; exact hi), rep_get (by rw [Nat.mul_comm]; omega), Nat.add_mod_left])
  refine ⟨σ', F113_call ?_, r2⟩
  have q0 : ¬ ((c : Int) < 0) := by omega
  have q1 : ¬ ((0 : Int) > 0) := by decide
  have q2 : ¬ (((l.length * c : Nat) : Int) > 9223372036854775807) := by omega
  have e0 : ∀ a b : DV, extractV (.tuple [a, b]) 0 = some a := fun _ _ => Eq.trans rfl rfl
  have e1 : ∀ a b : DV, extractV (.tuple [a, b]) 1 = some b := fun _ _ => Eq.trans rfl rfl
  rw [F113_eq]
  simp (disch := omega) only [b_lss, ltF q0, gG, f113_J0_eq, hpo.len, cvU, shift_ptr, shift_pptr, Nat.zero_add, Nat.add_zero, pureFn_fn, List.append_nil, List.singleton_append, List.cons_append, List.nil_append, S156 (show l.length ≤ 1000000 by omega) (show c ≤ 1000000 by omega) (show l.length * c ≤ 1000000 by omega), e0, e1, b_gtrU, gtF q1, gtF q2, f113_J1_eq, cvI, hmk, hcp]
  exact r1
theorem ia_st {σ : Store} {r i lo : Nat} {A : List Int} {v : Int} (h : σ[r]? = some (.arr (eInts A))) (hi : i < A.length) (hlo : lo ≤ r) : store PP lo 3 (.ptr r i) (.p (.int .i64 v)) σ = some (σ.set r (.arr (eInts (A.set i v)))) := by
  have e : splice (eInts A) i [PV.int .i64 v] = eInts (A.set i v) := by
    have h1 : [PV.int .i64 v] = eInts [v] := rfl
    rw [h1, splice_ints, List.length_singleton, take_set_drop hi]
  have hb : i + 1 ≤ (eInts A).length := by rw [ints_length]; omega
  simp [store, s3, DV.cells, storeN, h, e, hb, pures, DV.pure?, hlo]
theorem ia_ld {σ : Store} {r i : Nat} {A : List Int} (h : σ[r]? = some (.arr (eInts A))) (hi : i < A.length) : load1 (.ptr r i) σ = some (.p (.int .i64 (A.getD i 0))) := by
  have h2 : (eInts A)[i]? = some (pI (A.getD i 0)) := by
    simp [eInts, List.getD_eq_getElem?_getD, hi]
  obtain ⟨h3, h4⟩ := drop_one h2
  simp [load1, loadN, h, h3, h4]
section
variable {f : Fm} (hf : FSm f) (hk : Ok (L f)) {u : Nat} (hu : 0 < u)
include hf hk hu
theorem L51_1 {x1 x36 x37 x38 : DV} {r : Nat} {x : Nd} (hr : r < (L f).length) (ha : L x.a = nA (L f) r) : ∀ (d k : Nat) (U : List Int) (σ : Store), (nA (L f) r).length - k = d → k ≤ (nA (L f) r).length → U.length = (L f).length → σ[0]? = some (.arr (eInts U)) → σ[u]? = some (.mix [.rsl 0 1 0 (L f).length]) →
    ∃ σ', f51_L1 guardT 0 x1 (.pptr [eFm f] 0) (.ptr u 0) (N r) x36 x37 x38 (.p (eSl x.a)) (N (nA (L f) r).length) (N k) σ = f51_L1 guardT 0 x1 (.pptr [eFm f] 0) (.ptr u 0) (N r) x36 x37 x38 (.p (eSl x.a)) (N (nA (L f) r).length) (N (nA (L f) r).length) σ' ∧
      σ'[0]? = some (.arr (eInts (upd U r ((nA (L f) r).drop k)))) ∧ σ'[u]? = some (.mix [.rsl 0 1 0 (L f).length])
  | 0, k, U, σ, hd, hk2, hU, g0, gu => by
    have e : k = (nA (L f) r).length := by omega
    subst e
    refine ⟨σ, rfl, ?_, gu⟩
    rw [List.drop_eq_nil_of_le (Nat.le_refl _)]
    exact g0
  | d + 1, k, U, σ, hd, hk2, hU, g0, gu => by
    have hlen := hf.2 r
    have hlt : k < (nA (L f) r).length := by omega
    have ix := (PL.sl x.a).idx (i := k) (by rw [ha]; exact hlt)
    have ld := load1_getD (l := nA (L f) r) hlt σ
    rw [ha] at ix
    have hin := stB_in _ _ _ (hk.good r hr).st k hlt
    have hdrop : (nA (L f) r).drop k = (nA (L f) r).getD k 0 :: (nA (L f) r).drop (k + 1) := drop_cons hlt
    have hv : ((nA (L f) r).getD k 0).toNat < (L f).length := by omega
    have ru := rs_idx (r := 0) (off := 0) hv
    rw [Int.toNat_of_nonneg hin.1, Nat.zero_add] at ru
    have lu : load1 (.ptr u 0) σ = some (.rsl 0 1 0 (L f).length) := load1_ptr gu rfl
    have st := ia_st (v := (r : Nat)) g0 (i := ((nA (L f) r).getD k 0).toNat) (by rw [hU]; exact hv) (Nat.zero_le 0)
    obtain ⟨σ', r1, r2, r3⟩ := L51_1 hr ha d (k + 1) (U.set ((nA (L f) r).getD k 0).toNat (r : Nat)) (σ.set 0 (.arr (eInts (U.set ((nA (L f) r).getD k 0).toNat (r : Nat))))) (by omega) (by omega) (by simp [hU]) (by rw [List.getElem?_set_self (get_lt g0)]) (by rw [List.getElem?_set_ne (by omega)]; exact gu)
    refine ⟨σ', ?_, by rw [hdrop]; exact r2, r3⟩
    rw [← r1, f51_L1_eq guardT rfl]
    simp (disch := omega) only [N, b_lss, ltT, gG, ix, load3, ld, load24, lu, ru, st, add1]
theorem L51_0 {x1 : DV} : ∀ (d i : Nat) (U : List Int) (σ : Store), (L f).length - i = d → i ≤ (L f).length → U.length = (L f).length → σ[0]? = some (.arr (eInts U)) → σ[u]? = some (.mix [.rsl 0 1 0 (L f).length]) →
    ∃ σ', f51_L0 guardT 0 x1 (.pptr [eFm f] 0) (.ptr u 0) (.p (eFm f)) (N (L f).length) (N i) σ = f51_L0 guardT 0 x1 (.pptr [eFm f] 0) (.ptr u 0) (.p (eFm f)) (N (L f).length) (N (L f).length) σ' ∧
      σ'[0]? = some (.arr (eInts (ups (L f) d i U))) ∧ σ'[u]? = some (.mix [.rsl 0 1 0 (L f).length])
  | 0, i, U, σ, hd, hi, hU, g0, gu => by
    have e : i = (L f).length := by omega
    subst e
    exact ⟨σ, rfl, g0, gu⟩
  | d + 1, i, U, σ, hd, hi, hU, g0, gu => by
    have hle := hk.le
    have hlt : i < (L f).length := by omega
    have hnd := nd_all hlt
    have ha0 : L ((L f).getD i default).a = nA (L f) i := rfl
    generalize hx : (L f).getD i default = x at *
    have lA := (PL.sl x.a).len
    rw [ha0] at lA
    have st := st67 (σ := σ) (lo := 0) (z := [.p (pI 0), .p (pI 0), .p .nilsl]) x rfl (Nat.zero_le _)
    have g : (σ ++ [Row.mix (ndD x)])[σ.length]? = some (.mix (ndD x)) := get_snoc
    obtain ⟨σ1, r1, r2, r3⟩ := L51_1 hf hk hu (x1 := x1) (x36 := .p (eFm f)) (x37 := N (L f).length) (x38 := N i) (r := i) (x := x) hlt ha0 _ 0 U (σ ++ [Row.mix (ndD x)]) rfl (Nat.zero_le _) hU (get_old g0) (get_old gu)
    rw [List.drop_zero] at r2
    obtain ⟨σ2, s1, s2, s3'⟩ := L51_0 (x1 := x1) d (i + 1) (upd U i (nA (L f) i)) σ1 (by omega) (by omega) (by rw [upd_len]; exact hU) r2 r3
    refine ⟨σ2, ?_, s2, s3'⟩
    rw [← s1]
    have hend : f51_L1 guardT 0 x1 (.pptr [eFm f] 0) (.ptr u 0) (N i) (.p (eFm f)) (N (L f).length) (N i) (.p (eSl x.a)) (N (nA (L f) i).length) (N (nA (L f) i).length) σ1 = f51_L0 guardT 0 x1 (.pptr [eFm f] 0) (.ptr u 0) (.p (eFm f)) (N (L f).length) (N (i + 1)) σ1 := by
      rw [f51_L1_eq guardT rfl]
      simp (disch := omega) only [N, b_lss, ltF, gG, add1]
    rw [← hend, ← r1, f51_L0_eq guardT rfl]
    simp (disch := omega) only [N, b_lss, ltT, gG, idx23 hlt, load67, hnd, zero67, st, fa67_2, shift_ptr, shift_pptr, Nat.zero_add, Nat.add_zero, pureFn_fn, List.append_nil, List.singleton_append, List.cons_append, List.nil_append, load24, row_a g, lA]
    rfl
end
end Go.D
end
/- Chapter 13: IsGuarded of the program. -/
section
set_option linter.unusedVariables false
set_option linter.unusedSimpArgs false
set_option maxRecDepth 8000
namespace Go.D
open Las
namespace Las
def ka (F : List Nd) (U : List Int) (i : Nat) : Int := if U.getD i 0 = -1 then -1 else kd F (U.getD i 0).toNat
def okP (F : List Nd) (U st : List Int) (i : Nat) : Bool := if kd F i = 1 ∧ (F.getD i default).n ∈ st then (decide (ka F U i = 7) || (decide (ka F U i = 2) && decide (ka F U (U.getD i 0).toNat = 6))) else true
def allP (F : List Nd) (U st : List Int) : Nat → Nat → Bool
  | 0, _ => true
  | d + 1, i => okP F U st i && allP F U st d (i + 1)
theorem allP_iff {F : List Nd} {U st : List Int} : ∀ (d i : Nat), allP F U st d i = true ↔ ∀ j, i ≤ j → j < i + d → okP F U st j = true
  | 0, i => by
    simp only [allP, true_iff]
    intro j h1 h2
    omega
  | d + 1, i => by
    rw [allP, Bool.and_eq_true, allP_iff d (i + 1)]
    constructor
    · rintro ⟨h1, h2⟩ j h3 h4
      by_cases e : j = i
      · subst e; exact h1
      · exact h2 j (by omega) (by omega)
    · intro h
      exact ⟨h i (Nat.le_refl _) (by omega), fun j h1 h2 => h j (by omega) (by omega)⟩
theorem UpTo.cases {F : List Nd} {U : List Int} (hu : UpTo F F.length U) {c : Nat} (hc : c < F.length) : (∃ p, p < F.length ∧ chd F p c ∧ U.getD c 0 = p) ∨ ((∀ p, p < F.length → ¬ chd F p c) ∧ U.getD c 0 = -1) := by
  obtain ⟨h1, h2⟩ := hu.2 c hc
  by_cases h : ∃ p, p < F.length ∧ chd F p c
  · obtain ⟨p, p1, p2⟩ := h
    exact .inl ⟨p, p1, p2, h1 p p1 p2⟩
  · have h' : ∀ p, p < F.length → ¬ chd F p c := fun p p1 p2 => h ⟨p, p1, p2⟩
    exact .inr ⟨h', h2 h'⟩
theorem allP_RHS {F : List Nd} {U st : List Int} (hk : Ok F) (hu : UpTo F F.length U) : allP F U st F.length 0 = true ↔ RHS F st (F.length - 1) := by
  have hp := hk.pos
  have hin : ∀ i, inS F (F.length - 1) i ↔ i < F.length := fun i => by
    unfold inS
    rw [hk.fst]
    omega
  have hka : ∀ {p c : Nat}, U.getD c 0 = (p : Int) → ka F U c = kd F p ∧ (U.getD c 0).toNat = p := fun {p c} h => by
    unfold ka
    rw [h, if_neg (by omega)]
    exact ⟨by rw [Int.toNat_natCast], by omega⟩
  rw [allP_iff]
  constructor
  · intro h i hi hb
    have hi' := (hin i).1 hi
    have := h i (Nat.zero_le _) (by omega)
    unfold okP at this
    rw [if_pos ⟨hb.1, hb.2⟩] at this
    rcases hu.cases hi' with ⟨p, p1, p2, p3⟩ | ⟨_, p3⟩
    · obtain ⟨k1, k2⟩ := hka p3
      rw [k1, k2, Bool.or_eq_true, Bool.and_eq_true, decide_eq_true_iff, decide_eq_true_iff, decide_eq_true_iff] at this
      refine ⟨p, p2, (hin p).2 p1, this.imp id ?_⟩
      rintro ⟨q1, q2⟩
      refine ⟨q1, ?_⟩
      rcases hu.cases p1 with ⟨q, r1, r2, r3⟩ | ⟨_, r3⟩
      · rw [(hka r3).1] at q2
        exact ⟨q, r2, (hin q).2 r1, q2⟩
      · unfold ka at q2
        rw [if_pos r3] at q2
        exact absurd q2 (by decide)
    · exfalso
      unfold ka at this
      rw [if_pos p3] at this
      simp at this
  · intro h i _ hi
    unfold okP
    by_cases hb : kd F i = 1 ∧ (F.getD i default).n ∈ st
    · rw [if_pos hb]
      obtain ⟨p, p1, p2, p3⟩ := h i ((hin i).2 (by omega)) hb
      have hpl := (hin p).1 p2
      have hui := (hu.2 i (by omega)).1 p hpl p1
      obtain ⟨k1, k2⟩ := hka hui
      rw [k1, k2, Bool.or_eq_true, Bool.and_eq_true, decide_eq_true_iff, decide_eq_true_iff, decide_eq_true_iff]
      refine p3.imp id ?_
      rintro ⟨q1, q, q2, q3, q4⟩
      have hql := (hin q).1 q3
      have huq := (hu.2 p hpl).1 q hql q2
      exact ⟨q1, by rw [(hka huq).1]; exact q4⟩
    · rw [if_neg hb]
end Las
end Go.D
end
/- Equations of functions 12, printed by gen.py. -/
section
set_option linter.unusedVariables false
set_option maxRecDepth 10000
namespace Go.D
open Go.Proofs
noncomputable section
variable (G : GuardT) (lo : Nat) {σ : Store} {r : DV × Store}
open _root_.Go.D.Code (fstC sndC)
open _root_.Go.D.Ann (left right)
def lstr0 : ByteArray := ⟨#[40, 112, 48, 32, 126, 62, 32, 60, 62, 112, 49, 41]⟩
def c12_0 : Code := bodyOf Tryz.f12
def a12_0 : Ann := (pol 12).ann
def F12 (σ : Store) : RS :=
 codeF G PP (pol 12) CC lo c12_0 a12_0 (zn 80 []) σ (finR PP Tryz.f12.results.toList)
theorem F12_eq (G : GuardT) (lo : Nat) (σ : Store) : F12 G lo σ =
 (pureFn CC (DV.fn 48 []) [(DV.p (PV.str lstr0))] σ).bind fun x11 =>
 (extractV x11 0).bind fun x12 =>
 (extractV x11 1).bind fun x13 =>
 (extractV x11 2).bind fun x14 =>
 (pureFn CC (DV.fn 62 []) [I0] σ).bind fun x16 =>
 (pureFn CC (DV.fn 62 []) [I1] σ).bind fun x17 =>
 (buildSlice PP none 64 2 [(0, x16), (1, x17)] σ).bind fun r18_1 =>
 (pureFn CC (DV.fn 38 []) [(DV.p (PV.int IntKind.i64 (8))), r18_1.1] r18_1.2).bind fun x19 =>
 (buildSlice PP none 24 2 [(0, I0), (1, I1)] r18_1.2).bind fun r20_2 =>
 (buildSlice PP none 24 2 [(0, (DV.p (PV.int IntKind.i64 (2)))), (1, I0)] r20_2.2).bind fun r21_3 =>
 (build PP 26 [(0, r20_2.1), (1, r21_3.1)]).bind fun x22 =>
 (pureFn CC (DV.fn 20 []) [x19, x22] r21_3.2).bind fun x23 =>
 (extractV x23 0).bind fun x24 =>
 (extractV x23 1).bind fun x25 =>
 (buildSlice PP none 24 3 [(0, I1), (1, I1), (2, (DV.p (PV.int IntKind.i64 (2))))] r21_3.2).bind fun r27_4 =>
 (buildSlice PP none 24 3 [(0, (DV.p (PV.int IntKind.i64 (3)))), (1, (DV.p (PV.int IntKind.i64 (2)))), (2, (DV.p (PV.int IntKind.i64 (2))))] r27_4.2).bind fun r28_5 =>
 (build PP 26 [(0, r27_4.1), (1, r28_5.1)]).bind fun x29 =>
 (pureFn CC (DV.fn 32 []) [x29] r28_5.2).bind fun x30 =>
 (extractV x30 0).bind fun x31 =>
 (extractV x30 1).bind fun x32 =>
 (zeroOf PP 26).bind fun z6 =>
 (store PP lo 26 (DV.ptr (List.length r28_5.2) 0) x31 (r28_5.2 ++ [Row.mix z6])).bind fun σ6 =>
 (pureFn CC (DV.fn 63 []) [(DV.p PV.nilsl)] σ6).bind fun x34 =>
 (pureFn CC (DV.fn 62 []) [I0] σ6).bind fun x35 =>
 (buildSlice PP none 64 1 [(0, x35)] σ6).bind fun r36_7 =>
 (pureFn CC (DV.fn 38 []) [(DV.p (PV.int IntKind.i64 (7))), r36_7.1] r36_7.2).bind fun x37 =>
 (pureFn CC (DV.fn 27 []) [x34, x37, (DV.p (PV.int IntKind.i64 (2)))] r36_7.2).bind fun x38 =>
 (extractV x38 0).bind fun x39 =>
 (extractV x38 1).bind fun x40 =>
 (zeroOf PP 52).bind fun z8 =>
 (store PP lo 52 (DV.ptr (List.length r36_7.2) 0) x39 (r36_7.2 ++ [Row.mix z8])).bind fun σ8 =>
 (binOp PP .eql 30 x14 I0).bind fun x42 =>
 G _ x42 true (some (x13, σ8)) σ8 fun x44 σ9 =>
 G _ x42 true ((binOp PP .eql 3 x44 (DV.p (PV.int IntKind.i64 (12)))).bind fun v => some (v, σ9)) σ9 fun x45 σ10 =>
 (pickV x42 x45 (DV.p (PV.bool false))).bind fun x46 =>
 G _ x46 true (some (x12, σ10)) σ10 fun x48 σ11 =>
 G _ x46 true ((len PP 23 x48 σ11).bind fun v => some (v, σ11)) σ11 fun x49 σ12 =>
 G _ x46 true ((binOp PP .eql 3 x49 (DV.p (PV.int IntKind.i64 (4)))).bind fun v => some (v, σ12)) σ12 fun x50 σ13 =>
 (pickV x46 x50 (DV.p (PV.bool false))).bind fun x51 =>
 G _ x51 true (some (x25, σ13)) σ13 fun x53 σ14 =>
 G _ x51 true ((binOp PP .eql 30 x53 I0).bind fun v => some (v, σ14)) σ14 fun x54 σ15 =>
 (pickV x51 x54 (DV.p (PV.bool false))).bind fun x55 =>
 G _ x55 true (some (x24, σ15)) σ15 fun x57 σ16 =>
 (pickV x55 x57 (DV.p (PV.bool false))).bind fun x58 =>
 G _ x58 true (some (x32, σ16)) σ16 fun x60 σ17 =>
 G _ x58 true ((binOp PP .eql 30 x60 I0).bind fun v => some (v, σ17)) σ17 fun x61 σ18 =>
 (pickV x58 x61 (DV.p (PV.bool false))).bind fun x62 =>
 G _ x62 true ((load PP 26 (DV.ptr (List.length r28_5.2) 0) σ18).bind fun v => some (v, σ18)) σ18 fun x64 σ19 =>
 G _ x62 true ((buildSlice PP none 24 1 [(0, I1)] σ19).bind fun r => some (r.1, r.2)) σ19 fun x65 σ20 =>
 G _ x62 true ((buildSlice PP none 24 2 [(0, (DV.p (PV.int IntKind.i64 (2)))), (1, (DV.p (PV.int IntKind.i64 (3))))] σ20).bind fun r => some (r.1, r.2)) σ20 fun x66 σ21 =>
 G _ x62 true ((build PP 26 [(0, x65), (1, x66)]).bind fun v => some (v, σ21)) σ21 fun x67 σ22 =>
 G _ x62 true ((pureFn CC (DV.fn 33 []) [x64, x67] σ22).bind fun v => some (v, σ22)) σ22 fun x68 σ23 =>
 (pickV x62 x68 (DV.p (PV.bool false))).bind fun x69 =>
 G _ x69 true (some (x40, σ23)) σ23 fun x71 σ24 =>
 G _ x69 true ((binOp PP .eql 30 x71 I0).bind fun v => some (v, σ24)) σ24 fun x72 σ25 =>
 (pickV x69 x72 (DV.p (PV.bool false))).bind fun x73 =>
 G _ x73 true ((load PP 52 (DV.ptr (List.length r36_7.2) 0) σ25).bind fun v => some (v, σ25)) σ25 fun x75 σ26 =>
 G _ x73 true ((buildSlice PP none 24 1 [(0, I0)] σ26).bind fun r => some (r.1, r.2)) σ26 fun x76 σ27 =>
 G _ x73 true ((build PP 52 [(1, x76)]).bind fun v => some (v, σ27)) σ27 fun x77 σ28 =>
 G _ x73 true ((pureFn CC (DV.fn 29 []) [x75, x77] σ28).bind fun v => some (v, σ28)) σ28 fun x78 σ29 =>
 (pickV x73 x78 (DV.p (PV.bool false))).bind fun x79 =>
 some (x79, σ29) := by kernel_rfl
theorem F12_call {lo : Nat} (h : F12 guardT lo σ = some r) : CC lo 12 [] σ = some r :=
 callL_run Tryz.func12 (by decide +kernel) rfl (by decide +kernel) h
end
end Go.D
end
