/- Chapter 13: lists of numbers as the program's values; words; small functions. -/
import Derived.Test.YtpacancmcjbckaaGreatDoorWc
import Derived.Test.YtpacancmcjbckaaGreatDoorWa
import Derived.ProofKit
import Derived.OpenShut
import Derived.WideShapes
import Derived.Test.YtpacancmcjbckaaGreatDoorRows
import Derived.SizedLaws
import Derived.Handed
import Derived.Lay
import Derived.MakeChecks
section
set_option linter.unusedVariables false
set_option linter.unusedSimpArgs false
namespace Go.D
abbrev OI := Option (List Int)
def N (n : Nat) : DV := .p (.int .i64 (n : Nat))
theorem ltT {a b : Int} (h : a < b) : decide (a < b) = true := decide_eq_true h
theorem ltF {a b : Int} (h : ¬ a < b) : decide (a < b) = false := decide_eq_false h
theorem leT {a b : Int} (h : a ≤ b) : decide (a ≤ b) = true := decide_eq_true h
theorem leF {a b : Int} (h : ¬ a ≤ b) : decide (a ≤ b) = false := decide_eq_false h
theorem gtT {a b : Int} (h : a > b) : decide (a > b) = true := decide_eq_true h
theorem gtF {a b : Int} (h : ¬ a > b) : decide (a > b) = false := decide_eq_false h
theorem geT {a b : Int} (h : a ≥ b) : decide (a ≥ b) = true := decide_eq_true h
theorem geF {a b : Int} (h : ¬ a ≥ b) : decide (a ≥ b) = false := decide_eq_false h
theorem eqT {a b : Int} (h : a = b) : decide (a = b) = true := decide_eq_true h
theorem eqF {a b : Int} (h : ¬ a = b) : decide (a = b) = false := decide_eq_false h
theorem add1 {i : Nat} (h : i ≤ 1000000) : binOp PP .add 3 (.p (.int .i64 (i : Nat))) (.p (.int .i64 1)) = some (.p (.int .i64 ((i + 1 : Nat)))) := by rw [b_add, wrap_succ h]
theorem sub1 {i : Nat} (h0 : 0 < i) (h : i ≤ 1000000) : binOp PP .sub 3 (.p (.int .i64 (i : Nat))) (.p (.int .i64 1)) = some (.p (.int .i64 ((i - 1 : Nat)))) := by
  rw [b_sub, wrap_ok] <;> first | omega | skip
  congr 3
  omega
theorem addN {a b : Nat} (h : a + b ≤ 1000000) : binOp PP .add 3 (.p (.int .i64 (a : Nat))) (.p (.int .i64 (b : Nat))) = some (.p (.int .i64 ((a + b : Nat)))) := by
  rw [b_add, wrap_ok] <;> first | omega | skip
  congr 3
theorem subN {a b : Nat} (h0 : b ≤ a) (h : a ≤ 1000000) : binOp PP .sub 3 (.p (.int .i64 (a : Nat))) (.p (.int .i64 (b : Nat))) = some (.p (.int .i64 ((a - b : Nat)))) := by
  rw [b_sub, wrap_ok] <;> first | omega | skip
  congr 3
  omega
theorem remN {a b : Nat} (h0 : 0 < b) : binOp PP .rem 3 (.p (.int .i64 (a : Nat))) (.p (.int .i64 (b : Nat))) = some (.p (.int .i64 ((a % b : Nat)))) := by
  have hb : ¬ ((b : Int) = 0) := by omega
  have e : ((a : Int)).tmod (b : Int) = ((a % b : Nat) : Int) := by rw [Int.tmod_eq_emod_of_nonneg (by omega)]; rfl
  simp only [binOp, if_true, binInt, if_neg hb, Option.map_some, e]
theorem quoN {a b : Nat} (h0 : 0 < b) (h : a ≤ 1000000) : binOp PP .quo 3 (.p (.int .i64 (a : Nat))) (.p (.int .i64 (b : Nat))) = some (.p (.int .i64 ((a / b : Nat)))) := by
  have hb : ¬ ((b : Int) = 0) := by omega
  have e : ((a : Int)).tdiv (b : Int) = ((a / b : Nat) : Int) := by rw [Int.tdiv_eq_ediv_of_nonneg (by omega)]; rfl
  have hle : a / b ≤ a := Nat.div_le_self _ _
  simp only [binOp, if_true, binInt, if_neg hb, Option.map_some, e]
  generalize a / b = q at *
  have e2 : IntKind.i64.wrap (q : Int) = (q : Int) := wrap_ok (by omega) (by omega)
  rw [e2]
theorem src24 : srcType PP 24 = true := Eq.trans (by kernel_rfl) rfl
theorem bytes3 : bytes? PP 3 = some 8 := Eq.trans (by kernel_rfl) rfl
theorem pures_map (cs : List PV) : pures (cs.map DV.p) = some cs := by
  induction cs with
  | nil => rfl
  | cons c cs ih => simp only [List.map_cons, pures, ih, DV.pure?]
theorem get_snoc {σ : Store} {row : Row} : (σ ++ [row])[σ.length]? = some row := by simp
theorem get_old {σ : Store} {r : Nat} {row row' : Row} (h : σ[r]? = some row) : (σ ++ [row'])[r]? = some row := by
  rw [List.getElem?_append_left (List.getElem?_eq_some_iff.1 h).1]; exact h
theorem get_lt {σ : Store} {r : Nat} {row : Row} (h : σ[r]? = some row) : r < σ.length := (List.getElem?_eq_some_iff.1 h).1
theorem load1_getD {l : List Int} {i : Nat} (h : i < l.length) (σ : Store) : load1 (.pptr (eInts l) i) σ = some (.p (.int .i64 (l.getD i 0))) := by
  rw [load1_ints h, List.getD_eq_getElem?_getD, List.getElem?_eq_getElem h]; rfl
theorem sl_view (o : OI) : view (.p (eSl o)) = .p (eSl o) := by simp [view, viewCell, loosen_sl]
def PL (x : DV) (l : List Int) : Prop := (x = .p .nilsl ∧ l = []) ∨ (∃ ex, x = .p (.sl ex l.length (eInts l))) ∨ ∃ r v, x = .osl r v 1 l.length (eInts l)
theorem PL.sl (o : OI) : PL (.p (eSl o)) (L o) := by
  cases o with
  | none => exact .inl ⟨rfl, rfl⟩
  | some l => exact .inr (.inl ⟨false, rfl⟩)
theorem PL.some (l : List Int) : PL (.p (eSl (some l))) l := .inr (.inl ⟨false, rfl⟩)
theorem PL.len {x : DV} {l : List Int} (h : PL x l) (σ : Store) : len PP 24 x σ = Option.some (.p (.int .i64 (l.length : Nat))) := by
  rcases h with ⟨rfl, rfl⟩ | ⟨ex, rfl⟩ | ⟨r, v, rfl⟩ <;> simp [D.len, u24]
theorem PL.idx {x : DV} {l : List Int} (h : PL x l) {i : Nat} (hi : i < l.length) : indexAddr PP 24 x (.p (.int .i64 (i : Nat))) = Option.some (.pptr (eInts l) i) := by
  have h2 : (0 : Int) ≤ (i : Int) ∧ (i : Int) < (l.length : Nat) := by omega
  rcases h with ⟨rfl, rfl⟩ | ⟨ex, rfl⟩ | ⟨r, v, rfl⟩
  · simp at hi
  · simp [indexAddr, u24, s3, h2]
  · simp [indexAddr, u24, s3, h2]
theorem bound_nat {k most : Nat} (h : k ≤ most) (d : Nat) : bound (some (.p (.int .i64 (k : Nat)))) d most = some k := by
  have h2 : (0 : Int) ≤ (k : Int) ∧ (k : Int) ≤ (most : Nat) := by omega
  simp [bound, h2]
theorem eInts_take (l : List Int) (k : Nat) : (eInts l).take k = eInts (l.take k) := by simp [eInts, List.map_take]
theorem eInts_drop (l : List Int) (k : Nat) : (eInts l).drop k = eInts (l.drop k) := by simp [eInts, List.map_drop]
theorem eInts_app (a b : List Int) : eInts a ++ eInts b = eInts (a ++ b) := by simp [eInts]
theorem PL.take {x : DV} {l : List Int} (h : PL x l) {k : Nat} (hk : k ≤ l.length) : ∃ y, sliceOp PP 24 x none (Option.some (.p (.int .i64 (k : Nat)))) none = Option.some y ∧ PL y (l.take k) := by
  have hl : (l.take k).length = k := by simp; omega
  rcases h with ⟨rfl, rfl⟩ | ⟨ex, rfl⟩ | ⟨r, v, rfl⟩
  · have : k = 0 := by simpa using hk
    subst this
    exact ⟨.p .nilsl, by simp [sliceOp, u24, s3, bound], .inl ⟨rfl, by simp⟩⟩
  · refine ⟨.p (.sl (ex && k == l.length) k (eInts (l.take k))), ?_, .inr (.inl ⟨_, by rw [hl]⟩)⟩
    have hb := bound_nat hk l.length
    simp only [sliceOp, u24, s3, Option.isSome_none, Bool.false_and, if_false, Bool.false_eq_true, hb, show bound none l.length l.length = Option.some l.length from rfl, show bound none 0 k = Option.some 0 from rfl, Nat.zero_mul, List.drop_zero, Nat.sub_zero, Nat.mul_one, eInts_take]
  · by_cases hf : k = l.length ∧ 0 < l.length
    · obtain ⟨rfl, h0⟩ := hf
      refine ⟨.osl r v 1 l.length (eInts l), ?_, .inr (.inr ⟨r, v, by rw [List.take_length]⟩)⟩
      have hb := bound_nat hk l.length
      simp only [sliceOp, u24, s3, Option.isSome_none, Bool.false_and, if_false, Bool.false_eq_true, hb, show bound none l.length l.length = Option.some l.length from rfl, show bound none 0 l.length = Option.some 0 from rfl, Nat.zero_mul, List.drop_zero, Nat.sub_zero, ne_eq, not_true_eq_false, beq_self_eq_true, Bool.true_and, decide_eq_true h0, if_true]
    · refine ⟨.p (.sl false k (eInts (l.take k))), ?_, .inr (.inl ⟨_, by rw [hl]⟩)⟩
      have hb := bound_nat hk l.length
      have hne : (k == l.length && decide (0 < l.length)) = false := by
        rw [Bool.and_eq_false_iff, beq_eq_false_iff_ne, decide_eq_false_iff_not]
        by_cases e : k = l.length
        · exact .inr fun h => hf ⟨e, h⟩
        · exact .inl e
      simp only [sliceOp, u24, s3, Option.isSome_none, Bool.false_and, if_false, Bool.false_eq_true, hb, show bound none l.length l.length = Option.some l.length from rfl, show bound none 0 k = Option.some 0 from rfl, Nat.zero_mul, List.drop_zero, Nat.sub_zero, Nat.mul_one, eInts_take, ne_eq, not_true_eq_false, hne]
theorem PL.src {x : DV} {l : List Int} (h : PL x l) (σ : Store) : source σ 1 x = Option.some (l.length, (eInts l).map .p) := by
  rcases h with ⟨rfl, rfl⟩ | ⟨ex, rfl⟩ | ⟨r, v, rfl⟩
  · rfl
  · simp [source, ints_length]
  · simp [source, ints_length]
theorem PL.vw {x : DV} {l : List Int} (h : PL x l) : ∃ o, view x = .p (eSl o) ∧ L o = l := by
  rcases h with ⟨rfl, rfl⟩ | ⟨ex, rfl⟩ | ⟨r, v, rfl⟩
  · exact ⟨none, rfl, rfl⟩
  · exact ⟨Option.some l, by simp [view, viewCell, loosen, loosens_ints, eSl], rfl⟩
  · exact ⟨Option.some l, by simp [view, viewCell, loosens_ints, eSl], rfl⟩
theorem PL.thaw {x : DV} {l : List Int} (h : PL x l) (n : Nat) (σ : Store) : ∃ o, D.thaw n σ x = Option.some (.p (eSl o)) ∧ L o = l := by
  rcases h with ⟨rfl, rfl⟩ | ⟨ex, rfl⟩ | ⟨r, v, rfl⟩
  · exact ⟨none, rfl, rfl⟩
  · exact ⟨Option.some l, by simp [D.thaw, thaw1, thawP, loosen, loosens_ints, eSl], rfl⟩
  · exact ⟨Option.some l, by simp [D.thaw, thaw1, thawP, loosens_ints, eSl], rfl⟩
theorem PL.one {x : DV} {l : List Int} (h : PL x l) : x.one = true ∧ x.cells = [x] := by
  rcases h with ⟨rfl, rfl⟩ | ⟨ex, rfl⟩ | ⟨r, v, rfl⟩ <;> exact ⟨rfl, rfl⟩
theorem PL.app {x : DV} {a b : List Int} (h : PL x b) (hl : a.length + b.length ≤ 1000000) (lo : Nat) (σ : Store) :
    ∃ y σ', append PP lo false 24 24 (.p (.sl true a.length (eInts a))) x σ = Option.some (y, σ') ∧ PL y (a ++ b) ∧ (σ' = σ ∨ σ' = σ ++ [.tok 0]) := by
  have hs := h.src σ
  have hz : zeroOf PP 3 = Option.some [.p (pI 0)] := zero3
  have hc : (a.length + b.length) * 8 ≤ 140737488355328 ∧ a.length + b.length ≤ 140737488355328 ∧ 0 < 8 ∧ (eInts a).length = a.length * 1 := ⟨by omega, by omega, by decide, by rw [ints_length]; omega⟩
  by_cases hb : b = []
  · subst hb
    refine ⟨.p (.sl true a.length (eInts a)), σ, ?_, .inr (.inl ⟨true, by simp⟩), .inl rfl⟩
    simp [append, src24, u24, s3, bytes3, hz, hs, appLit, ints_length]
    omega
  · have hb0 : ¬ (b.length = 0) := fun e => hb (List.length_eq_zero_iff.1 e)
    refine ⟨.osl σ.length 0 1 (a.length + b.length) (eInts (a ++ b)), σ ++ [.tok 0], ?_, .inr (.inr ⟨σ.length, 0, by simp⟩), .inr rfl⟩
    simp [append, src24, u24, s3, bytes3, hz, hs, appLit, hb0, pures_map, eInts_app, ints_length, hb]
    omega
structure Wd where
  p : OI
  l : OI
def eWd (w : Wd) : List PV := [eSl w.p, eSl w.l]
def vWd (w : Wd) : DV := .agg [.p (eSl w.p), .p (eSl w.l)]
theorem wd_view (w : Wd) : view (vWd w) = vWd w := by simp [view, viewCell, vWd, loosen_sl]
theorem wd_free (w : Wd) : rowFree (vWd w) = true := rfl
theorem box_wd (w : Wd) : boxP (vWd w) = some (.pptr (eWd w) 0) := rfl
theorem fa26_0 (x : DV) : fieldAddr PP 26 x 0 = shiftPtr x 0 := Eq.trans (by kernel_rfl) rfl
theorem fa26_1 (x : DV) : fieldAddr PP 26 x 1 = shiftPtr x 1 := Eq.trans (by kernel_rfl) rfl
theorem load26 (x : DV) (σ : Store) : load PP 26 x σ = (loadN σ 2 x).map .agg := Eq.trans (by kernel_rfl) rfl
theorem zero26 : zeroOf PP 26 = some [.p .nilsl, .p .nilsl] := Eq.trans (by kernel_rfl) rfl
theorem s26 : size? PP 26 = some 2 := Eq.trans (by kernel_rfl) rfl
theorem wd_0 (w : Wd) (σ : Store) : load1 (.pptr (eWd w) 0) σ = some (.p (eSl w.p)) := load1_pptr rfl σ
theorem wd_1 (w : Wd) (σ : Store) : load1 (.pptr (eWd w) 1) σ = some (.p (eSl w.l)) := load1_pptr rfl σ
theorem wd_all (w : Wd) (σ : Store) : (loadN σ 2 (.pptr (eWd w) 0)).map DV.agg = some (vWd w) := rfl
theorem bs24_0 (σ : Store) : buildSlice PP none 24 0 [] σ = some (.p (.sl true 0 []), σ) := Eq.trans (by kernel_rfl) rfl
theorem bs24_1 (a : Int) (σ : Store) : buildSlice PP none 24 1 [(0, .p (.int .i64 a))] σ = some (.p (.sl true 1 [.int .i64 a]), σ) := Eq.trans (by kernel_rfl) rfl
theorem bs160_2 (a b : Int) (σ : Store) : buildSlice PP none 160 2 [(0, .p (.int .i64 a)), (1, .p (.int .i64 b))] σ = some (.p (.sl true 2 [pI a, pI b]), σ) := Eq.trans (by kernel_rfl) rfl
theorem bld26 {x y : DV} (hx : x.one = true) (hy : y.one = true) : build PP 26 [(0, x), (1, y)] = some (.agg [x, y]) := by
  cases x <;> first | (exfalso; simp [DV.one] at hx; done) | skip
  all_goals (cases y <;> first | (exfalso; simp [DV.one] at hy; done) | exact Eq.trans (by kernel_rfl) rfl)
theorem PL.undef {x : DV} {l : List Int} (h : PL x l) : x.isUndef = false := by
  rcases h with ⟨rfl, rfl⟩ | ⟨ex, rfl⟩ | ⟨r, v, rfl⟩ <;> rfl
theorem st26 {σ : Store} {r lo : Nat} {z c : List DV} (h : σ[r]? = some (.mix z)) (hlo : lo ≤ r) (hz : z.length = 2) (hc : c.length = 2) (ho : c.all DV.one = true) : store PP lo 26 (.ptr r 0) (.agg c) σ = some (σ.set r (.mix c)) := by
  have e : splice z 0 c = c := by simp [splice, hz, hc]
  simp [store, s26, DV.cells, storeN, hc, h, hz, ho, e, hlo]
theorem cell26 {σ : Store} {r : Nat} {c : List DV} (h : σ[r]? = some (.mix c)) (hc : c.length = 2) : cellV PP 26 (.ptr r 0) σ = some (.agg c) := by
  show load PP 26 (.ptr r 0) σ = _
  rw [load26, loadN_ptr (vs := c) h (by rw [List.drop_zero, ← hc, List.take_length]) (by omega)]; rfl
def inR (n lo hi : Int) : Bool := decide (n ≥ lo) && decide (n ≤ hi)
theorem pureV_view {call : CallF} {f : FuncId} {args args' : List DV} {σ : Store} (h : args.map view = args') (h2 : args'.map view = args') : pureV call f args σ = pureV call f args' σ := by
  unfold pureV
  rw [h, h2]
theorem len160 (ex : Bool) (n : Nat) (cs : List PV) (σ : Store) : len PP 160 (.p (.sl ex n cs)) σ = some (.p (.int .i64 (n : Nat))) := by simp [len, u160]
theorem S26 (n a b : Int) (σ : Store) : pureV CC 26 [.p (.int .i64 n), .p (.int .i64 a), .p (.int .i64 b)] σ = some (.p (.bool (inR n a b))) := by
  refine pureV_free rfl rfl (F26_call (r := (.p (.bool (inR n a b)), [])) ?_) rfl
  rw [F26_eq]
  by_cases h : n ≥ a
  · simp only [b_geq, geT h, gG, b_leq, inR, Bool.true_and]
  · simp only [b_geq, geF h, gG, inR, Bool.false_and]
theorem S65 (n a b : Int) (σ : Store) : pureV CC 65 [.p (.int .i64 n), .p (.int .i64 a), .p (.int .i64 b)] σ = some (.p (.bool (inR n a b))) := by
  refine pureV_free rfl rfl (F65_call (r := (.p (.bool (inR n a b)), [])) ?_) rfl
  rw [F65_eq]
  by_cases h : a ≤ n
  · have h' : decide (n ≥ a) = true := decide_eq_true h
    simp only [b_leq, leT h, gG, inR, h', Bool.true_and]
  · have h' : decide (n ≥ a) = false := decide_eq_false h
    simp only [b_leq, leF h, gG, inR, h', Bool.false_and]
def wrg (b : Bool) (e : Int) : Int := if b = true then e else 0
theorem S67 (b : Bool) (e : Int) (σ : Store) : pureV CC 67 [.p (.bool b), .p (.int .i64 e)] σ = some (.p (.int .i64 (wrg b e))) := by
  refine pureV_free rfl rfl (F67_call (r := (.p (.int .i64 (wrg b e)), [])) ?_) rfl
  rw [F67_eq]
  cases b <;> simp only [gG] <;> rfl
def orL : List Int → Int
  | [] => 0
  | v :: l => if v ≠ 0 then v else orL l
theorem idx160 {ex : Bool} {l : List Int} {i : Nat} (h : i < l.length) : indexAddr PP 160 (.p (.sl ex l.length (eInts l))) (.p (.int .i64 (i : Nat))) = some (.pptr (eInts l) i) := by
  have h2 : (0 : Int) ≤ (i : Int) ∧ (i : Int) < (l.length : Nat) := by omega
  simp [indexAddr, u160, s30, h2]
theorem drop_cons {l : List Int} {i : Nat} (h : i < l.length) : l.drop i = l.getD i 0 :: l.drop (i + 1) := by
  rw [List.drop_eq_getElem_cons h, List.getD_eq_getElem?_getD, List.getElem?_eq_getElem h]; rfl
theorem L66 {ex : Bool} {l : List Int} {lo : Nat} {σ : Store} (hl : l.length ≤ 1000) : ∀ (k i : Nat), l.length - i = k → i ≤ l.length → f66_L0 guardT lo (.p (.int .i64 0)) (.p (.sl ex l.length (eInts l))) (N l.length) (N i) σ = some (.p (.int .i64 (orL (l.drop i))), σ)
  | 0, i, hk, hi => by
    rw [f66_L0_eq guardT rfl, List.drop_eq_nil_of_le (by omega)]
    simp (disch := omega) only [N, b_lss, ltF, gG, orL]
  | k + 1, i, hk, hi => by
    have h : i < l.length := by omega
    rw [f66_L0_eq guardT rfl, drop_cons h]
    have ih := L66 (ex := ex) (lo := lo) (σ := σ) hl k (i + 1) (by omega) (by omega)
    simp (disch := omega) only [N, b_lss, ltT, gG, idx160 h, load30, load1_getD h, b_neq, orL]
    by_cases hv : l.getD i 0 = 0
    · simp (disch := omega) only [eqT hv, gG, add1]
      rw [if_neg (by simpa using hv)]
      exact ih
    · simp only [eqF hv, gG]
      rw [if_pos hv]
theorem S66 {ex : Bool} {l : List Int} (hl : l.length ≤ 1000) (σ : Store) : pureV CC 66 [.p (.sl ex l.length (eInts l))] σ = some (.p (.int .i64 (orL l))) := by
  rw [pureV_view (args' := [.p (.sl false l.length (eInts l))]) (by simp [view, viewCell, loosen, loosens_ints]) (by simp [view, viewCell, loosen, loosens_ints])]
  refine pureV_free (by simp [view, viewCell, loosen, loosens_ints]) rfl (F66_call (r := (.p (.int .i64 (orL l)), [])) ?_) rfl
  rw [F66_eq]
  have := L66 (ex := false) (l := l) (lo := 0) (σ := []) hl _ 0 rfl (Nat.zero_le _)
  simp only [len160, obind]
  simpa [N] using this
end Go.D
end
/- What a call's arguments are: plain data of any type without pointers, as values of D. For any program. -/
section
set_option linter.unusedVariables false
set_option linter.unusedSimpArgs false
namespace Go.D

mutual
inductive Plain (P : Program) : TypeId → List PV → Prop where
  | bool {t : TypeId} (h : P.underlying t = some .bool) (b : Bool) : Plain P t [.bool b]
  | int {t : TypeId} {k : IntKind} (h : P.underlying t = some (.int k)) (n : Int) (hw : (Lit.int k n).wf = true) : Plain P t [.int k n]
  | str {t : TypeId} (h : P.underlying t = some .string) (s : ByteArray) (hs : s.size ≤ maxLen) : Plain P t [.str s]
  | nilsl {t e : TypeId} (h : P.underlying t = some (.slice e)) : Plain P t [.nilsl]
  | sl {t e : TypeId} (h : P.underlying t = some (.slice e)) (n : Nat) (cs : List PV) (hx : PlainL P (List.replicate n e) cs) : Plain P t [.sl false n cs]
  | struct {t : TypeId} {fs : Array Field} (h : P.underlying t = some (.struct fs)) (cs : List PV) (hx : PlainL P (fs.toList.map (·.type)) cs) : Plain P t cs
  | array {t e : TypeId} {n : Nat} (h : P.underlying t = some (.array n e)) (cs : List PV) (hx : PlainL P (List.replicate n e) cs) : Plain P t cs
inductive PlainL (P : Program) : List TypeId → List PV → Prop where
  | nil : PlainL P [] []
  | cons {t : TypeId} {ts : List TypeId} {a b : List PV} (h : Plain P t a) (hs : PlainL P ts b) : PlainL P (t :: ts) (a ++ b)
end

/-! ### Taking apart -/
section
variable {P : Program} {t e : TypeId} {k : IntKind} {cs : List PV}
theorem Plain.inv_int (hu : P.underlying t = some (.int k)) (h : Plain P t cs) : ∃ n, (Lit.int k n).wf = true ∧ cs = [.int k n] := by
  cases h with
  | int h n hw =>
    rw [hu] at h
    injection h with h
    injection h with h
    exact ⟨n, by rw [h]; exact hw, by rw [h]⟩
  | _ h => rw [hu] at h; injection h with h; exact absurd h (by simp)
theorem Plain.inv_bool (hu : P.underlying t = some .bool) (h : Plain P t cs) : ∃ b, cs = [.bool b] := by
  cases h with
  | bool h b => exact ⟨b, rfl⟩
  | _ h => rw [hu] at h; injection h with h; exact absurd h (by simp)
theorem Plain.inv_str (hu : P.underlying t = some .string) (h : Plain P t cs) : ∃ s, s.size ≤ maxLen ∧ cs = [.str s] := by
  cases h with
  | str h s hs => exact ⟨s, hs, rfl⟩
  | _ h => rw [hu] at h; injection h with h; exact absurd h (by simp)
theorem Plain.inv_slice (hu : P.underlying t = some (.slice e)) (h : Plain P t cs) : cs = [.nilsl] ∨ ∃ n xs, PlainL P (List.replicate n e) xs ∧ cs = [.sl false n xs] := by
  cases h with
  | nilsl h => exact .inl rfl
  | sl h n xs hx =>
    rw [hu] at h
    injection h with h
    injection h with h
    exact .inr ⟨n, xs, by rw [h]; exact hx, rfl⟩
  | _ h => rw [hu] at h; injection h with h; exact absurd h (by simp)
theorem Plain.inv_struct {fs : Array Field} (hu : P.underlying t = some (.struct fs)) (h : Plain P t cs) : PlainL P (fs.toList.map (·.type)) cs := by
  cases h with
  | struct h xs hx =>
    rw [hu] at h
    injection h with h
    injection h with h
    rw [h]; exact hx
  | _ h => rw [hu] at h; injection h with h; exact absurd h (by simp)
theorem Plain.inv_array {n : Nat} (hu : P.underlying t = some (.array n e)) (h : Plain P t cs) : PlainL P (List.replicate n e) cs := by
  cases h with
  | array h xs hx =>
    rw [hu] at h
    injection h with h
    injection h with h1 h2
    rw [h1, h2]; exact hx
  | _ h => rw [hu] at h; injection h with h; exact absurd h (by simp)
theorem PlainL.inv_nil (h : PlainL P [] cs) : cs = [] := by cases h; rfl
theorem PlainL.inv_cons {ts : List TypeId} (h : PlainL P (t :: ts) cs) : ∃ a b, Plain P t a ∧ PlainL P ts b ∧ cs = a ++ b := by
  cases h with
  | cons h hs => exact ⟨_, _, h, hs, rfl⟩
theorem PlainL.inv_rep {α : Type} {f : α → List PV} (hf : ∀ a, Plain P t a → ∃ x, a = f x) : ∀ {n : Nat} {cs : List PV}, PlainL P (List.replicate n t) cs → ∃ xs : List α, xs.length = n ∧ cs = xs.flatMap f
  | 0, cs, h => ⟨[], rfl, h.inv_nil⟩
  | n + 1, cs, h => by
    obtain ⟨a, b, h1, h2, rfl⟩ := PlainL.inv_cons (ts := List.replicate n t) h
    obtain ⟨x, rfl⟩ := hf a h1
    obtain ⟨xs, h3, rfl⟩ := PlainL.inv_rep hf h2
    exact ⟨x :: xs, by simp [h3], by simp⟩
end

/-! ### Types that are read -/
def layOk (P : Program) (ok : TypeId → Bool) (total : Nat) : Nat → List Field → Bool
  | off, [] => off == total
  | off, f :: fs => f.offset == off && ok f.type && layOk P ok total (off + P.cellsOf f.type) fs
def plainTy (P : Program) : Nat → TypeId → Bool
  | 0, _ => false
  | n + 1, t => match P.underlying t with
    | some .bool | some (.int _) | some .string => true
    | some (.slice e) => decide (0 < P.cellsOf e) && plainTy P n e
    | some (.struct fs) => layOk P (plainTy P n) (P.cellsOf t) 0 fs.toList
    | some (.array m e) => m * P.cellsOf e == P.cellsOf t && plainTy P n e
    | _ => false

section
variable {H : Type} {enc : TypeId × Value → H} {W : World} {P : Program} {hd : Bool}
abbrev memR (W : World) : Mem := fun b o => W.cell? ⟨b, o, none⟩

theorem spot_cell {a : Addr} {v : Value} (h : W.cell? a = some v) : a.spot = none := by
  unfold World.cell? at h
  split at h
  · split at h
    · exact absurd h (by simp)
    · rename_i hs
      cases e : a.spot with
      | none => rfl
      | some s => rw [e] at hs; exact absurd rfl hs
  · exact absurd h (by simp)
theorem addr_eq {a : Addr} {n : Nat} (h : a.spot = none) : a.add n = ⟨a.block, a.off + n, none⟩ := by
  cases a with
  | mk b o s => cases h; exact Addr.add_mid b o n

def RelL (M : Mem) (ps : List PV) (vs : List Value) : Prop := ps.length = vs.length ∧ ∀ j (h1 : j < ps.length) (h2 : j < vs.length), PRel M ps[j] vs[j]

theorem RelL.append {M : Mem} {a c : List PV} {b d : List Value} (h : RelL M a b) (h2 : RelL M c d) : RelL M (a ++ c) (b ++ d) := by
  refine ⟨by simp [h.1, h2.1], fun j h3 h4 => ?_⟩
  by_cases hj : j < a.length
  · rw [List.getElem_append_left hj, List.getElem_append_left (by rw [← h.1]; exact hj)]
    exact h.2 j hj _
  · rw [List.getElem_append_right (by omega), List.getElem_append_right (by rw [← h.1]; omega)]
    have e : j - b.length = j - a.length := by rw [h.1]
    simp only [e]
    refine h2.2 _ (by simp at h3; omega) ?_
theorem elems_read {e : TypeId} {sz : Nat} {b : Nat} : ∀ (n o : Nat),
    (∀ i, i < n → ∃ ps vs, Plain P e ps ∧ vs.length = sz ∧ RelL (memR W) ps vs ∧ ∀ j (h : j < vs.length), W.cell? ⟨b, o + i * sz + j, none⟩ = some vs[j]) →
    ∃ cs vs, PlainL P (List.replicate n e) cs ∧ vs.length = n * sz ∧ RelL (memR W) cs vs ∧ ∀ j (h : j < vs.length), W.cell? ⟨b, o + j, none⟩ = some vs[j]
  | 0, o, h => ⟨[], [], .nil, by simp, ⟨rfl, fun j h1 _ => absurd h1 (by simp)⟩, fun j h => absurd h (by simp)⟩
  | n + 1, o, h => by
    obtain ⟨ps, vs, h1, h2, h3, h4⟩ := h 0 (by omega)
    obtain ⟨cs, ws, g1, g2, g3, g4⟩ := elems_read n (o + sz) fun i hi => by
      obtain ⟨ps, vs, k1, k2, k3, k4⟩ := h (i + 1) (by omega)
      refine ⟨ps, vs, k1, k2, k3, fun j hj => ?_⟩
      have : o + sz + i * sz + j = o + (i + 1) * sz + j := by rw [Nat.add_mul]; omega
      rw [this]
      exact k4 j hj
    refine ⟨ps ++ cs, vs ++ ws, .cons h1 g1, by simp [h2, g2, Nat.add_mul]; omega, h3.append g3, fun j hj => ?_⟩
    by_cases hjv : j < vs.length
    · rw [List.getElem_append_left hjv]
      have := h4 j hjv
      simpa using this
    · rw [List.getElem_append_right (by omega)]
      have := g4 (j - vs.length) (by simp at hj; omega)
      have e2 : o + sz + (j - vs.length) = o + j := by omega
      rwa [e2] at this
theorem layOk_le {ok : TypeId → Bool} {total : Nat} : ∀ (fs : List Field) (off : Nat), layOk P ok total off fs = true → off ≤ total
  | [], off, h => by
    have : off = total := by simpa [layOk] using h
    omega
  | f :: fs, off, h => by
    simp only [layOk, Bool.and_eq_true] at h
    have := layOk_le fs _ h.2
    omega
theorem fields_read {ok : TypeId → Bool} {total : Nat} {cs : List Value} (hc : cs.length = total) : ∀ (fs : List Field) (off : Nat), layOk P ok total off fs = true →
    (∀ f ∈ fs, ok f.type = true → ∃ ps, Plain P f.type ps ∧ RelL (memR W) ps ((cs.drop f.offset).take (P.cellsOf f.type))) →
    ∃ ps, PlainL P (fs.map (·.type)) ps ∧ RelL (memR W) ps (cs.drop off)
  | [], off, h, hf => by
    have : off = total := by simpa [layOk] using h
    refine ⟨[], .nil, ?_⟩
    rw [List.drop_eq_nil_of_le (by omega)]
    exact ⟨rfl, fun j h1 _ => absurd h1 (by simp)⟩
  | f :: fs, off, h, hf => by
    simp only [layOk, Bool.and_eq_true, beq_iff_eq] at h
    obtain ⟨⟨h1, h2⟩, h3⟩ := h
    obtain ⟨ps, g1, g2⟩ := hf f (by simp) h2
    obtain ⟨qs, k1, k2⟩ := fields_read hc fs _ h3 fun g hg => hf g (by simp [hg])
    refine ⟨ps ++ qs, .cons g1 k1, ?_⟩
    have e : cs.drop off = (cs.drop off).take (P.cellsOf f.type) ++ cs.drop (off + P.cellsOf f.type) := by
      rw [← List.drop_drop, List.take_append_drop]
    rw [h1] at g2
    rw [e]
    exact g2.append k2
theorem parts_read {e : TypeId} {sz : Nat} {cs : List Value} : ∀ (n off : Nat), cs.length = off + n * sz →
    (∀ i, i < n → ∃ ps, Plain P e ps ∧ RelL (memR W) ps ((cs.drop (off + i * sz)).take sz)) → ∃ ps, PlainL P (List.replicate n e) ps ∧ RelL (memR W) ps (cs.drop off)
  | 0, off, hc, h => by
    refine ⟨[], .nil, ?_⟩
    rw [List.drop_eq_nil_of_le (by omega)]
    exact ⟨rfl, fun j h1 _ => absurd h1 (by simp)⟩
  | n + 1, off, hc, h => by
    obtain ⟨ps, g1, g2⟩ := h 0 (by omega)
    obtain ⟨qs, k1, k2⟩ := parts_read (sz := sz) n (off + sz) (by rw [hc, Nat.add_mul]; omega) fun i hi => by
      obtain ⟨ps, a1, a2⟩ := h (i + 1) (by omega)
      refine ⟨ps, a1, ?_⟩
      have : off + (i + 1) * sz = off + sz + i * sz := by rw [Nat.add_mul]; omega
      rwa [this] at a2
    refine ⟨ps ++ qs, .cons g1 k1, ?_⟩
    have e : cs.drop off = (cs.drop off).take sz ++ cs.drop (off + sz) := by
      rw [← List.drop_drop, List.take_append_drop]
    rw [Nat.zero_mul, Nat.add_zero] at g2
    rw [e]
    exact g2.append k2

theorem read_plain : ∀ (m fuel : Nat) (t : TypeId) (cs : List Value) (x : DataW H × List MemPlace), plainTy P m t = true → DataW.trod enc P W 0 (fun _ => true) hd fuel t cs = some x → ∃ ps, Plain P t ps ∧ RelL (memR W) ps cs
  | 0, _, _, _, _, hp, _ => by simp [plainTy] at hp
  | m + 1, fuel, t, cs, x, hp, h => by
    unfold plainTy at hp
    split at hp
    · rename_i hu
      obtain ⟨b, rfl, _⟩ := DataW.trod_bool hu h
      refine ⟨[.bool b], .bool hu b, rfl, fun j h1 h2 => ?_⟩
      match j, h1 with
      | 0, _ => exact .bool b
    · rename_i k hu
      obtain ⟨n, rfl, _, hw⟩ := DataW.trod_int hu h
      refine ⟨[.int k n], .int hu n hw, rfl, fun j h1 h2 => ?_⟩
      match j, h1 with
      | 0, _ => exact .int k n
    · rename_i hu
      obtain ⟨s, rfl, _, hs⟩ := DataW.trod_string hu h
      refine ⟨[.str s], .str hu s hs, rfl, fun j h1 h2 => ?_⟩
      match j, h1 with
      | 0, _ => exact .str s
    · rename_i e hu
      simp only [Bool.and_eq_true, decide_eq_true_eq] at hp
      obtain ⟨hsz, hpe⟩ := hp
      rcases DataW.trod_slice hu h with ⟨rfl, _⟩ | ⟨a, len, cap, elems, rest, n, _, rfl, _, _, hl, hm, hlen, hel, hrest, _⟩
      · refine ⟨[.nilsl], .nilsl hu, rfl, fun j h1 h2 => ?_⟩
        match j, h1 with
        | 0, _ => exact .nilsl
      · have hrest := hrest rfl
        have hspot : cap ≠ 0 → a.spot = none := by
          intro hc
          have key : ∃ cs, W.cells? 0 (a.add 0) (P.cellsOf e) = some cs := by
            by_cases h0 : 0 < len
            · have h1 := hel 0 h0
              rw [List.getElem?_eq_getElem (by omega)] at h1
              obtain ⟨cs, h2, _⟩ := Option.bind_eq_some_iff.1 h1
              exact ⟨cs, by simpa using h2⟩
            · have h1 := hrest.2 0 (by omega)
              rw [List.getElem?_eq_getElem (by omega)] at h1
              obtain ⟨cs, h2, _⟩ := Option.bind_eq_some_iff.1 h1
              have hl0 : len = 0 := by omega
              exact ⟨cs, by simpa [hl0] using h2⟩
          obtain ⟨cs, h2⟩ := key
          obtain ⟨_, h3, h4⟩ := World.cells?_some h2
          have h5 := h4 0 hsz
          rw [List.getElem?_eq_getElem (by omega)] at h5
          exact spot_cell (a := a) h5
        obtain ⟨ps, vs, g1, g2, g3, g4⟩ := elems_read (P := P) (W := W) (e := e) (sz := P.cellsOf e) (b := a.block) len a.off fun i hi => by
          have h1 := hel i hi
          rw [List.getElem?_eq_getElem (by omega)] at h1
          obtain ⟨vs, h2, h3⟩ := Option.bind_eq_some_iff.1 h1
          obtain ⟨ps, k1, k2⟩ := read_plain m n e vs _ hpe h3
          obtain ⟨_, h5, h4⟩ := World.cells?_some h2
          refine ⟨ps, vs, k1, h5, k2, fun j hj => ?_⟩
          have h6 := h4 j (by omega)
          have hs := hspot (by omega)
          rw [addr_eq hs, addr_eq rfl, List.getElem?_eq_getElem hj] at h6
          exact h6
        refine ⟨[.sl false len ps], .sl hu len ps g1, rfl, fun j h1 h2 => ?_⟩
        match j, h1 with
        | 0, _ =>
          refine .sl (fun j => vs.getD j Go.undef) hspot hl (by simp) (fun j hj => ?_) (fun j hj => ?_)
          · have hj2 : j < vs.length := by rw [← g3.1]; exact hj
            show W.cell? _ = _
            rw [List.getD_eq_getElem?_getD, List.getElem?_eq_getElem hj2]
            exact g4 j hj2
          · have hj2 : j < vs.length := by rw [← g3.1]; exact hj
            rw [List.getD_eq_getElem?_getD, List.getElem?_eq_getElem hj2]
            exact g3.2 j hj hj2
    · rename_i fs hu
      obtain ⟨xs, n, _, _, hl, hlen, hf⟩ := DataW.trod_struct hu h
      obtain ⟨ps, g1, g2⟩ := fields_read (P := P) (W := W) hl fs.toList 0 hp fun f hfm hok => by
        obtain ⟨i, hi, rfl⟩ := List.getElem_of_mem hfm
        have hi2 : i < fs.size := by simpa using hi
        have h1 := hf i fs[i] (by simp [hi2])
        rw [List.getElem?_eq_getElem (by omega)] at h1
        simp only [Array.getElem_toList] at hok ⊢
        obtain ⟨ps, k1, k2⟩ := read_plain m n _ _ _ hok h1
        exact ⟨ps, k1, k2⟩
      exact ⟨ps, .struct hu ps g1, g2⟩
    · rename_i k e hu
      simp only [Bool.and_eq_true, beq_iff_eq] at hp
      obtain ⟨xs, n, _, _, hl, hlen, hf⟩ := DataW.trod_array hu h
      obtain ⟨ps, g1, g2⟩ := parts_read (P := P) (W := W) (e := e) (sz := P.cellsOf e) (cs := cs) k 0 (by rw [hl, ← hp.1]; omega) fun i hi => by
        have h1 := hf i hi
        rw [List.getElem?_eq_getElem (by omega)] at h1
        obtain ⟨ps, k1, k2⟩ := read_plain m n _ _ _ hp.2 h1
        rw [Nat.zero_add]
        exact ⟨ps, k1, k2⟩
      exact ⟨ps, .array hu ps g1, g2⟩
    · exact absurd hp (by simp)

/-! ### Arguments -/
theorem relL_agg {ps : List PV} {vs : Array Value} (h : RelL (memR W) ps vs.toList) : VRel (fun _ _ => none) (memR W) (.agg (ps.map .p)) (.agg vs) := by
  refine .agg (by have := h.1; simp at this; simp [this]) fun j h1 h2 => ?_
  have := h.2 j (by simpa using h1) (by simpa using h2)
  simp only [List.getElem_map]
  exact .p (by simpa using this)
theorem relL_one {p : PV} {v : Value} (h : RelL (memR W) [p] [v]) : VRel (fun _ _ => none) (memR W) (.p p) v := .p (h.2 0 (by simp) (by simp))
variable {r : Reach} {b0 : Nat} {v : Value} {d : DataW H} {ps : List MemPlace} {t : TypeId}
theorem read_struct {fs : Array Field} (m : Nat) (hu : P.underlying t = some (.struct fs)) (hp : plainTy P m t = true) (hok : Value.okWide P W r b0 t v) (h : DataW.Trod enc P W 0 (fun _ => true) hd t v d ps) :
    ∃ cs, Plain P t cs ∧ VRel (fun _ _ => none) (memR W) (.agg (cs.map .p)) v := by
  simp only [Value.okWide, hu] at hok
  obtain ⟨vs, rfl, _⟩ := hok
  obtain ⟨fuel, h⟩ := h
  obtain ⟨cs, h1, h2⟩ := read_plain m fuel t _ _ hp h
  exact ⟨cs, h1, relL_agg h2⟩
theorem read_array {n : Nat} {e : TypeId} (m : Nat) (hu : P.underlying t = some (.array n e)) (hp : plainTy P m t = true) (hok : Value.okWide P W r b0 t v) (h : DataW.Trod enc P W 0 (fun _ => true) hd t v d ps) :
    ∃ cs, Plain P t cs ∧ VRel (fun _ _ => none) (memR W) (.agg (cs.map .p)) v := by
  simp only [Value.okWide, hu] at hok
  obtain ⟨vs, rfl, _⟩ := hok
  obtain ⟨fuel, h⟩ := h
  obtain ⟨cs, h1, h2⟩ := read_plain m fuel t _ _ hp h
  exact ⟨cs, h1, relL_agg h2⟩
theorem read_slice {e : TypeId} (m : Nat) (hu : P.underlying t = some (.slice e)) (hp : plainTy P m t = true) (hok : Value.okWide P W r b0 t v) (h : DataW.Trod enc P W 0 (fun _ => true) hd t v d ps) :
    ∃ c, Plain P t [c] ∧ VRel (fun _ _ => none) (memR W) (.p c) v := by
  obtain ⟨a0, len, cap, rfl⟩ := Go.WideShapes.okWide_slice hu hok
  obtain ⟨fuel, h⟩ := h
  obtain ⟨cs, h1, h2⟩ := read_plain m fuel t _ _ hp h
  rcases h1.inv_slice hu with rfl | ⟨n, xs, _, rfl⟩
  · exact ⟨_, h1, relL_one h2⟩
  · exact ⟨_, h1, relL_one h2⟩
theorem read_intA {k : IntKind} (hu : P.underlying t = some (.int k)) (hok : Value.okWide P W r b0 t v) (h : DataW.Trod enc P W 0 (fun _ => true) hd t v d ps) :
    ∃ n, (Lit.int k n).wf = true ∧ VRel (fun _ _ => none) (memR W) (.p (.int k n)) v := by
  obtain ⟨n, rfl⟩ := Go.WideShapes.okWide_int hu hok
  obtain ⟨fuel, h⟩ := h
  obtain ⟨n', h1, _, h2⟩ := DataW.trod_int hu h
  have : n = n' := by simpa [Value.cells] using h1
  subst this
  exact ⟨n, h2, .p (.int _ _)⟩
theorem read_strA (hu : P.underlying t = some .string) (hok : Value.okWide P W r b0 t v) (h : DataW.Trod enc P W 0 (fun _ => true) hd t v d ps) :
    ∃ s, s.size ≤ maxLen ∧ VRel (fun _ _ => none) (memR W) (.p (.str s)) v := by
  obtain ⟨s, rfl⟩ := Go.WideShapes.okWide_string hu hok
  obtain ⟨fuel, h⟩ := h
  obtain ⟨s', h1, _, h2⟩ := DataW.trod_string hu h
  have : s = s' := by simpa [Value.cells] using h1
  subst this
  exact ⟨s, h2, .p (.str _)⟩
end
end Go.D
end
/- Chapter 13: from what D answers to what the program answers in any world; what a call's arguments are. -/
section
set_option linter.unusedVariables false
set_option linter.unusedSimpArgs false
set_option maxRecDepth 100000
namespace Go.D
open Go.ChangeShapes Go.WideShapes Go.ChangeAt Go.RowKit

def memOf (W : World) : Mem := fun b o => W.cell? ⟨b, o, none⟩
theorem below_of {C : Nat → Nat → Prop} {m : Nat → Prop} {w w' : World} (h : Frm C m w w') (hC : ∀ b o, ¬ C b o) (hm : ∀ b, ¬ m b) : Below w.heap.size w w' := by
  refine ⟨h.os, h.tape, h.output, h.size, fun k hk => ?_⟩
  have := h.obj k hk
  rw [Array.getElem?_eq_getElem hk] at this ⊢
  cases ho : w.heap[k] with
  | cells c e f =>
    rw [ho] at this
    cases hx : w'.heap[k]? with
    | none => rw [hx] at this; simp [ObjKept] at this
    | some o =>
      rw [hx] at this
      cases o with
      | cells c' e' f' =>
        obtain ⟨h1, h2, h3, h4⟩ := this
        subst h1; subst h2
        have : c' = c := Array.ext_getElem? fun i => by rw [h4 i (hC k i)]
        rw [this]
      | _ => simp [ObjKept] at this
  | map es c =>
    rw [ho] at this
    cases hx : w'.heap[k]? with
    | none => rw [hx] at this; simp [ObjKept] at this
    | some o =>
      rw [hx] at this
      cases o with
      | map es' c' =>
        rcases this with h1 | ⟨h1, h2⟩
        · exact absurd h1 (hm k)
        · rw [h1, h2]
      | _ => simp [ObjKept] at this
  | _ =>
    rw [ho] at this
    cases hx : w'.heap[k]? with
    | none => rw [hx] at this; simp [ObjKept] at this
    | some o => rw [hx] at this; cases o <;> simp [ObjKept] at this <;> simp_all
theorem mixed_ok : PP.follows .mixedOrders = true := by kernel_rfl
theorem body143 : Go.Proofs.Tryz.f143.body = some (backCode 24 3 99 3 4 0 "iter.go:28" "iter.go:29") := by kernel_rfl
theorem back143 : SeqOk PP 143 (.backward false 1) :=
  back_ok Go.Proofs.Tryz.func143 (by decide +kernel) body143 (by kernel_rfl) (by kernel_rfl) ⟨by kernel_rfl, by kernel_rfl, ⟨1, by kernel_rfl⟩, by kernel_rfl, by kernel_rfl⟩
theorem seqA (g : FuncId) (hg : g ≠ 44) : (polA g).seq = fun _ => none := by
  unfold polA
  split <;> first | rfl | exact absurd rfl hg
theorem seqB (g : FuncId) : (polB g).seq = fun _ => none := by
  unfold polB
  split <;> rfl
theorem seqs_ok : ∀ g f kind, (pol g).seq f = some kind → SeqOk PP f kind := by
  intro g f kind h
  by_cases hg : g = 44
  · subst hg
    have h1 : (pol 44).seq f = if f = 143 then some (.backward false 1) else none := rfl
    rw [h1] at h
    split at h
    · rename_i hf
      subst hf
      injection h with h; subst h
      exact back143
    · exact absurd h (by simp)
  · have h1 : (pol g).seq = fun _ => none := by
      unfold pol
      cases Nat.ble g 99 with
      | true => exact seqA g hg
      | false => exact seqB g
    rw [h1] at h
    exact absurd h (by simp)
theorem calls_of {f : FuncId} {args : List DV} {σ' : Store} {b : Bool} (h : CC 0 f args [] = some (.p (.bool b), σ')) {W : World} {vs : Array Value} (hv : Vals (fun _ _ => none) (memOf W) args vs) :
    Calls PP f vs W fun e W' => e = .returned (.bool b) ∧ Below W.heap.size W W' := by
  obtain ⟨k, hk⟩ := lim_some h
  have hs : SRel [] (fun _ _ => none) (memOf W) W := srel_bare fun b o v h => h
  obtain ⟨_, hc⟩ := callK_ok mixed_ok seqs_ok k _ _ _ _ _ _ (hk k (Nat.le_refl _)) (Nat.zero_le _) _ _ _ _ hs hv
  have hw := callsIn_wide.1 (hc Fence.wide 0 Free.wide)
  refine hw.mono ?_
  rintro e W' ⟨v', rfl, L', M', hp, hr⟩
  refine ⟨by rw [bool_of hr], below_of hp.frm ?_ ?_⟩
  · rintro b o ⟨r, row, l, _, ⟨h, _⟩, _⟩
    exact absurd h (by simp)
  · rintro b ⟨r, es, l, _, ⟨h, _⟩, _⟩
    exact absurd h (by simp)
theorem own_ok : ownKnob PP.godebug = none := by kernel_rfl
theorem laidOut_ok : laidOutB PP = true := by kernel_rfl
theorem ul4 : PP.underlying 4 = some .bool := by kernel_rfl
theorem ul3 : PP.underlying 3 = some (.int .i64) := by kernel_rfl
theorem dec3 {a : List PV} (h : Plain PP 3 a) : ∃ n, a = [pI n] := by
  obtain ⟨n, _, rfl⟩ := h.inv_int ul3
  exact ⟨n, rfl⟩
theorem flat1 {α : Type} (f : α → PV) (l : List α) : l.flatMap (fun a => [f a]) = l.map f := by
  induction l with
  | nil => rfl
  | cons a l ih => simp [ih]
theorem dec24 {a : List PV} (h : Plain PP 24 a) : ∃ o, a = [eSl o] := by
  rcases h.inv_slice u24 with rfl | ⟨n, xs, hx, rfl⟩
  · exact ⟨none, rfl⟩
  · obtain ⟨l, rfl, rfl⟩ := hx.inv_rep (f := fun n => [pI n]) fun a ha => dec3 ha
    exact ⟨some l, by rw [flat1]; rfl⟩
section
variable {H : Type} {enc : TypeId × Value → H} {W : World} {hd : Bool} {r : Reach} {b0 : Nat} {v : Value} {d : DataW H} {ps : List MemPlace}
theorem read_wd (hok : Value.okWide PP W r b0 26 v) (h : DataW.Trod enc PP W 0 (fun _ => true) hd 26 v d ps) : ∃ x : Wd, VRel (fun _ _ => none) (memOf W) (vWd x) v := by
  obtain ⟨c, h1, h2⟩ := read_struct 8 Go.Proofs.Tryz.underlying26 (by kernel_rfl) hok h
  have h3 := h1.inv_struct Go.Proofs.Tryz.underlying26
  obtain ⟨a1, b1, k1, h5, rfl⟩ := PlainL.inv_cons h3
  obtain ⟨a2, b2, k2, h7, rfl⟩ := PlainL.inv_cons h5
  obtain ⟨p, rfl⟩ := dec24 k1
  obtain ⟨q, rfl⟩ := dec24 k2
  obtain rfl := PlainL.inv_nil h7
  exact ⟨⟨p, q⟩, h2⟩
end
abbrev lay13 : List (String × DataW Unit) := Go.Proofs.YtpacancmcjbckaaGreatDoor.Rows.lassoWordsRow.laid
noncomputable def laidW (os : Os) : World := World.laidAll PP os lay13
theorem laidW_met (os : Os) (args : Array Value) : laidMetH PP lay13 ((laidW os).forCall (fun _ _ => 0) ⟨#[], args, []⟩).memory := by
  rw [MakeChecks.laidMetH_plain _ _ _ (by kernel_rfl)]
  exact laidMet_laidAll args (by kernel_rfl) (by kernel_rfl)
end Go.D
end
/- Closed calls, worked out by the kernel one by one. -/
section
set_option linter.unusedVariables false
set_option maxRecDepth 100000
namespace Go.D

mutual
def eqPV : PV → PV → Bool
  | .bool a, .bool b => a == b
  | .int k n, .int k' m => k == k' && n == m
  | .nilsl, .nilsl => true
  | .sl a n cs, .sl b m ds => a == b && n == m && eqPVs cs ds
  | _, _ => false
def eqPVs : List PV → List PV → Bool
  | [], [] => true
  | a :: as', b :: bs => eqPV a b && eqPVs as' bs
  | _, _ => false
end
mutual
theorem eqPV_eq : ∀ (a b : PV), eqPV a b = true → a = b
  | .bool a, .bool b, h => by simp [eqPV] at h; rw [h]
  | .int k n, .int k' m, h => by
    simp [eqPV] at h
    rw [h.1, h.2]
  | .nilsl, .nilsl, h => rfl
  | .sl a n cs, .sl b m ds, h => by
    simp [eqPV] at h
    rw [h.1.1, h.1.2, eqPVs_eq cs ds h.2]
  | .bool _, .int .., h | .bool _, .str _, h | .bool _, .nilptr, h | .bool _, .nilsl, h | .bool _, .nilmap, h | .bool _, .nilfn, h | .bool _, .niliface, h | .bool _, .sl .., h => by simp [eqPV] at h
  | .int .., .bool _, h | .int .., .str _, h | .int .., .nilptr, h | .int .., .nilsl, h | .int .., .nilmap, h | .int .., .nilfn, h | .int .., .niliface, h | .int .., .sl .., h => by simp [eqPV] at h
  | .nilsl, .bool _, h | .nilsl, .int .., h | .nilsl, .str _, h | .nilsl, .nilptr, h | .nilsl, .nilmap, h | .nilsl, .nilfn, h | .nilsl, .niliface, h | .nilsl, .sl .., h => by simp [eqPV] at h
  | .sl .., .bool _, h | .sl .., .int .., h | .sl .., .str _, h | .sl .., .nilptr, h | .sl .., .nilsl, h | .sl .., .nilmap, h | .sl .., .nilfn, h | .sl .., .niliface, h => by simp [eqPV] at h
  | .str _, b, h | .nilptr, b, h | .nilmap, b, h | .nilfn, b, h | .niliface, b, h => by cases b <;> simp [eqPV] at h
theorem eqPVs_eq : ∀ (a b : List PV), eqPVs a b = true → a = b
  | [], [], h => rfl
  | a :: as', b :: bs, h => by
    simp [eqPVs] at h
    rw [eqPV_eq a b h.1, eqPVs_eq as' bs h.2]
  | [], _ :: _, h | _ :: _, [], h => by simp [eqPVs] at h
end

def flatD : DV → Option (List (Nat × PV))
  | .p v => some [(0, v)]
  | .agg cs => some (cs.filterMap fun c => match c with | .p v => some (1, v) | _ => none)
  | _ => none

def eqD1 : DV → DV → Bool
  | .p v, .p w => eqPV v w
  | _, _ => false
def eqD1s : List DV → List DV → Bool
  | [], [] => true
  | a :: as', b :: bs => eqD1 a b && eqD1s as' bs
  | _, _ => false
def eqD2 : DV → DV → Bool
  | .agg cs, .agg ds => eqD1s cs ds
  | a, b => eqD1 a b
def eqD2s : List DV → List DV → Bool
  | [], [] => true
  | a :: as', b :: bs => eqD2 a b && eqD2s as' bs
  | _, _ => false
def eqD : DV → DV → Bool
  | .tuple cs, .tuple ds => eqD2s cs ds
  | a, b => eqD2 a b

theorem eqD1_eq {a b : DV} (h : eqD1 a b = true) : a = b := by
  unfold eqD1 at h
  split at h
  · rw [eqPV_eq _ _ h]
  · exact absurd h (by simp)
theorem eqD1s_eq : ∀ {a b : List DV}, eqD1s a b = true → a = b
  | [], [], h => rfl
  | a :: as', b :: bs, h => by
    simp only [eqD1s, Bool.and_eq_true] at h
    rw [eqD1_eq h.1, eqD1s_eq h.2]
  | [], _ :: _, h => absurd h (by simp [eqD1s])
  | _ :: _, [], h => absurd h (by simp [eqD1s])
theorem eqD2_eq {a b : DV} (h : eqD2 a b = true) : a = b := by
  unfold eqD2 at h
  split at h
  · rw [eqD1s_eq h]
  · exact eqD1_eq h
theorem eqD2s_eq : ∀ {a b : List DV}, eqD2s a b = true → a = b
  | [], [], h => rfl
  | a :: as', b :: bs, h => by
    simp only [eqD2s, Bool.and_eq_true] at h
    rw [eqD2_eq h.1, eqD2s_eq h.2]
  | [], _ :: _, h => absurd h (by simp [eqD2s])
  | _ :: _, [], h => absurd h (by simp [eqD2s])
theorem eqD_eq {a b : DV} (h : eqD a b = true) : a = b := by
  unfold eqD at h
  split at h
  · rw [eqD2s_eq h]
  · exact eqD2_eq h

def runIs (P : Program) (pol : FuncId → FPol) (k : Nat) (f : FuncId) (args : List DV) (r : DV) : Bool :=
  match callK P pol k 0 f args [] with
  | some (v, σ) => match thawAll 0 σ v with
    | some v' => eqD v' r
    | none => false
  | none => false

theorem pureV_run {k : Nat} {f : FuncId} {args : List DV} {r : DV} {σ : Store} (h : runIs PP pol k f args r = true) (h1 : args.map view = args) (h2 : args.all rowFree = true) : pureV CC f args σ = some r := by
  unfold runIs at h
  split at h
  · rename_i v σ' hc
    split at h
    · rename_i v' ht
      exact pureV_free h1 h2 (callL_at hc) (ht.trans (by rw [eqD_eq h]))
    · exact absurd h (by simp)
  · exact absurd h (by simp)

end Go.D
end
/- Equations of functions 12, printed by gen.py. -/
section
set_option linter.unusedVariables false
set_option maxRecDepth 10000
namespace Go.D
open Go.Proofs
noncomputable section
variable (G : GuardT) (lo : Nat) {σ : Store} {r : DV × Store}
open _root_.Go.D.Code (fstC sndC)
open _root_.Go.D.Ann (left right)
def lstr0 : ByteArray := ⟨#[40, 112, 48, 32, 126, 62, 32, 60, 62, 112, 49, 41]⟩
def c12_0 : Code := bodyOf Tryz.f12
def a12_0 : Ann := (pol 12).ann
def F12 (σ : Store) : RS :=
 codeF G PP (pol 12) CC lo c12_0 a12_0 (zn 80 []) σ (finR PP Tryz.f12.results.toList)
theorem F12_eq (G : GuardT) (lo : Nat) (σ : Store) : F12 G lo σ =
 (pureFn CC (DV.fn 48 []) [(DV.p (PV.str lstr0))] σ).bind fun x11 =>
 (extractV x11 0).bind fun x12 =>
 (extractV x11 1).bind fun x13 =>
 (extractV x11 2).bind fun x14 =>
 (pureFn CC (DV.fn 62 []) [I0] σ).bind fun x16 =>
 (pureFn CC (DV.fn 62 []) [I1] σ).bind fun x17 =>
 (buildSlice PP none 64 2 [(0, x16), (1, x17)] σ).bind fun r18_1 =>
 (pureFn CC (DV.fn 38 []) [(DV.p (PV.int IntKind.i64 (8))), r18_1.1] r18_1.2).bind fun x19 =>
 (buildSlice PP none 24 2 [(0, I0), (1, I1)] r18_1.2).bind fun r20_2 =>
 (buildSlice PP none 24 2 [(0, (DV.p (PV.int IntKind.i64 (2)))), (1, I0)] r20_2.2).bind fun r21_3 =>
 (build PP 26 [(0, r20_2.1), (1, r21_3.1)]).bind fun x22 =>
 (pureFn CC (DV.fn 20 []) [x19, x22] r21_3.2).bind fun x23 =>
 (extractV x23 0).bind fun x24 =>
 (extractV x23 1).bind fun x25 =>
 (buildSlice PP none 24 3 [(0, I1), (1, I1), (2, (DV.p (PV.int IntKind.i64 (2))))] r21_3.2).bind fun r27_4 =>
 (buildSlice PP none 24 3 [(0, (DV.p (PV.int IntKind.i64 (3)))), (1, (DV.p (PV.int IntKind.i64 (2)))), (2, (DV.p (PV.int IntKind.i64 (2))))] r27_4.2).bind fun r28_5 =>
 (build PP 26 [(0, r27_4.1), (1, r28_5.1)]).bind fun x29 =>
 (pureFn CC (DV.fn 32 []) [x29] r28_5.2).bind fun x30 =>
 (extractV x30 0).bind fun x31 =>
 (extractV x30 1).bind fun x32 =>
 (zeroOf PP 26).bind fun z6 =>
 (store PP lo 26 (DV.ptr (List.length r28_5.2) 0) x31 (r28_5.2 ++ [Row.mix z6])).bind fun σ6 =>
 (pureFn CC (DV.fn 63 []) [(DV.p PV.nilsl)] σ6).bind fun x34 =>
 (pureFn CC (DV.fn 62 []) [I0] σ6).bind fun x35 =>
 (buildSlice PP none 64 1 [(0, x35)] σ6).bind fun r36_7 =>
 (pureFn CC (DV.fn 38 []) [(DV.p (PV.int IntKind.i64 (7))), r36_7.1] r36_7.2).bind fun x37 =>
 (pureFn CC (DV.fn 27 []) [x34, x37, (DV.p (PV.int IntKind.i64 (2)))] r36_7.2).bind fun x38 =>
 (extractV x38 0).bind fun x39 =>
 (extractV x38 1).bind fun x40 =>
 (zeroOf PP 52).bind fun z8 =>
 (store PP lo 52 (DV.ptr (List.length r36_7.2) 0) x39 (r36_7.2 ++ [Row.mix z8])).bind fun σ8 =>
 (binOp PP .eql 30 x14 I0).bind fun x42 =>
 G _ x42 true (some (x13, σ8)) σ8 fun x44 σ9 =>
 G _ x42 true ((binOp PP .eql 3 x44 (DV.p (PV.int IntKind.i64 (12)))).bind fun v => some (v, σ9)) σ9 fun x45 σ10 =>
 (pickV x42 x45 (DV.p (PV.bool false))).bind fun x46 =>
 G _ x46 true (some (x12, σ10)) σ10 fun x48 σ11 =>
 G _ x46 true ((len PP 23 x48 σ11).bind fun v => some (v, σ11)) σ11 fun x49 σ12 =>
 G _ x46 true ((binOp PP .eql 3 x49 (DV.p (PV.int IntKind.i64 (4)))).bind fun v => some (v, σ12)) σ12 fun x50 σ13 =>
 (pickV x46 x50 (DV.p (PV.bool false))).bind fun x51 =>
 G _ x51 true (some (x25, σ13)) σ13 fun x53 σ14 =>
 G _ x51 true ((binOp PP .eql 30 x53 I0).bind fun v => some (v, σ14)) σ14 fun x54 σ15 =>
 (pickV x51 x54 (DV.p (PV.bool false))).bind fun x55 =>
 G _ x55 true (some (x24, σ15)) σ15 fun x57 σ16 =>
 (pickV x55 x57 (DV.p (PV.bool false))).bind fun x58 =>
 G _ x58 true (some (x32, σ16)) σ16 fun x60 σ17 =>
 G _ x58 true ((binOp PP .eql 30 x60 I0).bind fun v => some (v, σ17)) σ17 fun x61 σ18 =>
 (pickV x58 x61 (DV.p (PV.bool false))).bind fun x62 =>
 G _ x62 true ((load PP 26 (DV.ptr (List.length r28_5.2) 0) σ18).bind fun v => some (v, σ18)) σ18 fun x64 σ19 =>
 G _ x62 true ((buildSlice PP none 24 1 [(0, I1)] σ19).bind fun r => some (r.1, r.2)) σ19 fun x65 σ20 =>
 G _ x62 true ((buildSlice PP none 24 2 [(0, (DV.p (PV.int IntKind.i64 (2)))), (1, (DV.p (PV.int IntKind.i64 (3))))] σ20).bind fun r => some (r.1, r.2)) σ20 fun x66 σ21 =>
 G _ x62 true ((build PP 26 [(0, x65), (1, x66)]).bind fun v => some (v, σ21)) σ21 fun x67 σ22 =>
 G _ x62 true ((pureFn CC (DV.fn 33 []) [x64, x67] σ22).bind fun v => some (v, σ22)) σ22 fun x68 σ23 =>
 (pickV x62 x68 (DV.p (PV.bool false))).bind fun x69 =>
 G _ x69 true (some (x40, σ23)) σ23 fun x71 σ24 =>
 G _ x69 true ((binOp PP .eql 30 x71 I0).bind fun v => some (v, σ24)) σ24 fun x72 σ25 =>
 (pickV x69 x72 (DV.p (PV.bool false))).bind fun x73 =>
 G _ x73 true ((load PP 52 (DV.ptr (List.length r36_7.2) 0) σ25).bind fun v => some (v, σ25)) σ25 fun x75 σ26 =>
 G _ x73 true ((buildSlice PP none 24 1 [(0, I0)] σ26).bind fun r => some (r.1, r.2)) σ26 fun x76 σ27 =>
 G _ x73 true ((build PP 52 [(1, x76)]).bind fun v => some (v, σ27)) σ27 fun x77 σ28 =>
 G _ x73 true ((pureFn CC (DV.fn 29 []) [x75, x77] σ28).bind fun v => some (v, σ28)) σ28 fun x78 σ29 =>
 (pickV x73 x78 (DV.p (PV.bool false))).bind fun x79 =>
 some (x79, σ29) := by kernel_rfl
theorem F12_call {lo : Nat} (h : F12 guardT lo σ = some r) : CC lo 12 [] σ = some r :=
 callL_run Tryz.func12 (by decide +kernel) rfl (by decide +kernel) h
end
end Go.D
end
