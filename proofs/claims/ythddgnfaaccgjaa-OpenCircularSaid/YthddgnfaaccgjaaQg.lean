/- Equations of functions 10, 8, 42, printed by gen.py. -/
import Derived.Test.YthddgnfaaccgjaaQc
import Derived.Test.YthddgnfaaccgjaaQd
import Derived.Test.YthddgnfaaccgjaaQf
import Derived.Test.YthddgnfaaccgjaaRows
import Derived.ProofKit
import Derived.SizedLaws
import Derived.Test.YthddgnfaaccgjaaQa
import Derived.OpenShut
import Derived.WideShapes
section
set_option linter.unusedVariables false
set_option maxRecDepth 10000
namespace Go.D
open _root_.Go.D.Code (fstC sndC)
open _root_.Go.D.Ann (left right)
noncomputable def c10_0 : Code := bodyOf Go.Proofs.Try.f10
noncomputable def a10_0 : Ann := (pol 10).ann
noncomputable def F10 (G : GuardT) (lo : Nat) (σ : Store) : Option (DV × Store) :=
 codeF G PP (pol 10) CC lo c10_0 a10_0 [Z, Z, Z, Z, Z, Z, Z, Z, Z, Z, Z, Z, Z, Z, Z, Z, Z, Z, Z, Z, Z, Z, Z, Z, Z, Z, Z, Z, Z, Z, Z, Z, Z, Z, Z, Z, Z, Z, Z, Z, Z, Z, Z, Z, Z, Z, Z, Z, Z, Z, Z, Z, Z, Z, Z, Z, Z, Z, Z, Z, Z, Z, Z, Z, Z, Z, Z, Z, Z, Z, Z, Z, Z, Z, Z, Z, Z, Z, Z, Z, Z, Z, Z, Z, Z, Z, Z, Z, Z, Z, Z, Z, Z, Z, Z] σ (finR PP Go.Proofs.Try.f10.results.toList)
theorem F10_eq (G : GuardT) (lo : Nat) (σ : Store) : F10 G lo σ =
 (pureFn CC (DV.fn 48 []) [] σ).bind fun x14 =>
 (pureFn CC (DV.fn 49 []) [] σ).bind fun x15 =>
 (pureFn CC (DV.fn 50 []) [] σ).bind fun x16 =>
 (pureFn CC (DV.fn 13 []) [x14, x15, x16] σ).bind fun x17 =>
 (extractV x17 0).bind fun x18 =>
 (extractV x17 1).bind fun x19 =>
 (zeroOf PP 33).bind fun z1 =>
 (store PP lo 33 (DV.ptr (List.length σ) 0) x18 (σ ++ [Row.mix z1])).bind fun σ1 =>
 (pureFn CC (DV.fn 48 []) [] σ1).bind fun x21 =>
 (pureFn CC (DV.fn 50 []) [] σ1).bind fun x22 =>
 (pureFn CC (DV.fn 38 []) [x22] σ1).bind fun x23 =>
 (pureFn CC (DV.fn 50 []) [] σ1).bind fun x24 =>
 (pureFn CC (DV.fn 13 []) [x21, x23, x24] σ1).bind fun x25 =>
 (extractV x25 0).bind fun x26 =>
 (extractV x25 1).bind fun x27 =>
 (zeroOf PP 33).bind fun z3 =>
 (store PP lo 33 (DV.ptr (List.length σ1) 0) x26 (σ1 ++ [Row.mix z3])).bind fun σ2 =>
 (pureFn CC (DV.fn 48 []) [] σ2).bind fun x29 =>
 (pureFn CC (DV.fn 48 []) [] σ2).bind fun x30 =>
 (pureFn CC (DV.fn 20 []) [x29, x30] σ2).bind fun x31 =>
 (extractV x31 0).bind fun x32 =>
 (extractV x31 1).bind fun x33 =>
 (extractV x31 2).bind fun x34 =>
 (zeroOf PP 47).bind fun z5 =>
 (store PP lo 47 (DV.ptr (List.length σ2) 0) x32 (σ2 ++ [Row.mix z5])).bind fun σ3 =>
 (pureFn CC (DV.fn 51 []) [] σ3).bind fun x36 =>
 (pureFn CC (DV.fn 45 []) [x36] σ3).bind fun x37 =>
 (extractV x37 0).bind fun x38 =>
 (extractV x37 1).bind fun x39 =>
 (zeroOf PP 88).bind fun z8 =>
 (store PP lo 88 (DV.ptr (List.length σ3) 0) x38 (σ3 ++ [Row.mix z8])).bind fun σ4 =>
 (pureFn CC (DV.fn 51 []) [] σ4).bind fun x40 =>
 (zeroOf PP 84).bind fun z10 =>
 (store PP lo 84 (DV.ptr (List.length σ4) 0) x40 (σ4 ++ [Row.mix z10])).bind fun σ5 =>
 (pureFn CC (DV.fn 49 []) [] σ5).bind fun x41 =>
 (fieldAddr PP 84 (DV.ptr (List.length σ4) 0) 2).bind fun x42 =>
 (store PP lo 27 x42 x41 σ5).bind fun σ6 =>
 (load PP 84 (DV.ptr (List.length σ4) 0) σ6).bind fun x44 =>
 (pureFn CC (DV.fn 45 []) [x44] σ6).bind fun x45 =>
 (extractV x45 0).bind fun x46 =>
 (extractV x45 1).bind fun x47 =>
 (zeroOf PP 88).bind fun z11 =>
 (store PP lo 88 (DV.ptr (List.length σ6) 0) x46 (σ6 ++ [Row.mix z11])).bind fun σ7 =>
 (binOp PP .neq 34 x19 (DV.p (PV.int IntKind.i64 (0)))).bind fun x49 =>
 G _ x49 false (some (x27, σ7)) σ7 fun x51 σ8 =>
 G _ x49 false ((binOp PP .neq 34 x51 (DV.p (PV.int IntKind.i64 (25)))).bind fun v => some (v, σ8)) σ8 fun x52 σ9 =>
 (pickV x49 (DV.p (PV.bool true)) x52).bind fun x53 =>
 G _ x53 false (some (x34, σ9)) σ9 fun x55 σ10 =>
 G _ x53 false ((binOp PP .neq 34 x55 (DV.p (PV.int IntKind.i64 (0)))).bind fun v => some (v, σ10)) σ10 fun x56 σ11 =>
 (pickV x53 (DV.p (PV.bool true)) x56).bind fun x57 =>
 G _ x57 false (some (x39, σ11)) σ11 fun x59 σ12 =>
 G _ x57 false ((binOp PP .neq 34 x59 (DV.p (PV.int IntKind.i64 (0)))).bind fun v => some (v, σ12)) σ12 fun x60 σ13 =>
 (pickV x57 (DV.p (PV.bool true)) x60).bind fun x61 =>
 G _ x61 false (some (x47, σ13)) σ13 fun x63 σ14 =>
 G _ x61 false ((binOp PP .neq 34 x63 (DV.p (PV.int IntKind.i64 (31)))).bind fun v => some (v, σ14)) σ14 fun x64 σ15 =>
 (pickV x61 (DV.p (PV.bool true)) x64).bind fun x65 =>
 G _ x65 false ((fieldAddr PP 88 (DV.ptr (List.length σ3) 0) 0).bind fun v => some (v, σ15)) σ15 fun x67 σ16 =>
 G _ x65 false ((load PP 3 x67 σ16).bind fun v => some (v, σ16)) σ16 fun x68 σ17 =>
 G _ x65 false ((binOp PP .neq 3 x68 (DV.p (PV.int IntKind.i64 (0)))).bind fun v => some (v, σ17)) σ17 fun x69 σ18 =>
 (pickV x65 (DV.p (PV.bool true)) x69).bind fun x70 =>
 G _ x70 false ((fieldAddr PP 88 (DV.ptr (List.length σ6) 0) 0).bind fun v => some (v, σ18)) σ18 fun x72 σ19 =>
 G _ x70 false ((load PP 3 x72 σ19).bind fun v => some (v, σ19)) σ19 fun x73 σ20 =>
 G _ x70 false ((binOp PP .neq 3 x73 (DV.p (PV.int IntKind.i64 (1)))).bind fun v => some (v, σ20)) σ20 fun x74 σ21 =>
 (pickV x70 (DV.p (PV.bool true)) x74).bind fun x75 =>
 condK x75
 (
 some ((DV.p (PV.bool false)), σ21)
 )
 (
 (load PP 33 (DV.ptr (List.length σ) 0) σ21).bind fun x76 =>
 (buildSlice PP none 22 3 [(0, (DV.p (PV.int IntKind.i64 (0)))), (1, (DV.p (PV.int IntKind.i64 (1)))), (2, (DV.p (PV.int IntKind.i64 (1))))] σ21).bind fun r77_22 =>
 (build PP 98 [(0, (DV.p (PV.int IntKind.i64 (1))))]).bind fun x78 =>
 (build PP 98 [(1, (DV.p (PV.int IntKind.i64 (1))))]).bind fun x79 =>
 (buildSlice PP none 31 2 [(0, x78), (1, x79)] r77_22.2).bind fun r80_23 =>
 (build PP 33 [(0, r77_22.1), (1, r80_23.1)]).bind fun x81 =>
 (pureFn CC (DV.fn 18 []) [x76, x81] r80_23.2).bind fun x82 =>
 G _ x82 true (some (x33, r80_23.2)) r80_23.2 fun x84 σ24 =>
 G _ x82 true ((buildSlice PP none 22 2 [(0, (DV.p (PV.int IntKind.i64 (0)))), (1, (DV.p (PV.int IntKind.i64 (0))))] σ24).bind fun r => some (r.1, r.2)) σ24 fun x85 σ25 =>
 G _ x82 true ((buildSlice PP none 48 1 [(0, x85)] σ25).bind fun r => some (r.1, r.2)) σ25 fun x86 σ26 =>
 G _ x82 true ((pureFn CC (DV.fn 23 []) [x84, x86] σ26).bind fun v => some (v, σ26)) σ26 fun x87 σ27 =>
 (pickV x82 x87 (DV.p (PV.bool false))).bind fun x88 =>
 G _ x88 true ((fieldAddr PP 47 (DV.ptr (List.length σ2) 0) 2).bind fun v => some (v, σ27)) σ27 fun x90 σ28 =>
 G _ x88 true ((load PP 45 x90 σ28).bind fun v => some (v, σ28)) σ28 fun x91 σ29 =>
 G _ x88 true ((len PP 45 x91 σ29).bind fun v => some (v, σ29)) σ29 fun x92 σ30 =>
 G _ x88 true ((binOp PP .eql 3 x92 (DV.p (PV.int IntKind.i64 (1)))).bind fun v => some (v, σ30)) σ30 fun x93 σ31 =>
 (pickV x88 x93 (DV.p (PV.bool false))).bind fun x94 =>
 some (x94, σ31)
 ) := by kernel_rfl
theorem F10_call {lo : Nat} {σ : Store} {r : DV × Store} (h : F10 guardT lo σ = some r) : CC lo 10 [] σ = some r :=
 callL_run Go.Proofs.Try.func10 (by decide +kernel) rfl (by decide +kernel) h
end Go.D
end
/- CheckRun and the reference's Run; OpenChecks. -/
section
set_option linter.unusedVariables false
set_option linter.unusedSimpArgs false
namespace Go.D

theorem one_cells {x : DV} (h : x.one = true) : x.cells = [x] ∧ x.isUndef = false := by
  cases x <;> simp_all [DV.one, DV.cells, DV.isUndef]
theorem bld33 {x y : DV} (hx : x.one = true) (hy : y.one = true) : build PP 33 [(0, x), (1, y)] = some (.agg [x, y]) := by
  obtain ⟨h1, h2⟩ := one_cells hx
  obtain ⟨h3, h4⟩ := one_cells hy
  have e : build PP 33 [(0, x), (1, y)] = (fill (fun i => ([(0, 1), (1, 1)] : List (Nat × Nat))[i]?) [.p .nilsl, .p .nilsl] [(0, x), (1, y)]).map .agg := Eq.trans (by kernel_rfl) rfl
  rw [e]
  simp [fill, h1, h2, h3, h4, splice]
/-- What is appended to: an empty literal, or a list. -/
def OutL (σ : Store) (lo sz n : Nat) (cs : List PV) (x : DV) : Prop :=
  cs.length = n * sz ∧ ((n = 0 ∧ x = .p (.sl true 0 [])) ∨ (n ≠ 0 ∧ ∃ r ver, x = .osl r ver sz n cs ∧ σ[r]? = some (.tok ver) ∧ lo ≤ r))
theorem OutL.one {σ : Store} {lo sz n : Nat} {cs : List PV} {x : DV} (h : OutL σ lo sz n cs x) : x.one = true := by
  rcases h.2 with ⟨_, rfl⟩ | ⟨_, r, ver, rfl, _⟩ <;> rfl
theorem OutL.tw {σ : Store} {lo sz n : Nat} {cs : List PV} {x : DV} (h : OutL σ lo sz n cs x) (m : Nat) (τ : Store) : thaw m τ x = some (.p (.sl false n (loosens cs))) := by
  obtain ⟨h0, h⟩ := h
  rcases h with ⟨rfl, rfl⟩ | ⟨hn, r, ver, rfl, _, _⟩
  · have : cs = [] := List.length_eq_zero_iff.1 (by simpa using h0)
    rw [this]; rfl
  · simp [thaw, thaw1, thawP]
theorem OutL.snoc {σ : Store} {lo sz n : Nat} {cs : List PV} {x : DV} (h : OutL σ lo sz n cs x) (r : Row) : OutL (σ ++ [r]) lo sz n cs x :=
  ⟨h.1, h.2.imp id fun ⟨a, q, v, b, c, d⟩ => ⟨a, q, v, b, get_old c, d⟩⟩
theorem OutL.set {σ : Store} {lo sz n q : Nat} {cs : List PV} {x : DV} {c : List DV} (h : OutL σ lo sz n cs x) (hq : σ[q]? = some (.mix c)) (r : Row) : OutL (σ.set q r) lo sz n cs x :=
  ⟨h.1, h.2.imp id fun ⟨a, q', v, b, e, d⟩ => ⟨a, q', v, b, get_set_ne e (fun h => by rw [h, hq] at e; injection e with e; injection e), d⟩⟩
theorem plainFn_fn (call : CallF) (lo : Nat) (f : FuncId) (caps args : List DV) (σ : Store) : plainFn call lo (.fn f caps) args σ = call lo f (args ++ caps) σ := Eq.trans rfl rfl
def ownR (r : Run) : Run := ⟨some (L r.st), some (L r.ps)⟩
end Go.D
end
/- The examples of chapter 24: awake answers true. -/
section
set_option linter.unusedVariables false
set_option linter.unusedSimpArgs false
set_option maxRecDepth 100000
namespace Go.D
theorem E48 (σ : Store) : pureV CC 48 [] σ = some (.agg (eCmp exC)) := pureV_run run48 rfl rfl
theorem E49 (σ : Store) : pureV CC 49 [] σ = some (.p wAll) := pureV_run run49 rfl rfl
theorem E50 (σ : Store) : pureV CC 50 [] σ = some (.p wZero) := pureV_run run50 rfl rfl
theorem E51 (σ : Store) : pureV CC 51 [] σ = some (.agg (exRule wTurn)) := pureV_run run51 rfl rfl
theorem E38 (σ : Store) : pureV CC 38 [.p wZero] σ = some (.p wTurn) := pureV_run run38 rfl rfl
theorem E13a (σ : Store) : pureV CC 13 [.agg (eCmp exC), .p wAll, .p wZero] σ = some (.tuple [.agg (eRun exR), .p (pI 0)]) := pureV_run run13a rfl rfl
theorem E13b (σ : Store) : pureV CC 13 [.agg (eCmp exC), .p wTurn, .p wZero] σ = some (.tuple [.agg [.p .nilsl, .p .nilsl], .p (pI 25)]) := pureV_run run13b rfl rfl
theorem E20 (σ : Store) : pureV CC 20 [.agg (eCmp exC), .agg (eCmp exC)] σ = some (.tuple [.agg exG, .p exL, .p (pI 0)]) := pureV_run run20 rfl rfl
theorem E45a (σ : Store) : pureV CC 45 [.agg (exRule wTurn)] σ = some (.tuple [.agg fault0, .p (pI 0)]) := pureV_run run45a rfl rfl
theorem E45b (σ : Store) : pureV CC 45 [.agg (exRule wAll)] σ = some (.tuple [.agg fault1, .p (pI 31)]) := pureV_run run45b rfl rfl
theorem E18 (σ : Store) : pureV CC 18 [.agg (eRun exR), .agg [.p (.sl true 3 (eInts [0, 1, 1])), .p (.sl true 2 [pI 1, pI 0, pI 0, pI 1])]] σ = some (.p (.bool true)) := by
  rw [pureV_view (args' := [.agg (eRun exR), .agg (eRun exR)]) rfl rfl]
  exact pureV_run run18 rfl rfl
theorem E23 (σ : Store) : pureV CC 23 [.p exL, .p (.sl true 1 [.sl true 2 (eInts [0, 0])])] σ = some (.p (.bool true)) := by
  rw [pureV_view (args' := [.p exL, .p exL]) rfl rfl]
  exact pureV_run run23 rfl rfl
theorem ex3_0 (a b c : DV) : extractV (.tuple [a, b, c]) 0 = some a := Eq.trans rfl rfl
theorem ex3_1 (a b c : DV) : extractV (.tuple [a, b, c]) 1 = some b := Eq.trans rfl rfl
theorem ex3_2 (a b c : DV) : extractV (.tuple [a, b, c]) 2 = some c := Eq.trans rfl rfl
theorem zero47 : zeroOf PP 47 = some [.p (pI 0), .p .nilsl, .p .nilsl] := Eq.trans (by kernel_rfl) rfl
theorem zero88 : zeroOf PP 88 = some [.p (pI 0), .p .nilsl, .p .nilsl, .p .nilsl] := Eq.trans (by kernel_rfl) rfl
theorem zero84 : zeroOf PP 84 = some [.p (pI 0), .p .nilsl, .p .nilsl, .p .nilsl, .p (pI 0), .p .nilsl, .p .nilsl, .p .nilsl, .p .nilsl, .p .nilsl, .p .nilsl, .p .nilsl] := Eq.trans (by kernel_rfl) rfl
theorem s47 : size? PP 47 = some 3 := Eq.trans (by kernel_rfl) rfl
theorem s88 : size? PP 88 = some 4 := Eq.trans (by kernel_rfl) rfl
theorem s84 : size? PP 84 = some 12 := Eq.trans (by kernel_rfl) rfl
theorem store_newN {t n : Nat} (hs : size? PP t = some n) {cs z : List DV} (σ : Store) (hz : z.length = n) (hc : cs.length = n) (ho : cs.all DV.one = true) : store PP 0 t (.ptr σ.length 0) (.agg cs) (σ ++ [.mix z]) = some (σ ++ [.mix cs]) := by
  have e : splice z 0 cs = cs := by simp [splice, hz, hc]
  simp [store, hs, DV.cells, storeN, hc, hz, ho, e]
theorem fa84_2 (x : DV) : fieldAddr PP 84 x 2 = shiftPtr x 8 := Eq.trans (by kernel_rfl) rfl
theorem fa88_0 (x : DV) : fieldAddr PP 88 x 0 = shiftPtr x 0 := Eq.trans (by kernel_rfl) rfl
theorem fa47_2 (x : DV) : fieldAddr PP 47 x 2 = shiftPtr x 2 := Eq.trans (by kernel_rfl) rfl
theorem load84 (x : DV) (σ : Store) : load PP 84 x σ = (loadN σ 12 x).map .agg := Eq.trans (by kernel_rfl) rfl
theorem load45 (x : DV) (σ : Store) : load PP 45 x σ = load1 x σ := Eq.trans (by kernel_rfl) rfl
theorem len45 (n : Nat) (cs : List PV) (σ : Store) : len PP 45 (.p (.sl false n cs)) σ = some (.p (.int .i64 n)) := Eq.trans (by kernel_rfl) rfl
theorem bld98a : build PP 98 [(0, .p (pI 1))] = some (.agg [.p (pI 1), .p (pI 0)]) := Eq.trans (by kernel_rfl) rfl
theorem bld98b : build PP 98 [(1, .p (pI 1))] = some (.agg [.p (pI 0), .p (pI 1)]) := Eq.trans (by kernel_rfl) rfl
theorem bs31_2 (a b c d : Int) (σ : Store) : buildSlice PP none 31 2 [(0, .agg [.p (pI a), .p (pI b)]), (1, .agg [.p (pI c), .p (pI d)])] σ = some (.p (.sl true 2 [pI a, pI b, pI c, pI d]), σ) := Eq.trans (by kernel_rfl) rfl
theorem bs22_2a (x y : Int) (σ : Store) : buildSlice PP none 22 2 [(0, .p (pI x)), (1, .p (pI y))] σ = some (.p (.sl true 2 (eInts [x, y])), σ) := Eq.trans (by kernel_rfl) rfl
def awS : Store := [.mix (eRun exR), .mix [.p .nilsl, .p .nilsl], .mix exG, .mix fault0, .mix (exRule wAll), .mix fault1]
theorem F10_true : ∃ σ', F10 guardT 0 [] = some (.p (.bool true), σ') := by
  refine ⟨awS, ?_⟩
  have sn33 := fun cs σ h1 h2 => store_newN (cs := cs) (z := [.p .nilsl, .p .nilsl]) s33 σ rfl h1 h2
  have n1 := fun (σ : Store) => store_newN (cs := eRun exR) (z := [.p .nilsl, .p .nilsl]) s33 σ rfl rfl rfl
  have n2 := fun (σ : Store) => store_newN (cs := [.p .nilsl, .p .nilsl]) (z := [.p .nilsl, .p .nilsl]) s33 σ rfl rfl rfl
  have n3 := fun (σ : Store) => store_newN (cs := exG) (z := [.p (pI 0), .p .nilsl, .p .nilsl]) s47 σ rfl rfl rfl
  have n4 := fun (σ : Store) => store_newN (cs := fault0) (z := [.p (pI 0), .p .nilsl, .p .nilsl, .p .nilsl]) s88 σ rfl rfl rfl
  have n5 := fun (σ : Store) => store_newN (cs := fault1) (z := [.p (pI 0), .p .nilsl, .p .nilsl, .p .nilsl]) s88 σ rfl rfl rfl
  have n6 := fun (σ : Store) => store_newN (cs := exRule wTurn) (z := [.p (pI 0), .p .nilsl, .p .nilsl, .p .nilsl, .p (pI 0), .p .nilsl, .p .nilsl, .p .nilsl, .p .nilsl, .p .nilsl, .p .nilsl, .p .nilsl]) s84 σ rfl rfl rfl
  rw [F10_eq]
  simp only [pureFn_fn, List.append_nil, E48, E49, E50, E51, E38, E13a, E13b, E20, obind, ex0, ex1, ex3_0, ex3_1, ex3_2, zero33, zero47, zero88, zero84, n1, n2, n3, n4, n6, E45a, fa84_2, shift_ptr, Nat.zero_add]
  simp only [List.nil_append, List.cons_append, List.length_nil, List.length_cons, Nat.zero_add, Nat.reduceAdd]
  have hst : store PP 0 27 (.ptr 4 8) (.p wAll) [.mix (eRun exR), .mix [.p .nilsl, .p .nilsl], .mix exG, .mix fault0, .mix (exRule wTurn)] = some [.mix (eRun exR), .mix [.p .nilsl, .p .nilsl], .mix exG, .mix fault0, .mix (exRule wAll)] := by kernel_rfl
  have hld : loadN ([.mix (eRun exR), .mix [.p .nilsl, .p .nilsl], .mix exG, .mix fault0, .mix (exRule wAll)] : Store) 12 (.ptr 4 0) = some (exRule wAll) := by kernel_rfl
  have n5' : store PP 0 88 (.ptr 5 0) (.agg fault1) [.mix (eRun exR), .mix [.p .nilsl, .p .nilsl], .mix exG, .mix fault0, .mix (exRule wAll), .mix [.p (pI 0), .p .nilsl, .p .nilsl, .p .nilsl]] = some awS := by kernel_rfl
  simp only [hst, obind, load84, hld, omap, E45b, ex0, ex1, List.cons_append, List.nil_append, n5', List.length_nil, List.length_cons, Nat.zero_add, Nat.reduceAdd]
  have q1 : load1 (.ptr 3 0) awS = some (.p (pI 0)) := by kernel_rfl
  have q2 : load1 (.ptr 5 0) awS = some (.p (pI 1)) := by kernel_rfl
  have q3 : loadN awS 2 (.ptr 0 0) = some (eRun exR) := by kernel_rfl
  have q4 : load1 (.ptr 2 2) awS = some (.p (.sl false 1 [pI 0, pI 0, pI 0])) := by kernel_rfl
  have hb33 : build PP 33 [(0, .p (.sl true 3 (eInts [0, 1, 1]))), (1, .p (.sl true 2 [pI 1, pI 0, pI 0, pI 1]))] = some (.agg [.p (.sl true 3 (eInts [0, 1, 1])), .p (.sl true 2 [pI 1, pI 0, pI 0, pI 1])]) := bld33 rfl rfl
  simp only [b_lss, b_eql, b_neq, b_leq, b_geq, b_gtr, gG, Int.reduceEq, fa88_0, shift_ptr, Nat.zero_add, load3, q1, q2, load33, q3, bs22_3, bld98a, bld98b, bs31_2, hb33, pureFn_fn, List.append_nil, E18, bs22_2a, bs48_1, E23, fa47_2, load45, q4, len45]
  rfl
theorem awake_true (σ : Store) : pureV CC 10 [] σ = some (.p (.bool true)) := by
  obtain ⟨σ', h⟩ := F10_true
  exact pureV_free rfl rfl (F10_call h) rfl
end Go.D
end
/- What a call's arguments are, as values of D: components, runs, watches. -/
section
set_option linter.unusedVariables false
set_option linter.unusedSimpArgs false
set_option maxRecDepth 100000
namespace Go.D
open Go.ChangeShapes Go.WideShapes Go.ChangeAt Go.RowKit

/-- All cells that can be read. -/
def memOf (W : World) : Mem := fun b o => W.cell? ⟨b, o, none⟩
variable {H : Type} {enc : TypeId × Value → H} {W : World} {base : Nat}

theorem ul3 : PP.underlying 3 = some (.int .i64) := by kernel_rfl
theorem below_of {C : Nat → Nat → Prop} {m : Nat → Prop} {w w' : World} (h : Frm C m w w') (hC : ∀ b o, ¬ C b o) (hm : ∀ b, ¬ m b) : Below w.heap.size w w' := by
  refine ⟨h.os, h.tape, h.output, h.size, fun k hk => ?_⟩
  have := h.obj k hk
  rw [Array.getElem?_eq_getElem hk] at this ⊢
  cases ho : w.heap[k] with
  | cells c e f =>
    rw [ho] at this
    cases hx : w'.heap[k]? with
    | none => rw [hx] at this; simp [ObjKept] at this
    | some o =>
      rw [hx] at this
      cases o with
      | cells c' e' f' =>
        obtain ⟨h1, h2, h3, h4⟩ := this
        subst h1; subst h2
        have : c' = c := Array.ext_getElem? fun i => by rw [h4 i (hC k i)]
        rw [this]
      | _ => simp [ObjKept] at this
  | map es c =>
    rw [ho] at this
    cases hx : w'.heap[k]? with
    | none => rw [hx] at this; simp [ObjKept] at this
    | some o =>
      rw [hx] at this
      cases o with
      | map es' c' =>
        rcases this with h1 | ⟨h1, h2⟩
        · exact absurd h1 (hm k)
        · rw [h1, h2]
      | _ => simp [ObjKept] at this
  | _ =>
    rw [ho] at this
    cases hx : w'.heap[k]? with
    | none => rw [hx] at this; simp [ObjKept] at this
    | some o => rw [hx] at this; cases o <;> simp [ObjKept] at this <;> simp_all
end Go.D
end
/- From what D answers to what the program answers in any world. -/
section
set_option linter.unusedVariables false
set_option linter.unusedSimpArgs false
set_option maxRecDepth 100000
namespace Go.D
open Go.ChangeShapes Go.WideShapes Go.ChangeAt Go.RowKit

theorem mixed_ok : PP.follows .mixedOrders = true := by kernel_rfl
theorem seqs_ok : ∀ g f kind, (pol g).seq f = some kind → SeqOk PP f kind := by
  intro g f kind h
  have h1 : (pol g).seq = fun _ => none := by
    unfold pol
    split <;> rfl
  rw [h1] at h
  exact absurd h (by simp)
/-- What D answers at the empty store, the program answers in any world. -/
theorem calls_of {f : FuncId} {args : List DV} {σ' : Store} {b : Bool} (h : CC 0 f args [] = some (.p (.bool b), σ')) {W : World} {vs : Array Value} (hv : Vals (fun _ _ => none) (memOf W) args vs) :
    Calls PP f vs W fun e W' => e = .returned (.bool b) ∧ Below W.heap.size W W' := by
  obtain ⟨k, hk⟩ := lim_some h
  have hs : SRel [] (fun _ _ => none) (memOf W) W := srel_bare fun b o v h => h
  obtain ⟨_, hc⟩ := callK_ok mixed_ok seqs_ok k _ _ _ _ _ _ (hk k (Nat.le_refl _)) (Nat.zero_le _) _ _ _ _ hs hv
  have hw := callsIn_wide.1 (hc Fence.wide 0 Free.wide)
  refine hw.mono ?_
  rintro e W' ⟨v', rfl, L', M', hp, hr⟩
  refine ⟨by rw [bool_of hr], below_of hp.frm ?_ ?_⟩
  · rintro b o ⟨r, row, l, _, ⟨h, _⟩, _⟩
    exact absurd h (by simp)
  · rintro b ⟨r, es, l, _, ⟨h, _⟩, _⟩
    exact absurd h (by simp)
theorem own_ok : ownKnob PP.godebug = none := by kernel_rfl
theorem laidOut_ok : laidOutB PP = true := by kernel_rfl
theorem ul4 : PP.underlying 4 = some .bool := by kernel_rfl
/-- The awake call. -/
def Awake : Prop := ∀ σ, pureV CC 10 [] σ = some (.p (.bool true))
end Go.D
end
/- Equations of functions 13, 53, 103, 104, 105, 99, 18, 27, 62, 63, 64, 3, printed by gen.py. -/
section
set_option linter.unusedVariables false
set_option maxRecDepth 10000
namespace Go.D
open _root_.Go.D.Code (fstC sndC)
open _root_.Go.D.Ann (left right)
noncomputable def c53_0 : Code := bodyOf Go.Proofs.Try.f53
noncomputable def a53_0 : Ann := (pol 53).ann
noncomputable def a53_7 : Ann := right (left (right (right a53_0)))
noncomputable def a53_8 : Ann := left a53_7
noncomputable def c53_9 : Code := fstC (fstC (sndC (fstC (sndC (sndC c53_0)))))
noncomputable def c53_21 : Code := sndC (sndC (sndC c53_0))
noncomputable def a53_21 : Ann := right (right (right a53_0))
noncomputable def a53_36 : Ann := right (left (right (right (right a53_21))))
noncomputable def a53_37 : Ann := left a53_36
noncomputable def c53_38 : Code := fstC (fstC (sndC (fstC (sndC (sndC (sndC c53_21))))))
noncomputable def c53_50 : Code := sndC (sndC (sndC (sndC c53_21)))
noncomputable def a53_50 : Ann := right (right (right (right a53_21)))
noncomputable def f53_L0 (G : GuardT) (lo : Nat) (x3 x4 x5 x6 x8 x15 x16 x17 : DV) (σ : Store) : Option (DV × Store) :=
 codeF G PP (pol 53) CC lo (.loop c53_9) a53_8 [Z, Z, Z, x3, x4, x5, x6, Z, x8, Z, Z, Z, Z, Z, Z, x15, x16, x17, Z, Z, Z, Z, Z, Z, Z, Z, Z, Z, Z, Z, Z, Z, Z, Z, Z, Z, Z, Z, Z, Z, Z, Z, Z, Z, Z, Z, Z, Z, Z, Z, Z, Z, Z, Z, Z, Z, Z, Z, Z, Z, Z, Z, Z, Z, Z, Z, Z, Z, Z, Z, Z, Z, Z, Z, Z, Z, Z, Z] σ
 (blockC 0 a53_7 (seqC G PP (pol 53) CC lo c53_21 a53_21 (finR PP Go.Proofs.Try.f53.results.toList)))
noncomputable def f53_L1 (G : GuardT) (lo : Nat) (x3 x6 x11 x12 x13 : DV) (σ : Store) : Option (DV × Store) :=
 codeF G PP (pol 53) CC lo (.loop c53_38) a53_37 [Z, Z, Z, x3, Z, Z, x6, Z, Z, Z, Z, x11, x12, x13, Z, Z, Z, Z, Z, Z, Z, Z, Z, Z, Z, Z, Z, Z, Z, Z, Z, Z, Z, Z, Z, Z, Z, Z, Z, Z, Z, Z, Z, Z, Z, Z, Z, Z, Z, Z, Z, Z, Z, Z, Z, Z, Z, Z, Z, Z, Z, Z, Z, Z, Z, Z, Z, Z, Z, Z, Z, Z, Z, Z, Z, Z, Z, Z] σ
 (blockC 2 a53_36 (seqC G PP (pol 53) CC lo c53_50 a53_50 (finR PP Go.Proofs.Try.f53.results.toList)))
noncomputable def F53 (G : GuardT) (lo : Nat) (x0 x1 x2 : DV) (σ : Store) : Option (DV × Store) :=
 codeF G PP (pol 53) CC lo c53_0 a53_0 [x0, x1, x2, Z, Z, Z, Z, Z, Z, Z, Z, Z, Z, Z, Z, Z, Z, Z, Z, Z, Z, Z, Z, Z, Z, Z, Z, Z, Z, Z, Z, Z, Z, Z, Z, Z, Z, Z, Z, Z, Z, Z, Z, Z, Z, Z, Z, Z, Z, Z, Z, Z, Z, Z, Z, Z, Z, Z, Z, Z, Z, Z, Z, Z, Z, Z, Z, Z, Z, Z, Z, Z, Z, Z, Z, Z, Z, Z] σ (finR PP Go.Proofs.Try.f53.results.toList)
theorem f53_L0_eq (G : GuardT) (hG : GuardOk G) (lo : Nat) (x3 x4 x5 x6 x8 x15 x16 x17 : DV) (σ : Store) : f53_L0 G lo x3 x4 x5 x6 x8 x15 x16 x17 σ =
 (binOp PP .lss 3 x17 x16).bind fun x18 =>
 condK x18
 (
 (indexAddr PP 22 x15 x17).bind fun x19 =>
 (load PP 3 x19 σ).bind fun x20 =>
 (build PP 163 [(0, x20)]).bind fun x23 =>
 (buildSlice PP none 22 1 [(0, x20)] σ).bind fun r25_1 =>
 (build PP 165 [(0, x23), (1, r25_1.1)]).bind fun x26 =>
 (buildSlice PP none 161 1 [(0, x26)] r25_1.2).bind fun r27_2 =>
 (append PP lo false 161 161 x8 r27_2.1 r27_2.2).bind fun r28_3 =>
 (binOp PP .add 3 x17 (DV.p (PV.int IntKind.i64 (1)))).bind fun x29 =>
 f53_L0 G lo x3 x4 x5 x6 r28_3.1 x15 x16 x29 r28_3.2
 )
 (
 (pureFn CC (DV.fn 103 []) [x8, (DV.fn 104 [x3, x5, x4])] σ).bind fun x32 =>
 (binOp PP .eql 22 x32 (DV.p PV.nilsl)).bind fun x34 =>
 condK x34
 (
 (build PP 33 []).bind fun x35 =>
 (store PP lo 33 x6 x35 σ).bind fun σ4 =>
 (cellV PP 33 x6 σ4).bind fun v0 =>
 some ((DV.tuple [v0, (DV.p (PV.bool false))]), σ4)
 )
 (
 (sliceOp PP 22 x32 none (some (DV.p (PV.int IntKind.i64 (1)))) (some (DV.p (PV.int IntKind.i64 (1))))).bind fun x37 =>
 (build PP 33 [(0, x37)]).bind fun x38 =>
 (zeroOf PP 33).bind fun z12 =>
 (store PP lo 33 (DV.ptr (List.length σ) 0) x38 (σ ++ [Row.mix z12])).bind fun σ5 =>
 f53_L1 G lo x3 x6 x32 (DV.ptr (List.length σ) 0) (DV.p (PV.int IntKind.i64 (1))) σ5
 )
 ) := (loopF_eq G hG).trans (by kernel_rfl)
theorem f53_L1_eq (G : GuardT) (hG : GuardOk G) (lo : Nat) (x3 x6 x11 x12 x13 : DV) (σ : Store) : f53_L1 G lo x3 x6 x11 x12 x13 σ =
 (len PP 22 x11 σ).bind fun x41 =>
 (binOp PP .lss 3 x13 x41).bind fun x42 =>
 condK x42
 (
 (fieldAddr PP 33 x12 1).bind fun x45 =>
 (load PP 31 x45 σ).bind fun x46 =>
 (indexAddr PP 22 x11 x13).bind fun x49 =>
 (load PP 3 x49 σ).bind fun x50 =>
 (fieldAddr PP 25 x3 2).bind fun x51 =>
 (load PP 22 x51 σ).bind fun x52 =>
 (fieldAddr PP 33 x12 0).bind fun x53 =>
 (load PP 22 x53 σ).bind fun x54 =>
 (fieldAddr PP 33 x12 0).bind fun x55 =>
 (load PP 22 x55 σ).bind fun x56 =>
 (len PP 22 x56 σ).bind fun x57 =>
 (binOp PP .sub 3 x57 (DV.p (PV.int IntKind.i64 (1)))).bind fun x58 =>
 (indexAddr PP 22 x54 x58).bind fun x59 =>
 (load PP 3 x59 σ).bind fun x60 =>
 (indexAddr PP 22 x52 x60).bind fun x61 =>
 (load PP 3 x61 σ).bind fun x62 =>
 (build PP 98 [(0, x50), (1, x62)]).bind fun x63 =>
 (buildSlice PP none 31 1 [(0, x63)] σ).bind fun r64_6 =>
 (append PP lo false 31 31 x46 r64_6.1 r64_6.2).bind fun r65_7 =>
 (fieldAddr PP 33 x12 1).bind fun x66 =>
 (store PP lo 31 x66 r65_7.1 r65_7.2).bind fun σ8 =>
 (fieldAddr PP 33 x12 0).bind fun x67 =>
 (load PP 22 x67 σ8).bind fun x68 =>
 (binOp PP .add 3 x13 (DV.p (PV.int IntKind.i64 (1)))).bind fun x71 =>
 (indexAddr PP 22 x11 x71).bind fun x72 =>
 (load PP 3 x72 σ8).bind fun x73 =>
 (buildSlice PP none 22 1 [(0, x73)] σ8).bind fun r74_9 =>
 (append PP lo false 22 22 x68 r74_9.1 r74_9.2).bind fun r75_10 =>
 (fieldAddr PP 33 x12 0).bind fun x76 =>
 (store PP lo 22 x76 r75_10.1 r75_10.2).bind fun σ11 =>
 (binOp PP .add 3 x13 (DV.p (PV.int IntKind.i64 (2)))).bind fun x44 =>
 f53_L1 G lo x3 x6 x11 x12 x44 σ11
 )
 (
 (load PP 33 x12 σ).bind fun x77 =>
 (store PP lo 33 x6 x77 σ).bind fun σ12 =>
 (cellV PP 33 x6 σ12).bind fun v0 =>
 some ((DV.tuple [v0, (DV.p (PV.bool true))]), σ12)
 ) := (loopF_eq G hG).trans (by kernel_rfl)
theorem F53_eq (G : GuardT) (lo : Nat) (x0 x1 x2 : DV) (σ : Store) : F53 G lo x0 x1 x2 σ =
 (boxV x0).bind fun z3 =>
 (boxV x1).bind fun z4 =>
 (boxV x2).bind fun z5 =>
 (zeroOf PP 33).bind fun z6 =>
 (fieldAddr PP 25 (DV.ptr (List.length σ) 0) 1).bind fun x14 =>
 (load PP 22 x14 ((((σ ++ [Row.mix z3]) ++ [Row.mix z4]) ++ [Row.mix z5]) ++ [Row.mix z6])).bind fun x15 =>
 (len PP 22 x15 ((((σ ++ [Row.mix z3]) ++ [Row.mix z4]) ++ [Row.mix z5]) ++ [Row.mix z6])).bind fun x16 =>
 f53_L0 G lo (DV.ptr (List.length σ) 0) (DV.ptr (List.length (σ ++ [Row.mix z3])) 0) (DV.ptr (List.length ((σ ++ [Row.mix z3]) ++ [Row.mix z4])) 0) (DV.ptr (List.length (((σ ++ [Row.mix z3]) ++ [Row.mix z4]) ++ [Row.mix z5])) 0) (DV.p PV.nilsl) x15 x16 (DV.p (PV.int IntKind.i64 (0))) ((((σ ++ [Row.mix z3]) ++ [Row.mix z4]) ++ [Row.mix z5]) ++ [Row.mix z6]) := by kernel_rfl
theorem F53_call {lo : Nat} {x0 x1 x2 : DV} {σ : Store} {r : DV × Store} (h : F53 guardT lo x0 x1 x2 σ = some r) : CC lo 53 [x0, x1, x2] σ = some r :=
 callL_run Go.Proofs.Try.func53 (by decide +kernel) rfl (by decide +kernel) h
noncomputable def c103_0 : Code := bodyOf Go.Proofs.Try.f103
noncomputable def a103_0 : Ann := (pol 103).ann
noncomputable def a103_7 : Ann := right (left (right (right a103_0)))
noncomputable def a103_8 : Ann := left a103_7
noncomputable def c103_9 : Code := fstC (fstC (sndC (fstC (sndC (sndC c103_0)))))
noncomputable def c103_21 : Code := sndC (sndC (sndC c103_0))
noncomputable def a103_21 : Ann := right (right (right a103_0))
noncomputable def a103_22 : Ann := left a103_21
noncomputable def a103_23 : Ann := left a103_22
noncomputable def c103_24 : Code := fstC (fstC (fstC c103_21))
noncomputable def a103_30 : Ann := right (left a103_23)
noncomputable def a103_37 : Ann := right (right (right (left a103_30)))
noncomputable def a103_38 : Ann := left a103_37
noncomputable def c103_39 : Code := fstC (fstC (sndC (sndC (sndC (fstC (sndC c103_24))))))
noncomputable def c103_59 : Code := sndC c103_21
noncomputable def a103_59 : Ann := right a103_21
noncomputable def f103_L0 (G : GuardT) (lo : Nat) (x1 x5 x15 x16 x17 : DV) (σ : Store) : Option (DV × Store) :=
 codeF G PP (pol 103) CC lo (.loop c103_9) a103_8 [Z, x1, Z, Z, Z, x5, Z, Z, Z, Z, Z, Z, Z, Z, Z, x15, x16, x17, Z, Z, Z, Z, Z, Z, Z, Z, Z, Z, Z, Z, Z, Z, Z, Z, Z, Z, Z, Z, Z, Z, Z, Z, Z, Z, Z, Z, Z, Z, Z, Z, Z, Z, Z, Z, Z] σ
 (blockC 0 a103_7 (seqC G PP (pol 103) CC lo c103_21 a103_21 (finR PP Go.Proofs.Try.f103.results.toList)))
noncomputable def f103_L1 (G : GuardT) (lo : Nat) (x1 x5 : DV) (σ : Store) : Option (DV × Store) :=
 codeF G PP (pol 103) CC lo (.loop c103_24) a103_23 [Z, x1, Z, Z, Z, x5, Z, Z, Z, Z, Z, Z, Z, Z, Z, Z, Z, Z, Z, Z, Z, Z, Z, Z, Z, Z, Z, Z, Z, Z, Z, Z, Z, Z, Z, Z, Z, Z, Z, Z, Z, Z, Z, Z, Z, Z, Z, Z, Z, Z, Z, Z, Z, Z, Z] σ
 (blockC 2 a103_22 (seqC G PP (pol 103) CC lo c103_59 a103_59 (finR PP Go.Proofs.Try.f103.results.toList)))
noncomputable def f103_L2 (G : GuardT) (lo : Nat) (x1 x5 x41 x42 x43 : DV) (σ : Store) : Option (DV × Store) :=
 codeF G PP (pol 103) CC lo (.loop c103_39) a103_38 [Z, x1, Z, Z, Z, x5, Z, Z, Z, Z, Z, Z, Z, Z, Z, Z, Z, Z, Z, Z, Z, Z, Z, Z, Z, Z, Z, Z, Z, Z, Z, Z, Z, Z, Z, Z, Z, Z, Z, Z, Z, x41, x42, x43, Z, Z, Z, Z, Z, Z, Z, Z, Z, Z, Z] σ
 (blockC 4 a103_37 (blockC 3 a103_30 (loopC G PP (pol 103) CC lo c103_24 a103_23 (blockC 2 a103_22 (seqC G PP (pol 103) CC lo c103_59 a103_59 (finR PP Go.Proofs.Try.f103.results.toList))))))
noncomputable def F103 (G : GuardT) (lo : Nat) (x0 x1 : DV) (σ : Store) : Option (DV × Store) :=
 codeF G PP (pol 103) CC lo c103_0 a103_0 [x0, x1, Z, Z, Z, Z, Z, Z, Z, Z, Z, Z, Z, Z, Z, Z, Z, Z, Z, Z, Z, Z, Z, Z, Z, Z, Z, Z, Z, Z, Z, Z, Z, Z, Z, Z, Z, Z, Z, Z, Z, Z, Z, Z, Z, Z, Z, Z, Z, Z, Z, Z, Z, Z, Z] σ (finR PP Go.Proofs.Try.f103.results.toList)
theorem f103_L0_eq (G : GuardT) (hG : GuardOk G) (lo : Nat) (x1 x5 x15 x16 x17 : DV) (σ : Store) : f103_L0 G lo x1 x5 x15 x16 x17 σ =
 (binOp PP .lss 3 x17 x16).bind fun x18 =>
 condK x18
 (
 (indexAddr PP 161 x15 x17).bind fun x19 =>
 (load PP 165 x19 σ).bind fun x20 =>
 (zeroOf PP 165).bind fun z7 =>
 (store PP lo 165 (DV.ptr (List.length σ) 0) x20 (σ ++ [Row.mix z7])).bind fun σ1 =>
 (fieldAddr PP 165 (DV.ptr (List.length σ) 0) 0).bind fun x22 =>
 (load PP 163 x22 σ1).bind fun x23 =>
 (fieldAddr PP 165 (DV.ptr (List.length σ) 0) 1).bind fun x24 =>
 (load PP 22 x24 σ1).bind fun x25 =>
 (plainFn CC lo (DV.fn 105 []) [x5, x23, x25] σ1).bind fun r26_2 =>
 (binOp PP .add 3 x17 (DV.p (PV.int IntKind.i64 (1)))).bind fun x27 =>
 f103_L0 G lo x1 x5 x15 x16 x27 r26_2.2
 )
 (
 f103_L1 G lo x1 x5 σ
 ) := (loopF_eq G hG).trans (by kernel_rfl)
theorem f103_L1_eq (G : GuardT) (hG : GuardOk G) (lo : Nat) (x1 x5 : DV) (σ : Store) : f103_L1 G lo x1 x5 σ =
 (nilCheckV x5).bind fun x29 =>
 (fieldAddr PP 199 x29 1).bind fun x30 =>
 (load PP 161 x30 σ).bind fun x31 =>
 (len PP 161 x31 σ).bind fun x32 =>
 (binOp PP .gtr 3 x32 (DV.p (PV.int IntKind.i64 (0)))).bind fun x33 =>
 condK x33
 (
 (nilCheckV x5).bind fun x35 =>
 (fieldAddr PP 199 x35 1).bind fun x36 =>
 (load PP 161 x36 σ).bind fun x37 =>
 (nilCheckV x5).bind fun x39 =>
 (fieldAddr PP 199 x39 1).bind fun x40 =>
 (store PP lo 161 x40 (DV.p PV.nilsl) σ).bind fun σ3 =>
 (len PP 161 x37 σ3).bind fun x42 =>
 f103_L2 G lo x1 x5 x37 x42 (DV.p (PV.int IntKind.i64 (0))) σ3
 )
 (
 some ((DV.p PV.nilsl), σ)
 ) := (loopF_eq G hG).trans (by kernel_rfl)
theorem f103_L2_eq (G : GuardT) (hG : GuardOk G) (lo : Nat) (x1 x5 x41 x42 x43 : DV) (σ : Store) : f103_L2 G lo x1 x5 x41 x42 x43 σ =
 (binOp PP .lss 3 x43 x42).bind fun x44 =>
 condK x44
 (
 (indexAddr PP 161 x41 x43).bind fun x45 =>
 (load PP 165 x45 σ).bind fun x46 =>
 (zeroOf PP 165).bind fun z10 =>
 (store PP lo 165 (DV.ptr (List.length σ) 0) x46 (σ ++ [Row.mix z10])).bind fun σ4 =>
 (load PP 165 (DV.ptr (List.length σ) 0) σ4).bind fun x49 =>
 (plainFn CC lo x1 [x5, x49] σ4).bind fun r50_5 =>
 (binOp PP .neq 22 r50_5.1 (DV.p PV.nilsl)).bind fun x52 =>
 condK x52
 (
 some (r50_5.1, r50_5.2)
 )
 (
 (binOp PP .add 3 x43 (DV.p (PV.int IntKind.i64 (1)))).bind fun x54 =>
 f103_L2 G lo x1 x5 x41 x42 x54 r50_5.2
 )
 )
 (
 f103_L1 G lo x1 x5 σ
 ) := (loopF_eq G hG).trans (by kernel_rfl)
theorem F103_eq (G : GuardT) (lo : Nat) (x0 x1 : DV) (σ : Store) : F103 G lo x0 x1 σ =
 (build PP 199 [(0, (DV.map (List.length σ)))]).bind fun x13 =>
 (boxV x13).bind fun z14 =>
 (len PP 161 x0 ((σ ++ [Row.map []]) ++ [Row.mix z14])).bind fun x16 =>
 f103_L0 G lo x1 (DV.ptr (List.length (σ ++ [Row.map []])) 0) x0 x16 (DV.p (PV.int IntKind.i64 (0))) ((σ ++ [Row.map []]) ++ [Row.mix z14]) := by kernel_rfl
theorem F103_call {lo : Nat} {x0 x1 : DV} {σ : Store} {r : DV × Store} (h : F103 guardT lo x0 x1 σ = some r) : CC lo 103 [x0, x1] σ = some r :=
 callL_run Go.Proofs.Try.func103 (by decide +kernel) rfl (by decide +kernel) h
noncomputable def c104_0 : Code := bodyOf Go.Proofs.Try.f104
noncomputable def a104_0 : Ann := (pol 104).ann
noncomputable def a104_5 : Ann := right (left (right a104_0))
noncomputable def a104_6 : Ann := left a104_5
noncomputable def c104_7 : Code := fstC (fstC (sndC (fstC (sndC c104_0))))
noncomputable def c104_44 : Code := sndC (sndC (sndC c104_7))
noncomputable def a104_44 : Ann := right (right (right (left a104_6)))
noncomputable def c104_45 : Code := sndC (sndC c104_0)
noncomputable def a104_45 : Ann := right (right a104_0)
noncomputable def f104_L0 (G : GuardT) (lo : Nat) (x0 x2 x3 x4 x6 x15 x16 x17 : DV) (σ : Store) : Option (DV × Store) :=
 codeF G PP (pol 104) CC lo (.loop c104_7) a104_6 [x0, Z, x2, x3, x4, Z, x6, Z, Z, Z, Z, Z, Z, Z, Z, x15, x16, x17, Z, Z, Z, Z, Z, Z, Z, Z, Z, Z, Z, Z, Z, Z, Z, Z, Z, Z, Z, Z, Z, Z, Z, Z, Z, Z, Z, Z, Z, Z, Z, Z, Z, Z, Z, Z, Z, Z, Z, Z, Z, Z, Z, Z, Z, Z, Z, Z, Z, Z, Z, Z, Z] σ
 (blockC 0 a104_5 (seqC G PP (pol 104) CC lo c104_45 a104_45 (finR PP Go.Proofs.Try.f104.results.toList)))
def f104_J0_fr (x0 x2 x3 x4 x6 x15 x16 x17 : DV) : Frame := [x0, Z, x2, x3, x4, Z, x6, Z, Z, Z, Z, Z, Z, Z, Z, x15, x16, x17, Z, Z, Z, Z, Z, Z, Z, Z, Z, Z, Z, Z, Z, Z, Z, Z, Z, Z, Z, Z, Z, Z, Z, Z, Z, Z, Z, Z, Z, Z, Z, Z, Z, Z, Z, Z, Z, Z, Z, Z, Z, Z, Z, Z, Z, Z, Z, Z, Z, Z, Z, Z, Z]
noncomputable def f104_J0 (G : GuardT) (lo : Nat) (x0 x2 x3 x4 x6 x15 x16 x17 : DV) (σ : Store) : Option (DV × Store) :=
 (seqC G PP (pol 104) CC lo c104_44 a104_44 (loopC G PP (pol 104) CC lo c104_7 a104_6 (blockC 0 a104_5 (seqC G PP (pol 104) CC lo c104_45 a104_45 (finR PP Go.Proofs.Try.f104.results.toList))))) .normal (f104_J0_fr x0 x2 x3 x4 x6 x15 x16 x17) σ
noncomputable def F104 (G : GuardT) (lo : Nat) (x0 x1 x2 x3 x4 : DV) (σ : Store) : Option (DV × Store) :=
 codeF G PP (pol 104) CC lo c104_0 a104_0 [x0, x1, x2, x3, x4, Z, Z, Z, Z, Z, Z, Z, Z, Z, Z, Z, Z, Z, Z, Z, Z, Z, Z, Z, Z, Z, Z, Z, Z, Z, Z, Z, Z, Z, Z, Z, Z, Z, Z, Z, Z, Z, Z, Z, Z, Z, Z, Z, Z, Z, Z, Z, Z, Z, Z, Z, Z, Z, Z, Z, Z, Z, Z, Z, Z, Z, Z, Z, Z, Z, Z] σ (finR PP Go.Proofs.Try.f104.results.toList)
theorem f104_L0_eq (G : GuardT) (hG : GuardOk G) (lo : Nat) (x0 x2 x3 x4 x6 x15 x16 x17 : DV) (σ : Store) : f104_L0 G lo x0 x2 x3 x4 x6 x15 x16 x17 σ =
 (binOp PP .lss 3 x17 x16).bind fun x18 =>
 condK x18
 (
 (indexAddr PP 23 x15 x17).bind fun x19 =>
 (load PP 106 x19 σ).bind fun x20 =>
 (zeroOf PP 106).bind fun z9 =>
 (store PP lo 106 (DV.ptr (List.length σ) 0) x20 (σ ++ [Row.mix z9])).bind fun σ1 =>
 (fieldAddr PP 106 (DV.ptr (List.length σ) 0) 0).bind fun x21 =>
 (load PP 3 x21 σ1).bind fun x22 =>
 (fieldAddr PP 165 x6 0).bind fun x23 =>
 (fieldAddr PP 163 x23 0).bind fun x24 =>
 (load PP 3 x24 σ1).bind fun x25 =>
 (binOp PP .neq 3 x22 x25).bind fun x26 =>
 condK x26
 (
 f104_J0 G lo x0 x2 x3 x4 x6 x15 x16 x17 σ1
 )
 (
 (fieldAddr PP 106 (DV.ptr (List.length σ) 0) 1).bind fun x27 =>
 (load PP 3 x27 σ1).bind fun x28 =>
 (fieldAddr PP 25 x2 2).bind fun x29 =>
 (load PP 22 x29 σ1).bind fun x30 =>
 (fieldAddr PP 106 (DV.ptr (List.length σ) 0) 0).bind fun x31 =>
 (load PP 3 x31 σ1).bind fun x32 =>
 (indexAddr PP 22 x30 x32).bind fun x33 =>
 (load PP 3 x33 σ1).bind fun x34 =>
 (build PP 98 [(0, x28), (1, x34)]).bind fun x35 =>
 (zeroOf PP 98).bind fun z10 =>
 (store PP lo 98 (DV.ptr (List.length σ1) 0) x35 (σ1 ++ [Row.mix z10])).bind fun σ2 =>
 (fieldAddr PP 165 x6 1).bind fun x36 =>
 (load PP 22 x36 σ2).bind fun x37 =>
 (plainFn CC (List.length σ2) (DV.fn 99 []) [x37] σ2).bind fun r38_3 =>
 (fieldAddr PP 106 (DV.ptr (List.length σ) 0) 1).bind fun x39 =>
 (load PP 3 x39 r38_3.2).bind fun x40 =>
 (fieldAddr PP 106 (DV.ptr (List.length σ) 0) 2).bind fun x41 =>
 (load PP 3 x41 r38_3.2).bind fun x42 =>
 (buildSlice PP none 22 2 [(0, x40), (1, x42)] r38_3.2).bind fun r43_4 =>
 (append PP lo false 22 22 r38_3.1 r43_4.1 r43_4.2).bind fun r44_5 =>
 (load PP 27 x3 r44_5.2).bind fun x45 =>
 (fieldAddr PP 165 x6 0).bind fun x46 =>
 (fieldAddr PP 163 x46 2).bind fun x47 =>
 (load PP 3 x47 r44_5.2).bind fun x48 =>
 (load PP 98 (DV.ptr (List.length σ1) 0) r44_5.2).bind fun x49 =>
 (pureFn CC (DV.fn 94 []) [x45, x48, x49] r44_5.2).bind fun x50 =>
 (binOp PP .eql 3 x50 (DV.p (PV.int IntKind.i64 (-1)))).bind fun x52 =>
 condK x52
 (
 some (r44_5.1, r44_5.2)
 )
 (
 (load PP 27 x4 r44_5.2).bind fun x54 =>
 (fieldAddr PP 165 x6 0).bind fun x55 =>
 (fieldAddr PP 163 x55 1).bind fun x56 =>
 (load PP 3 x56 r44_5.2).bind fun x57 =>
 (load PP 98 (DV.ptr (List.length σ1) 0) r44_5.2).bind fun x58 =>
 (pureFn CC (DV.fn 94 []) [x54, x57, x58] r44_5.2).bind fun x59 =>
 (binOp PP .neq 3 x59 (DV.p (PV.int IntKind.i64 (-1)))).bind fun x61 =>
 condK x61
 (
 (fieldAddr PP 106 (DV.ptr (List.length σ) 0) 2).bind fun x63 =>
 (load PP 3 x63 r44_5.2).bind fun x64 =>
 (build PP 163 [(0, x64), (1, x59), (2, x50)]).bind fun x67 =>
 (plainFn CC lo (DV.fn 105 []) [x0, x67, r44_5.1] r44_5.2).bind fun r69_6 =>
 f104_J0 G lo x0 x2 x3 x4 x6 x15 x16 x17 r69_6.2
 )
 (
 f104_J0 G lo x0 x2 x3 x4 x6 x15 x16 x17 r44_5.2
 )
 )
 )
 )
 (
 some ((DV.p PV.nilsl), σ)
 ) := (loopF_eq G hG).trans (by kernel_rfl)
theorem f104_J0_eq (G : GuardT) (lo : Nat) (x0 x2 x3 x4 x6 x15 x16 x17 : DV) (σ : Store) : f104_J0 G lo x0 x2 x3 x4 x6 x15 x16 x17 σ =
 (binOp PP .add 3 x17 (DV.p (PV.int IntKind.i64 (1)))).bind fun x70 =>
 f104_L0 G lo x0 x2 x3 x4 x6 x15 x16 x70 σ := by kernel_rfl
theorem F104_eq (G : GuardT) (lo : Nat) (x0 x1 x2 x3 x4 : DV) (σ : Store) : F104 G lo x0 x1 x2 x3 x4 σ =
 (boxV x1).bind fun z6 =>
 (fieldAddr PP 25 x2 3).bind fun x14 =>
 (load PP 23 x14 (σ ++ [Row.mix z6])).bind fun x15 =>
 (len PP 23 x15 (σ ++ [Row.mix z6])).bind fun x16 =>
 f104_L0 G lo x0 x2 x3 x4 (DV.ptr (List.length σ) 0) x15 x16 (DV.p (PV.int IntKind.i64 (0))) (σ ++ [Row.mix z6]) := by kernel_rfl
theorem F104_call {lo : Nat} {x0 x1 x2 x3 x4 : DV} {σ : Store} {r : DV × Store} (h : F104 guardT lo x0 x1 x2 x3 x4 σ = some r) : CC lo 104 [x0, x1, x2, x3, x4] σ = some r :=
 callL_run Go.Proofs.Try.func104 (by decide +kernel) rfl (by decide +kernel) h
noncomputable def c105_0 : Code := bodyOf Go.Proofs.Try.f105
noncomputable def a105_0 : Ann := (pol 105).ann
noncomputable def F105 (G : GuardT) (lo : Nat) (x0 x1 x2 : DV) (σ : Store) : Option (DV × Store) :=
 codeF G PP (pol 105) CC lo c105_0 a105_0 [x0, x1, x2, Z, Z, Z, Z, Z, Z, Z, Z, Z, Z, Z, Z, Z, Z, Z, Z, Z, Z, Z, Z, Z, Z, Z, Z, Z, Z, Z] σ (finR PP Go.Proofs.Try.f105.results.toList)
theorem F105_eq (G : GuardT) (lo : Nat) (x0 x1 x2 : DV) (σ : Store) : F105 G lo x0 x1 x2 σ =
 (boxV x1).bind fun z4 =>
 (nilCheckV x0).bind fun x7 =>
 (fieldAddr PP 199 x7 0).bind fun x8 =>
 (load PP 197 x8 (σ ++ [Row.mix z4])).bind fun x9 =>
 (load PP 163 (DV.ptr (List.length σ) 0) (σ ++ [Row.mix z4])).bind fun x10 =>
 (lookup PP 197 x9 x10 false (σ ++ [Row.mix z4])).bind fun x11 =>
 (unOp .not x11).bind fun x12 =>
 condK x12
 (
 (nilCheckV x0).bind fun x14 =>
 (fieldAddr PP 199 x14 0).bind fun x15 =>
 (load PP 197 x15 (σ ++ [Row.mix z4])).bind fun x16 =>
 (load PP 163 (DV.ptr (List.length σ) 0) (σ ++ [Row.mix z4])).bind fun x17 =>
 (mapUpdate PP lo 197 x16 x17 (DV.p (PV.bool true)) (σ ++ [Row.mix z4])).bind fun σ1 =>
 (nilCheckV x0).bind fun x20 =>
 (fieldAddr PP 199 x20 1).bind fun x21 =>
 (load PP 161 x21 σ1).bind fun x22 =>
 (load PP 163 (DV.ptr (List.length σ) 0) σ1).bind fun x23 =>
 (build PP 165 [(0, x23), (1, x2)]).bind fun x25 =>
 (buildSlice PP none 161 1 [(0, x25)] σ1).bind fun r26_2 =>
 (append PP lo false 161 161 x22 r26_2.1 r26_2.2).bind fun r27_3 =>
 (nilCheckV x0).bind fun x28 =>
 (fieldAddr PP 199 x28 1).bind fun x29 =>
 (store PP lo 161 x29 r27_3.1 r27_3.2).bind fun σ4 =>
 some ((DV.tuple []), σ4)
 )
 (
 some ((DV.tuple []), (σ ++ [Row.mix z4]))
 ) := by kernel_rfl
theorem F105_call {lo : Nat} {x0 x1 x2 : DV} {σ : Store} {r : DV × Store} (h : F105 guardT lo x0 x1 x2 σ = some r) : CC lo 105 [x0, x1, x2] σ = some r :=
 callL_run Go.Proofs.Try.func105 (by decide +kernel) rfl (by decide +kernel) h
noncomputable def c99_0 : Code := bodyOf Go.Proofs.Try.f99
noncomputable def a99_0 : Ann := (pol 99).ann
noncomputable def F99 (G : GuardT) (lo : Nat) (x0 : DV) (σ : Store) : Option (DV × Store) :=
 codeF G PP (pol 99) CC lo c99_0 a99_0 [x0, Z, Z, Z, Z, Z, Z, Z] σ (finR PP Go.Proofs.Try.f99.results.toList)
theorem F99_eq (G : GuardT) (lo : Nat) (x0 : DV) (σ : Store) : F99 G lo x0 σ =
 (binOp PP .eql 22 x0 (DV.p PV.nilsl)).bind fun x4 =>
 condK x4
 (
 some ((DV.p PV.nilsl), σ)
 )
 (
 (buildSlice PP none 22 0 [] σ).bind fun r5_1 =>
 (append PP lo false 22 22 r5_1.1 x0 r5_1.2).bind fun r7_2 =>
 some (r7_2.1, r7_2.2)
 ) := by kernel_rfl
theorem F99_call {lo : Nat} {x0 : DV} {σ : Store} {r : DV × Store} (h : F99 guardT lo x0 σ = some r) : CC lo 99 [x0] σ = some r :=
 callL_run Go.Proofs.Try.func99 (by decide +kernel) rfl (by decide +kernel) h
end Go.D
end
/- Lists side by side, rows of lists, clones: turned from the texts of chapter 21. -/
section
set_option linter.unusedVariables false
set_option linter.unusedSimpArgs false
namespace Go.D
def rowOf : DV → Option Nat
  | .osl r _ _ _ _ => some r
  | _ => none
def Apart (x y : DV) : Prop := ∀ r, rowOf x = some r → rowOf y = some r → False
def Fresh (σ : Store) (x x' : DV) : Prop := ∀ r, rowOf x' = some r → rowOf x = some r ∨ r = σ.length
theorem Apart.symm {x y : DV} (h : Apart x y) : Apart y x := fun r a b => h r b a
theorem Apart.nil (y : DV) : Apart (.p .nilsl) y := fun r a _ => by simp [rowOf] at a
theorem Out.row_lt {σ : Store} {lo sz n : Nat} {cs : List PV} {x : DV} (ho : Out σ lo sz n cs x) {r : Nat} (h : rowOf x = some r) : r < σ.length := by
  rcases ho.2 with ⟨_, rfl⟩ | ⟨_, r', ver, rfl, h3, _⟩
  · simp [rowOf] at h
  · have : r' = r := by simpa [rowOf] using h
    rw [← this]; exact get_lt h3
theorem Apart.fresh {σ : Store} {lo sz n : Nat} {cs : List PV} {x x' y : DV} (h : Apart x y) (hf : Fresh σ x x') (hy : Out σ lo sz n cs y) : Apart x' y := by
  intro r a b
  rcases hf r a with h1 | h1
  · exact h r h1 b
  · have := hy.row_lt b
    omega
theorem Out.other {σ σ' : Store} {lo sz n : Nat} {cs : List PV} {x y : DV} (ho : Out σ lo sz n cs y) (h : Others σ σ' x) (ha : Apart x y) : Out σ' lo sz n cs y := by
  refine ⟨ho.1, ?_⟩
  rcases ho.2 with h1 | ⟨h1, r, ver, rfl, h3, h4⟩
  · exact .inl h1
  · refine .inr ⟨h1, r, ver, rfl, h r _ h3 ?_, h4⟩
    rintro r' ver' sz' n' cs' rfl e
    exact ha r (by rw [e]; rfl) rfl
theorem Out.pushF {σ : Store} {t e lo sz b n : Nat} {z : List DV} {cs vs : List PV} {x : DV} (hs : srcType PP t = true) (hu : PP.underlying t = some (.slice e)) (h1 : size? PP e = some sz) (h2 : bytes? PP e = some b) (h3 : zeroOf PP e = some z)
    (h4 : z.length = sz) (hz : 0 < sz) (hb : 0 < b) (hb2 : b ≤ 1000) (hv : vs.length = sz) (ho : Out σ lo sz n cs x) (hn : n ≤ 10000000) (hlo : lo ≤ σ.length) :
    ∃ x' σ', append PP lo false t t x (.p (.sl true 1 vs)) σ = some (x', σ') ∧ Out σ' lo sz (n + 1) (cs ++ vs) x' ∧ Others σ σ' x ∧ Fresh σ x x' := by
  have hsrc : source σ sz (.p (.sl true 1 vs)) = some (1, vs.map DV.p) := by simp [source, hv]
  have hz0 : ¬ (z.length ≠ sz ∨ sz = 0) := by omega
  obtain ⟨hc, ho⟩ := ho
  rcases ho with ⟨rfl, rfl⟩ | ⟨hn0, r, ver, rfl, hr, hl⟩
  · refine ⟨.osl σ.length 0 sz 1 vs, σ ++ [.tok 0], ?_, ⟨by simp [hc, hv], .inr ⟨by simp, σ.length, 0, ?_, get_snoc, hlo⟩⟩, ?_, ?_⟩
    · have : b ≤ 140737488355328 := by omega
      simp only [append, hs, hu, h1, h2, h3, hz0, hsrc, appNil]
      simp [this, hb, pures_map, h4, hz, Nat.ne_of_gt hz]
    · have : cs = [] := List.length_eq_zero_iff.1 (by simpa using hc)
      rw [this]; simp
    · intro i row hi _
      exact get_old hi
    · intro r h; right; simpa [rowOf] using h.symm
  · refine ⟨.osl r (ver + 1) sz (n + 1) (cs ++ vs), σ.set r (.tok (ver + 1)), ?_, ⟨by simp [hc, hv, Nat.add_mul], .inr ⟨by simp, r, ver + 1, rfl, ?_, hl⟩⟩, ?_, ?_⟩
    · have e1 : (n + 1) * b ≤ 140737488355328 := Nat.le_trans (Nat.mul_le_mul (show n + 1 ≤ 10000001 by omega) hb2) (by decide)
      have e2 : n + 1 ≤ 140737488355328 := by omega
      simp only [append, hs, hu, h1, h2, h3, hz0, hsrc, appTok]
      simp [e1, e2, hb, hc, hl, hr, pures_map, h4, Nat.ne_of_gt hz]
    · rw [List.getElem?_set_self (get_lt hr)]
    · intro i row hi hne
      rw [List.getElem?_set_ne (fun e => hne _ _ _ _ _ rfl e.symm)]
      exact hi
    · intro r' h; left; exact h
theorem dups_one {α : Type} (x : α) : ∀ n, dups [x] n = List.replicate n x
  | 0 => rfl
  | n + 1 => by simp [dups, dups_one x n, List.replicate_succ]
theorem eq22_nn : binOp PP .eql 22 (.p .nilsl) (.p .nilsl) = some (.p (.bool true)) := Eq.trans (by kernel_rfl) rfl
theorem eq22_sl (ex : Bool) (n : Nat) (cs : List PV) : binOp PP .eql 22 (.p (.sl ex n cs)) (.p .nilsl) = some (.p (.bool false)) := Eq.trans (by kernel_rfl) rfl
theorem mk51 {n : Nat} (h : n ≤ 1000) (σ : Store) : makeSlice PP true 48 (.p (pI (n : Nat))) (.p (pI (n : Nat))) σ = some (.rsl σ.length 1 0 n, σ ++ [.mix (List.replicate n (.p .nilsl))]) := by
  have h1 : (n : Int) ≤ 140737488355328 := by omega
  have h2 : 24 * (n : Int) ≤ 140737488355328 := by omega
  simp [makeSlice, u48, s22, bytes22, zero22, h1, h2, newRow, dups_one]
theorem idx48_r {R off n i : Nat} (h : i < n) : indexAddr PP 48 (.rsl R 1 off n) (.p (pI (i : Nat))) = some (.ptr R (off + i)) := by
  have h2 : (0 : Int) ≤ (i : Int) ∧ (i : Int) < (n : Nat) := by omega
  simp [indexAddr, u48, s22, h2, h]
theorem st22m {σ : Store} {r t : Nat} {O : List DV} {v : DV} (h : σ[r]? = some (.mix O)) (ht : t < O.length) (hv : v.one = true) (hc : v.cells = [v]) : store PP 0 22 (.ptr r t) v σ = some (σ.set r (.mix (O.set t v))) := by
  have h1 : t + 1 ≤ O.length := ht
  have h2 : splice O t [v] = O.set t v := by
    unfold splice
    rw [List.set_eq_take_append_cons_drop]
    simp [ht]
  simp [store, s22, hc, storeN, h, hv, h1, h2]
def PC (l : List Int) (v : DV) : Prop := l ≠ [] ∧ (v = .p (.sl true l.length (eInts l)) ∨ ∃ r ver, v = .osl r ver 1 l.length (eInts l))
theorem PC.thaw {l : List Int} {v : DV} (h : PC l v) (d : Nat) (σ : Store) : thawP 0 σ d v = some (eSl (some l)) := by
  rcases h.2 with rfl | ⟨r, ver, rfl⟩ <;> cases d <;> simp [thawP, loosen, loosens_ints, eSl]
theorem PC.source {l : List Int} {v : DV} (h : PC l v) (σ : Store) : Go.D.source σ 1 v = some (l.length, (eInts l).map DV.p) := by
  rcases h.2 with rfl | ⟨r, ver, rfl⟩ <;> simp [Go.D.source, ints_length]
end Go.D
end
/- Watches: errors, copies, what follows a pair. -/
section
set_option linter.unusedVariables false
set_option linter.unusedSimpArgs false
namespace Go.D

abbrev OW := Option (List (Option (List OI)))
def eWt : OW → PV
  | none => .nilsl
  | some l => .sl false l.length (l.map eLs)
theorem u27 : PP.underlying 27 = some (.slice 48) := Eq.trans (by kernel_rfl) rfl
theorem s48 : size? PP 48 = some 1 := Eq.trans (by kernel_rfl) rfl
theorem s27 : size? PP 27 = some 1 := Eq.trans (by kernel_rfl) rfl
theorem bytes48 : bytes? PP 48 = some 24 := Eq.trans (by kernel_rfl) rfl
theorem zero48 : zeroOf PP 48 = some [.p .nilsl] := Eq.trans (by kernel_rfl) rfl
theorem src27 : srcType PP 27 = true := Eq.trans (by kernel_rfl) rfl
theorem load48 (x : DV) (σ : Store) : load PP 48 x σ = load1 x σ := Eq.trans (by kernel_rfl) rfl
theorem load27 (x : DV) (σ : Store) : load PP 27 x σ = load1 x σ := Eq.trans (by kernel_rfl) rfl
theorem bs27_1 (v : PV) (σ : Store) : buildSlice PP none 27 1 [(0, .p v)] σ = some (.p (.sl true 1 [v]), σ) := Eq.trans (by kernel_rfl) rfl
theorem len27 (o : OW) (σ : Store) : len PP 27 (.p (eWt o)) σ = some (.p (.int .i64 ((L o).length : Nat))) := by cases o <;> simp [len, u27, eWt]
theorem idx27 {o : OW} {i : Nat} (h : i < (L o).length) : indexAddr PP 27 (.p (eWt o)) (.p (.int .i64 (i : Nat))) = some (.pptr ((L o).map eLs) i) := by
  cases o with
  | none => simp at h
  | some l =>
    have h2 : (0 : Int) ≤ (i : Int) ∧ (i : Int) < (l.length : Nat) := by simp at h; omega
    simp [indexAddr, u27, s48, eWt, h2]
theorem load1_wt {l : List (Option (List OI))} {i : Nat} (h : i < l.length) (σ : Store) : load1 (.pptr (l.map eLs) i) σ = some (.p (eLs (l.getD i none))) :=
  load1_pptr (by simp [h, List.getD_eq_getElem?_getD]) σ
theorem loosens_wt (l : List (Option (List OI))) : loosens (l.map eLs) = l.map eLs := by
  induction l with
  | nil => rfl
  | cons a l ih => simp only [List.map_cons, loosens, loosen_ls, ih]
theorem loosen_wt (o : OW) : loosen (eWt o) = eWt o := by
  cases o <;> simp [eWt, loosen, loosens_wt]
theorem wt_view (o : OW) : view (.p (eWt o)) = .p (eWt o) := by simp [view, viewCell, loosen_wt]
theorem box_wt (o : OW) : boxV (.p (eWt o)) = some [.p (eWt o)] := rfl
theorem Out.push27 {σ : Store} {lo n : Nat} {cs : List PV} {v : PV} {x : DV} (ho : Out σ lo 1 n cs x) (hn : n ≤ 1000000) (hlo : lo ≤ σ.length) :
    ∃ x' σ', append PP lo false 27 27 x (.p (.sl true 1 [v])) σ = some (x', σ') ∧ Out σ' lo 1 (n + 1) (cs ++ [v]) x' ∧ Others σ σ' x ∧ σ.length ≤ σ'.length :=
  Out.push src27 u27 s48 bytes48 zero48 rfl (by decide) (by decide) (by decide) rfl ho hn hlo
abbrev W3 := List (List (List Int))
def wl (w : OW) : W3 := (L w).map fun r => (L r).map L
def rowsA (w : OW) (s : Nat) : Option (List OI) := (L w).getD s none
def rowA (w : OW) (s i : Nat) : OI := (L (rowsA w s)).getD i none
def cell3 (l : W3) (s i o : Nat) : Int := ((l.getD s []).getD i []).getD o 0
theorem wl_len (w : OW) : (wl w).length = (L w).length := by simp [wl]
theorem wl_rows (w : OW) (s : Nat) : (wl w).getD s [] = (L (rowsA w s)).map L := by
  unfold wl rowsA
  rw [List.getD_eq_getElem?_getD, List.getElem?_map, List.getD_eq_getElem?_getD]
  cases (L w)[s]? <;> rfl
theorem wl_row (w : OW) (s i : Nat) : ((wl w).getD s []).getD i [] = L (rowA w s i) := by
  rw [wl_rows]
  unfold rowA
  rw [List.getD_eq_getElem?_getD, List.getElem?_map, List.getD_eq_getElem?_getD]
  cases (L (rowsA w s))[i]? <;> rfl
theorem wl_cell (w : OW) (s i o : Nat) : cell3 (wl w) s i o = (L (rowA w s i)).getD o 0 := by rw [cell3, wl_row]
def rowsSm (o : Option (List OI)) : Bool := decide ((L o).length ≤ 5) && (L o).all fun r => decide ((L r).length ≤ 5)
def smallW (w : OW) : Bool := decide ((L w).length ≤ 8) && (L w).all rowsSm
structure WSm (w : OW) : Prop where
  n : (L w).length ≤ 8
  r : ∀ s, (L (rowsA w s)).length ≤ 5
  c : ∀ s i, (L (rowA w s i)).length ≤ 5
theorem wsm_of {w : OW} (h : smallW w = true) : WSm w := by
  simp only [smallW, Bool.and_eq_true, decide_eq_true_eq, List.all_eq_true] at h
  have hr : ∀ s, rowsSm (rowsA w s) = true := by
    intro s
    unfold rowsA
    by_cases e : s < (L w).length
    · rw [getD_at none e]; exact h.2 _ (List.getElem_mem e)
    · rw [List.getD_eq_getElem?_getD, List.getElem?_eq_none (by omega)]; rfl
  refine ⟨h.1, fun s => ?_, fun s i => ?_⟩
  · have := hr s
    simp only [rowsSm, Bool.and_eq_true, decide_eq_true_eq] at this
    exact this.1
  · have := hr s
    simp only [rowsSm, Bool.and_eq_true, decide_eq_true_eq, List.all_eq_true] at this
    unfold rowA
    by_cases e : i < (L (rowsA w s)).length
    · rw [getD_at none e]; exact this.2 _ (List.getElem_mem e)
    · rw [List.getD_eq_getElem?_getD, List.getElem?_eq_none (by omega)]; exact Nat.zero_le _
theorem L12_1 {w : OW} {σ : Store} {s lo : Nat} (hs : s < (L w).length) (hs8 : s ≤ 8) (hr : (L (rowsA w s)).length ≤ 5) :
    ∀ (k i : Nat), (L (rowsA w s)).length - i = k → i ≤ (L (rowsA w s)).length → f12_L1 guardT lo (.p (eWt w)) (.p (pI (s : Nat))) (.p (pI (i : Nat))) σ =
      if ((L (rowsA w s)).drop i).all (fun r => decide ((L r).length ≤ 5)) = true then f12_L0 guardT lo (.p (eWt w)) (.p (pI (s + 1 : Nat))) σ else some (.p (.bool false), σ)
  | 0, i, hk, hi => by
    have : ¬ (i : Int) < ((L (rowsA w s)).length : Nat) := by omega
    have e : (L w).getD s none = rowsA w s := rfl
    rw [f12_L1_eq guardT rfl, List.drop_eq_nil_of_le (by omega)]
    simp only [idx27 hs, len27, load48, load22, load3, len48, len22, load1_wt hs, e, b_lss, b_eql, b_neq, b_leq, b_geq, b_gtr, gG, this, List.all_nil, if_true, b_add, wrap_succ (show s ≤ 1000000 by omega)]
  | k + 1, i, hk, hi => by
    have h : i < (L (rowsA w s)).length := by omega
    have h' : (i : Int) < ((L (rowsA w s)).length : Nat) := by omega
    have e : (L w).getD s none = rowsA w s := rfl
    have ih := L12_1 (σ := σ) (lo := lo) hs hs8 hr k (i + 1) (by omega) (by omega)
    have eg : decide (((L ((L (rowsA w s)).getD i none)).length : Int) > 5) = !decide ((L ((L (rowsA w s)).getD i none)).length ≤ 5) := by rw [← decide_not, decide_eq_decide]; omega
    rw [f12_L1_eq guardT rfl, drop_cons h, List.all_cons, ← getD_at none h]
    cases h5 : decide ((L ((L (rowsA w s)).getD i none)).length ≤ 5) <;>
      simp only [idx27 hs, len27, load48, load22, load3, len48, len22, load1_wt hs, e, b_lss, b_eql, b_neq, b_leq, b_geq, b_gtr, gG, h', idx48 h, load1_ls h, eg, h5, Bool.true_and, Bool.false_and, Bool.false_eq_true, if_false, b_add, wrap_succ (show i ≤ 1000000 by omega), ih]
theorem L12_0 {w : OW} {σ : Store} {lo : Nat} (hw : (L w).length ≤ 8) :
    ∀ (k i : Nat), (L w).length - i = k → i ≤ (L w).length → f12_L0 guardT lo (.p (eWt w)) (.p (pI (i : Nat))) σ = some (.p (.bool (((L w).drop i).all rowsSm)), σ)
  | 0, i, hk, hi => by
    have : ¬ (i : Int) < ((L w).length : Nat) := by omega
    rw [f12_L0_eq guardT rfl, List.drop_eq_nil_of_le (by omega)]
    simp only [len27, load48, load22, load3, len48, len22, b_lss, b_eql, b_neq, b_leq, b_geq, b_gtr, gG, this, List.all_nil]
  | k + 1, i, hk, hi => by
    have h : i < (L w).length := by omega
    have h' : (i : Int) < ((L w).length : Nat) := by omega
    have e : (L w).getD i none = rowsA w i := rfl
    have ih := L12_0 (σ := σ) (lo := lo) hw k (i + 1) (by omega) (by omega)
    have eg : decide (((L (rowsA w i)).length : Int) > 5) = !decide ((L (rowsA w i)).length ≤ 5) := by rw [← decide_not, decide_eq_decide]; omega
    rw [f12_L0_eq guardT rfl, drop_cons h, List.all_cons, ← getD_at none h, e, rowsSm]
    cases h5 : decide ((L (rowsA w i)).length ≤ 5) with
    | false => simp only [len27, load48, load22, load3, len48, len22, idx27 h, load1_wt h, e, b_lss, b_eql, b_neq, b_leq, b_geq, b_gtr, gG, h', eg, h5, Bool.false_and]
    | true =>
      have h1 := L12_1 (σ := σ) (lo := lo) h (by omega) (of_decide_eq_true h5) _ 0 (Nat.sub_zero _) (Nat.zero_le _)
      rw [List.drop_zero, ih] at h1
      simp only [len27, load48, load22, load3, len48, len22, idx27 h, load1_wt h, e, b_lss, b_eql, b_neq, b_leq, b_geq, b_gtr, gG, h', eg, h5, Bool.true_and]
      refine h1.trans ?_
      cases (L (rowsA w i)).all fun r => decide ((L r).length ≤ 5) <;> simp
theorem S12 {w : OW} {σ : Store} : pureV CC 12 [.p (eWt w)] σ = some (.p (.bool (smallW w))) := by
  refine pureV_any (by simp [wt_view]) fun lo σ0 hs => ⟨_, σ0, F12_call (r := (.p (.bool (smallW w)), σ0)) ?_, rfl⟩
  have eg : decide (((L w).length : Int) > 8) = !decide ((L w).length ≤ 8) := by rw [← decide_not, decide_eq_decide]; omega
  rw [F12_eq, smallW]
  by_cases h : (L w).length ≤ 8
  · have := L12_0 (σ := σ0) (lo := lo) h _ 0 (Nat.sub_zero _) (Nat.zero_le _)
    rw [List.drop_zero] at this
    simp only [len27, load48, load22, load3, len48, len22, b_lss, b_eql, b_neq, b_leq, b_geq, b_gtr, gG, eg, h, Bool.true_and]
    exact this
  · simp only [len27, load48, load22, load3, len48, len22, b_lss, b_eql, b_neq, b_leq, b_geq, b_gtr, gG, eg, h, Bool.false_and]
def inW (n : Nat) (v : Int) : Bool := inR v (-1) (pred (n : Nat))
def stE (l : W3) (s : Nat) : Int :=
  if (decide ((l.getD s []).length = 3) && (l.getD s []).all fun r => decide (r.length = 3)) = true then if ((l.getD s []).all fun r => r.all (inW l.length)) = true then 0 else 3 else 6
def wchE (l : W3) : Int := if l.length = 0 then 1 else if l.length ≤ 6 then firstE (stE l) 0 l.length else 2
theorem L17_3 {w : OW} {σ : Store} {s i lo : Nat} (hw : WSm w) (hs : s < (L w).length) (hi : i < (L (rowsA w s)).length) :
    ∀ (k o : Nat), (L (rowA w s i)).length - o = k → o ≤ (L (rowA w s i)).length → f17_L3 guardT lo (.p (eWt w)) (.p (pI (s : Nat))) (.p (pI (i : Nat))) (.p (pI (o : Nat))) σ =
      if ((L (rowA w s i)).drop o).all (inW (wl w).length) = true then f17_L2 guardT lo (.p (eWt w)) (.p (pI (s : Nat))) (.p (pI (i + 1 : Nat))) σ else some (.p (pI 3), σ)
  | 0, o, hk, ho => by
    have h5 := hw.r s
    have : ¬ (o : Int) < ((L (rowA w s i)).length : Nat) := by omega
    have e : (L w).getD s none = rowsA w s := rfl
    have e2 : (L (rowsA w s)).getD i none = rowA w s i := rfl
    rw [f17_L3_eq guardT rfl, List.drop_eq_nil_of_le (by omega)]
    simp only [idx27 hs, len27, load48, load22, load3, len48, len22, load1_wt hs, e, idx48 hi, load1_ls hi, e2, b_lss, b_eql, b_neq, b_leq, b_geq, b_gtr, gG, this, List.all_nil, if_true, b_add, wrap_succ (show i ≤ 1000000 by omega)]
  | k + 1, o, hk, ho => by
    have h5 := hw.c s i
    have h : o < (L (rowA w s i)).length := by omega
    have h' : (o : Int) < ((L (rowA w s i)).length : Nat) := by omega
    have e : (L w).getD s none = rowsA w s := rfl
    have e2 : (L (rowsA w s)).getD i none = rowA w s i := rfl
    have ih := L17_3 (σ := σ) (lo := lo) hw hs hi k (o + 1) (by omega) (by omega)
    have eb : inR (L (rowA w s i))[o] (-1) (IntKind.wrap .i64 (((L w).length : Nat) - 1)) = inW (wl w).length (L (rowA w s i))[o] := by rw [inW, wl_len]
    rw [f17_L3_eq guardT rfl, drop_cons h, List.all_cons]
    cases hb : inW (wl w).length (L (rowA w s i))[o] <;>
      simp only [idx27 hs, len27, load48, load22, load3, len48, len22, load1_wt hs, e, idx48 hi, load1_ls hi, e2, b_lss, b_eql, b_neq, b_leq, b_geq, b_gtr, gG, h', idx22 h, load1_ints h, b_sub, shift_ptr, shift_pptr, Nat.zero_add, Nat.add_zero, pureFn_fn, List.append_nil, List.singleton_append, List.cons_append, List.nil_append, S57, eb, hb, Bool.true_and, Bool.false_and, Bool.false_eq_true, if_false, b_add, wrap_succ (show o ≤ 1000000 by omega), ih]
theorem L17_2 {w : OW} {σ : Store} {s lo : Nat} (hw : WSm w) (hs : s < (L w).length) :
    ∀ (k i : Nat), (L (rowsA w s)).length - i = k → i ≤ (L (rowsA w s)).length → f17_L2 guardT lo (.p (eWt w)) (.p (pI (s : Nat))) (.p (pI (i : Nat))) σ =
      if (((wl w).getD s []).drop i).all (fun r => r.all (inW (wl w).length)) = true then f17_L0 guardT lo (.p (eWt w)) (.p (pI (s + 1 : Nat))) σ else some (.p (pI 3), σ)
  | 0, i, hk, hi => by
    have h5 := hw.n
    have : ¬ (i : Int) < ((L (rowsA w s)).length : Nat) := by omega
    have e : (L w).getD s none = rowsA w s := rfl
    rw [f17_L2_eq guardT rfl, List.drop_eq_nil_of_le (by rw [wl_rows, List.length_map]; omega)]
    simp only [idx27 hs, len27, load48, load22, load3, len48, len22, load1_wt hs, e, b_lss, b_eql, b_neq, b_leq, b_geq, b_gtr, gG, this, List.all_nil, if_true, b_add, wrap_succ (show s ≤ 1000000 by omega)]
  | k + 1, i, hk, hi => by
    have h : i < (L (rowsA w s)).length := by omega
    have h' : (i : Int) < ((L (rowsA w s)).length : Nat) := by omega
    have hm : i < ((wl w).getD s []).length := by rw [wl_rows, List.length_map]; exact h
    have e : (L w).getD s none = rowsA w s := rfl
    have ih := L17_2 (σ := σ) (lo := lo) hw hs k (i + 1) (by omega) (by omega)
    have h3 := L17_3 (σ := σ) (lo := lo) hw hs h _ 0 (Nat.sub_zero _) (Nat.zero_le _)
    rw [List.drop_zero] at h3
    rw [f17_L2_eq guardT rfl, drop_cons hm, List.all_cons, ← getD_at [] hm, wl_row]
    simp only [idx27 hs, len27, load48, load22, load3, len48, len22, load1_wt hs, e, b_lss, b_eql, b_neq, b_leq, b_geq, b_gtr, gG, h']
    refine h3.trans ?_
    cases (L (rowA w s i)).all (inW (wl w).length) with
    | true => simp only [if_true, Bool.true_and]; exact ih
    | false => simp only [Bool.false_and, Bool.false_eq_true, if_false]
theorem L17_1 {w : OW} {σ : Store} {s lo : Nat} (hw : WSm w) (hs : s < (L w).length) :
    ∀ (k i : Nat), (L (rowsA w s)).length - i = k → i ≤ (L (rowsA w s)).length → f17_L1 guardT lo (.p (eWt w)) (.p (pI (s : Nat))) (.p (pI (i : Nat))) σ =
      if (((wl w).getD s []).drop i).all (fun r => decide (r.length = 3)) = true then f17_L2 guardT lo (.p (eWt w)) (.p (pI (s : Nat))) (.p (pI (0 : Nat))) σ else some (.p (pI 6), σ)
  | 0, i, hk, hi => by
    have : ¬ (i : Int) < ((L (rowsA w s)).length : Nat) := by omega
    have e : (L w).getD s none = rowsA w s := rfl
    rw [f17_L1_eq guardT rfl, List.drop_eq_nil_of_le (by rw [wl_rows, List.length_map]; omega)]
    simp only [idx27 hs, len27, load48, load22, load3, len48, len22, load1_wt hs, e, b_lss, b_eql, b_neq, b_leq, b_geq, b_gtr, gG, this, List.all_nil, if_true]
    rfl
  | k + 1, i, hk, hi => by
    have h5 := hw.r s
    have h : i < (L (rowsA w s)).length := by omega
    have h' : (i : Int) < ((L (rowsA w s)).length : Nat) := by omega
    have hm : i < ((wl w).getD s []).length := by rw [wl_rows, List.length_map]; exact h
    have e : (L w).getD s none = rowsA w s := rfl
    have e2 : (L (rowsA w s)).getD i none = rowA w s i := rfl
    have ih := L17_1 (σ := σ) (lo := lo) hw hs k (i + 1) (by omega) (by omega)
    have eg : decide (((L (rowA w s i)).length : Int) = 3) = decide ((L (rowA w s i)).length = 3) := by rw [decide_eq_decide]; omega
    rw [f17_L1_eq guardT rfl, drop_cons hm, List.all_cons, ← getD_at [] hm, wl_row]
    cases h3 : decide ((L (rowA w s i)).length = 3) <;>
      simp only [idx27 hs, len27, load48, load22, load3, len48, len22, load1_wt hs, e, b_lss, b_eql, b_neq, b_leq, b_geq, b_gtr, gG, h', idx48 h, load1_ls h, e2, eg, h3, Bool.true_and, Bool.false_and, Bool.false_eq_true, if_false, b_add, wrap_succ (show i ≤ 1000000 by omega), ih]
theorem L17_0 {w : OW} {σ : Store} {lo : Nat} (hw : WSm w) :
    ∀ (k s : Nat), (L w).length - s = k → s ≤ (L w).length → f17_L0 guardT lo (.p (eWt w)) (.p (pI (s : Nat))) σ = some (.p (pI (firstE (stE (wl w)) s k)), σ)
  | 0, s, hk, hs => by
    have : ¬ (s : Int) < ((L w).length : Nat) := by omega
    rw [f17_L0_eq guardT rfl]
    simp only [len27, load48, load22, load3, len48, len22, b_lss, b_eql, b_neq, b_leq, b_geq, b_gtr, gG, this, firstE]
  | k + 1, s, hk, hs => by
    have h : s < (L w).length := by omega
    have h' : (s : Int) < ((L w).length : Nat) := by omega
    have e : (L w).getD s none = rowsA w s := rfl
    have ih := L17_0 (σ := σ) (lo := lo) hw k (s + 1) (by omega) (by omega)
    have h1 := L17_1 (σ := σ) (lo := lo) hw h _ 0 (Nat.sub_zero _) (Nat.zero_le _)
    have h2 := L17_2 (σ := σ) (lo := lo) hw h _ 0 (Nat.sub_zero _) (Nat.zero_le _)
    rw [List.drop_zero] at h1 h2
    rw [ih] at h2
    rw [h2] at h1
    have eg : decide (((L (rowsA w s)).length : Int) = 3) = decide (((wl w).getD s []).length = 3) := by rw [decide_eq_decide, wl_rows, List.length_map]; omega
    have hfe : firstE (stE (wl w)) s (k + 1) = if stE (wl w) s = 0 then firstE (stE (wl w)) (s + 1) k else stE (wl w) s := rfl
    rw [f17_L0_eq guardT rfl, hfe, stE]
    cases h3 : decide (((wl w).getD s []).length = 3) with
    | false => simp only [idx27 h, len27, load48, load22, load3, len48, len22, load1_wt h, e, b_lss, b_eql, b_neq, b_leq, b_geq, b_gtr, gG, h', eg, h3, Bool.false_and, Bool.false_eq_true, if_false, Int.reduceEq]
    | true =>
      simp only [idx27 h, len27, load48, load22, load3, len48, len22, load1_wt h, e, b_lss, b_eql, b_neq, b_leq, b_geq, b_gtr, gG, h', eg, h3, Bool.true_and]
      refine h1.trans ?_
      cases ((wl w).getD s []).all (fun r => decide (r.length = 3)) <;> cases ((wl w).getD s []).all (fun r => r.all (inW (wl w).length)) <;> simp
theorem S17 {w : OW} {σ : Store} (hw : WSm w) : pureV CC 17 [.p (eWt w)] σ = some (.p (pI (wchE (wl w)))) := by
  refine pureV_any (by simp [wt_view]) fun lo σ0 hs => ⟨_, σ0, F17_call (r := (.p (pI (wchE (wl w))), σ0)) ?_, rfl⟩
  have := L17_0 (σ := σ0) (lo := lo) hw _ 0 (Nat.sub_zero _) (Nat.zero_le _)
  have e1 : decide (((L w).length : Int) = 0) = decide ((wl w).length = 0) := by rw [decide_eq_decide, wl_len]; omega
  have e2 : decide (((L w).length : Int) > 6) = !decide ((wl w).length ≤ 6) := by rw [← decide_not, decide_eq_decide, wl_len]; omega
  rw [F17_eq, wchE]
  by_cases h1 : (wl w).length = 0
  · simp only [len27, load48, load22, load3, len48, len22, b_lss, b_eql, b_neq, b_leq, b_geq, b_gtr, gG, e1, h1, if_true]
  · by_cases h2 : (wl w).length ≤ 6
    · simp only [len27, load48, load22, load3, len48, len22, b_lss, b_eql, b_neq, b_leq, b_geq, b_gtr, gG, e1, e2, h1, h2, if_true, if_false]
      rw [wl_len]
      exact this
    · simp only [len27, load48, load22, load3, len48, len22, b_lss, b_eql, b_neq, b_leq, b_geq, b_gtr, gG, e1, e2, h1, h2, if_false]
theorem L121 {o : Option (List OI)} {f : FuncId} {caps : List DV} {σ : Store} {lo : Nat} {q : OI → Bool} (hl : (L o).length ≤ 1000) (hq : ∀ v ∈ L o, pureV CC f (.p (eSl v) :: caps) σ = some (.p (.bool (q v)))) :
    ∀ (k i : Nat), (L o).length - i = k → i ≤ (L o).length → f121_L0 guardT lo (.p (eLs o)) (.fn f caps) (.p (pI ((L o).length : Nat))) (.p (pI (i : Nat))) σ = some (.p (pI (idxFrom q ((L o).drop i) i)), σ)
  | 0, i, hk, hi => by
    have : ¬ (i : Int) < ((L o).length : Nat) := by omega
    rw [f121_L0_eq guardT rfl, List.drop_eq_nil_of_le (by omega)]
    simp only [b_lss, b_eql, b_neq, b_leq, b_geq, b_gtr, gG, this, idxFrom]
  | k + 1, i, hk, hi => by
    have h : i < (L o).length := by omega
    have h' : (i : Int) < ((L o).length : Nat) := by omega
    have ih := L121 (lo := lo) hl hq k (i + 1) (by omega) (by omega)
    rw [f121_L0_eq guardT rfl, drop_cons h, idxFrom]
    simp only [b_lss, b_eql, b_neq, b_leq, b_geq, b_gtr, gG, h', idx48 h, load22, load1_ls h, shift_ptr, shift_pptr, Nat.zero_add, Nat.add_zero, pureFn_fn, List.append_nil, List.singleton_append, List.cons_append, List.nil_append, getD_at none h, hq _ (List.getElem_mem h)]
    cases q (L o)[i] with
    | true => simp only [gG, if_true]
    | false => simp only [gG, Bool.false_eq_true, if_false, b_add, wrap_succ (show i ≤ 1000000 by omega)]; exact ih
theorem S90 {o : Option (List OI)} {f : FuncId} {caps : List DV} {σ : Store} {q : OI → Bool} (hl : (L o).length ≤ 1000) (hq : ∀ σ0, AtSt caps σ σ0 → ∀ v ∈ L o, pureV CC f (.p (eSl v) :: caps) σ0 = some (.p (.bool (q v)))) :
    pureV CC 90 [.p (eLs o), .fn f caps] σ = some (.p (.bool ((L o).any q))) := by
  have h121 : ∀ σ, (∀ σ0, AtSt caps σ σ0 → ∀ v ∈ L o, pureV CC f (.p (eSl v) :: caps) σ0 = some (.p (.bool (q v)))) → pureV CC 121 [.p (eLs o), .fn f caps] σ = some (.p (pI (idxFrom q (L o) 0))) := by
    intro σ hq
    refine pureV_any (by simp [ls_view, fn_view]) fun lo σ0 hs => ⟨_, σ0, F121_call (r := (.p (pI (idxFrom q (L o) 0)), σ0)) ?_, rfl⟩
    have hat : AtSt caps σ σ0 := by
      rcases hs with ⟨h1, _, h3⟩ | ⟨h1, _, _⟩
      · exact .inl ⟨h1, by simpa [rowFree] using (by simpa [rowFree] using h3 : _ ∧ _).2⟩
      · exact .inr h1
    rw [F121_eq]
    simp only [len48, obind]
    have := L121 (lo := lo) hl (hq σ0 hat) _ 0 rfl (Nat.zero_le _)
    simpa using this
  refine pureV_any (by simp [ls_view, fn_view]) fun lo σ0 hs => ⟨_, σ0, F90_call (r := (.p (.bool ((L o).any q)), σ0)) ?_, rfl⟩
  have hat : ∀ σ1, AtSt caps σ0 σ1 → AtSt caps σ σ1 := by
    intro σ1 h
    rcases hs with ⟨h1, _, h3⟩ | ⟨h1, _, _⟩
    · rcases h with h | h
      · exact .inl h
      · exact .inl ⟨h.trans h1, by simpa [rowFree] using (by simpa [rowFree] using h3 : _ ∧ _).2⟩
    · rw [← h1]; exact h
  rw [F90_eq]
  simp only [shift_ptr, shift_pptr, Nat.zero_add, Nat.add_zero, pureFn_fn, List.append_nil, List.singleton_append, List.cons_append, List.nil_append, h121 σ0 fun σ1 h => hq σ1 (hat σ1 h), obind, b_geq, idxFrom_ge]
theorem S91 (o : OI) (σ : Store) : pureV CC 91 [.p (eSl o)] σ = some (.p (.bool (!decide ((L o).length = 3)))) := by
  refine pureV_any (by simp [sl_view]) fun lo σ0 hs => ⟨_, σ0, F91_call (r := (.p (.bool (!decide ((L o).length = 3))), σ0)) ?_, rfl⟩
  have e : decide (((L o).length : Int) = 3) = decide ((L o).length = 3) := by rw [decide_eq_decide]; omega
  rw [F91_eq]
  simp only [len22, obind, b_neq, e]
theorem S92 {w : OW} {σ : Store} {r : Nat} {v : Int} (h : σ[r]? = some (.mix [.p (eWt w)])) : pureV CC 92 [.p (pI v), .ptr r 0] σ = some (.p (.bool (!inW (wl w).length v))) := by
  refine pureV_rows rfl rfl (F92_call (r := (.p (.bool (!inW (wl w).length v)), σ)) ?_) rfl
  rw [F92_eq]
  simp only [load27, load1_ptr (off := 0) h rfl, len27, gG, b_sub, shift_ptr, shift_pptr, Nat.zero_add, Nat.add_zero, pureFn_fn, List.append_nil, List.singleton_append, List.cons_append, List.nil_append, S79, inW, wl_len]
theorem load104 (x : DV) (σ : Store) : load PP 104 x σ = load1 x σ := Eq.trans (by kernel_rfl) rfl
theorem zero104 : zeroOf PP 104 = some [.p .nilfn] := Eq.trans (by kernel_rfl) rfl
theorem s104 : size? PP 104 = some 1 := Eq.trans (by kernel_rfl) rfl
theorem S93 {w : OW} {σ : Store} {q r : Nat} {o : OI} (hl : (L o).length ≤ 1000) (hq : σ[q]? = some (.mix [.fn 92 [.ptr r 0]])) (h : σ[r]? = some (.mix [.p (eWt w)])) : pureV CC 93 [.p (eSl o), .ptr q 0] σ = some (.p (.bool ((L o).any fun v => !inW (wl w).length v))) := by
  refine pureV_rows (by simp [sl_view]; rfl) rfl (F93_call (r := (.p (.bool ((L o).any fun v => !inW (wl w).length v)), σ)) ?_) rfl
  rw [F93_eq]
  have h80 : pureV CC 80 [.p (eSl o), .fn 92 [.ptr r 0]] σ = some (.p (.bool ((L o).any fun v => !inW (wl w).length v))) := by
    refine S80' hl fun σ1 hat v hv => ?_
    rcases hat with ⟨_, hf⟩ | rfl
    · exact absurd hf (by simp [rowFree1])
    · exact S92 h
  simp only [load104, load1_ptr (off := 0) hq rfl, gG, shift_ptr, shift_pptr, Nat.zero_add, Nat.add_zero, pureFn_fn, List.append_nil, List.singleton_append, List.cons_append, List.nil_append, h80]
theorem store104 (σ : Store) (f : FuncId) (caps : List DV) (lo : Nat) (hlo : lo ≤ σ.length) : store PP lo 104 (.ptr σ.length 0) (.fn f caps) (σ ++ [.mix [.p .nilfn]]) = some (σ ++ [.mix [.fn f caps]]) := by
  simp [store, s104, DV.cells, storeN, hlo, DV.one, splice]
theorem all_any_not {α : Type} (q : α → Bool) : ∀ l : List α, (!l.any fun v => !q v) = l.all q
  | [] => rfl
  | a :: l => by simp only [List.any_cons, List.all_cons, Bool.not_or, Bool.not_not, all_any_not q l]
theorem any_not_all {α : Type} (q : α → Bool) (l : List α) : (l.any fun v => !q v) = !l.all q := by rw [← all_any_not, Bool.not_not]
theorem L33 {w : OW} {r lo : Nat} (hw : WSm w) :
    ∀ (k s : Nat) (σ : Store), σ[r]? = some (.mix [.p (eWt w)]) → lo ≤ σ.length → (L w).length - s = k → s ≤ (L w).length → ∃ σ', f33_L0 guardT lo (.ptr r 0) (.p (eWt w)) (.p (pI ((L w).length : Nat))) (.p (pI (s : Nat))) σ = some (.p (pI (firstE (stE (wl w)) s k)), σ')
  | 0, s, σ, h0, hlo, hk, hs => by
    have : ¬ (s : Int) < ((L w).length : Nat) := by omega
    refine ⟨σ, ?_⟩
    rw [f33_L0_eq guardT rfl]
    simp only [b_lss, b_eql, b_neq, b_leq, b_geq, b_gtr, gG, this, firstE]
  | k + 1, s, σ, h0, hlo, hk, hs => by
    have h8 := hw.n
    have h5 := hw.r s
    have h : s < (L w).length := by omega
    have h' : (s : Int) < ((L w).length : Nat) := by omega
    have e : (L w).getD s none = rowsA w s := rfl
    have g0 : (σ ++ [Row.mix [.fn 92 [.ptr r 0]]])[r]? = some (.mix [.p (eWt w)]) := get_old h0
    have g1 : (σ ++ [Row.mix [.fn 92 [.ptr r 0]]])[σ.length]? = some (.mix [.fn 92 [.ptr r 0]]) := get_snoc
    obtain ⟨σ', ih⟩ := L33 (r := r) (lo := lo) hw k (s + 1) (σ ++ [.mix [.fn 92 [.ptr r 0]]]) g0 (by simp; omega) (by omega) (by omega)
    have h90 : pureV CC 90 [.p (eLs (rowsA w s)), .fn 91 []] σ = some (.p (.bool ((L (rowsA w s)).any fun r => !decide ((L r).length = 3)))) := S90 (by omega) fun σ0 _ v _ => S91 v σ0
    have hc5 : ∀ v ∈ L (rowsA w s), (L v).length ≤ 1000 := by
      intro v hv
      obtain ⟨i, hi, rfl⟩ := List.getElem_of_mem hv
      have := hw.c s i
      unfold rowA at this
      rw [getD_at none hi] at this
      omega
    have h90b : pureV CC 90 [.p (eLs (rowsA w s)), .fn 93 [.ptr σ.length 0]] (σ ++ [.mix [.fn 92 [.ptr r 0]]]) = some (.p (.bool ((L (rowsA w s)).any fun r => !(L r).all (inW (wl w).length)))) := by
      refine S90 (by omega) fun σ1 hat v hv => ?_
      rcases hat with ⟨_, hf⟩ | rfl
      · exact absurd hf (by simp [rowFree1])
      · rw [S93 (hc5 v hv) g1 g0, any_not_all]
    have m1 : ((wl w).getD s []).length = (L (rowsA w s)).length := by rw [wl_rows, List.length_map]
    have m2 : (((wl w).getD s []).all fun r => decide (r.length = 3)) = (L (rowsA w s)).all fun r => decide ((L r).length = 3) := by rw [wl_rows, List.all_map]; rfl
    have m3 : (((wl w).getD s []).all fun r => r.all (inW (wl w).length)) = (L (rowsA w s)).all fun r => (L r).all (inW (wl w).length) := by rw [wl_rows, List.all_map]; rfl
    have eg : decide (((L (rowsA w s)).length : Int) = 3) = decide ((L (rowsA w s)).length = 3) := by rw [decide_eq_decide]; omega
    have hfe : firstE (stE (wl w)) s (k + 1) = if stE (wl w) s = 0 then firstE (stE (wl w)) (s + 1) k else stE (wl w) s := rfl
    rw [f33_L0_eq guardT rfl, hfe, stE, m1, m2, m3]
    cases a1 : decide ((L (rowsA w s)).length = 3) <;> cases a2 : (L (rowsA w s)).all (fun r => decide ((L r).length = 3)) <;> cases a3 : (L (rowsA w s)).all (fun r => (L r).all (inW (wl w).length)) <;>
      simp only [b_lss, b_eql, b_neq, b_leq, b_geq, b_gtr, gG, h', idx27 h, len27, load48, load22, load3, len48, len22, load1_wt h, e, eg, a1, shift_ptr, shift_pptr, Nat.zero_add, Nat.add_zero, pureFn_fn, List.append_nil, List.singleton_append, List.cons_append, List.nil_append, h90, any_not_all, a2, zero104, store104 σ 92 [.ptr r 0] lo hlo, h90b, a3, S54, bs160_2, either2, orL, Bool.true_and, Bool.and_true, Bool.false_and, Bool.false_eq_true, if_true, if_false, Int.reduceEq, reduceIte, b_add, wrap_succ (show s ≤ 1000000 by omega), ih] <;> exact ⟨_, rfl⟩
theorem S33 {w : OW} {σ : Store} (hw : WSm w) : pureV CC 33 [.p (eWt w)] σ = some (.p (pI (wchE (wl w)))) := by
  refine pureV_any (by simp [wt_view]) fun lo σ0 hs => ?_
  have hlo : lo ≤ σ0.length := by rcases hs with ⟨rfl, rfl, _⟩ | ⟨_, rfl, _⟩ <;> simp_all
  have g0 : (σ0 ++ [Row.mix [.p (eWt w)]])[σ0.length]? = some (.mix [.p (eWt w)]) := get_snoc
  obtain ⟨σ', hL⟩ := L33 (lo := lo) hw _ 0 (σ0 ++ [.mix [.p (eWt w)]]) g0 (by simp; omega) (Nat.sub_zero _) (Nat.zero_le _)
  have e1 : decide (((L w).length : Int) > 0) = !decide ((wl w).length = 0) := by rw [← decide_not, decide_eq_decide, wl_len]; omega
  have e2 : decide (((L w).length : Int) ≤ 6) = decide ((wl w).length ≤ 6) := by rw [decide_eq_decide, wl_len]; omega
  have key : ∃ σ', F33 guardT lo (.p (eWt w)) σ0 = some (.p (pI (wchE (wl w))), σ') := by
    rw [F33_eq, wchE]
    by_cases h1 : (wl w).length = 0
    · exact ⟨_, by simp only [box_wt, load27, load1_ptr (off := 0) g0 rfl, len27, load48, load22, load3, len48, len22, b_lss, b_eql, b_neq, b_leq, b_geq, b_gtr, gG, shift_ptr, shift_pptr, Nat.zero_add, Nat.add_zero, pureFn_fn, List.append_nil, List.singleton_append, List.cons_append, List.nil_append, e1, e2, h1, S54, bs160_2, either2, orL, Bool.false_eq_true, if_true, if_false, Int.reduceEq, reduceIte, Nat.zero_le]; rfl⟩
    · by_cases h2 : (wl w).length ≤ 6
      · refine ⟨σ', ?_⟩
        simp only [box_wt, load27, load1_ptr (off := 0) g0 rfl, len27, load48, load22, load3, len48, len22, b_lss, b_eql, b_neq, b_leq, b_geq, b_gtr, gG, shift_ptr, shift_pptr, Nat.zero_add, Nat.add_zero, pureFn_fn, List.append_nil, List.singleton_append, List.cons_append, List.nil_append, e1, e2, h1, h2, S54, bs160_2, either2, orL, Bool.false_eq_true, if_true, if_false, Int.reduceEq, reduceIte]
        rw [wl_len]
        exact hL
      · exact ⟨_, by simp only [box_wt, load27, load1_ptr (off := 0) g0 rfl, len27, load48, load22, load3, len48, len22, b_lss, b_eql, b_neq, b_leq, b_geq, b_gtr, gG, shift_ptr, shift_pptr, Nat.zero_add, Nat.add_zero, pureFn_fn, List.append_nil, List.singleton_append, List.cons_append, List.nil_append, e1, e2, h1, h2, S54, bs160_2, either2, orL, Bool.false_eq_true, if_true, if_false, Int.reduceEq, reduceIte]; rfl⟩
  obtain ⟨σ', h⟩ := key
  exact ⟨_, σ', F33_call h, rfl⟩
end Go.D
end
/- Watches: copies, comparisons, what breaks them. -/
section
set_option linter.unusedVariables false
set_option linter.unusedSimpArgs false
namespace Go.D

structure WOk (l : W3) (n : Nat) : Prop where
  len : l.length = n
  n1 : 1 ≤ n
  n6 : n ≤ 6
  rows : ∀ s, s < n → (l.getD s []).length = 3
  row : ∀ s i, s < n → i < 3 → ((l.getD s []).getD i []).length = 3
  cell : ∀ s i o, s < n → i < 3 → o < 3 → -1 ≤ cell3 l s i o ∧ cell3 l s i o < n
theorem wok_of {l : W3} (h : wchE l = 0) : WOk l l.length := by
  unfold wchE at h
  split at h
  · exact absurd h (by decide)
  · rename_i h1
    split at h
    · rename_i h6
      have hz := firstE_zero _ _ h
      have hst : ∀ s, s < l.length → (l.getD s []).length = 3 ∧ (∀ r ∈ l.getD s [], r.length = 3) ∧ ∀ r ∈ l.getD s [], ∀ v ∈ r, inW l.length v = true := by
        intro s hs
        have := hz s (Nat.zero_le _) (by omega)
        unfold stE at this
        split at this
        · rename_i h3
          split at this
          · rename_i h4
            simp only [Bool.and_eq_true, decide_eq_true_eq, List.all_eq_true] at h3 h4
            exact ⟨h3.1, h3.2, h4⟩
          · exact absurd this (by decide)
        · exact absurd this (by decide)
      have pn : pred (l.length : Nat) = (l.length : Nat) - 1 := wrap_ok (by omega) (by omega)
      refine ⟨rfl, by omega, h6, fun s hs => (hst s hs).1, fun s i hs hi => ?_, fun s i o hs hi ho => ?_⟩
      · have hl : i < (l.getD s []).length := by rw [(hst s hs).1]; exact hi
        rw [getD_at [] hl]
        exact (hst s hs).2.1 _ (List.getElem_mem hl)
      · have hl : i < (l.getD s []).length := by rw [(hst s hs).1]; exact hi
        have hr := (hst s hs).2.1 _ (List.getElem_mem hl)
        have ho2 : o < ((l.getD s [])[i]).length := by omega
        have := (hst s hs).2.2 _ (List.getElem_mem hl) _ (List.getElem_mem ho2)
        rw [cell3, getD_at [] hl, getD_at 0 ho2]
        simp only [inW, inR, pn, Bool.and_eq_true, decide_eq_true_eq] at this
        omega
    · exact absurd h (by decide)
def ownW (w : OW) : OW := if L w = [] then none else some ((L w).map ownLs)
theorem L_ownW (w : OW) : L (ownW w) = (L w).map ownLs := by
  unfold ownW
  split
  · rename_i h; rw [h]; rfl
  · rfl
theorem wl_own (w : OW) : wl (ownW w) = wl w := by
  unfold wl
  rw [L_ownW, List.map_map]
  refine List.map_congr_left fun r _ => ?_
  show (L (ownLs r)).map L = _
  rw [L_own, List.map_map]
  exact List.map_congr_left fun x _ => rfl
theorem wsm_wl {w : OW} : WSm w ↔ (wl w).length ≤ 8 ∧ ∀ s, ((wl w).getD s []).length ≤ 5 ∧ ∀ i, (((wl w).getD s []).getD i []).length ≤ 5 := by
  constructor
  · intro h
    exact ⟨by rw [wl_len]; exact h.n, fun s => ⟨by rw [wl_rows, List.length_map]; exact h.r s, fun i => by rw [wl_row]; exact h.c s i⟩⟩
  · rintro ⟨h1, h2⟩
    refine ⟨by rw [wl_len] at h1; exact h1, fun s => ?_, fun s i => ?_⟩
    · have := (h2 s).1; rw [wl_rows, List.length_map] at this; exact this
    · have := (h2 s).2 i; rw [wl_row] at this; exact this
theorem wsm_own {w : OW} (h : WSm w) : WSm (ownW w) := by rw [wsm_wl, wl_own, ← wsm_wl]; exact h
theorem L15 {w : OW} {lo : Nat} (hw : WSm w) :
    ∀ (k i : Nat) (x : DV) (σ : Store), (L w).length - i = k → i ≤ (L w).length → lo ≤ σ.length → Out σ lo 1 i (((L w).take i).map fun r => eLs (ownLs r)) x →
      ∃ x' σ', f15_L0 guardT lo (.p (eWt w)) x (.p (pI (i : Nat))) σ = some (x', σ') ∧ Out σ' lo 1 (L w).length ((L w).map fun r => eLs (ownLs r)) x'
  | 0, i, x, σ, hk, hi, hlo, ho => by
    have hn : ¬ (i : Int) < ((L w).length : Nat) := by omega
    have : i = (L w).length := by omega
    rw [this, List.take_length] at ho
    refine ⟨x, σ, ?_, ho⟩
    rw [f15_L0_eq guardT rfl]
    simp only [len27, load48, load22, load3, len48, len22, b_lss, b_eql, b_neq, b_leq, b_geq, b_gtr, gG, hn]
  | k + 1, i, x, σ, hk, hi, hlo, ho => by
    have h8 := hw.n
    have h5 := hw.r i
    have h : i < (L w).length := by omega
    have h' : (i : Int) < ((L w).length : Nat) := by omega
    have e : (L w).getD i none = rowsA w i := rfl
    have hc5 : ∀ v ∈ L (rowsA w i), (L v).length ≤ 1000 := by
      intro v hv
      obtain ⟨j, hj, rfl⟩ := List.getElem_of_mem hv
      have := hw.c i j
      unfold rowA at this
      rw [getD_at none hj] at this
      omega
    obtain ⟨x', σ', h1, h2, h3, h4⟩ := ho.push27 (v := eLs (ownLs (rowsA w i))) (by omega) hlo
    rw [f15_L0_eq guardT rfl]
    simp only [len27, load48, load22, load3, len48, len22, b_lss, b_eql, b_neq, b_leq, b_geq, b_gtr, gG, h', idx27 h, load1_wt h, e, shift_ptr, shift_pptr, Nat.zero_add, Nat.add_zero, pureFn_fn, List.append_nil, List.singleton_append, List.cons_append, List.nil_append, S56 (show (L (rowsA w i)).length ≤ 1000 by omega) hc5, bs27_1, h1, b_add, wrap_succ (show i ≤ 1000000 by omega)]
    refine L15 hw k (i + 1) x' σ' (by omega) (by omega) (by omega) ?_
    have e2 : ((L w).take (i + 1)).map (fun r => eLs (ownLs r)) = ((L w).take i).map (fun r => eLs (ownLs r)) ++ [eLs (ownLs (rowsA w i))] := by
      rw [List.take_succ_eq_append_getElem h, List.map_append, ← getD_at none h]; rfl
    rw [e2]
    exact h2
theorem S15 {w : OW} {σ : Store} (hw : WSm w) : pureV CC 15 [.p (eWt w)] σ = some (.p (eWt (ownW w))) := by
  refine pureV_any (by simp [wt_view]) fun lo σ0 hs => ?_
  have hlo : lo ≤ σ0.length := by rcases hs with ⟨rfl, rfl, _⟩ | ⟨_, rfl, _⟩ <;> simp_all
  obtain ⟨x', σ', h1, h2⟩ := L15 (lo := lo) hw _ 0 (.p .nilsl) σ0 rfl (Nat.zero_le _) hlo (by simpa using Out.zero)
  refine ⟨x', σ', F15_call ?_, ?_⟩
  · rw [F15_eq]; exact h1
  · rw [h2.twAll]
    unfold ownW
    by_cases e : L w = []
    · simp [e, eWt]
    · have e2 : ¬ (L w).length = 0 := fun h => e (List.length_eq_zero_iff.1 h)
      have e3 : (L w).map (fun r => eLs (ownLs r)) = ((L w).map ownLs).map eLs := by simp
      simp only [e, e2, if_false, eWt, e3, loosens_wt, List.length_map]
theorem idx27i {w : OW} {s : Int} (h0 : 0 ≤ s) (h : s.toNat < (L w).length) : indexAddr PP 27 (.p (eWt w)) (.p (.int .i64 s)) = some (.pptr ((L w).map eLs) s.toNat) := by
  have := idx27 (o := w) h
  rwa [Int.toNat_of_nonneg h0] at this
theorem idx48i {o : Option (List OI)} {s : Int} (h0 : 0 ≤ s) (h : s.toNat < (L o).length) : indexAddr PP 48 (.p (eLs o)) (.p (.int .i64 s)) = some (.pptr ((L o).map eSl) s.toNat) := by
  have := idx48 (o := o) h
  rwa [Int.toNat_of_nonneg h0] at this
theorem idx22i {o : OI} {s : Int} (h0 : 0 ≤ s) (h : s.toNat < (L o).length) : indexAddr PP 22 (.p (eSl o)) (.p (.int .i64 s)) = some (.pptr (eInts (L o)) s.toNat) := by
  have := idx22 (o := o) h
  rwa [Int.toNat_of_nonneg h0] at this
theorem ltr_iff {v : Int} : ltr v = true ↔ 0 ≤ v ∧ v ≤ 2 := by simp [ltr, inR]
/-- Where all indices stand. -/
theorem wok_idx {w : OW} {n : Nat} (hw : WOk (wl w) n) {s i o : Nat} (hs : s < n) (hi : i < 3) (ho : o < 3) : s < (L w).length ∧ i < (L (rowsA w s)).length ∧ o < (L (rowA w s i)).length := by
  refine ⟨by rw [← wl_len, hw.len]; exact hs, ?_, ?_⟩
  · have := hw.rows s hs; rw [wl_rows, List.length_map] at this; omega
  · have := hw.row s i hs hi; rw [wl_row] at this; omega
def nextW (l : W3) (s : Int) (p : Pr) : Int := cell3 l s.toNat p.i.toNat p.o.toNat
theorem S94 {w : OW} {n : Nat} {s : Int} {p : Pr} {σ : Store} (hw : WOk (wl w) n) (hs : 0 ≤ s ∧ s < n) (hp : badP p = false) : pureV CC 94 [.p (eWt w), .p (pI s), .agg (prD p)] σ = some (.p (pI (nextW (wl w) s p))) := by
  have hb : (0 ≤ p.i ∧ p.i ≤ 2) ∧ (0 ≤ p.o ∧ p.o ≤ 2) := by
    simp only [badP, Bool.or_eq_false_iff, Bool.not_eq_false'] at hp
    exact ⟨ltr_iff.1 hp.1, ltr_iff.1 hp.2⟩
  obtain ⟨q1, q2, q3⟩ := wok_idx hw (s := s.toNat) (i := p.i.toNat) (o := p.o.toNat) (by omega) (by omega) (by omega)
  have e1 : (L w).getD s.toNat none = rowsA w s.toNat := rfl
  have e2 : (L (rowsA w s.toNat)).getD p.i.toNat none = rowA w s.toNat p.i.toNat := rfl
  refine pureV_any (by simp [wt_view]; exact ⟨rfl, rfl⟩) fun lo σ0 hs0 => ⟨_, σ0 ++ [.mix (prD p)], F94_call (r := (.p (pI (nextW (wl w) s p)), σ0 ++ [.mix (prD p)])) ?_, rfl⟩
  have g0 : (σ0 ++ [Row.mix (prD p)])[σ0.length]? = some (.mix (prD p)) := get_snoc
  rw [F94_eq, nextW, wl_cell]
  simp only [box_pr, gG, idx27i hs.1 q1, len27, load48, load22, load3, len48, len22, load1_wt q1, e1, fa98_0, fa98_1, shift_ptr, shift_pptr, Nat.zero_add, Nat.add_zero, pureFn_fn, List.append_nil, List.singleton_append, List.cons_append, List.nil_append, load1_ptr (off := 0) (g0) rfl, load1_ptr (off := 1) (g0) rfl, idx48i hb.1.1 q2, load1_ls q2, e2, idx22i hb.2.1 q3, load1_getD q3]
theorem next_rng {l : W3} {n : Nat} (hw : WOk l n) {s : Int} {p : Pr} (hs : 0 ≤ s ∧ s < n) (hp : badP p = false) (h : nextW l s p ≠ -1) : 0 ≤ nextW l s p ∧ nextW l s p < n := by
  have hb : (0 ≤ p.i ∧ p.i ≤ 2) ∧ (0 ≤ p.o ∧ p.o ≤ 2) := by
    simp only [badP, Bool.or_eq_false_iff, Bool.not_eq_false'] at hp
    exact ⟨ltr_iff.1 hp.1, ltr_iff.1 hp.2⟩
  have := hw.cell s.toNat p.i.toNat p.o.toNat (by omega) (by omega) (by omega)
  unfold nextW at *
  omega
theorem prs_append (a b : List Pr) : ePrs (a ++ b) = ePrs a ++ ePrs b := by
  induction a with
  | nil => rfl
  | cons x l ih => simp [ePrs, ih]
theorem bs31_1 (p : Pr) (σ : Store) : buildSlice PP none 31 1 [(0, .agg (prD p))] σ = some (.p (.sl true 1 (ePrs [p])), σ) := Eq.trans (by kernel_rfl) rfl
theorem Out.push31 {σ : Store} {lo n : Nat} {cs : List PV} {p : Pr} {x : DV} (ho : Out σ lo 2 n cs x) (hn : n ≤ 1000000) (hlo : lo ≤ σ.length) :
    ∃ x' σ', append PP lo false 31 31 x (.p (.sl true 1 (ePrs [p]))) σ = some (x', σ') ∧ Out σ' lo 2 (n + 1) (cs ++ ePrs [p]) x' ∧ Others σ σ' x ∧ σ.length ≤ σ'.length :=
  Out.push src31 u31 s98 bytes98 zero98 rfl (by decide) (by decide) (by decide) rfl ho hn hlo
end Go.D
end
/- The turned watch. -/
section
set_option linter.unusedVariables false
set_option linter.unusedSimpArgs false
namespace Go.D

def tRow (l : W3) (s i : Nat) : List Int := [cell3 l s 0 i, cell3 l s 1 i, cell3 l s 2 i]
def tRows (l : W3) (s : Nat) : Option (List OI) := some [some (tRow l s 0), some (tRow l s 1), some (tRow l s 2)]
def turnW (l : W3) : OW := some ((List.range l.length).map (tRows l))
def turn3 (l : W3) : W3 := (List.range l.length).map fun s => [tRow l s 0, tRow l s 1, tRow l s 2]
theorem wl_turn (l : W3) : wl (turnW l) = turn3 l := by
  simp only [wl, turnW, Option.getD_some, List.map_map, turn3]
  exact List.map_congr_left fun s _ => rfl
theorem turn3_len (l : W3) : (turn3 l).length = l.length := by simp [turn3]
theorem turn3_at {l : W3} {s : Nat} (h : s < l.length) : (turn3 l).getD s [] = [tRow l s 0, tRow l s 1, tRow l s 2] := by
  rw [getD_at [] (by rw [turn3_len]; exact h)]
  simp [turn3]
theorem turn3_cell {l : W3} {s i o : Nat} (h : s < l.length) (hi : i < 3) (ho : o < 3) : cell3 (turn3 l) s i o = cell3 l s o i := by
  rw [cell3, turn3_at h]
  match i, o, hi, ho with
  | 0, 0, _, _ => rfl
  | 0, 1, _, _ => rfl
  | 0, 2, _, _ => rfl
  | 1, 0, _, _ => rfl
  | 1, 1, _, _ => rfl
  | 1, 2, _, _ => rfl
  | 2, 0, _, _ => rfl
  | 2, 1, _, _ => rfl
  | 2, 2, _, _ => rfl
theorem turn3_row {l : W3} {s i : Nat} (h : s < l.length) (hi : i < 3) : (((turn3 l).getD s []).getD i []).length = 3 := by
  rw [turn3_at h]
  match i, hi with
  | 0, _ => rfl
  | 1, _ => rfl
  | 2, _ => rfl
theorem turn3_ok {l : W3} {n : Nat} (h : WOk l n) : WOk (turn3 l) n := by
  have hl := h.len
  refine ⟨by rw [turn3_len, hl], h.n1, h.n6, fun s hs => ?_, fun s i hs hi => turn3_row (by omega) hi, fun s i o hs hi ho => ?_⟩
  · rw [turn3_at (by omega)]; rfl
  · rw [turn3_cell (by omega) hi ho]; exact h.cell s o i hs ho hi
theorem Out.snoc {σ : Store} {lo sz n : Nat} {cs : List PV} {x : DV} {r : Row} (ho : Out σ lo sz n cs x) : Out (σ ++ [r]) lo sz n cs x := by
  refine ⟨ho.1, ?_⟩
  rcases ho.2 with h | ⟨h1, q, ver, h2, h3, h4⟩
  · exact .inl h
  · exact .inr ⟨h1, q, ver, h2, get_old h3, h4⟩
theorem app22_0 (σ : Store) (lo : Nat) (v : Int) : append PP lo false 22 22 (.p .nilsl) (.p (.sl true 1 [pI v])) σ = some (.osl σ.length 0 1 1 (eInts [v]), σ ++ [.tok 0]) := by
  simp [append, src22, u22, s3, bytes3, zero3, source, appNil, pures, DV.pure?, eInts]
theorem app22_t {σ : Store} {lo r ver n : Nat} {l : List Int} (v : Int) (h : σ[r]? = some (.tok ver)) (hr : lo ≤ r) (hn : l.length = n) (hn2 : n ≤ 1000) :
    append PP lo false 22 22 (.osl r ver 1 n (eInts l)) (.p (.sl true 1 [pI v])) σ = some (.osl r (ver + 1) 1 (n + 1) (eInts (l ++ [v])), σ.set r (.tok (ver + 1))) := by
  have h1 : (n + 1) * 8 ≤ 140737488355328 := by omega
  have h2 : n + 1 ≤ 140737488355328 := by omega
  simp [append, src22, u22, s3, bytes3, zero3, source, appTok, pures, DV.pure?, h, hr, h1, h2, hn, eInts]
theorem set_snoc (σ : Store) (r x : Row) : (σ ++ [r]).set σ.length x = σ ++ [x] := by simp
theorem Out.osl {σ : Store} {lo sz n : Nat} {cs : List PV} {x : DV} (ho : Out σ lo sz n cs x) (hn : n ≠ 0) : ∃ r ver, x = .osl r ver sz n cs := by
  rcases ho.2 with ⟨h, _⟩ | ⟨h1, q, ver, h2, h3, h4⟩
  · exact absurd h hn
  · exact ⟨q, ver, h2⟩
section
variable {w : OW} (hw : WOk (wl w) (wl w).length) {s : Nat} (hs : s < (wl w).length)
include hw hs
theorem w_i {i : Nat} (hi : i < 3) : i < (L (rowsA w s)).length := by have := hw.rows s hs; rw [wl_rows, List.length_map] at this; omega
theorem w_o {i o : Nat} (hi : i < 3) (ho : o < 3) : o < (L (rowA w s i)).length := by have := hw.row s i hs hi; rw [wl_row] at this; omega
end
end Go.D
end
/- The turned watch: what the program makes of it. -/
section
set_option linter.unusedVariables false
set_option linter.unusedSimpArgs false
namespace Go.D

/-- Rows that are there stay as they are. -/
def Ext (σ σ' : Store) : Prop := ∀ (j : Nat) (row : Row), σ[j]? = some row → σ'[j]? = some row
theorem Ext.refl (σ : Store) : Ext σ σ := fun _ _ h => h
theorem Ext.trans {a b c : Store} (h : Ext a b) (h2 : Ext b c) : Ext a c := fun j r e => h2 j r (h j r e)
theorem Ext.snoc (σ : Store) (r : Row) : Ext σ (σ ++ [r]) := fun j row h => get_old h
/-- A list of any cells that is appended to. -/
def OutM (σ : Store) (n : Nat) (cs : List DV) (x : DV) : Prop := (n = 0 ∧ cs = [] ∧ x = .p .nilsl) ∨ (∃ q, x = .rsl q 1 0 n ∧ σ[q]? = some (.mix cs) ∧ cs.length = n ∧ n ≠ 0)
theorem OutM.ext {σ σ' : Store} {n : Nat} {cs : List DV} {x : DV} (h : OutM σ n cs x) (he : Ext σ σ') : OutM σ' n cs x := by
  rcases h with h | ⟨q, h1, h2, h3, h4⟩
  · exact .inl h
  · exact .inr ⟨q, h1, he _ _ h2, h3, h4⟩
theorem OutM.pushR {σ : Store} {t e b n : Nat} {cs : List DV} {x v : DV} {z : List DV} (hs : srcType PP t = true) (hu : PP.underlying t = some (.slice e)) (h1 : size? PP e = some 1) (h2 : bytes? PP e = some b) (h3 : zeroOf PP e = some z)
    (h4 : z.length = 1) (hb : 0 < b) (hb2 : b ≤ 1000) (ho : OutM σ n cs x) (hv : v.one = true) (hn : n ≤ 1000000) :
    ∃ x' σ', append PP 0 true t t x (.rsl σ.length 1 0 1) (σ ++ [.mix [v]]) = some (x', σ') ∧ OutM σ' (n + 1) (cs ++ [v]) x' ∧ ∀ j row, σ[j]? = some row → (∀ q, x = .rsl q 1 0 n → j ≠ q) → σ'[j]? = some row := by
  have hsrc : source (σ ++ [.mix [v]]) 1 (.rsl σ.length 1 0 1) = some (1, [v]) := by
    simp [source, loadN]
  have hz0 : ¬ (z.length ≠ 1 ∨ 1 = 0) := by omega
  have e1 : (n + 1) * b ≤ 140737488355328 := Nat.le_trans (Nat.mul_le_mul (show n + 1 ≤ 1000001 by omega) hb2) (by decide)
  have e2 : n + 1 ≤ 140737488355328 := by omega
  rcases ho with ⟨rfl, rfl, rfl⟩ | ⟨q, rfl, hq, hc, hn0⟩
  · refine ⟨.rsl (σ.length + 1) 1 0 1, σ ++ [.mix [v]] ++ [.mix [v]], ?_, .inr ⟨σ.length + 1, rfl, ?_, rfl, by decide⟩, fun j row h _ => get_old (get_old h)⟩
    · have : b ≤ 140737488355328 := by omega
      simp only [append, hs, hu, h1, h2, h3, hz0, hsrc, appNil]
      simp [this, hb]
    · simp
  · have hq' : (σ ++ [Row.mix [v]])[q]? = some (.mix cs) := get_old hq
    refine ⟨.rsl (σ.length + 1) 1 0 (n + 1), (σ ++ [Row.mix [v]]).set q .dead ++ [.mix (cs ++ [v])], ?_, .inr ⟨σ.length + 1, rfl, ?_, by simp [hc], by omega⟩, fun j row h hj => get_old (get_set_ne (get_old h) (hj q rfl))⟩
    · have n1 : ¬ (n + 1 ≤ cs.length) := by omega
      simp only [append, hs, hu, h1, h2, h3, hz0, hsrc, appRow]
      simp only [hq', Nat.zero_add, Nat.mul_one, n1, hc, hv]
      simp [e1, e2, hb, hc, hv]
      exact fun h => absurd h (by omega)
    · simp
theorem bs27_r (R : Nat) (σ : Store) : buildSlice PP (some true) 27 1 [(0, .rsl R 1 0 3)] σ = some (.rsl σ.length 1 0 1, σ ++ [.mix [.rsl R 1 0 3]]) := Eq.trans (by kernel_rfl) rfl
/-- One number put behind a row. -/
theorem ap48 {ρ : Store} {R q v n i : Nat} {M : List DV} {l : List Int} (x : Int) (h : ρ[R]? = some (.mix (M.set i (.osl q v 1 n (eInts l))))) (hq : ρ[q]? = some (.tok v)) (hne : q ≠ R) (hi : i < M.length) (hn : l.length = n) (hn2 : n ≤ 1000) :
    ∃ ρ1 ρ2, load1 (.ptr R i) ρ = some (.osl q v 1 n (eInts l)) ∧ append PP 0 false 22 22 (.osl q v 1 n (eInts l)) (.p (.sl true 1 [pI x])) ρ = some (.osl q (v + 1) 1 (n + 1) (eInts (l ++ [x])), ρ1) ∧
      store PP 0 22 (.ptr R i) (.osl q (v + 1) 1 (n + 1) (eInts (l ++ [x]))) ρ1 = some ρ2 ∧ ρ2[R]? = some (.mix (M.set i (.osl q (v + 1) 1 (n + 1) (eInts (l ++ [x]))))) ∧ ρ2[q]? = some (.tok (v + 1)) ∧ ∀ j row, ρ[j]? = some row → j ≠ q → j ≠ R → ρ2[j]? = some row := by
  have h1 : (ρ.set q (.tok (v + 1)))[R]? = some (.mix (M.set i (.osl q v 1 n (eInts l)))) := get_set_ne h (fun e => hne e.symm)
  refine ⟨ρ.set q (.tok (v + 1)), (ρ.set q (.tok (v + 1))).set R (.mix (M.set i (.osl q (v + 1) 1 (n + 1) (eInts (l ++ [x]))))), load1_ptr h (by simp [hi]), app22_t x hq (Nat.zero_le _) hn hn2, ?_, ?_, ?_, ?_⟩
  · rw [st22m h1 (by simpa using hi) rfl rfl, List.set_set]
  · rw [List.getElem?_set_self (get_lt h1)]
  · exact get_set_ne (by rw [List.getElem?_set_self (get_lt hq)]) hne
  · intro j row hj a b
    exact get_set_ne (get_set_ne hj a) b
section
variable {w : OW} (hw : WOk (wl w) (wl w).length) {s : Nat} (hs : s < (wl w).length)
include hw hs
theorem L95_2 {i R : Nat} {M : List DV} {ρ : Store} (hi : i < 3) (hM : M.length = 3) (hR : ρ[R]? = some (.mix M)) (h0 : M[i]? = some (.p .nilsl)) (x3 x10 x11 : DV) :
    ∃ ρ', f95_L2 guardT 0 x3 (.p (eLs (rowsA w s))) (.rsl R 1 0 3) (.p (pI (i : Nat))) x10 x11 (.p (pI (s : Nat))) (.p (pI (3 : Nat))) (.p (pI (i : Nat))) (.p (eLs (rowsA w s))) (.p (pI (3 : Nat))) (.p (pI (0 : Nat))) ρ =
      f95_L1 guardT 0 x3 (.p (eLs (rowsA w s))) (.rsl R 1 0 3) x10 x11 (.p (pI (s : Nat))) (.p (pI (3 : Nat))) (.p (pI (i + 1 : Nat))) ρ' ∧
      (∃ v, ρ'[R]? = some (.mix (M.set i (.osl ρ.length v 1 3 (eInts (tRow (wl w) s i)))))) ∧ ∀ j row, ρ[j]? = some row → j ≠ R → ρ'[j]? = some row := by
  have c : ∀ k, (L (rowsA w s)).getD k none = rowA w s k := fun k => rfl
  have hRl := get_lt hR
  have hiM : i < M.length := by omega
  -- the first number
  have g0 : (ρ ++ [Row.tok 0])[R]? = some (.mix M) := get_old hR
  have l0 : load1 (.ptr R i) ρ = some (.p .nilsl) := load1_ptr hR h0
  have s0 := st22m g0 (v := .osl ρ.length 0 1 1 (eInts [cell3 (wl w) s 0 i])) hiM rfl rfl
  have a1 : ((ρ ++ [Row.tok 0]).set R (.mix (M.set i (.osl ρ.length 0 1 1 (eInts [cell3 (wl w) s 0 i])))))[R]? = some (.mix (M.set i (.osl ρ.length 0 1 1 (eInts [cell3 (wl w) s 0 i])))) := by rw [List.getElem?_set_self (get_lt g0)]
  have b1 : ((ρ ++ [Row.tok 0]).set R (.mix (M.set i (.osl ρ.length 0 1 1 (eInts [cell3 (wl w) s 0 i])))))[ρ.length]? = some (.tok 0) := get_set_ne get_snoc (by omega)
  have k1 : ∀ j row, ρ[j]? = some row → j ≠ R → ((ρ ++ [Row.tok 0]).set R (.mix (M.set i (.osl ρ.length 0 1 1 (eInts [cell3 (wl w) s 0 i])))))[j]? = some row := fun j row h hj => get_set_ne (get_old h) hj
  generalize (ρ ++ [Row.tok 0]).set R (.mix (M.set i (.osl ρ.length 0 1 1 (eInts [cell3 (wl w) s 0 i])))) = ρa at *
  obtain ⟨ρb, ρc, m1, m2, m3, m4, m5, m6⟩ := ap48 (cell3 (wl w) s 1 i) a1 b1 (by omega) hiM rfl (by decide)
  obtain ⟨ρd, ρe, n1, n2, n3, n4, n5, n6⟩ := ap48 (cell3 (wl w) s 2 i) m4 m5 (by omega) hiM rfl (by decide)
  refine ⟨ρe, ?_, ⟨_, n4⟩, fun j row h hj => ?_⟩
  · rw [f95_L2_eq guardT rfl]
    simp only [b_lss, b_eql, b_neq, b_leq, b_geq, b_gtr, show ((0 : Nat) : Int) < (3 : Nat) by decide, gG, idx48 (w_i hw hs (show 0 < 3 by decide)), len27, load48, load22, load3, len48, len22, load1_ls (w_i hw hs (show 0 < 3 by decide)), c, idx48_r hi, Nat.zero_add, l0, idx22 (w_o hw hs (show 0 < 3 by decide) hi), load1_getD (w_o hw hs (show 0 < 3 by decide) hi), ← wl_cell, bs22_1, app22_0, s0, b_add, wrap_succ (show 0 ≤ 1000000 by decide)]
    rw [f95_L2_eq guardT rfl]
    simp only [b_lss, b_eql, b_neq, b_leq, b_geq, b_gtr, show ((1 : Nat) : Int) < (3 : Nat) by decide, gG, idx48 (w_i hw hs (show 1 < 3 by decide)), len27, load48, load22, load3, len48, len22, load1_ls (w_i hw hs (show 1 < 3 by decide)), c, idx48_r hi, Nat.zero_add, m1, idx22 (w_o hw hs (show 1 < 3 by decide) hi), load1_getD (w_o hw hs (show 1 < 3 by decide) hi), ← wl_cell, bs22_1, m2, m3, b_add, wrap_succ (show 1 ≤ 1000000 by decide)]
    rw [f95_L2_eq guardT rfl]
    simp only [b_lss, b_eql, b_neq, b_leq, b_geq, b_gtr, show ((1 + 1 : Nat) : Int) < (3 : Nat) by decide, gG, idx48 (w_i hw hs (show 1 + 1 < 3 by decide)), len27, load48, load22, load3, len48, len22, load1_ls (w_i hw hs (show 1 + 1 < 3 by decide)), c, idx48_r hi, Nat.zero_add, n1, idx22 (w_o hw hs (show 1 + 1 < 3 by decide) hi), load1_getD (w_o hw hs (show 1 + 1 < 3 by decide) hi), ← wl_cell, bs22_1, Nat.reduceAdd, n2, n3, b_add, wrap_succ (show 2 ≤ 1000000 by decide)]
    rw [f95_L2_eq guardT rfl]
    simp only [b_lss, b_eql, b_neq, b_leq, b_geq, b_gtr, show ¬ ((3 : Nat) : Int) < (3 : Nat) by decide, gG, b_add, wrap_succ (show i ≤ 1000000 by omega)]
  · have hj2 : j ≠ ρ.length := by have := get_lt h; omega
    exact n6 j row (m6 j row (k1 j row h hj) hj2 hj) hj2 hj
/-- What a finished state is. -/
def Ent (l : W3) (s : Nat) (σ : Store) (v : DV) : Prop :=
  ∃ R a b c va vb vc, v = .rsl R 1 0 3 ∧ σ[R]? = some (.mix [.osl a va 1 3 (eInts (tRow l s 0)), .osl b vb 1 3 (eInts (tRow l s 1)), .osl c vc 1 3 (eInts (tRow l s 2))])
omit hw hs in
theorem Ent.ext {l : W3} {s : Nat} {σ σ' : Store} {v : DV} (h : Ent l s σ v) (he : Ext σ σ') : Ent l s σ' v := by
  obtain ⟨R, a, b, c, va, vb, vc, h1, h2⟩ := h
  exact ⟨R, a, b, c, va, vb, vc, h1, he _ _ h2⟩
omit hw hs in
theorem mk48_3 (σ : Store) : makeSlice PP true 48 (.p (pI 3)) (.p (pI 3)) σ = some (.rsl σ.length 1 0 3, σ ++ [.mix [.p .nilsl, .p .nilsl, .p .nilsl]]) := mk51 (n := 3) (by decide) σ
omit hw hs in
theorem len48_r (R n : Nat) (σ : Store) : len PP 48 (.rsl R 1 0 n) σ = some (.p (pI (n : Nat))) := by simp [len, u48]
theorem L95_1 (x3 x10 x11 : DV) (σ : Store) :
    ∃ σ' v, f95_L1 guardT 0 x3 (.p (eLs (rowsA w s))) (.rsl σ.length 1 0 3) x10 x11 (.p (pI (s : Nat))) (.p (pI (3 : Nat))) (.p (pI (0 : Nat))) (σ ++ [.mix [.p .nilsl, .p .nilsl, .p .nilsl]]) =
      (append PP 0 true 27 27 x3 (.rsl σ'.length 1 0 1) (σ' ++ [.mix [v]])).bind (fun r => f95_L0 guardT 0 r.1 x10 x11 (.p (pI (s + 1 : Nat))) r.2) ∧ Ext σ σ' ∧ Ent (wl w) s σ' v ∧ v.one = true := by
  have h6 := hw.n6
  have hl : (L (rowsA w s)).length = 3 := by have := hw.rows s hs; rwa [wl_rows, List.length_map] at this
  have hlen : ∀ σ, len PP 48 (.p (eLs (rowsA w s))) σ = some (.p (pI (3 : Nat))) := fun σ => by rw [len48, hl]
  have g0 : (σ ++ [Row.mix [.p .nilsl, .p .nilsl, .p .nilsl]])[σ.length]? = some (.mix [.p .nilsl, .p .nilsl, .p .nilsl]) := get_snoc
  obtain ⟨σ1, e1, ⟨v1, g1⟩, k1⟩ := L95_2 hw hs (i := 0) (by decide) rfl g0 rfl x3 x10 x11
  simp only [List.set_cons_zero] at g1
  obtain ⟨σ2, e2, ⟨v2, g2⟩, k2⟩ := L95_2 hw hs (i := 1) (by decide) rfl g1 rfl x3 x10 x11
  simp only [List.set_cons_zero, List.set_cons_succ] at g2
  obtain ⟨σ3, e3, ⟨v3, g3⟩, k3⟩ := L95_2 hw hs (i := 2) (by decide) rfl g2 rfl x3 x10 x11
  simp only [List.set_cons_zero, List.set_cons_succ] at g3
  refine ⟨σ3, .rsl σ.length 1 0 3, ?_, fun j row h => ?_, ⟨_, _, _, _, _, _, _, rfl, g3⟩, rfl⟩
  · rw [f95_L1_eq guardT rfl]
    simp only [b_lss, b_eql, b_neq, b_leq, b_geq, b_gtr, show ((0 : Nat) : Int) < (3 : Nat) by decide, gG, hlen]
    rw [show (DV.p (PV.int IntKind.i64 0)) = (.p (pI ((0 : Nat) : Int))) from rfl, e1, f95_L1_eq guardT rfl]
    simp only [b_lss, b_eql, b_neq, b_leq, b_geq, b_gtr, show ((0 + 1 : Nat) : Int) < (3 : Nat) by decide, gG, hlen]
    rw [show (DV.p (PV.int IntKind.i64 0)) = (.p (pI ((0 : Nat) : Int))) from rfl, Nat.zero_add, e2, f95_L1_eq guardT rfl]
    simp only [b_lss, b_eql, b_neq, b_leq, b_geq, b_gtr, show ((1 + 1 : Nat) : Int) < (3 : Nat) by decide, gG, hlen]
    rw [show (DV.p (PV.int IntKind.i64 0)) = (.p (pI ((0 : Nat) : Int))) from rfl, show 1 + 1 = 2 from rfl, e3, f95_L1_eq guardT rfl]
    simp only [b_lss, b_eql, b_neq, b_leq, b_geq, b_gtr, show ¬ ((2 + 1 : Nat) : Int) < (3 : Nat) by decide, gG, bs27_r, b_add, wrap_succ (show s ≤ 1000000 by omega)]
  · have hj : j ≠ σ.length := by have := get_lt h; omega
    exact k3 j row (k2 j row (k1 j row (get_old h) hj) hj) hj
end
theorem L95_0 {w : OW} (hw : WOk (wl w) (wl w).length) : ∀ (k s : Nat) (x : DV) (cs : List DV) (σ : Store), (wl w).length - s = k → s ≤ (wl w).length → OutM σ s cs x → (∀ i (h : i < cs.length), Ent (wl w) i σ cs[i]) → cs.length = s →
    ∃ x' cs' σ', f95_L0 guardT 0 x (.p (eWt w)) (.p (pI ((L w).length : Nat))) (.p (pI (s : Nat))) σ = some (x', σ') ∧ OutM σ' (wl w).length cs' x' ∧ cs'.length = (wl w).length ∧ ∀ i (h : i < cs'.length), Ent (wl w) i σ' cs'[i]
  | 0, s, x, cs, σ, hk, hs, ho, he, hl => by
    have : s = (wl w).length := by omega
    subst this
    have hn : ¬ (((wl w).length : Nat) : Int) < ((L w).length : Nat) := by rw [wl_len]; omega
    refine ⟨x, cs, σ, ?_, ho, hl, he⟩
    rw [f95_L0_eq guardT rfl]
    simp only [b_lss, b_eql, b_neq, b_leq, b_geq, b_gtr, gG, hn]
  | k + 1, s, x, cs, σ, hk, hs, ho, he, hl => by
    have h6 := hw.n6
    have h : s < (wl w).length := by omega
    have h2 : s < (L w).length := by rw [← wl_len]; exact h
    have h' : (s : Int) < ((L w).length : Nat) := by omega
    have e : (L w).getD s none = rowsA w s := rfl
    obtain ⟨σ1, v, e1, x1, en, hv⟩ := L95_1 hw h x (.p (eWt w)) (.p (pI ((L w).length : Nat))) σ
    obtain ⟨x', σ', e2, o2, k2⟩ := (ho.ext x1).pushR (t := 27) (v := v) src27 u27 s48 bytes48 zero48 rfl (by decide) (by decide) hv (by omega)
    have hkeep : ∀ i v, Ent (wl w) i σ1 v → Ent (wl w) i σ' v := by
      rintro i v ⟨R, a, b, c, va, vb, vc, q1, q2⟩
      refine ⟨R, a, b, c, va, vb, vc, q1, k2 _ _ q2 ?_⟩
      rintro q hq rfl
      rcases ho.ext x1 with ⟨_, _, h3⟩ | ⟨q', h3, h4, h5, h6⟩
      · rw [h3] at hq; exact absurd hq (by simp)
      · rw [h3] at hq
        have hqq : q' = R := by injection hq
        rw [hqq, q2] at h4
        injection h4 with h4
        injection h4 with hcs
        have := he 0 (by omega)
        obtain ⟨R', _, _, _, _, _, _, q3, _⟩ := this
        simp only [← hcs, List.getElem_cons_zero] at q3
        exact absurd q3 (by simp)
    have ih := L95_0 hw k (s + 1) x' (cs ++ [v]) σ' (by omega) (by omega) o2 (fun i hi => ?_) (by simp [hl])
    · obtain ⟨x'', cs', σ'', e3, o3⟩ := ih
      refine ⟨x'', cs', σ'', ?_, o3⟩
      rw [f95_L0_eq guardT rfl]
      simp only [b_lss, b_eql, b_neq, b_leq, b_geq, b_gtr, gG, h', idx27 h2, len27, load48, load22, load3, len48, len22, load1_wt h2, e, mk48_3, len48_r]
      rw [show (DV.p (PV.int IntKind.i64 0)) = (.p (pI ((0 : Nat) : Int))) from rfl, e1, e2]
      exact e3
    · by_cases hi2 : i < cs.length
      · rw [List.getElem_append_left hi2]
        exact hkeep _ _ ((he i hi2).ext x1)
      · have : i = s := by simp at hi; omega
        subst this
        rw [List.getElem_append_right (by omega)]
        simp only [hl, Nat.sub_self, List.getElem_cons_zero]
        exact hkeep _ _ en
theorem thaw_ent {l : W3} {s : Nat} {σ : Store} {v : DV} (h : Ent l s σ v) : thawP 0 σ 3 v = some (eLs (tRows l s)) := by
  obtain ⟨R, a, b, c, va, vb, vc, rfl, h2⟩ := h
  simp [thawP, h2, mapO, loosens_ints, eLs, tRows, eSl, tRow]
theorem mapO_of {α β : Type} {f : α → Option β} : ∀ {l : List α} {m : List β}, l.length = m.length → (∀ i (h : i < l.length) (h2 : i < m.length), f l[i] = some m[i]) → mapO f l = some m
  | [], [], _, _ => rfl
  | a :: l, b :: m, h, hf => by
    have e1 := hf 0 (by simp) (by simp)
    have e2 := mapO_of (l := l) (m := m) (by simpa using h) fun i h1 h2 => by
      have := hf (i + 1) (by simp; omega) (by simp; omega)
      simpa using this
    simp only [List.getElem_cons_zero] at e1
    simp only [mapO, e1, e2]
theorem S95 {w : OW} {σ : Store} (hw : WOk (wl w) (wl w).length) : pureV CC 95 [.p (eWt w)] σ = some (.p (eWt (turnW (wl w)))) := by
  obtain ⟨x', cs, σ', h1, h2, h3, h4⟩ := L95_0 hw _ 0 (.p .nilsl) [] [] (Nat.sub_zero _) (Nat.zero_le _) (.inl ⟨rfl, rfl, rfl⟩) (fun i h => absurd h (by simp)) rfl
  refine pureV_free (by simp [wt_view]) rfl (F95_call (r := (x', σ')) ?_) ?_
  · rw [F95_eq]
    simp only [len27, load48, load22, load3, len48, len22, gG]
    exact h1
  · have hn := hw.n1
    rcases h2 with ⟨h5, _⟩ | ⟨q, rfl, h5, h6, h7⟩
    · omega
    · have e : mapO (thawP 0 σ' 3) cs = some ((List.range (wl w).length).map fun s => eLs (tRows (wl w) s)) := by
        refine mapO_of (by simp [h6]) fun i hi hi2 => ?_
        rw [List.getElem_map, List.getElem_range]
        exact thaw_ent (h4 i hi)
      have ht : cs.take (wl w).length = cs := List.take_of_length_le (by omega)
      simp [thawAll, thawPart, thaw, thaw1, thawP, h5, h6, ht, e, turnW, eWt]
end Go.D
end
/- A search layer by layer, in plain terms: nodes with paths in the order in which they are found. -/
section
set_option linter.unusedVariables false
set_option linter.unusedSimpArgs false
namespace Go.D

structure QE where
  n : List Int
  p : List Int
deriving Inhabited
def ePth (p : List Int) : PV := if p = [] then .nilsl else .sl false p.length (eInts p)
def nodeD (l : List Int) : List DV := l.map fun n => .p (pI n)
def qeP (x : QE) : List PV := eInts x.n ++ [ePth x.p]
def qeD (x : QE) : List DV := nodeD x.n ++ [.p (ePth x.p)]
def qsP (q : List QE) : List PV := q.flatMap qeP
def hasN (q : List QE) (n : List Int) : Bool := q.any fun x => decide (x.n = n)
def addN (q : List QE) (n : List Int) (p : List Int) : List QE := if hasN q n = true then q else q ++ [⟨n, p⟩]
def entN (q : List QE) : List (DV × DV) := q.map fun x => (.agg (nodeD x.n), .p (.bool true))
/-- The search: what vis says of the element at i, with all that is found up to then. -/
def bfsQ (vis : QE → List QE → Sum (List Int) (List QE)) : Nat → Nat → List QE → Option (List Int)
  | 0, _, _ => none
  | k + 1, i, q => match q[i]? with
    | none => none
    | some x => match vis x q with
      | .inl p => some p
      | .inr q' => bfsQ vis k (i + 1) q'
def addE (q : List QE) (x : QE) : List QE := addN q x.n x.p
theorem hasN_app (q r : List QE) (n : List Int) : hasN (q ++ r) n = (hasN q n || hasN r n) := by simp [hasN]
theorem hasN_mem {q : List QE} {n : List Int} : hasN q n = true ↔ ∃ x ∈ q, x.n = n := by simp [hasN]
theorem addN_pre (q : List QE) (n p : List Int) : q <+: addN q n p := by
  unfold addN
  split
  · exact List.prefix_refl _
  · exact List.prefix_append _ _
theorem loosen_pth (p : List Int) : loosen (ePth p) = ePth p := by
  unfold ePth
  split
  · rfl
  · simp [loosen, loosens_ints]
theorem loosens_app (a b : List PV) : loosens (a ++ b) = loosens a ++ loosens b := by
  induction a with
  | nil => rfl
  | cons x a ih => simp only [List.cons_append, loosens, ih]
theorem loosens_qe (x : QE) : loosens (qeP x) = qeP x := by
  unfold qeP
  rw [loosens_app, loosens_ints]
  simp [loosens, loosen_pth]
theorem loosens_qs : ∀ q : List QE, loosens (qsP q) = qsP q
  | [] => rfl
  | x :: q => by
    show loosens (qeP x ++ qsP q) = qeP x ++ qsP q
    rw [loosens_app, loosens_qe, loosens_qs q]
theorem qeP_len (x : QE) : (qeP x).length = x.n.length + 1 := by simp [qeP, eInts]
theorem qsP_app (a b : List QE) : qsP (a ++ b) = qsP a ++ qsP b := by simp [qsP]
theorem qsP_len {K : Nat} : ∀ {q : List QE}, (∀ x ∈ q, x.n.length = K) → (qsP q).length = q.length * (K + 1)
  | [], _ => by simp [qsP]
  | x :: q, h => by
    have h1 := h x (by simp)
    have h2 := qsP_len (q := q) fun y hy => h y (by simp [hy])
    show (qeP x ++ qsP q).length = _
    rw [List.length_append, qeP_len, h1, h2, List.length_cons, Nat.add_mul]
    omega
theorem qeP_map (x : QE) : (qeP x).map DV.p = qeD x := by simp [qeP, qeD, nodeD, eInts]
/-- The cells of one element. -/
theorem qsP_at {K : Nat} : ∀ {q : List QE} {i : Nat} {x : QE}, (∀ x ∈ q, x.n.length = K) → q[i]? = some x → ((qsP q).drop (i * (K + 1))).take (K + 1) = qeP x
  | [], i, x, _, h => by simp at h
  | y :: q, 0, x, hk, h => by
    have e : y = x := by simpa using h
    subst e
    have h1 := hk y (by simp)
    show List.take (K + 1) (List.drop (0 * (K + 1)) (qeP y ++ qsP q)) = _
    rw [Nat.zero_mul, List.drop_zero, List.take_append_of_le_length (by rw [qeP_len, h1]; exact Nat.le_refl _), List.take_of_length_le (by rw [qeP_len, h1]; exact Nat.le_refl _)]
  | y :: q, i + 1, x, hk, h => by
    have h1 := hk y (by simp)
    have ih := qsP_at (q := q) (i := i) (x := x) (fun z hz => hk z (by simp [hz])) (by simpa using h)
    show List.take (K + 1) (List.drop ((i + 1) * (K + 1)) (qeP y ++ qsP q)) = _
    have e : (i + 1) * (K + 1) = (qeP y).length + i * (K + 1) := by rw [qeP_len, h1, Nat.add_mul]; omega
    rw [e, List.drop_append]
    have e2 : List.drop ((qeP y).length + i * (K + 1)) (qeP y) = [] := List.drop_eq_nil_of_le (by omega)
    rw [e2, List.nil_append, Nat.add_sub_cancel_left]
    exact ih
theorem nodup_le {α : Type} [DecidableEq α] : ∀ {l u : List α}, l.Nodup → (∀ x ∈ l, x ∈ u) → l.length ≤ u.length
  | [], u, _, _ => Nat.zero_le _
  | a :: l, u, hn, h => by
    have ha := h a (by simp)
    rw [List.nodup_cons] at hn
    have ih := nodup_le (l := l) (u := u.erase a) hn.2 fun x hx => by
      have hne : x ≠ a := fun e => hn.1 (e ▸ hx)
      exact (List.mem_erase_of_ne hne).2 (h x (by simp [hx]))
    have h1 := List.length_erase_of_mem ha
    have h2 : 0 < u.length := List.length_pos_of_mem ha
    simp only [List.length_cons]
    omega
/-- All lists of numbers below bounds. -/
def allTo : List Nat → List (List Int)
  | [] => [[]]
  | b :: bs => (List.range b).flatMap fun (v : Nat) => (allTo bs).map fun l => Int.ofNat v :: l
theorem allTo_len : ∀ bs : List Nat, (allTo bs).length = bs.foldr (· * ·) 1
  | [] => rfl
  | b :: bs => by
    have ih := allTo_len bs
    simp only [allTo, List.length_flatMap, List.length_map, ih, List.foldr_cons]
    induction b with
    | zero => simp
    | succ b ihb => rw [List.range_succ, List.map_append, List.sum_append, ihb, Nat.add_mul]; simp
theorem allTo_mem : ∀ {bs : List Nat} {l : List Int}, l.length = bs.length → (∀ i (h1 : i < l.length) (h2 : i < bs.length), 0 ≤ l[i] ∧ l[i] < (bs[i] : Nat)) → l ∈ allTo bs
  | [], [], _, _ => by simp [allTo]
  | b :: bs, v :: l, hl, h => by
    have h0 := h 0 (by simp) (by simp)
    have ih := allTo_mem (bs := bs) (l := l) (by simpa using hl) fun i h1 h2 => by
      have := h (i + 1) (by simp; omega) (by simp; omega)
      simpa using this
    simp only [List.getElem_cons_zero] at h0
    simp only [allTo, List.mem_flatMap, List.mem_range, List.mem_map]
    refine ⟨v.toNat, by omega, l, ih, ?_⟩
    show ((v.toNat : Nat) : Int) :: l = v :: l
    rw [Int.toNat_of_nonneg h0.1]
end Go.D
end
/- Lists of watches; lists that grow from a literal; equal lists. -/
section
set_option linter.unusedVariables false
set_option linter.unusedSimpArgs false
namespace Go.D
/-- Lists of watches. -/
def eWs : Option (List OW) → PV
  | none => .nilsl
  | some l => .sl false l.length (l.map eWt)
theorem u56 : PP.underlying 56 = some (.slice 27) := Eq.trans (by kernel_rfl) rfl
theorem loosens_ws (l : List OW) : loosens (l.map eWt) = l.map eWt := by
  induction l with
  | nil => rfl
  | cons a l ih => simp only [List.map_cons, loosens, loosen_wt, ih]
theorem loosen_ws (o : Option (List OW)) : loosen (eWs o) = eWs o := by
  cases o <;> simp [eWs, loosen, loosens_ws]
theorem ws_view (o : Option (List OW)) : view (.p (eWs o)) = .p (eWs o) := by simp [view, viewCell, loosen_ws]
theorem box_ws (o : Option (List OW)) : boxV (.p (eWs o)) = some [.p (eWs o)] := rfl
theorem load56 (x : DV) (σ : Store) : load PP 56 x σ = load1 x σ := Eq.trans (by kernel_rfl) rfl
theorem load27' (x : DV) (σ : Store) : load PP 27 x σ = load1 x σ := Eq.trans (by kernel_rfl) rfl
theorem len56 (o : Option (List OW)) (σ : Store) : len PP 56 (.p (eWs o)) σ = some (.p (.int .i64 ((L o).length : Nat))) := by cases o <;> simp [len, u56, eWs]
theorem idx56 {o : Option (List OW)} {i : Nat} (h : i < (L o).length) : indexAddr PP 56 (.p (eWs o)) (.p (.int .i64 (i : Nat))) = some (.pptr ((L o).map eWt) i) := by
  cases o with
  | none => simp at h
  | some l =>
    have h2 : (0 : Int) ≤ (i : Int) ∧ (i : Int) < (l.length : Nat) := by simp at h; omega
    simp [indexAddr, u56, s27, eWs, h2]
theorem load1_ws {l : List OW} {i : Nat} (h : i < l.length) (σ : Store) : load1 (.pptr (l.map eWt) i) σ = some (.p (eWt (l.getD i none))) :=
  load1_pptr (by simp [h, List.getD_eq_getElem?_getD]) σ
/-- A list that grows: nothing yet, a literal, or a row of its own from B on. -/
def Grow (σ : Store) (B sz n : Nat) (cs : List PV) (x : DV) : Prop :=
  cs.length = n * sz ∧ ((n = 0 ∧ x = .p .nilsl) ∨ x = .p (.sl true n cs) ∨ ∃ r ver, x = .osl r ver sz n cs ∧ σ[r]? = some (.tok ver) ∧ B ≤ r)
theorem Grow.push {σ : Store} {t e lo B sz b n m : Nat} {z : List DV} {cs vs : List PV} {x : DV} (hs : srcType PP t = true) (hu : PP.underlying t = some (.slice e)) (h1 : size? PP e = some sz) (h2 : bytes? PP e = some b) (h3 : zeroOf PP e = some z)
    (h4 : z.length = sz) (hz : 0 < sz) (hb : 0 < b) (hb2 : b ≤ 1000) (hv : vs.length = m * sz) (hm : m ≠ 0) (hm2 : m ≤ 1000) (ho : Grow σ B sz n cs x) (hn : n ≤ 1000000) (hlo : lo ≤ B) (hB : B ≤ σ.length) :
    ∃ r ver σ', append PP lo false t t x (.p (.sl true m vs)) σ = some (.osl r ver sz (n + m) (cs ++ vs), σ') ∧ Grow σ' B sz (n + m) (cs ++ vs) (.osl r ver sz (n + m) (cs ++ vs)) ∧ σ'[r]? = some (.tok ver) ∧ B ≤ r ∧ (∀ (j : Nat) (row : Row), j < B → σ[j]? = some row → σ'[j]? = some row) ∧ σ.length ≤ σ'.length ∧ (∀ (j : Nat) (row : Row), (∀ ver', row ≠ .tok ver') → σ[j]? = some row → σ'[j]? = some row) := by
  have hsrc : source σ sz (.p (.sl true m vs)) = some (m, vs.map DV.p) := by simp [source, hv]
  have hz0 : ¬ (z.length ≠ sz ∨ sz = 0) := by omega
  have e1 : (n + m) * b ≤ 140737488355328 := Nat.le_trans (Nat.mul_le_mul (show n + m ≤ 1001000 by omega) hb2) (by decide)
  have e2 : n + m ≤ 140737488355328 := by omega
  have hnm : n + m ≠ 0 := by omega
  obtain ⟨hc, ho⟩ := ho
  have hl : (cs ++ vs).length = (n + m) * sz := by rw [List.length_append, hc, hv, Nat.add_mul]
  rcases ho with ⟨rfl, rfl⟩ | rfl | ⟨r, ver, rfl, hr, hBr⟩
  · have hcs : cs = [] := List.length_eq_zero_iff.1 (by simpa using hc)
    subst hcs
    refine ⟨σ.length, 0, σ ++ [.tok 0], ?_, ⟨hl, .inr (.inr ⟨_, _, rfl, get_snoc, hB⟩)⟩, get_snoc, hB, fun j row _ h => get_old h, by simp, fun j row _ h => get_old h⟩
    simp only [append, hs, hu, h1, h2, h3, hz0, hsrc, appNil]
    simp only [Nat.zero_add] at e1 e2 ⊢
    simp [e1, e2, hb, hm, pures_map]
  · refine ⟨σ.length, 0, σ ++ [.tok 0], ?_, ⟨hl, .inr (.inr ⟨_, _, rfl, get_snoc, hB⟩)⟩, get_snoc, hB, fun j row _ h => get_old h, by simp, fun j row _ h => get_old h⟩
    simp only [append, hs, hu, h1, h2, h3, hz0, hsrc, appLit]
    simp [e1, e2, hb, hm, hc, pures_map]
  · refine ⟨r, ver + 1, σ.set r (.tok (ver + 1)), ?_, ⟨hl, .inr (.inr ⟨_, _, rfl, ?_, hBr⟩)⟩, ?_, hBr, fun j row hj h => get_set_ne h (by omega), by simp, fun j row hj h => get_set_ne h ?_⟩
    · have hlr : lo ≤ r := by omega
      simp only [append, hs, hu, h1, h2, h3, hz0, hsrc, appTok]
      simp [e1, e2, hb, hc, hlr, hr, pures_map]
    · rw [List.getElem?_set_self (get_lt hr)]
    · rw [List.getElem?_set_self (get_lt hr)]
    · rintro rfl
      rw [hr] at h
      injection h with h
      exact hj ver h.symm
theorem Grow.snoc {σ : Store} {B sz n : Nat} {cs : List PV} {x : DV} {r : Row} (h : Grow σ B sz n cs x) : Grow (σ ++ [r]) B sz n cs x := by
  refine ⟨h.1, ?_⟩
  rcases h.2 with h | h | ⟨q, ver, h1, h2, h3⟩
  · exact .inl h
  · exact .inr (.inl h)
  · exact .inr (.inr ⟨q, ver, h1, get_old h2, h3⟩)
theorem Grow.ext {σ σ' : Store} {B sz n : Nat} {cs : List PV} {x : DV} (h : Grow σ B sz n cs x) (he : Ext σ σ') : Grow σ' B sz n cs x := by
  refine ⟨h.1, ?_⟩
  rcases h.2 with h | h | ⟨q, ver, h1, h2, h3⟩
  · exact .inl h
  · exact .inr (.inl h)
  · exact .inr (.inr ⟨q, ver, h1, he _ _ h2, h3⟩)
/-- What is seen of it in a call. -/
theorem Grow.vw {σ : Store} {B sz n : Nat} {cs : List PV} {x : DV} (h : Grow σ B sz n cs x) (hn : n ≠ 0) : view x = .p (.sl false n (loosens cs)) := by
  rcases h.2 with h | rfl | ⟨q, ver, rfl, _⟩
  · exact absurd h.1 hn
  · simp [view, viewCell, loosen]
  · simp [view, viewCell]
theorem idx22x {ex : Bool} {n i : Nat} {cs : List PV} (h : i < n) : indexAddr PP 22 (.p (.sl ex n cs)) (.p (.int .i64 (i : Nat))) = some (.pptr cs i) := by
  have h2 : (0 : Int) ≤ (i : Int) ∧ (i : Int) < (n : Nat) := by omega
  simp [indexAddr, u22, s3, h2, h]
end Go.D
end
/- What a call's arguments are: plain data of any type without pointers, as values of D. For any program. -/
section
set_option linter.unusedVariables false
set_option linter.unusedSimpArgs false
namespace Go.D

mutual
inductive Plain (P : Program) : TypeId → List PV → Prop where
  | bool {t : TypeId} (h : P.underlying t = some .bool) (b : Bool) : Plain P t [.bool b]
  | int {t : TypeId} {k : IntKind} (h : P.underlying t = some (.int k)) (n : Int) (hw : (Lit.int k n).wf = true) : Plain P t [.int k n]
  | str {t : TypeId} (h : P.underlying t = some .string) (s : ByteArray) (hs : s.size ≤ maxLen) : Plain P t [.str s]
  | nilsl {t e : TypeId} (h : P.underlying t = some (.slice e)) : Plain P t [.nilsl]
  | sl {t e : TypeId} (h : P.underlying t = some (.slice e)) (n : Nat) (cs : List PV) (hx : PlainL P (List.replicate n e) cs) : Plain P t [.sl false n cs]
  | struct {t : TypeId} {fs : Array Field} (h : P.underlying t = some (.struct fs)) (cs : List PV) (hx : PlainL P (fs.toList.map (·.type)) cs) : Plain P t cs
  | array {t e : TypeId} {n : Nat} (h : P.underlying t = some (.array n e)) (cs : List PV) (hx : PlainL P (List.replicate n e) cs) : Plain P t cs
inductive PlainL (P : Program) : List TypeId → List PV → Prop where
  | nil : PlainL P [] []
  | cons {t : TypeId} {ts : List TypeId} {a b : List PV} (h : Plain P t a) (hs : PlainL P ts b) : PlainL P (t :: ts) (a ++ b)
end

/-! ### Taking apart -/
section
variable {P : Program} {t e : TypeId} {k : IntKind} {cs : List PV}
theorem Plain.inv_int (hu : P.underlying t = some (.int k)) (h : Plain P t cs) : ∃ n, (Lit.int k n).wf = true ∧ cs = [.int k n] := by
  cases h with
  | int h n hw =>
    rw [hu] at h
    injection h with h
    injection h with h
    exact ⟨n, by rw [h]; exact hw, by rw [h]⟩
  | _ h => rw [hu] at h; injection h with h; exact absurd h (by simp)
theorem Plain.inv_bool (hu : P.underlying t = some .bool) (h : Plain P t cs) : ∃ b, cs = [.bool b] := by
  cases h with
  | bool h b => exact ⟨b, rfl⟩
  | _ h => rw [hu] at h; injection h with h; exact absurd h (by simp)
theorem Plain.inv_str (hu : P.underlying t = some .string) (h : Plain P t cs) : ∃ s, s.size ≤ maxLen ∧ cs = [.str s] := by
  cases h with
  | str h s hs => exact ⟨s, hs, rfl⟩
  | _ h => rw [hu] at h; injection h with h; exact absurd h (by simp)
theorem Plain.inv_slice (hu : P.underlying t = some (.slice e)) (h : Plain P t cs) : cs = [.nilsl] ∨ ∃ n xs, PlainL P (List.replicate n e) xs ∧ cs = [.sl false n xs] := by
  cases h with
  | nilsl h => exact .inl rfl
  | sl h n xs hx =>
    rw [hu] at h
    injection h with h
    injection h with h
    exact .inr ⟨n, xs, by rw [h]; exact hx, rfl⟩
  | _ h => rw [hu] at h; injection h with h; exact absurd h (by simp)
theorem Plain.inv_struct {fs : Array Field} (hu : P.underlying t = some (.struct fs)) (h : Plain P t cs) : PlainL P (fs.toList.map (·.type)) cs := by
  cases h with
  | struct h xs hx =>
    rw [hu] at h
    injection h with h
    injection h with h
    rw [h]; exact hx
  | _ h => rw [hu] at h; injection h with h; exact absurd h (by simp)
theorem Plain.inv_array {n : Nat} (hu : P.underlying t = some (.array n e)) (h : Plain P t cs) : PlainL P (List.replicate n e) cs := by
  cases h with
  | array h xs hx =>
    rw [hu] at h
    injection h with h
    injection h with h1 h2
    rw [h1, h2]; exact hx
  | _ h => rw [hu] at h; injection h with h; exact absurd h (by simp)
theorem PlainL.inv_nil (h : PlainL P [] cs) : cs = [] := by cases h; rfl
theorem PlainL.inv_cons {ts : List TypeId} (h : PlainL P (t :: ts) cs) : ∃ a b, Plain P t a ∧ PlainL P ts b ∧ cs = a ++ b := by
  cases h with
  | cons h hs => exact ⟨_, _, h, hs, rfl⟩
theorem PlainL.inv_rep {α : Type} {f : α → List PV} (hf : ∀ a, Plain P t a → ∃ x, a = f x) : ∀ {n : Nat} {cs : List PV}, PlainL P (List.replicate n t) cs → ∃ xs : List α, xs.length = n ∧ cs = xs.flatMap f
  | 0, cs, h => ⟨[], rfl, h.inv_nil⟩
  | n + 1, cs, h => by
    obtain ⟨a, b, h1, h2, rfl⟩ := PlainL.inv_cons (ts := List.replicate n t) h
    obtain ⟨x, rfl⟩ := hf a h1
    obtain ⟨xs, h3, rfl⟩ := PlainL.inv_rep hf h2
    exact ⟨x :: xs, by simp [h3], by simp⟩
end

/-! ### Types that are read -/
def layOk (P : Program) (ok : TypeId → Bool) (total : Nat) : Nat → List Field → Bool
  | off, [] => off == total
  | off, f :: fs => f.offset == off && ok f.type && layOk P ok total (off + P.cellsOf f.type) fs
def plainTy (P : Program) : Nat → TypeId → Bool
  | 0, _ => false
  | n + 1, t => match P.underlying t with
    | some .bool | some (.int _) | some .string => true
    | some (.slice e) => decide (0 < P.cellsOf e) && plainTy P n e
    | some (.struct fs) => layOk P (plainTy P n) (P.cellsOf t) 0 fs.toList
    | some (.array m e) => m * P.cellsOf e == P.cellsOf t && plainTy P n e
    | _ => false

section
variable {H : Type} {enc : TypeId × Value → H} {W : World} {P : Program} {hd : Bool}
abbrev memR (W : World) : Mem := fun b o => W.cell? ⟨b, o, none⟩

theorem spot_cell {a : Addr} {v : Value} (h : W.cell? a = some v) : a.spot = none := by
  unfold World.cell? at h
  split at h
  · split at h
    · exact absurd h (by simp)
    · rename_i hs
      cases e : a.spot with
      | none => rfl
      | some s => rw [e] at hs; exact absurd rfl hs
  · exact absurd h (by simp)
theorem addr_eq {a : Addr} {n : Nat} (h : a.spot = none) : a.add n = ⟨a.block, a.off + n, none⟩ := by
  cases a with
  | mk b o s => cases h; exact Addr.add_mid b o n

/-- Cells of pure values that stand for values. -/
def RelL (M : Mem) (ps : List PV) (vs : List Value) : Prop := ps.length = vs.length ∧ ∀ j (h1 : j < ps.length) (h2 : j < vs.length), PRel M ps[j] vs[j]

theorem RelL.append {M : Mem} {a c : List PV} {b d : List Value} (h : RelL M a b) (h2 : RelL M c d) : RelL M (a ++ c) (b ++ d) := by
  refine ⟨by simp [h.1, h2.1], fun j h3 h4 => ?_⟩
  by_cases hj : j < a.length
  · rw [List.getElem_append_left hj, List.getElem_append_left (by rw [← h.1]; exact hj)]
    exact h.2 j hj _
  · rw [List.getElem_append_right (by omega), List.getElem_append_right (by rw [← h.1]; omega)]
    have e : j - b.length = j - a.length := by rw [h.1]
    simp only [e]
    refine h2.2 _ (by simp at h3; omega) ?_
/-- Elements one after another. -/
theorem elems_read {e : TypeId} {sz : Nat} {b : Nat} : ∀ (n o : Nat),
    (∀ i, i < n → ∃ ps vs, Plain P e ps ∧ vs.length = sz ∧ RelL (memR W) ps vs ∧ ∀ j (h : j < vs.length), W.cell? ⟨b, o + i * sz + j, none⟩ = some vs[j]) →
    ∃ cs vs, PlainL P (List.replicate n e) cs ∧ vs.length = n * sz ∧ RelL (memR W) cs vs ∧ ∀ j (h : j < vs.length), W.cell? ⟨b, o + j, none⟩ = some vs[j]
  | 0, o, h => ⟨[], [], .nil, by simp, ⟨rfl, fun j h1 _ => absurd h1 (by simp)⟩, fun j h => absurd h (by simp)⟩
  | n + 1, o, h => by
    obtain ⟨ps, vs, h1, h2, h3, h4⟩ := h 0 (by omega)
    obtain ⟨cs, ws, g1, g2, g3, g4⟩ := elems_read n (o + sz) fun i hi => by
      obtain ⟨ps, vs, k1, k2, k3, k4⟩ := h (i + 1) (by omega)
      refine ⟨ps, vs, k1, k2, k3, fun j hj => ?_⟩
      have : o + sz + i * sz + j = o + (i + 1) * sz + j := by rw [Nat.add_mul]; omega
      rw [this]
      exact k4 j hj
    refine ⟨ps ++ cs, vs ++ ws, .cons h1 g1, by simp [h2, g2, Nat.add_mul]; omega, h3.append g3, fun j hj => ?_⟩
    by_cases hjv : j < vs.length
    · rw [List.getElem_append_left hjv]
      have := h4 j hjv
      simpa using this
    · rw [List.getElem_append_right (by omega)]
      have := g4 (j - vs.length) (by simp at hj; omega)
      have e2 : o + sz + (j - vs.length) = o + j := by omega
      rwa [e2] at this
theorem layOk_le {ok : TypeId → Bool} {total : Nat} : ∀ (fs : List Field) (off : Nat), layOk P ok total off fs = true → off ≤ total
  | [], off, h => by
    have : off = total := by simpa [layOk] using h
    omega
  | f :: fs, off, h => by
    simp only [layOk, Bool.and_eq_true] at h
    have := layOk_le fs _ h.2
    omega
theorem fields_read {ok : TypeId → Bool} {total : Nat} {cs : List Value} (hc : cs.length = total) : ∀ (fs : List Field) (off : Nat), layOk P ok total off fs = true →
    (∀ f ∈ fs, ok f.type = true → ∃ ps, Plain P f.type ps ∧ RelL (memR W) ps ((cs.drop f.offset).take (P.cellsOf f.type))) →
    ∃ ps, PlainL P (fs.map (·.type)) ps ∧ RelL (memR W) ps (cs.drop off)
  | [], off, h, hf => by
    have : off = total := by simpa [layOk] using h
    refine ⟨[], .nil, ?_⟩
    rw [List.drop_eq_nil_of_le (by omega)]
    exact ⟨rfl, fun j h1 _ => absurd h1 (by simp)⟩
  | f :: fs, off, h, hf => by
    simp only [layOk, Bool.and_eq_true, beq_iff_eq] at h
    obtain ⟨⟨h1, h2⟩, h3⟩ := h
    obtain ⟨ps, g1, g2⟩ := hf f (by simp) h2
    obtain ⟨qs, k1, k2⟩ := fields_read hc fs _ h3 fun g hg => hf g (by simp [hg])
    refine ⟨ps ++ qs, .cons g1 k1, ?_⟩
    have e : cs.drop off = (cs.drop off).take (P.cellsOf f.type) ++ cs.drop (off + P.cellsOf f.type) := by
      rw [← List.drop_drop, List.take_append_drop]
    rw [h1] at g2
    rw [e]
    exact g2.append k2
theorem parts_read {e : TypeId} {sz : Nat} {cs : List Value} : ∀ (n off : Nat), cs.length = off + n * sz →
    (∀ i, i < n → ∃ ps, Plain P e ps ∧ RelL (memR W) ps ((cs.drop (off + i * sz)).take sz)) → ∃ ps, PlainL P (List.replicate n e) ps ∧ RelL (memR W) ps (cs.drop off)
  | 0, off, hc, h => by
    refine ⟨[], .nil, ?_⟩
    rw [List.drop_eq_nil_of_le (by omega)]
    exact ⟨rfl, fun j h1 _ => absurd h1 (by simp)⟩
  | n + 1, off, hc, h => by
    obtain ⟨ps, g1, g2⟩ := h 0 (by omega)
    obtain ⟨qs, k1, k2⟩ := parts_read (sz := sz) n (off + sz) (by rw [hc, Nat.add_mul]; omega) fun i hi => by
      obtain ⟨ps, a1, a2⟩ := h (i + 1) (by omega)
      refine ⟨ps, a1, ?_⟩
      have : off + (i + 1) * sz = off + sz + i * sz := by rw [Nat.add_mul]; omega
      rwa [this] at a2
    refine ⟨ps ++ qs, .cons g1 k1, ?_⟩
    have e : cs.drop off = (cs.drop off).take sz ++ cs.drop (off + sz) := by
      rw [← List.drop_drop, List.take_append_drop]
    rw [Nat.zero_mul, Nat.add_zero] at g2
    rw [e]
    exact g2.append k2

theorem read_plain : ∀ (m fuel : Nat) (t : TypeId) (cs : List Value) (x : DataW H × List MemPlace), plainTy P m t = true → DataW.trod enc P W 0 (fun _ => true) hd fuel t cs = some x → ∃ ps, Plain P t ps ∧ RelL (memR W) ps cs
  | 0, _, _, _, _, hp, _ => by simp [plainTy] at hp
  | m + 1, fuel, t, cs, x, hp, h => by
    unfold plainTy at hp
    split at hp
    · rename_i hu
      obtain ⟨b, rfl, _⟩ := DataW.trod_bool hu h
      refine ⟨[.bool b], .bool hu b, rfl, fun j h1 h2 => ?_⟩
      match j, h1 with
      | 0, _ => exact .bool b
    · rename_i k hu
      obtain ⟨n, rfl, _, hw⟩ := DataW.trod_int hu h
      refine ⟨[.int k n], .int hu n hw, rfl, fun j h1 h2 => ?_⟩
      match j, h1 with
      | 0, _ => exact .int k n
    · rename_i hu
      obtain ⟨s, rfl, _, hs⟩ := DataW.trod_string hu h
      refine ⟨[.str s], .str hu s hs, rfl, fun j h1 h2 => ?_⟩
      match j, h1 with
      | 0, _ => exact .str s
    · rename_i e hu
      simp only [Bool.and_eq_true, decide_eq_true_eq] at hp
      obtain ⟨hsz, hpe⟩ := hp
      rcases DataW.trod_slice hu h with ⟨rfl, _⟩ | ⟨a, len, cap, elems, rest, n, _, rfl, _, _, hl, hm, hlen, hel, hrest, _⟩
      · refine ⟨[.nilsl], .nilsl hu, rfl, fun j h1 h2 => ?_⟩
        match j, h1 with
        | 0, _ => exact .nilsl
      · have hrest := hrest rfl
        have hspot : cap ≠ 0 → a.spot = none := by
          intro hc
          have key : ∃ cs, W.cells? 0 (a.add 0) (P.cellsOf e) = some cs := by
            by_cases h0 : 0 < len
            · have h1 := hel 0 h0
              rw [List.getElem?_eq_getElem (by omega)] at h1
              obtain ⟨cs, h2, _⟩ := Option.bind_eq_some_iff.1 h1
              exact ⟨cs, by simpa using h2⟩
            · have h1 := hrest.2 0 (by omega)
              rw [List.getElem?_eq_getElem (by omega)] at h1
              obtain ⟨cs, h2, _⟩ := Option.bind_eq_some_iff.1 h1
              have hl0 : len = 0 := by omega
              exact ⟨cs, by simpa [hl0] using h2⟩
          obtain ⟨cs, h2⟩ := key
          obtain ⟨_, h3, h4⟩ := World.cells?_some h2
          have h5 := h4 0 hsz
          rw [List.getElem?_eq_getElem (by omega)] at h5
          exact spot_cell (a := a) h5
        obtain ⟨ps, vs, g1, g2, g3, g4⟩ := elems_read (P := P) (W := W) (e := e) (sz := P.cellsOf e) (b := a.block) len a.off fun i hi => by
          have h1 := hel i hi
          rw [List.getElem?_eq_getElem (by omega)] at h1
          obtain ⟨vs, h2, h3⟩ := Option.bind_eq_some_iff.1 h1
          obtain ⟨ps, k1, k2⟩ := read_plain m n e vs _ hpe h3
          obtain ⟨_, h5, h4⟩ := World.cells?_some h2
          refine ⟨ps, vs, k1, h5, k2, fun j hj => ?_⟩
          have h6 := h4 j (by omega)
          have hs := hspot (by omega)
          rw [addr_eq hs, addr_eq rfl, List.getElem?_eq_getElem hj] at h6
          exact h6
        refine ⟨[.sl false len ps], .sl hu len ps g1, rfl, fun j h1 h2 => ?_⟩
        match j, h1 with
        | 0, _ =>
          refine .sl (fun j => vs.getD j Go.undef) hspot hl (by simp) (fun j hj => ?_) (fun j hj => ?_)
          · have hj2 : j < vs.length := by rw [← g3.1]; exact hj
            show W.cell? _ = _
            rw [List.getD_eq_getElem?_getD, List.getElem?_eq_getElem hj2]
            exact g4 j hj2
          · have hj2 : j < vs.length := by rw [← g3.1]; exact hj
            rw [List.getD_eq_getElem?_getD, List.getElem?_eq_getElem hj2]
            exact g3.2 j hj hj2
    · rename_i fs hu
      obtain ⟨xs, n, _, _, hl, hlen, hf⟩ := DataW.trod_struct hu h
      obtain ⟨ps, g1, g2⟩ := fields_read (P := P) (W := W) hl fs.toList 0 hp fun f hfm hok => by
        obtain ⟨i, hi, rfl⟩ := List.getElem_of_mem hfm
        have hi2 : i < fs.size := by simpa using hi
        have h1 := hf i fs[i] (by simp [hi2])
        rw [List.getElem?_eq_getElem (by omega)] at h1
        simp only [Array.getElem_toList] at hok ⊢
        obtain ⟨ps, k1, k2⟩ := read_plain m n _ _ _ hok h1
        exact ⟨ps, k1, k2⟩
      exact ⟨ps, .struct hu ps g1, g2⟩
    · rename_i k e hu
      simp only [Bool.and_eq_true, beq_iff_eq] at hp
      obtain ⟨xs, n, _, _, hl, hlen, hf⟩ := DataW.trod_array hu h
      obtain ⟨ps, g1, g2⟩ := parts_read (P := P) (W := W) (e := e) (sz := P.cellsOf e) (cs := cs) k 0 (by rw [hl, ← hp.1]; omega) fun i hi => by
        have h1 := hf i hi
        rw [List.getElem?_eq_getElem (by omega)] at h1
        obtain ⟨ps, k1, k2⟩ := read_plain m n _ _ _ hp.2 h1
        rw [Nat.zero_add]
        exact ⟨ps, k1, k2⟩
      exact ⟨ps, .array hu ps g1, g2⟩
    · exact absurd hp (by simp)

/-! ### Arguments -/
theorem relL_agg {ps : List PV} {vs : Array Value} (h : RelL (memR W) ps vs.toList) : VRel (fun _ _ => none) (memR W) (.agg (ps.map .p)) (.agg vs) := by
  refine .agg (by have := h.1; simp at this; simp [this]) fun j h1 h2 => ?_
  have := h.2 j (by simpa using h1) (by simpa using h2)
  simp only [List.getElem_map]
  exact .p (by simpa using this)
theorem relL_one {p : PV} {v : Value} (h : RelL (memR W) [p] [v]) : VRel (fun _ _ => none) (memR W) (.p p) v := .p (h.2 0 (by simp) (by simp))
variable {r : Reach} {b0 : Nat} {v : Value} {d : DataW H} {ps : List MemPlace} {t : TypeId}
theorem read_struct {fs : Array Field} (m : Nat) (hu : P.underlying t = some (.struct fs)) (hp : plainTy P m t = true) (hok : Value.okWide P W r b0 t v) (h : DataW.Trod enc P W 0 (fun _ => true) hd t v d ps) :
    ∃ cs, Plain P t cs ∧ VRel (fun _ _ => none) (memR W) (.agg (cs.map .p)) v := by
  simp only [Value.okWide, hu] at hok
  obtain ⟨vs, rfl, _⟩ := hok
  obtain ⟨fuel, h⟩ := h
  obtain ⟨cs, h1, h2⟩ := read_plain m fuel t _ _ hp h
  exact ⟨cs, h1, relL_agg h2⟩
theorem read_array {n : Nat} {e : TypeId} (m : Nat) (hu : P.underlying t = some (.array n e)) (hp : plainTy P m t = true) (hok : Value.okWide P W r b0 t v) (h : DataW.Trod enc P W 0 (fun _ => true) hd t v d ps) :
    ∃ cs, Plain P t cs ∧ VRel (fun _ _ => none) (memR W) (.agg (cs.map .p)) v := by
  simp only [Value.okWide, hu] at hok
  obtain ⟨vs, rfl, _⟩ := hok
  obtain ⟨fuel, h⟩ := h
  obtain ⟨cs, h1, h2⟩ := read_plain m fuel t _ _ hp h
  exact ⟨cs, h1, relL_agg h2⟩
theorem read_slice {e : TypeId} (m : Nat) (hu : P.underlying t = some (.slice e)) (hp : plainTy P m t = true) (hok : Value.okWide P W r b0 t v) (h : DataW.Trod enc P W 0 (fun _ => true) hd t v d ps) :
    ∃ c, Plain P t [c] ∧ VRel (fun _ _ => none) (memR W) (.p c) v := by
  obtain ⟨a0, len, cap, rfl⟩ := Go.WideShapes.okWide_slice hu hok
  obtain ⟨fuel, h⟩ := h
  obtain ⟨cs, h1, h2⟩ := read_plain m fuel t _ _ hp h
  rcases h1.inv_slice hu with rfl | ⟨n, xs, _, rfl⟩
  · exact ⟨_, h1, relL_one h2⟩
  · exact ⟨_, h1, relL_one h2⟩
theorem read_intA {k : IntKind} (hu : P.underlying t = some (.int k)) (hok : Value.okWide P W r b0 t v) (h : DataW.Trod enc P W 0 (fun _ => true) hd t v d ps) :
    ∃ n, (Lit.int k n).wf = true ∧ VRel (fun _ _ => none) (memR W) (.p (.int k n)) v := by
  obtain ⟨n, rfl⟩ := Go.WideShapes.okWide_int hu hok
  obtain ⟨fuel, h⟩ := h
  obtain ⟨n', h1, _, h2⟩ := DataW.trod_int hu h
  have : n = n' := by simpa [Value.cells] using h1
  subst this
  exact ⟨n, h2, .p (.int _ _)⟩
theorem read_strA (hu : P.underlying t = some .string) (hok : Value.okWide P W r b0 t v) (h : DataW.Trod enc P W 0 (fun _ => true) hd t v d ps) :
    ∃ s, s.size ≤ maxLen ∧ VRel (fun _ _ => none) (memR W) (.p (.str s)) v := by
  obtain ⟨s, rfl⟩ := Go.WideShapes.okWide_string hu hok
  obtain ⟨fuel, h⟩ := h
  obtain ⟨s', h1, _, h2⟩ := DataW.trod_string hu h
  have : s = s' := by simpa [Value.cells] using h1
  subst this
  exact ⟨s, h2, .p (.str _)⟩
end
end Go.D
end
/- What a call's arguments are, as values of D: watches, pairs, lists of watches, rules. -/
section
set_option linter.unusedVariables false
set_option linter.unusedSimpArgs false
set_option maxRecDepth 100000
namespace Go.D
open Go.ChangeShapes Go.WideShapes Go.ChangeAt Go.RowKit

theorem dec3 {a : List PV} (h : Plain PP 3 a) : ∃ n, a = [pI n] := by
  obtain ⟨n, _, rfl⟩ := h.inv_int ul3
  exact ⟨n, rfl⟩
theorem flat1 {α : Type} (f : α → PV) (l : List α) : l.flatMap (fun a => [f a]) = l.map f := by
  induction l with
  | nil => rfl
  | cons a l ih => simp [ih]
theorem dec22 {a : List PV} (h : Plain PP 22 a) : ∃ o, a = [eSl o] := by
  rcases h.inv_slice u22 with rfl | ⟨n, xs, hx, rfl⟩
  · exact ⟨none, rfl⟩
  · obtain ⟨l, rfl, rfl⟩ := hx.inv_rep (f := fun n => [pI n]) fun a ha => dec3 ha
    exact ⟨some l, by rw [flat1]; rfl⟩
theorem dec48 {a : List PV} (h : Plain PP 48 a) : ∃ o, a = [eLs o] := by
  rcases h.inv_slice u48 with rfl | ⟨n, xs, hx, rfl⟩
  · exact ⟨none, rfl⟩
  · obtain ⟨l, rfl, rfl⟩ := hx.inv_rep (f := fun n => [eSl n]) fun a ha => dec22 ha
    exact ⟨some l, by rw [flat1]; rfl⟩
theorem dec27 {a : List PV} (h : Plain PP 27 a) : ∃ o, a = [eWt o] := by
  rcases h.inv_slice u27 with rfl | ⟨n, xs, hx, rfl⟩
  · exact ⟨none, rfl⟩
  · obtain ⟨l, rfl, rfl⟩ := hx.inv_rep (f := fun n => [eLs n]) fun a ha => dec48 ha
    exact ⟨some l, by rw [flat1]; rfl⟩
section
variable {H : Type} {enc : TypeId × Value → H} {W : World} {hd : Bool} {r : Reach} {b0 : Nat} {v : Value} {d : DataW H} {ps : List MemPlace}
end
end Go.D
end
/- A path cloned and made longer; small divisions. -/
section
set_option linter.unusedVariables false
set_option linter.unusedSimpArgs false
namespace Go.D
theorem app22_p {σ : Store} {lo n : Nat} {l p : List Int} (hp : p.length = n) (h0 : n ≠ 0) (hn : n ≤ 1000) (r ver m : Nat) (hl : l.length = m) (hm : m ≤ 1000000) (h : σ[r]? = some (.tok ver)) (hr : lo ≤ r) :
    append PP lo false 22 22 (.osl r ver 1 m (eInts l)) (.p (.sl true n (eInts p))) σ = some (.osl r (ver + 1) 1 (m + n) (eInts (l ++ p)), σ.set r (.tok (ver + 1))) := by
  have e1 : (m + n) * 8 ≤ 140737488355328 := by omega
  have e2 : m + n ≤ 140737488355328 := by omega
  have e3 : (eInts p).length = n := by rw [ints_length, hp]
  have e4 : (eInts l).length = m := by rw [ints_length, hl]
  simp only [append, src22, u22, s3, bytes3, zero3, source, e3, Nat.mul_one, if_true, appTok]
  have e5 : eInts (l ++ p) = eInts l ++ eInts p := by simp [eInts]
  simp [e1, e2, h, hr, e4, pures_map, e5]
theorem app22_n {σ : Store} {lo n : Nat} {p : List Int} (hp : p.length = n) (h0 : n ≠ 0) (hn : n ≤ 1000) :
    append PP lo false 22 22 (.p .nilsl) (.p (.sl true n (eInts p))) σ = some (.osl σ.length 0 1 n (eInts p), σ ++ [.tok 0]) := by
  have e1 : n * 8 ≤ 140737488355328 := by omega
  have e2 : n ≤ 140737488355328 := by omega
  have e3 : (eInts p).length = n := by rw [ints_length, hp]
  simp only [append, src22, u22, s3, bytes3, zero3, source, e3, Nat.mul_one, if_true, appNil]
  simp [e1, e2, h0, pures_map]
theorem pth_ne {p : List Int} (h : p ≠ []) : ePth p = .sl false p.length (eInts p) := if_neg h
/-- Clone, then append some numbers. -/
theorem clone_app {p l2 : List Int} {n lo lo1 : Nat} {σ : Store} (hp : p.length ≤ 1000000) (hl : l2.length = n) (h0 : n ≠ 0) (hn : n ≤ 1000) (hlo : lo ≤ σ.length) :
    ∃ v1 σ1 ver, plainFn CC lo1 (.fn 99 []) [.p (ePth p)] σ = some (v1, σ1) ∧ Ext σ σ1 ∧
      append PP lo false 22 22 v1 (.p (.sl true n (eInts l2))) σ1 = some (.osl σ.length ver 1 (p ++ l2).length (eInts (p ++ l2)), σ ++ [.tok ver]) := by
  by_cases h : p = []
  · subst h
    refine ⟨.p .nilsl, σ, 0, ?_, Ext.refl _, ?_⟩
    · show CC lo1 99 ([.p (ePth [])] ++ []) σ = _
      rw [List.append_nil]
      refine F99_call ?_
      rw [F99_eq]
      simp only [ePth, if_true, eq22_nn, gG]
    · rw [app22_n hl h0 hn, List.nil_append, hl]
  · have hne : p.length ≠ 0 := fun e => h (List.length_eq_zero_iff.1 e)
    refine ⟨.osl σ.length 0 1 p.length (eInts p), σ ++ [.tok 0], 1, ?_, Ext.snoc _ _, ?_⟩
    · show CC lo1 99 ([.p (ePth p)] ++ []) σ = _
      rw [List.append_nil, pth_ne h]
      refine F99_call ?_
      rw [F99_eq]
      have e3 : (eInts p).length = p.length := ints_length p
      have e1 : p.length * 8 ≤ 140737488355328 := by omega
      have e2 : p.length ≤ 140737488355328 := by omega
      have h1 : append PP lo1 false 22 22 (.p (.sl true 0 [])) (.p (.sl false p.length (eInts p))) σ = some (.osl σ.length 0 1 p.length (eInts p), σ ++ [.tok 0]) := by
        simp only [append, src22, u22, s3, bytes3, zero3, source, e3, Nat.mul_one, if_true, appLit]
        simp [h, hne, e1, e2, pures_map]
      simp only [eq22_sl, gG, bs22_0, h1]
    · rw [app22_p hl h0 hn σ.length 0 p.length rfl hp get_snoc hlo, List.length_append, hl, set_snoc]
theorem b_quo3 (c : Nat) (hc : c ≤ 1000000) : binOp PP .quo 3 (.p (pI (c : Nat))) (.p (pI 3)) = some (.p (pI ((c / 3 : Nat)))) := by
  have h : binOp PP .quo 3 (.p (pI (c : Nat))) (.p (pI 3)) = some (.p (pI (IntKind.wrap .i64 ((c : Int).tdiv 3)))) := Eq.trans rfl rfl
  have e : (c : Int).tdiv 3 = ((c / 3 : Nat) : Int) := by
    rw [Int.tdiv_eq_ediv_of_nonneg (by omega)]; omega
  rw [h, e, wrap_ok (by omega) (by omega)]
theorem b_rem3 (c : Nat) : binOp PP .rem 3 (.p (pI (c : Nat))) (.p (pI 3)) = some (.p (pI ((c % 3 : Nat)))) := by
  have h : binOp PP .rem 3 (.p (pI (c : Nat))) (.p (pI 3)) = some (.p (pI ((c : Int).tmod 3))) := Eq.trans rfl rfl
  have e : (c : Int).tmod 3 = ((c % 3 : Nat) : Int) := by
    rw [Int.tmod_eq_emod_of_nonneg (by omega)]; omega
  rw [h, e]
end Go.D
end
/- Equations of functions 97, 100, 98, 47, 67, 107, 20, 65, 66, 68, 108, 70, 71, 72, 73, 74, 75, 21, 22, 43, 44, 45, 46, 96, 4, 9, printed by gen.py. -/
section
set_option linter.unusedVariables false
set_option maxRecDepth 10000
namespace Go.D
open _root_.Go.D.Code (fstC sndC)
open _root_.Go.D.Ann (left right)
noncomputable def c97_0 : Code := bodyOf Go.Proofs.Try.f97
noncomputable def a97_0 : Ann := (pol 97).ann
noncomputable def a97_7 : Ann := right (left (right (right a97_0)))
noncomputable def a97_8 : Ann := left a97_7
noncomputable def c97_9 : Code := fstC (fstC (sndC (fstC (sndC (sndC c97_0)))))
noncomputable def c97_21 : Code := sndC (sndC (sndC c97_0))
noncomputable def a97_21 : Ann := right (right (right a97_0))
noncomputable def a97_22 : Ann := left a97_21
noncomputable def a97_23 : Ann := left a97_22
noncomputable def c97_24 : Code := fstC (fstC (fstC c97_21))
noncomputable def a97_30 : Ann := right (left a97_23)
noncomputable def a97_37 : Ann := right (right (right (left a97_30)))
noncomputable def a97_38 : Ann := left a97_37
noncomputable def c97_39 : Code := fstC (fstC (sndC (sndC (sndC (fstC (sndC c97_24))))))
noncomputable def c97_59 : Code := sndC c97_21
noncomputable def a97_59 : Ann := right a97_21
noncomputable def f97_L0 (G : GuardT) (lo : Nat) (x1 x5 x15 x16 x17 : DV) (σ : Store) : Option (DV × Store) :=
 codeF G PP (pol 97) CC lo (.loop c97_9) a97_8 [Z, x1, Z, Z, Z, x5, Z, Z, Z, Z, Z, Z, Z, Z, Z, x15, x16, x17, Z, Z, Z, Z, Z, Z, Z, Z, Z, Z, Z, Z, Z, Z, Z, Z, Z, Z, Z, Z, Z, Z, Z, Z, Z, Z, Z, Z, Z, Z, Z, Z, Z, Z, Z, Z, Z] σ
 (blockC 0 a97_7 (seqC G PP (pol 97) CC lo c97_21 a97_21 (finR PP Go.Proofs.Try.f97.results.toList)))
noncomputable def f97_L1 (G : GuardT) (lo : Nat) (x1 x5 : DV) (σ : Store) : Option (DV × Store) :=
 codeF G PP (pol 97) CC lo (.loop c97_24) a97_23 [Z, x1, Z, Z, Z, x5, Z, Z, Z, Z, Z, Z, Z, Z, Z, Z, Z, Z, Z, Z, Z, Z, Z, Z, Z, Z, Z, Z, Z, Z, Z, Z, Z, Z, Z, Z, Z, Z, Z, Z, Z, Z, Z, Z, Z, Z, Z, Z, Z, Z, Z, Z, Z, Z, Z] σ
 (blockC 2 a97_22 (seqC G PP (pol 97) CC lo c97_59 a97_59 (finR PP Go.Proofs.Try.f97.results.toList)))
noncomputable def f97_L2 (G : GuardT) (lo : Nat) (x1 x5 x41 x42 x43 : DV) (σ : Store) : Option (DV × Store) :=
 codeF G PP (pol 97) CC lo (.loop c97_39) a97_38 [Z, x1, Z, Z, Z, x5, Z, Z, Z, Z, Z, Z, Z, Z, Z, Z, Z, Z, Z, Z, Z, Z, Z, Z, Z, Z, Z, Z, Z, Z, Z, Z, Z, Z, Z, Z, Z, Z, Z, Z, Z, x41, x42, x43, Z, Z, Z, Z, Z, Z, Z, Z, Z, Z, Z] σ
 (blockC 4 a97_37 (blockC 3 a97_30 (loopC G PP (pol 97) CC lo c97_24 a97_23 (blockC 2 a97_22 (seqC G PP (pol 97) CC lo c97_59 a97_59 (finR PP Go.Proofs.Try.f97.results.toList))))))
noncomputable def F97 (G : GuardT) (lo : Nat) (x0 x1 : DV) (σ : Store) : Option (DV × Store) :=
 codeF G PP (pol 97) CC lo c97_0 a97_0 [x0, x1, Z, Z, Z, Z, Z, Z, Z, Z, Z, Z, Z, Z, Z, Z, Z, Z, Z, Z, Z, Z, Z, Z, Z, Z, Z, Z, Z, Z, Z, Z, Z, Z, Z, Z, Z, Z, Z, Z, Z, Z, Z, Z, Z, Z, Z, Z, Z, Z, Z, Z, Z, Z, Z] σ (finR PP Go.Proofs.Try.f97.results.toList)
theorem f97_L0_eq (G : GuardT) (hG : GuardOk G) (lo : Nat) (x1 x5 x15 x16 x17 : DV) (σ : Store) : f97_L0 G lo x1 x5 x15 x16 x17 σ =
 (binOp PP .lss 3 x17 x16).bind fun x18 =>
 condK x18
 (
 (indexAddr PP 147 x15 x17).bind fun x19 =>
 (load PP 151 x19 σ).bind fun x20 =>
 (zeroOf PP 151).bind fun z7 =>
 (store PP lo 151 (DV.ptr (List.length σ) 0) x20 (σ ++ [Row.mix z7])).bind fun σ1 =>
 (fieldAddr PP 151 (DV.ptr (List.length σ) 0) 0).bind fun x22 =>
 (load PP 149 x22 σ1).bind fun x23 =>
 (fieldAddr PP 151 (DV.ptr (List.length σ) 0) 1).bind fun x24 =>
 (load PP 22 x24 σ1).bind fun x25 =>
 (plainFn CC lo (DV.fn 100 []) [x5, x23, x25] σ1).bind fun r26_2 =>
 (binOp PP .add 3 x17 (DV.p (PV.int IntKind.i64 (1)))).bind fun x27 =>
 f97_L0 G lo x1 x5 x15 x16 x27 r26_2.2
 )
 (
 f97_L1 G lo x1 x5 σ
 ) := (loopF_eq G hG).trans (by kernel_rfl)
theorem f97_L1_eq (G : GuardT) (hG : GuardOk G) (lo : Nat) (x1 x5 : DV) (σ : Store) : f97_L1 G lo x1 x5 σ =
 (nilCheckV x5).bind fun x29 =>
 (fieldAddr PP 195 x29 1).bind fun x30 =>
 (load PP 147 x30 σ).bind fun x31 =>
 (len PP 147 x31 σ).bind fun x32 =>
 (binOp PP .gtr 3 x32 (DV.p (PV.int IntKind.i64 (0)))).bind fun x33 =>
 condK x33
 (
 (nilCheckV x5).bind fun x35 =>
 (fieldAddr PP 195 x35 1).bind fun x36 =>
 (load PP 147 x36 σ).bind fun x37 =>
 (nilCheckV x5).bind fun x39 =>
 (fieldAddr PP 195 x39 1).bind fun x40 =>
 (store PP lo 147 x40 (DV.p PV.nilsl) σ).bind fun σ3 =>
 (len PP 147 x37 σ3).bind fun x42 =>
 f97_L2 G lo x1 x5 x37 x42 (DV.p (PV.int IntKind.i64 (0))) σ3
 )
 (
 some ((DV.p PV.nilsl), σ)
 ) := (loopF_eq G hG).trans (by kernel_rfl)
theorem f97_L2_eq (G : GuardT) (hG : GuardOk G) (lo : Nat) (x1 x5 x41 x42 x43 : DV) (σ : Store) : f97_L2 G lo x1 x5 x41 x42 x43 σ =
 (binOp PP .lss 3 x43 x42).bind fun x44 =>
 condK x44
 (
 (indexAddr PP 147 x41 x43).bind fun x45 =>
 (load PP 151 x45 σ).bind fun x46 =>
 (zeroOf PP 151).bind fun z10 =>
 (store PP lo 151 (DV.ptr (List.length σ) 0) x46 (σ ++ [Row.mix z10])).bind fun σ4 =>
 (load PP 151 (DV.ptr (List.length σ) 0) σ4).bind fun x49 =>
 (plainFn CC lo x1 [x5, x49] σ4).bind fun r50_5 =>
 (binOp PP .neq 22 r50_5.1 (DV.p PV.nilsl)).bind fun x52 =>
 condK x52
 (
 some (r50_5.1, r50_5.2)
 )
 (
 (binOp PP .add 3 x43 (DV.p (PV.int IntKind.i64 (1)))).bind fun x54 =>
 f97_L2 G lo x1 x5 x41 x42 x54 r50_5.2
 )
 )
 (
 f97_L1 G lo x1 x5 σ
 ) := (loopF_eq G hG).trans (by kernel_rfl)
theorem F97_eq (G : GuardT) (lo : Nat) (x0 x1 : DV) (σ : Store) : F97 G lo x0 x1 σ =
 (build PP 195 [(0, (DV.map (List.length σ)))]).bind fun x13 =>
 (boxV x13).bind fun z14 =>
 (len PP 147 x0 ((σ ++ [Row.map []]) ++ [Row.mix z14])).bind fun x16 =>
 f97_L0 G lo x1 (DV.ptr (List.length (σ ++ [Row.map []])) 0) x0 x16 (DV.p (PV.int IntKind.i64 (0))) ((σ ++ [Row.map []]) ++ [Row.mix z14]) := by kernel_rfl
theorem F97_call {lo : Nat} {x0 x1 : DV} {σ : Store} {r : DV × Store} (h : F97 guardT lo x0 x1 σ = some r) : CC lo 97 [x0, x1] σ = some r :=
 callL_run Go.Proofs.Try.func97 (by decide +kernel) rfl (by decide +kernel) h
noncomputable def c100_0 : Code := bodyOf Go.Proofs.Try.f100
noncomputable def a100_0 : Ann := (pol 100).ann
noncomputable def F100 (G : GuardT) (lo : Nat) (x0 x1 x2 : DV) (σ : Store) : Option (DV × Store) :=
 codeF G PP (pol 100) CC lo c100_0 a100_0 [x0, x1, x2, Z, Z, Z, Z, Z, Z, Z, Z, Z, Z, Z, Z, Z, Z, Z, Z, Z, Z, Z, Z, Z, Z, Z, Z, Z, Z, Z] σ (finR PP Go.Proofs.Try.f100.results.toList)
theorem F100_eq (G : GuardT) (lo : Nat) (x0 x1 x2 : DV) (σ : Store) : F100 G lo x0 x1 x2 σ =
 (boxV x1).bind fun z4 =>
 (nilCheckV x0).bind fun x7 =>
 (fieldAddr PP 195 x7 0).bind fun x8 =>
 (load PP 193 x8 (σ ++ [Row.mix z4])).bind fun x9 =>
 (load PP 149 (DV.ptr (List.length σ) 0) (σ ++ [Row.mix z4])).bind fun x10 =>
 (lookup PP 193 x9 x10 false (σ ++ [Row.mix z4])).bind fun x11 =>
 (unOp .not x11).bind fun x12 =>
 condK x12
 (
 (nilCheckV x0).bind fun x14 =>
 (fieldAddr PP 195 x14 0).bind fun x15 =>
 (load PP 193 x15 (σ ++ [Row.mix z4])).bind fun x16 =>
 (load PP 149 (DV.ptr (List.length σ) 0) (σ ++ [Row.mix z4])).bind fun x17 =>
 (mapUpdate PP lo 193 x16 x17 (DV.p (PV.bool true)) (σ ++ [Row.mix z4])).bind fun σ1 =>
 (nilCheckV x0).bind fun x20 =>
 (fieldAddr PP 195 x20 1).bind fun x21 =>
 (load PP 147 x21 σ1).bind fun x22 =>
 (load PP 149 (DV.ptr (List.length σ) 0) σ1).bind fun x23 =>
 (build PP 151 [(0, x23), (1, x2)]).bind fun x25 =>
 (buildSlice PP none 147 1 [(0, x25)] σ1).bind fun r26_2 =>
 (append PP lo false 147 147 x22 r26_2.1 r26_2.2).bind fun r27_3 =>
 (nilCheckV x0).bind fun x28 =>
 (fieldAddr PP 195 x28 1).bind fun x29 =>
 (store PP lo 147 x29 r27_3.1 r27_3.2).bind fun σ4 =>
 some ((DV.tuple []), σ4)
 )
 (
 some ((DV.tuple []), (σ ++ [Row.mix z4]))
 ) := by kernel_rfl
theorem F100_call {lo : Nat} {x0 x1 x2 : DV} {σ : Store} {r : DV × Store} (h : F100 guardT lo x0 x1 x2 σ = some r) : CC lo 100 [x0, x1, x2] σ = some r :=
 callL_run Go.Proofs.Try.func100 (by decide +kernel) rfl (by decide +kernel) h
noncomputable def c98_0 : Code := bodyOf Go.Proofs.Try.f98
noncomputable def a98_0 : Ann := (pol 98).ann
noncomputable def a98_11 : Ann := right (left (right (right (right (right a98_0)))))
noncomputable def a98_12 : Ann := left a98_11
noncomputable def c98_13 : Code := fstC (fstC (sndC (fstC (sndC (sndC (sndC (sndC c98_0)))))))
noncomputable def c98_35 : Code := sndC (sndC (sndC (sndC (sndC c98_0))))
noncomputable def a98_35 : Ann := right (right (right (right (right a98_0))))
noncomputable def f98_L0 (G : GuardT) (lo : Nat) (x0 x4 x8 x9 x54 x55 x56 : DV) (σ : Store) : Option (DV × Store) :=
 codeF G PP (pol 98) CC lo (.loop c98_13) a98_12 [x0, Z, Z, Z, x4, Z, Z, Z, x8, x9, Z, Z, Z, Z, Z, Z, Z, Z, Z, Z, Z, Z, Z, Z, Z, Z, Z, Z, Z, Z, Z, Z, Z, Z, Z, Z, Z, Z, Z, Z, Z, Z, Z, Z, Z, Z, Z, Z, Z, Z, Z, Z, Z, Z, x54, x55, x56, Z, Z, Z, Z, Z, Z, Z, Z, Z, Z, Z, Z, Z, Z, Z, Z, Z, Z, Z, Z, Z, Z, Z, Z, Z, Z, Z] σ
 (blockC 0 a98_11 (seqC G PP (pol 98) CC lo c98_35 a98_35 (finR PP Go.Proofs.Try.f98.results.toList)))
noncomputable def F98 (G : GuardT) (lo : Nat) (x0 x1 x2 : DV) (σ : Store) : Option (DV × Store) :=
 codeF G PP (pol 98) CC lo c98_0 a98_0 [x0, x1, x2, Z, Z, Z, Z, Z, Z, Z, Z, Z, Z, Z, Z, Z, Z, Z, Z, Z, Z, Z, Z, Z, Z, Z, Z, Z, Z, Z, Z, Z, Z, Z, Z, Z, Z, Z, Z, Z, Z, Z, Z, Z, Z, Z, Z, Z, Z, Z, Z, Z, Z, Z, Z, Z, Z, Z, Z, Z, Z, Z, Z, Z, Z, Z, Z, Z, Z, Z, Z, Z, Z, Z, Z, Z, Z, Z, Z, Z, Z, Z, Z, Z] σ (finR PP Go.Proofs.Try.f98.results.toList)
theorem f98_L0_eq (G : GuardT) (hG : GuardOk G) (lo : Nat) (x0 x4 x8 x9 x54 x55 x56 : DV) (σ : Store) : f98_L0 G lo x0 x4 x8 x9 x54 x55 x56 σ =
 (binOp PP .lss 3 x56 x55).bind fun x57 =>
 condK x57
 (
 (indexAddr PP 116 x54 x56).bind fun x58 =>
 (load PP 120 x58 σ).bind fun x59 =>
 (zeroOf PP 120).bind fun z11 =>
 (store PP lo 120 (DV.ptr (List.length σ) 0) x59 (σ ++ [Row.mix z11])).bind fun σ3 =>
 (fieldAddr PP 151 x4 1).bind fun x60 =>
 (load PP 22 x60 σ3).bind fun x61 =>
 (plainFn CC (List.length σ3) (DV.fn 99 []) [x61] σ3).bind fun r62_4 =>
 (fieldAddr PP 120 (DV.ptr (List.length σ) 0) 0).bind fun x63 =>
 (load PP 3 x63 r62_4.2).bind fun x64 =>
 (fieldAddr PP 120 (DV.ptr (List.length σ) 0) 1).bind fun x65 =>
 (load PP 3 x65 r62_4.2).bind fun x66 =>
 (buildSlice PP none 22 2 [(0, x64), (1, x66)] r62_4.2).bind fun r67_5 =>
 (append PP lo false 22 22 r62_4.1 r67_5.1 r67_5.2).bind fun r68_6 =>
 (binOp PP .eql 3 x8 (DV.p (PV.int IntKind.i64 (-1)))).bind fun x70 =>
 G _ x70 false (some (x9, r68_6.2)) r68_6.2 fun x72 σ7 =>
 G _ x70 false ((binOp PP .eql 3 x72 (DV.p (PV.int IntKind.i64 (-1)))).bind fun v => some (v, σ7)) σ7 fun x73 σ8 =>
 (pickV x70 (DV.p (PV.bool true)) x73).bind fun x74 =>
 condK x74
 (
 some (r68_6.1, σ8)
 )
 (
 (load PP 120 (DV.ptr (List.length σ) 0) σ8).bind fun x77 =>
 (build PP 149 [(0, x77), (1, x8), (2, x9)]).bind fun x80 =>
 (plainFn CC lo (DV.fn 100 []) [x0, x80, r68_6.1] σ8).bind fun r82_9 =>
 (binOp PP .add 3 x56 (DV.p (PV.int IntKind.i64 (1)))).bind fun x83 =>
 f98_L0 G lo x0 x4 x8 x9 x54 x55 x83 r82_9.2
 )
 )
 (
 some ((DV.p PV.nilsl), σ)
 ) := (loopF_eq G hG).trans (by kernel_rfl)
theorem F98_eq (G : GuardT) (lo : Nat) (x0 x1 x2 : DV) (σ : Store) : F98 G lo x0 x1 x2 σ =
 (boxV x1).bind fun z4 =>
 (fieldAddr PP 151 (DV.ptr (List.length σ) 0) 0).bind fun x13 =>
 (load PP 149 x13 (σ ++ [Row.mix z4])).bind fun x14 =>
 (zeroOf PP 149).bind fun z6 =>
 (store PP lo 149 (DV.ptr (List.length (σ ++ [Row.mix z4])) 0) x14 ((σ ++ [Row.mix z4]) ++ [Row.mix z6])).bind fun σ1 =>
 (fieldAddr PP 84 x2 1).bind fun x15 =>
 (fieldAddr PP 25 x15 2).bind fun x16 =>
 (load PP 22 x16 σ1).bind fun x17 =>
 (fieldAddr PP 149 (DV.ptr (List.length (σ ++ [Row.mix z4])) 0) 0).bind fun x18 =>
 (fieldAddr PP 120 x18 1).bind fun x19 =>
 (load PP 3 x19 σ1).bind fun x20 =>
 (indexAddr PP 22 x17 x20).bind fun x21 =>
 (load PP 3 x21 σ1).bind fun x22 =>
 (fieldAddr PP 84 x2 0).bind fun x23 =>
 (fieldAddr PP 25 x23 2).bind fun x24 =>
 (load PP 22 x24 σ1).bind fun x25 =>
 (fieldAddr PP 149 (DV.ptr (List.length (σ ++ [Row.mix z4])) 0) 0).bind fun x26 =>
 (fieldAddr PP 120 x26 0).bind fun x27 =>
 (load PP 3 x27 σ1).bind fun x28 =>
 (indexAddr PP 22 x25 x28).bind fun x29 =>
 (load PP 3 x29 σ1).bind fun x30 =>
 (build PP 98 [(0, x22), (1, x30)]).bind fun x31 =>
 (zeroOf PP 98).bind fun z7 =>
 (store PP lo 98 (DV.ptr (List.length σ1) 0) x31 (σ1 ++ [Row.mix z7])).bind fun σ2 =>
 (fieldAddr PP 84 x2 3).bind fun x32 =>
 (load PP 27 x32 σ2).bind fun x33 =>
 (fieldAddr PP 149 (DV.ptr (List.length (σ ++ [Row.mix z4])) 0) 1).bind fun x34 =>
 (load PP 3 x34 σ2).bind fun x35 =>
 (load PP 98 (DV.ptr (List.length σ1) 0) σ2).bind fun x36 =>
 (pureFn CC (DV.fn 94 []) [x33, x35, x36] σ2).bind fun x37 =>
 (fieldAddr PP 84 x2 5).bind fun x38 =>
 (load PP 27 x38 σ2).bind fun x39 =>
 (fieldAddr PP 149 (DV.ptr (List.length (σ ++ [Row.mix z4])) 0) 2).bind fun x40 =>
 (load PP 3 x40 σ2).bind fun x41 =>
 (fieldAddr PP 98 (DV.ptr (List.length σ1) 0) 1).bind fun x42 =>
 (load PP 3 x42 σ2).bind fun x43 =>
 (fieldAddr PP 98 (DV.ptr (List.length σ1) 0) 0).bind fun x44 =>
 (load PP 3 x44 σ2).bind fun x45 =>
 (build PP 98 [(0, x43), (1, x45)]).bind fun x46 =>
 (pureFn CC (DV.fn 94 []) [x39, x41, x46] σ2).bind fun x47 =>
 (fieldAddr PP 84 x2 0).bind fun x48 =>
 (load PP 25 x48 σ2).bind fun x49 =>
 (fieldAddr PP 84 x2 1).bind fun x50 =>
 (load PP 25 x50 σ2).bind fun x51 =>
 (fieldAddr PP 149 (DV.ptr (List.length (σ ++ [Row.mix z4])) 0) 0).bind fun x52 =>
 (load PP 120 x52 σ2).bind fun x53 =>
 (pureFn CC (DV.fn 67 []) [x49, x51, x53] σ2).bind fun x54 =>
 (len PP 116 x54 σ2).bind fun x55 =>
 f98_L0 G lo x0 (DV.ptr (List.length σ) 0) x37 x47 x54 x55 (DV.p (PV.int IntKind.i64 (0))) σ2 := by kernel_rfl
theorem F98_call {lo : Nat} {x0 x1 x2 : DV} {σ : Store} {r : DV × Store} (h : F98 guardT lo x0 x1 x2 σ = some r) : CC lo 98 [x0, x1, x2] σ = some r :=
 callL_run Go.Proofs.Try.func98 (by decide +kernel) rfl (by decide +kernel) h
noncomputable def c47_0 : Code := bodyOf Go.Proofs.Try.f47
noncomputable def a47_0 : Ann := (pol 47).ann
noncomputable def a47_17 : Ann := right (left (right (right (right a47_0))))
noncomputable def a47_18 : Ann := left a47_17
noncomputable def c47_19 : Code := fstC (fstC (sndC (fstC (sndC (sndC (sndC c47_0))))))
noncomputable def c47_31 : Code := sndC (sndC (sndC (sndC c47_0)))
noncomputable def a47_31 : Ann := right (right (right (right a47_0)))
noncomputable def f47_L0 (G : GuardT) (lo : Nat) (x1 x5 x18 x19 x20 : DV) (σ : Store) : Option (DV × Store) :=
 codeF G PP (pol 47) CC lo (.loop c47_19) a47_18 [Z, x1, Z, Z, Z, x5, Z, Z, Z, Z, Z, Z, Z, Z, Z, Z, Z, Z, x18, x19, x20, Z, Z, Z, Z, Z, Z, Z, Z, Z, Z, Z, Z, Z, Z, Z, Z, Z, Z, Z, Z, Z, Z, Z] σ
 (blockC 0 a47_17 (seqC G PP (pol 47) CC lo c47_31 a47_31 (finR PP Go.Proofs.Try.f47.results.toList)))
noncomputable def F47 (G : GuardT) (lo : Nat) (x0 : DV) (σ : Store) : Option (DV × Store) :=
 codeF G PP (pol 47) CC lo c47_0 a47_0 [x0, Z, Z, Z, Z, Z, Z, Z, Z, Z, Z, Z, Z, Z, Z, Z, Z, Z, Z, Z, Z, Z, Z, Z, Z, Z, Z, Z, Z, Z, Z, Z, Z, Z, Z, Z, Z, Z, Z, Z, Z, Z, Z, Z] σ (finR PP Go.Proofs.Try.f47.results.toList)
theorem f47_L0_eq (G : GuardT) (hG : GuardOk G) (lo : Nat) (x1 x5 x18 x19 x20 : DV) (σ : Store) : f47_L0 G lo x1 x5 x18 x19 x20 σ =
 (binOp PP .lss 3 x20 x19).bind fun x21 =>
 condK x21
 (
 (indexAddr PP 116 x18 x20).bind fun x22 =>
 (load PP 120 x22 σ).bind fun x23 =>
 (zeroOf PP 120).bind fun z7 =>
 (store PP lo 120 (DV.ptr (List.length σ) 0) x23 (σ ++ [Row.mix z7])).bind fun σ1 =>
 (load PP 120 (DV.ptr (List.length σ) 0) σ1).bind fun x25 =>
 (build PP 149 [(0, x25)]).bind fun x26 =>
 (fieldAddr PP 120 (DV.ptr (List.length σ) 0) 0).bind fun x27 =>
 (load PP 3 x27 σ1).bind fun x28 =>
 (fieldAddr PP 120 (DV.ptr (List.length σ) 0) 1).bind fun x29 =>
 (load PP 3 x29 σ1).bind fun x30 =>
 (buildSlice PP none 22 2 [(0, x28), (1, x30)] σ1).bind fun r31_2 =>
 (build PP 151 [(0, x26), (1, r31_2.1)]).bind fun x32 =>
 (buildSlice PP none 147 1 [(0, x32)] r31_2.2).bind fun r33_3 =>
 (append PP lo false 147 147 x5 r33_3.1 r33_3.2).bind fun r34_4 =>
 (binOp PP .add 3 x20 (DV.p (PV.int IntKind.i64 (1)))).bind fun x35 =>
 f47_L0 G lo x1 r34_4.1 x18 x19 x35 r34_4.2
 )
 (
 (pureFn CC (DV.fn 97 []) [x5, (DV.fn 98 [x1])] σ).bind fun x38 =>
 (binOp PP .eql 22 x38 (DV.p PV.nilsl)).bind fun x40 =>
 condK x40
 (
 some ((DV.tuple [(DV.p PV.nilsl), (DV.p (PV.int IntKind.i64 (25)))]), σ)
 )
 (
 (pureFn CC (DV.fn 102 []) [x38, (DV.p (PV.int IntKind.i64 (2)))] σ).bind fun x42 =>
 (pureFn CC (DV.fn 101 []) [x42] σ).bind fun x43 =>
 some ((DV.tuple [x43, (DV.p (PV.int IntKind.i64 (0)))]), σ)
 )
 ) := (loopF_eq G hG).trans (by kernel_rfl)
theorem F47_eq (G : GuardT) (lo : Nat) (x0 : DV) (σ : Store) : F47 G lo x0 σ =
 (boxV x0).bind fun z1 =>
 (load PP 84 (DV.ptr (List.length σ) 0) (σ ++ [Row.mix z1])).bind fun x9 =>
 (pureFn CC (DV.fn 96 []) [x9] (σ ++ [Row.mix z1])).bind fun x10 =>
 (binOp PP .neq 34 x10 (DV.p (PV.int IntKind.i64 (0)))).bind fun x12 =>
 condK x12
 (
 some ((DV.tuple [(DV.p PV.nilsl), x10]), (σ ++ [Row.mix z1]))
 )
 (
 (fieldAddr PP 84 (DV.ptr (List.length σ) 0) 0).bind fun x14 =>
 (load PP 25 x14 (σ ++ [Row.mix z1])).bind fun x15 =>
 (fieldAddr PP 84 (DV.ptr (List.length σ) 0) 1).bind fun x16 =>
 (load PP 25 x16 (σ ++ [Row.mix z1])).bind fun x17 =>
 (pureFn CC (DV.fn 65 []) [x15, x17] (σ ++ [Row.mix z1])).bind fun x18 =>
 (len PP 116 x18 (σ ++ [Row.mix z1])).bind fun x19 =>
 f47_L0 G lo (DV.ptr (List.length σ) 0) (DV.p PV.nilsl) x18 x19 (DV.p (PV.int IntKind.i64 (0))) (σ ++ [Row.mix z1])
 ) := by kernel_rfl
theorem F47_call {lo : Nat} {x0 : DV} {σ : Store} {r : DV × Store} (h : F47 guardT lo x0 σ = some r) : CC lo 47 [x0] σ = some r :=
 callL_run Go.Proofs.Try.func47 (by decide +kernel) rfl (by decide +kernel) h
noncomputable def c67_0 : Code := bodyOf Go.Proofs.Try.f67
noncomputable def a67_0 : Ann := (pol 67).ann
noncomputable def a67_7 : Ann := right (left (right (right a67_0)))
noncomputable def a67_8 : Ann := left a67_7
noncomputable def c67_9 : Code := fstC (fstC (sndC (fstC (sndC (sndC c67_0)))))
noncomputable def a67_16 : Ann := left (right (right (left a67_8)))
noncomputable def a67_21 : Ann := right (right (left a67_16))
noncomputable def a67_22 : Ann := left a67_21
noncomputable def c67_23 : Code := fstC (fstC (sndC (sndC (fstC (fstC (sndC (sndC c67_9)))))))
noncomputable def a67_30 : Ann := left (right (right (left a67_22)))
noncomputable def c67_38 : Code := sndC (sndC (sndC c67_23))
noncomputable def a67_38 : Ann := right (right (right (left a67_22)))
noncomputable def c67_39 : Code := sndC (sndC (sndC c67_9))
noncomputable def a67_39 : Ann := right (right (right (left a67_8)))
noncomputable def c67_40 : Code := sndC (sndC (sndC c67_0))
noncomputable def a67_40 : Ann := right (right (right a67_0))
noncomputable def f67_L0 (G : GuardT) (lo : Nat) (x3 x4 x5 x7 x13 x14 x15 : DV) (σ : Store) : Option (DV × Store) :=
 codeF G PP (pol 67) CC lo (.loop c67_9) a67_8 [Z, Z, Z, x3, x4, x5, Z, x7, Z, Z, Z, Z, Z, x13, x14, x15, Z, Z, Z, Z, Z, Z, Z, Z, Z, Z, Z, Z, Z, Z, Z, Z, Z, Z, Z, Z, Z, Z, Z, Z, Z, Z, Z, Z, Z, Z, Z, Z, Z, Z, Z, Z, Z, Z, Z, Z, Z, Z, Z, Z, Z, Z, Z, Z, Z, Z, Z, Z, Z, Z, Z, Z, Z, Z] σ
 (blockC 0 a67_7 (seqC G PP (pol 67) CC lo c67_40 a67_40 (finR PP Go.Proofs.Try.f67.results.toList)))
noncomputable def f67_L1 (G : GuardT) (lo : Nat) (x3 x4 x5 x7 x9 x13 x14 x15 x20 x21 x22 : DV) (σ : Store) : Option (DV × Store) :=
 codeF G PP (pol 67) CC lo (.loop c67_23) a67_22 [Z, Z, Z, x3, x4, x5, Z, x7, Z, x9, Z, Z, Z, x13, x14, x15, Z, Z, Z, Z, x20, x21, x22, Z, Z, Z, Z, Z, Z, Z, Z, Z, Z, Z, Z, Z, Z, Z, Z, Z, Z, Z, Z, Z, Z, Z, Z, Z, Z, Z, Z, Z, Z, Z, Z, Z, Z, Z, Z, Z, Z, Z, Z, Z, Z, Z, Z, Z, Z, Z, Z, Z, Z, Z] σ
 (blockC 2 a67_21 (blockC 1 a67_16 (seqC G PP (pol 67) CC lo c67_39 a67_39 (loopC G PP (pol 67) CC lo c67_9 a67_8 (blockC 0 a67_7 (seqC G PP (pol 67) CC lo c67_40 a67_40 (finR PP Go.Proofs.Try.f67.results.toList)))))))
def f67_J0_fr (x3 x4 x5 x7 x9 x11 x13 x14 x15 x20 x21 x22 x23 x24 x25 x26 x27 x28 x29 x30 x31 x32 x33 x34 x35 x36 x37 x38 x39 x40 x41 x42 x43 x44 x45 x46 x47 x48 x49 x50 x51 x52 x53 x54 x55 x56 x57 x58 x59 x60 x61 x62 x63 x64 x65 x66 x67 : DV) : Frame := [Z, Z, Z, x3, x4, x5, Z, x7, Z, x9, Z, x11, Z, x13, x14, x15, Z, Z, Z, Z, x20, x21, x22, x23, x24, x25, x26, x27, x28, x29, x30, x31, x32, x33, x34, x35, x36, x37, x38, x39, x40, x41, x42, x43, x44, x45, x46, x47, x48, x49, x50, x51, x52, x53, x54, x55, x56, x57, x58, x59, x60, x61, x62, x63, x64, x65, x66, x67, Z, Z, Z, Z, Z, Z]
noncomputable def f67_J0 (G : GuardT) (lo : Nat) (x3 x4 x5 x7 x9 x11 x13 x14 x15 x20 x21 x22 x23 x24 x25 x26 x27 x28 x29 x30 x31 x32 x33 x34 x35 x36 x37 x38 x39 x40 x41 x42 x43 x44 x45 x46 x47 x48 x49 x50 x51 x52 x53 x54 x55 x56 x57 x58 x59 x60 x61 x62 x63 x64 x65 x66 x67 : DV) (σ : Store) : Option (DV × Store) :=
 (blockC 3 a67_30 (seqC G PP (pol 67) CC lo c67_38 a67_38 (loopC G PP (pol 67) CC lo c67_23 a67_22 (blockC 2 a67_21 (blockC 1 a67_16 (seqC G PP (pol 67) CC lo c67_39 a67_39 (loopC G PP (pol 67) CC lo c67_9 a67_8 (blockC 0 a67_7 (seqC G PP (pol 67) CC lo c67_40 a67_40 (finR PP Go.Proofs.Try.f67.results.toList)))))))))) .normal (f67_J0_fr x3 x4 x5 x7 x9 x11 x13 x14 x15 x20 x21 x22 x23 x24 x25 x26 x27 x28 x29 x30 x31 x32 x33 x34 x35 x36 x37 x38 x39 x40 x41 x42 x43 x44 x45 x46 x47 x48 x49 x50 x51 x52 x53 x54 x55 x56 x57 x58 x59 x60 x61 x62 x63 x64 x65 x66 x67) σ
noncomputable def F67 (G : GuardT) (lo : Nat) (x0 x1 x2 : DV) (σ : Store) : Option (DV × Store) :=
 codeF G PP (pol 67) CC lo c67_0 a67_0 [x0, x1, x2, Z, Z, Z, Z, Z, Z, Z, Z, Z, Z, Z, Z, Z, Z, Z, Z, Z, Z, Z, Z, Z, Z, Z, Z, Z, Z, Z, Z, Z, Z, Z, Z, Z, Z, Z, Z, Z, Z, Z, Z, Z, Z, Z, Z, Z, Z, Z, Z, Z, Z, Z, Z, Z, Z, Z, Z, Z, Z, Z, Z, Z, Z, Z, Z, Z, Z, Z, Z, Z, Z, Z] σ (finR PP Go.Proofs.Try.f67.results.toList)
theorem f67_L0_eq (G : GuardT) (hG : GuardOk G) (lo : Nat) (x3 x4 x5 x7 x13 x14 x15 : DV) (σ : Store) : f67_L0 G lo x3 x4 x5 x7 x13 x14 x15 σ =
 (binOp PP .lss 3 x15 x14).bind fun x16 =>
 condK x16
 (
 (indexAddr PP 23 x13 x15).bind fun x17 =>
 (load PP 106 x17 σ).bind fun x18 =>
 (zeroOf PP 106).bind fun z9 =>
 (store PP lo 106 (DV.ptr (List.length σ) 0) x18 (σ ++ [Row.mix z9])).bind fun σ1 =>
 (fieldAddr PP 25 x4 3).bind fun x19 =>
 (load PP 23 x19 σ1).bind fun x20 =>
 (len PP 23 x20 σ1).bind fun x21 =>
 f67_L1 G lo x3 x4 x5 x7 (DV.ptr (List.length σ) 0) x13 x14 x15 x20 x21 (DV.p (PV.int IntKind.i64 (0))) σ1
 )
 (
 (plainFn CC lo (DV.fn 69 []) [x7, (DV.fn 70 [])] σ).bind fun r71_28 =>
 (plainFn CC lo (DV.fn 107 []) [x7] r71_28.2).bind fun r73_29 =>
 some (r73_29.1, r73_29.2)
 ) := (loopF_eq G hG).trans (by kernel_rfl)
theorem f67_L1_eq (G : GuardT) (hG : GuardOk G) (lo : Nat) (x3 x4 x5 x7 x9 x13 x14 x15 x20 x21 x22 : DV) (σ : Store) : f67_L1 G lo x3 x4 x5 x7 x9 x13 x14 x15 x20 x21 x22 σ =
 (binOp PP .lss 3 x22 x21).bind fun x23 =>
 condK x23
 (
 (indexAddr PP 23 x20 x22).bind fun x24 =>
 (load PP 106 x24 σ).bind fun x25 =>
 (zeroOf PP 106).bind fun z11 =>
 (store PP lo 106 (DV.ptr (List.length σ) 0) x25 (σ ++ [Row.mix z11])).bind fun σ2 =>
 (fieldAddr PP 106 x9 0).bind fun x26 =>
 (load PP 3 x26 σ2).bind fun x27 =>
 (fieldAddr PP 120 x5 0).bind fun x28 =>
 (load PP 3 x28 σ2).bind fun x29 =>
 (binOp PP .eql 3 x27 x29).bind fun x30 =>
 G _ x30 true ((fieldAddr PP 106 (DV.ptr (List.length σ) 0) 0).bind fun v => some (v, σ2)) σ2 fun x32 σ3 =>
 G _ x30 true ((load PP 3 x32 σ3).bind fun v => some (v, σ3)) σ3 fun x33 σ4 =>
 G _ x30 true ((fieldAddr PP 120 x5 1).bind fun v => some (v, σ4)) σ4 fun x34 σ5 =>
 G _ x30 true ((load PP 3 x34 σ5).bind fun v => some (v, σ5)) σ5 fun x35 σ6 =>
 G _ x30 true ((binOp PP .eql 3 x33 x35).bind fun v => some (v, σ6)) σ6 fun x36 σ7 =>
 (pickV x30 x36 (DV.p (PV.bool false))).bind fun x37 =>
 G _ x37 true ((fieldAddr PP 106 x9 1).bind fun v => some (v, σ7)) σ7 fun x39 σ8 =>
 G _ x37 true ((load PP 3 x39 σ8).bind fun v => some (v, σ8)) σ8 fun x40 σ9 =>
 G _ x37 true ((fieldAddr PP 25 x4 2).bind fun v => some (v, σ9)) σ9 fun x41 σ10 =>
 G _ x37 true ((load PP 22 x41 σ10).bind fun v => some (v, σ10)) σ10 fun x42 σ11 =>
 G _ x37 true ((fieldAddr PP 120 x5 1).bind fun v => some (v, σ11)) σ11 fun x43 σ12 =>
 G _ x37 true ((load PP 3 x43 σ12).bind fun v => some (v, σ12)) σ12 fun x44 σ13 =>
 G _ x37 true ((indexAddr PP 22 x42 x44).bind fun v => some (v, σ13)) σ13 fun x45 σ14 =>
 G _ x37 true ((load PP 3 x45 σ14).bind fun v => some (v, σ14)) σ14 fun x46 σ15 =>
 G _ x37 true ((binOp PP .eql 3 x40 x46).bind fun v => some (v, σ15)) σ15 fun x47 σ16 =>
 (pickV x37 x47 (DV.p (PV.bool false))).bind fun x48 =>
 G _ x48 true ((fieldAddr PP 106 (DV.ptr (List.length σ) 0) 1).bind fun v => some (v, σ16)) σ16 fun x50 σ17 =>
 G _ x48 true ((load PP 3 x50 σ17).bind fun v => some (v, σ17)) σ17 fun x51 σ18 =>
 G _ x48 true ((fieldAddr PP 25 x3 2).bind fun v => some (v, σ18)) σ18 fun x52 σ19 =>
 G _ x48 true ((load PP 22 x52 σ19).bind fun v => some (v, σ19)) σ19 fun x53 σ20 =>
 G _ x48 true ((fieldAddr PP 120 x5 0).bind fun v => some (v, σ20)) σ20 fun x54 σ21 =>
 G _ x48 true ((load PP 3 x54 σ21).bind fun v => some (v, σ21)) σ21 fun x55 σ22 =>
 G _ x48 true ((indexAddr PP 22 x53 x55).bind fun v => some (v, σ22)) σ22 fun x56 σ23 =>
 G _ x48 true ((load PP 3 x56 σ23).bind fun v => some (v, σ23)) σ23 fun x57 σ24 =>
 G _ x48 true ((binOp PP .eql 3 x51 x57).bind fun v => some (v, σ24)) σ24 fun x58 σ25 =>
 (pickV x48 x58 (DV.p (PV.bool false))).bind fun x59 =>
 condK x59
 (
 (fieldAddr PP 106 x9 2).bind fun x61 =>
 (load PP 3 x61 σ25).bind fun x62 =>
 (fieldAddr PP 106 (DV.ptr (List.length σ) 0) 2).bind fun x63 =>
 (load PP 3 x63 σ25).bind fun x64 =>
 (build PP 120 [(0, x62), (1, x64)]).bind fun x65 =>
 (buildSlice PP none 116 1 [(0, x65)] σ25).bind fun r66_26 =>
 (append PP lo true 116 116 x7 r66_26.1 r66_26.2).bind fun r67_27 =>
 f67_J0 G lo x3 x4 x5 r67_27.1 x9 (DV.ptr (List.length σ) 0) x13 x14 x15 x20 x21 x22 x23 x24 x25 x26 x27 x28 x29 x30 x30 x32 x33 x34 x35 x36 x37 x37 x39 x40 x41 x42 x43 x44 x45 x46 x47 x48 x48 x50 x51 x52 x53 x54 x55 x56 x57 x58 x59 x7 x61 x62 x63 x64 x65 r66_26.1 r67_27.1 r67_27.2
 )
 (
 f67_J0 G lo x3 x4 x5 x7 x9 (DV.ptr (List.length σ) 0) x13 x14 x15 x20 x21 x22 x23 x24 x25 x26 x27 x28 x29 x30 x30 x32 x33 x34 x35 x36 x37 x37 x39 x40 x41 x42 x43 x44 x45 x46 x47 x48 x48 x50 x51 x52 x53 x54 x55 x56 x57 x58 x59 Z Z Z Z Z Z Z Z σ25
 )
 )
 (
 (binOp PP .add 3 x15 (DV.p (PV.int IntKind.i64 (1)))).bind fun x69 =>
 f67_L0 G lo x3 x4 x5 x7 x13 x14 x69 σ
 ) := (loopF_eq G hG).trans (by kernel_rfl)
theorem f67_J0_eq (G : GuardT) (lo : Nat) (x3 x4 x5 x7 x9 x11 x13 x14 x15 x20 x21 x22 x23 x24 x25 x26 x27 x28 x29 x30 x31 x32 x33 x34 x35 x36 x37 x38 x39 x40 x41 x42 x43 x44 x45 x46 x47 x48 x49 x50 x51 x52 x53 x54 x55 x56 x57 x58 x59 x60 x61 x62 x63 x64 x65 x66 x67 : DV) (σ : Store) : f67_J0 G lo x3 x4 x5 x7 x9 x11 x13 x14 x15 x20 x21 x22 x23 x24 x25 x26 x27 x28 x29 x30 x31 x32 x33 x34 x35 x36 x37 x38 x39 x40 x41 x42 x43 x44 x45 x46 x47 x48 x49 x50 x51 x52 x53 x54 x55 x56 x57 x58 x59 x60 x61 x62 x63 x64 x65 x66 x67 σ =
 (binOp PP .add 3 x22 (DV.p (PV.int IntKind.i64 (1)))).bind fun x68 =>
 f67_L1 G lo x3 x4 x5 x7 x9 x13 x14 x15 x20 x21 x68 σ := by kernel_rfl
theorem F67_eq (G : GuardT) (lo : Nat) (x0 x1 x2 : DV) (σ : Store) : F67 G lo x0 x1 x2 σ =
 (boxV x0).bind fun z3 =>
 (boxV x1).bind fun z4 =>
 (boxV x2).bind fun z5 =>
 (fieldAddr PP 25 (DV.ptr (List.length σ) 0) 3).bind fun x12 =>
 (load PP 23 x12 (((σ ++ [Row.mix z3]) ++ [Row.mix z4]) ++ [Row.mix z5])).bind fun x13 =>
 (len PP 23 x13 (((σ ++ [Row.mix z3]) ++ [Row.mix z4]) ++ [Row.mix z5])).bind fun x14 =>
 f67_L0 G lo (DV.ptr (List.length σ) 0) (DV.ptr (List.length (σ ++ [Row.mix z3])) 0) (DV.ptr (List.length ((σ ++ [Row.mix z3]) ++ [Row.mix z4])) 0) (DV.p PV.nilsl) x13 x14 (DV.p (PV.int IntKind.i64 (0))) (((σ ++ [Row.mix z3]) ++ [Row.mix z4]) ++ [Row.mix z5]) := by kernel_rfl
theorem F67_call {lo : Nat} {x0 x1 x2 : DV} {σ : Store} {r : DV × Store} (h : F67 guardT lo x0 x1 x2 σ = some r) : CC lo 67 [x0, x1, x2] σ = some r :=
 callL_run Go.Proofs.Try.func67 (by decide +kernel) rfl (by decide +kernel) h
noncomputable def c107_0 : Code := bodyOf Go.Proofs.Try.f107
noncomputable def a107_0 : Ann := (pol 107).ann
noncomputable def a107_13 : Ann := right (left (right (right a107_0)))
noncomputable def a107_14 : Ann := left a107_13
noncomputable def c107_15 : Code := fstC (fstC (sndC (fstC (sndC (sndC c107_0)))))
noncomputable def a107_22 : Ann := left (right (left a107_14))
noncomputable def a107_31 : Ann := right (left (right (left (right (left a107_22)))))
noncomputable def a107_32 : Ann := left a107_31
noncomputable def c107_33 : Code := fstC (fstC (sndC (fstC (sndC (fstC (sndC (fstC (fstC (sndC c107_15)))))))))
noncomputable def c107_49 : Code := sndC (sndC (fstC (sndC (fstC (fstC (sndC c107_15))))))
noncomputable def a107_49 : Ann := right (right (left (right (left a107_22))))
noncomputable def c107_55 : Code := sndC (sndC c107_15)
noncomputable def a107_55 : Ann := right (right (left a107_14))
noncomputable def c107_56 : Code := sndC (sndC (sndC c107_0))
noncomputable def a107_56 : Ann := right (right (right a107_0))
noncomputable def f107_L0 (G : GuardT) (lo : Nat) (x0 x3 : DV) (σ : Store) : Option (DV × Store) :=
 codeF G PP (pol 107) CC lo (.loop c107_15) a107_14 [x0, Z, Z, x3, Z, Z, Z, Z, Z, Z, Z, Z, Z, Z, Z, Z, Z, Z, Z, Z, Z, Z, Z, Z, Z, Z, Z, Z, Z, Z, Z, Z, Z, Z, Z, Z, Z, Z, Z, Z, Z, Z, Z, Z, Z, Z, Z, Z, Z, Z, Z, Z, Z, Z, Z, Z, Z, Z, Z, Z, Z] σ
 (blockC 0 a107_13 (seqC G PP (pol 107) CC lo c107_56 a107_56 (finR PP Go.Proofs.Try.f107.results.toList)))
noncomputable def f107_L1 (G : GuardT) (lo : Nat) (x0 x3 x4 x5 : DV) (σ : Store) : Option (DV × Store) :=
 codeF G PP (pol 107) CC lo (.loop c107_33) a107_32 [x0, Z, Z, x3, x4, x5, Z, Z, Z, Z, Z, Z, Z, Z, Z, Z, Z, Z, Z, Z, Z, Z, Z, Z, Z, Z, Z, Z, Z, Z, Z, Z, Z, Z, Z, Z, Z, Z, Z, Z, Z, Z, Z, Z, Z, Z, Z, Z, Z, Z, Z, Z, Z, Z, Z, Z, Z, Z, Z, Z, Z] σ
 (blockC 2 a107_31 (seqC G PP (pol 107) CC lo c107_49 a107_49 (blockC 1 a107_22 (seqC G PP (pol 107) CC lo c107_55 a107_55 (loopC G PP (pol 107) CC lo c107_15 a107_14 (blockC 0 a107_13 (seqC G PP (pol 107) CC lo c107_56 a107_56 (finR PP Go.Proofs.Try.f107.results.toList))))))))
noncomputable def F107 (G : GuardT) (lo : Nat) (x0 : DV) (σ : Store) : Option (DV × Store) :=
 codeF G PP (pol 107) CC lo c107_0 a107_0 [x0, Z, Z, Z, Z, Z, Z, Z, Z, Z, Z, Z, Z, Z, Z, Z, Z, Z, Z, Z, Z, Z, Z, Z, Z, Z, Z, Z, Z, Z, Z, Z, Z, Z, Z, Z, Z, Z, Z, Z, Z, Z, Z, Z, Z, Z, Z, Z, Z, Z, Z, Z, Z, Z, Z, Z, Z, Z, Z, Z, Z] σ (finR PP Go.Proofs.Try.f107.results.toList)
theorem f107_L0_eq (G : GuardT) (hG : GuardOk G) (lo : Nat) (x0 x3 : DV) (σ : Store) : f107_L0 G lo x0 x3 σ =
 (len PP 116 x0 σ).bind fun x12 =>
 (binOp PP .lss 3 x3 x12).bind fun x13 =>
 condK x13
 (
 (indexAddr PP 116 x0 x3).bind fun x18 =>
 (load PP 120 x18 σ).bind fun x19 =>
 (binOp PP .sub 3 x3 (DV.p (PV.int IntKind.i64 (1)))).bind fun x22 =>
 (indexAddr PP 116 x0 x22).bind fun x23 =>
 (load PP 120 x23 σ).bind fun x24 =>
 (binOp PP .eql 120 x19 x24).bind fun x25 =>
 condK x25
 (
 (sliceOp PP 116 x0 (some x3) none none).bind fun x28 =>
 f107_L1 G lo x0 x3 x28 (DV.p (PV.int IntKind.i64 (1))) σ
 )
 (
 (binOp PP .add 3 x3 (DV.p (PV.int IntKind.i64 (1)))).bind fun x15 =>
 f107_L0 G lo x0 x15 σ
 )
 )
 (
 some (x0, σ)
 ) := (loopF_eq G hG).trans (by kernel_rfl)
theorem F107_eq (G : GuardT) (lo : Nat) (x0 : DV) (σ : Store) : F107 G lo x0 σ =
 (len PP 116 x0 σ).bind fun x7 =>
 (binOp PP .lss 3 x7 (DV.p (PV.int IntKind.i64 (2)))).bind fun x8 =>
 condK x8
 (
 some (x0, σ)
 )
 (
 f107_L0 G lo x0 (DV.p (PV.int IntKind.i64 (1))) σ
 ) := by kernel_rfl
theorem F107_call {lo : Nat} {x0 : DV} {σ : Store} {r : DV × Store} (h : F107 guardT lo x0 σ = some r) : CC lo 107 [x0] σ = some r :=
 callL_run Go.Proofs.Try.func107 (by decide +kernel) rfl (by decide +kernel) h
noncomputable def c65_0 : Code := bodyOf Go.Proofs.Try.f65
noncomputable def a65_0 : Ann := (pol 65).ann
noncomputable def a65_7 : Ann := right (left (right (right a65_0)))
noncomputable def a65_8 : Ann := left a65_7
noncomputable def c65_9 : Code := fstC (fstC (sndC (fstC (sndC (sndC c65_0)))))
noncomputable def a65_16 : Ann := left (right (right (left a65_8)))
noncomputable def a65_21 : Ann := right (right (left a65_16))
noncomputable def a65_22 : Ann := left a65_21
noncomputable def c65_23 : Code := fstC (fstC (sndC (sndC (fstC (fstC (sndC (sndC c65_9)))))))
noncomputable def c65_35 : Code := sndC (sndC (sndC c65_9))
noncomputable def a65_35 : Ann := right (right (right (left a65_8)))
noncomputable def c65_36 : Code := sndC (sndC (sndC c65_0))
noncomputable def a65_36 : Ann := right (right (right a65_0))
noncomputable def f65_L0 (G : GuardT) (lo : Nat) (x3 x5 x11 x12 x13 : DV) (σ : Store) : Option (DV × Store) :=
 codeF G PP (pol 65) CC lo (.loop c65_9) a65_8 [Z, Z, Z, x3, Z, x5, Z, Z, Z, Z, Z, x11, x12, x13, Z, Z, Z, Z, Z, Z, Z, Z, Z, Z, Z, Z, Z, Z, Z, Z, Z, Z, Z] σ
 (blockC 0 a65_7 (seqC G PP (pol 65) CC lo c65_36 a65_36 (finR PP Go.Proofs.Try.f65.results.toList)))
noncomputable def f65_L1 (G : GuardT) (lo : Nat) (x3 x5 x7 x11 x12 x13 x18 x19 x20 : DV) (σ : Store) : Option (DV × Store) :=
 codeF G PP (pol 65) CC lo (.loop c65_23) a65_22 [Z, Z, Z, x3, Z, x5, Z, x7, Z, Z, Z, x11, x12, x13, Z, Z, Z, Z, x18, x19, x20, Z, Z, Z, Z, Z, Z, Z, Z, Z, Z, Z, Z] σ
 (blockC 2 a65_21 (blockC 1 a65_16 (seqC G PP (pol 65) CC lo c65_35 a65_35 (loopC G PP (pol 65) CC lo c65_9 a65_8 (blockC 0 a65_7 (seqC G PP (pol 65) CC lo c65_36 a65_36 (finR PP Go.Proofs.Try.f65.results.toList)))))))
noncomputable def F65 (G : GuardT) (lo : Nat) (x0 x1 : DV) (σ : Store) : Option (DV × Store) :=
 codeF G PP (pol 65) CC lo c65_0 a65_0 [x0, x1, Z, Z, Z, Z, Z, Z, Z, Z, Z, Z, Z, Z, Z, Z, Z, Z, Z, Z, Z, Z, Z, Z, Z, Z, Z, Z, Z, Z, Z, Z, Z] σ (finR PP Go.Proofs.Try.f65.results.toList)
theorem f65_L0_eq (G : GuardT) (hG : GuardOk G) (lo : Nat) (x3 x5 x11 x12 x13 : DV) (σ : Store) : f65_L0 G lo x3 x5 x11 x12 x13 σ =
 (binOp PP .lss 3 x13 x12).bind fun x14 =>
 condK x14
 (
 (indexAddr PP 22 x11 x13).bind fun x15 =>
 (load PP 3 x15 σ).bind fun x16 =>
 (fieldAddr PP 25 x3 1).bind fun x17 =>
 (load PP 22 x17 σ).bind fun x18 =>
 (len PP 22 x18 σ).bind fun x19 =>
 f65_L1 G lo x3 x5 x16 x11 x12 x13 x18 x19 (DV.p (PV.int IntKind.i64 (0))) σ
 )
 (
 some (x5, σ)
 ) := (loopF_eq G hG).trans (by kernel_rfl)
theorem f65_L1_eq (G : GuardT) (hG : GuardOk G) (lo : Nat) (x3 x5 x7 x11 x12 x13 x18 x19 x20 : DV) (σ : Store) : f65_L1 G lo x3 x5 x7 x11 x12 x13 x18 x19 x20 σ =
 (binOp PP .lss 3 x20 x19).bind fun x21 =>
 condK x21
 (
 (indexAddr PP 22 x18 x20).bind fun x22 =>
 (load PP 3 x22 σ).bind fun x23 =>
 (build PP 120 [(0, x7), (1, x23)]).bind fun x27 =>
 (buildSlice PP none 116 1 [(0, x27)] σ).bind fun r28_1 =>
 (append PP lo false 116 116 x5 r28_1.1 r28_1.2).bind fun r29_2 =>
 (binOp PP .add 3 x20 (DV.p (PV.int IntKind.i64 (1)))).bind fun x30 =>
 f65_L1 G lo x3 r29_2.1 x7 x11 x12 x13 x18 x19 x30 r29_2.2
 )
 (
 (binOp PP .add 3 x13 (DV.p (PV.int IntKind.i64 (1)))).bind fun x31 =>
 f65_L0 G lo x3 x5 x11 x12 x31 σ
 ) := (loopF_eq G hG).trans (by kernel_rfl)
theorem F65_eq (G : GuardT) (lo : Nat) (x0 x1 : DV) (σ : Store) : F65 G lo x0 x1 σ =
 (boxV x0).bind fun z2 =>
 (boxV x1).bind fun z3 =>
 (fieldAddr PP 25 (DV.ptr (List.length σ) 0) 1).bind fun x10 =>
 (load PP 22 x10 ((σ ++ [Row.mix z2]) ++ [Row.mix z3])).bind fun x11 =>
 (len PP 22 x11 ((σ ++ [Row.mix z2]) ++ [Row.mix z3])).bind fun x12 =>
 f65_L0 G lo (DV.ptr (List.length (σ ++ [Row.mix z2])) 0) (DV.p PV.nilsl) x11 x12 (DV.p (PV.int IntKind.i64 (0))) ((σ ++ [Row.mix z2]) ++ [Row.mix z3]) := by kernel_rfl
theorem F65_call {lo : Nat} {x0 x1 : DV} {σ : Store} {r : DV × Store} (h : F65 guardT lo x0 x1 σ = some r) : CC lo 65 [x0, x1] σ = some r :=
 callL_run Go.Proofs.Try.func65 (by decide +kernel) rfl (by decide +kernel) h
noncomputable def c70_0 : Code := bodyOf Go.Proofs.Try.f70
noncomputable def a70_0 : Ann := (pol 70).ann
noncomputable def F70 (G : GuardT) (lo : Nat) (x0 x1 : DV) (σ : Store) : Option (DV × Store) :=
 codeF G PP (pol 70) CC lo c70_0 a70_0 [x0, x1, Z, Z, Z, Z, Z, Z, Z, Z, Z, Z, Z, Z, Z, Z, Z] σ (finR PP Go.Proofs.Try.f70.results.toList)
theorem F70_eq (G : GuardT) (lo : Nat) (x0 x1 : DV) (σ : Store) : F70 G lo x0 x1 σ =
 (boxV x0).bind fun z2 =>
 (boxV x1).bind fun z3 =>
 (fieldAddr PP 120 (DV.ptr (List.length σ) 0) 0).bind fun x5 =>
 (load PP 3 x5 ((σ ++ [Row.mix z2]) ++ [Row.mix z3])).bind fun x6 =>
 (fieldAddr PP 120 (DV.ptr (List.length (σ ++ [Row.mix z2])) 0) 0).bind fun x7 =>
 (load PP 3 x7 ((σ ++ [Row.mix z2]) ++ [Row.mix z3])).bind fun x8 =>
 (pureFn CC (DV.fn 112 []) [x6, x8] ((σ ++ [Row.mix z2]) ++ [Row.mix z3])).bind fun x9 =>
 (fieldAddr PP 120 (DV.ptr (List.length σ) 0) 1).bind fun x10 =>
 (load PP 3 x10 ((σ ++ [Row.mix z2]) ++ [Row.mix z3])).bind fun x11 =>
 (fieldAddr PP 120 (DV.ptr (List.length (σ ++ [Row.mix z2])) 0) 1).bind fun x12 =>
 (load PP 3 x12 ((σ ++ [Row.mix z2]) ++ [Row.mix z3])).bind fun x13 =>
 (pureFn CC (DV.fn 112 []) [x11, x13] ((σ ++ [Row.mix z2]) ++ [Row.mix z3])).bind fun x14 =>
 (buildSlice PP none 22 2 [(0, x9), (1, x14)] ((σ ++ [Row.mix z2]) ++ [Row.mix z3])).bind fun r15_1 =>
 (pureFn CC (DV.fn 111 []) [r15_1.1] r15_1.2).bind fun x16 =>
 some (x16, r15_1.2) := by kernel_rfl
theorem F70_call {lo : Nat} {x0 x1 : DV} {σ : Store} {r : DV × Store} (h : F70 guardT lo x0 x1 σ = some r) : CC lo 70 [x0, x1] σ = some r :=
 callL_run Go.Proofs.Try.func70 (by decide +kernel) rfl (by decide +kernel) h
noncomputable def c43_0 : Code := bodyOf Go.Proofs.Try.f43
noncomputable def a43_0 : Ann := (pol 43).ann
noncomputable def F43 (G : GuardT) (lo : Nat) (x0 : DV) (σ : Store) : Option (DV × Store) :=
 codeF G PP (pol 43) CC lo c43_0 a43_0 [x0, Z, Z, Z, Z, Z, Z, Z, Z, Z, Z, Z, Z, Z, Z, Z, Z, Z, Z, Z, Z, Z, Z, Z, Z, Z, Z, Z, Z, Z, Z] σ (finR PP Go.Proofs.Try.f43.results.toList)
theorem F43_eq (G : GuardT) (lo : Nat) (x0 : DV) (σ : Store) : F43 G lo x0 σ =
 (boxV x0).bind fun z1 =>
 (fieldAddr PP 84 (DV.ptr (List.length σ) 0) 0).bind fun x3 =>
 (load PP 25 x3 (σ ++ [Row.mix z1])).bind fun x4 =>
 (pureFn CC (DV.fn 11 []) [x4] (σ ++ [Row.mix z1])).bind fun x5 =>
 G _ x5 true ((fieldAddr PP 84 (DV.ptr (List.length σ) 0) 1).bind fun v => some (v, (σ ++ [Row.mix z1]))) (σ ++ [Row.mix z1]) fun x7 σ1 =>
 G _ x5 true ((load PP 25 x7 σ1).bind fun v => some (v, σ1)) σ1 fun x8 σ2 =>
 G _ x5 true ((pureFn CC (DV.fn 11 []) [x8] σ2).bind fun v => some (v, σ2)) σ2 fun x9 σ3 =>
 (pickV x5 x9 (DV.p (PV.bool false))).bind fun x10 =>
 G _ x10 true ((fieldAddr PP 84 (DV.ptr (List.length σ) 0) 2).bind fun v => some (v, σ3)) σ3 fun x12 σ4 =>
 G _ x10 true ((load PP 27 x12 σ4).bind fun v => some (v, σ4)) σ4 fun x13 σ5 =>
 G _ x10 true ((pureFn CC (DV.fn 12 []) [x13] σ5).bind fun v => some (v, σ5)) σ5 fun x14 σ6 =>
 (pickV x10 x14 (DV.p (PV.bool false))).bind fun x15 =>
 G _ x15 true ((fieldAddr PP 84 (DV.ptr (List.length σ) 0) 3).bind fun v => some (v, σ6)) σ6 fun x17 σ7 =>
 G _ x15 true ((load PP 27 x17 σ7).bind fun v => some (v, σ7)) σ7 fun x18 σ8 =>
 G _ x15 true ((pureFn CC (DV.fn 12 []) [x18] σ8).bind fun v => some (v, σ8)) σ8 fun x19 σ9 =>
 (pickV x15 x19 (DV.p (PV.bool false))).bind fun x20 =>
 G _ x20 true ((fieldAddr PP 84 (DV.ptr (List.length σ) 0) 4).bind fun v => some (v, σ9)) σ9 fun x22 σ10 =>
 G _ x20 true ((load PP 27 x22 σ10).bind fun v => some (v, σ10)) σ10 fun x23 σ11 =>
 G _ x20 true ((pureFn CC (DV.fn 12 []) [x23] σ11).bind fun v => some (v, σ11)) σ11 fun x24 σ12 =>
 (pickV x20 x24 (DV.p (PV.bool false))).bind fun x25 =>
 G _ x25 true ((fieldAddr PP 84 (DV.ptr (List.length σ) 0) 5).bind fun v => some (v, σ12)) σ12 fun x27 σ13 =>
 G _ x25 true ((load PP 27 x27 σ13).bind fun v => some (v, σ13)) σ13 fun x28 σ14 =>
 G _ x25 true ((pureFn CC (DV.fn 12 []) [x28] σ14).bind fun v => some (v, σ14)) σ14 fun x29 σ15 =>
 (pickV x25 x29 (DV.p (PV.bool false))).bind fun x30 =>
 some (x30, σ15) := by kernel_rfl
theorem F43_call {lo : Nat} {x0 : DV} {σ : Store} {r : DV × Store} (h : F43 guardT lo x0 σ = some r) : CC lo 43 [x0] σ = some r :=
 callL_run Go.Proofs.Try.func43 (by decide +kernel) rfl (by decide +kernel) h
noncomputable def c44_0 : Code := bodyOf Go.Proofs.Try.f44
noncomputable def a44_0 : Ann := (pol 44).ann
noncomputable def a44_7 : Ann := right (left (right (right a44_0)))
noncomputable def a44_8 : Ann := left a44_7
noncomputable def c44_9 : Code := fstC (fstC (sndC (fstC (sndC (sndC c44_0)))))
noncomputable def c44_25 : Code := sndC (sndC (sndC c44_0))
noncomputable def a44_25 : Ann := right (right (right a44_0))
noncomputable def f44_L0 (G : GuardT) (lo : Nat) (x3 x4 : DV) (σ : Store) : Option (DV × Store) :=
 codeF G PP (pol 44) CC lo (.loop c44_9) a44_8 [Z, Z, Z, x3, x4, Z, Z, Z, Z, Z, Z, Z, Z, Z, Z, Z, Z, Z, Z, Z, Z, Z, Z, Z, Z, Z, Z, Z, Z, Z, Z, Z, Z, Z, Z, Z, Z, Z, Z] σ
 (blockC 0 a44_7 (seqC G PP (pol 44) CC lo c44_25 a44_25 (finR PP Go.Proofs.Try.f44.results.toList)))
noncomputable def F44 (G : GuardT) (lo : Nat) (x0 : DV) (σ : Store) : Option (DV × Store) :=
 codeF G PP (pol 44) CC lo c44_0 a44_0 [x0, Z, Z, Z, Z, Z, Z, Z, Z, Z, Z, Z, Z, Z, Z, Z, Z, Z, Z, Z, Z, Z, Z, Z, Z, Z, Z, Z, Z, Z, Z, Z, Z, Z, Z, Z, Z, Z, Z] σ (finR PP Go.Proofs.Try.f44.results.toList)
theorem f44_L0_eq (G : GuardT) (hG : GuardOk G) (lo : Nat) (x3 x4 : DV) (σ : Store) : f44_L0 G lo x3 x4 σ =
 (len PP 22 x3 σ).bind fun x26 =>
 (binOp PP .lss 3 x4 x26).bind fun x27 =>
 condK x27
 (
 (indexAddr PP 22 x3 x4).bind fun x32 =>
 (load PP 3 x32 σ).bind fun x33 =>
 (binOp PP .neq 3 x33 (DV.p (PV.int IntKind.i64 (0)))).bind fun x34 =>
 condK x34
 (
 (indexAddr PP 22 x3 x4).bind fun x37 =>
 (load PP 3 x37 σ).bind fun x38 =>
 some (x38, σ)
 )
 (
 (binOp PP .add 3 x4 (DV.p (PV.int IntKind.i64 (1)))).bind fun x29 =>
 f44_L0 G lo x3 x29 σ
 )
 )
 (
 some ((DV.p (PV.int IntKind.i64 (0))), σ)
 ) := (loopF_eq G hG).trans (by kernel_rfl)
theorem F44_eq (G : GuardT) (lo : Nat) (x0 : DV) (σ : Store) : F44 G lo x0 σ =
 (boxV x0).bind fun z1 =>
 (fieldAddr PP 84 (DV.ptr (List.length σ) 0) 0).bind fun x5 =>
 (load PP 25 x5 (σ ++ [Row.mix z1])).bind fun x6 =>
 (pureFn CC (DV.fn 16 []) [x6] (σ ++ [Row.mix z1])).bind fun x7 =>
 (fieldAddr PP 84 (DV.ptr (List.length σ) 0) 2).bind fun x8 =>
 (load PP 27 x8 (σ ++ [Row.mix z1])).bind fun x9 =>
 (pureFn CC (DV.fn 17 []) [x9] (σ ++ [Row.mix z1])).bind fun x10 =>
 (fieldAddr PP 84 (DV.ptr (List.length σ) 0) 3).bind fun x11 =>
 (load PP 27 x11 (σ ++ [Row.mix z1])).bind fun x12 =>
 (pureFn CC (DV.fn 17 []) [x12] (σ ++ [Row.mix z1])).bind fun x13 =>
 (fieldAddr PP 84 (DV.ptr (List.length σ) 0) 1).bind fun x14 =>
 (load PP 25 x14 (σ ++ [Row.mix z1])).bind fun x15 =>
 (pureFn CC (DV.fn 16 []) [x15] (σ ++ [Row.mix z1])).bind fun x16 =>
 (fieldAddr PP 84 (DV.ptr (List.length σ) 0) 4).bind fun x17 =>
 (load PP 27 x17 (σ ++ [Row.mix z1])).bind fun x18 =>
 (pureFn CC (DV.fn 17 []) [x18] (σ ++ [Row.mix z1])).bind fun x19 =>
 (fieldAddr PP 84 (DV.ptr (List.length σ) 0) 5).bind fun x20 =>
 (load PP 27 x20 (σ ++ [Row.mix z1])).bind fun x21 =>
 (pureFn CC (DV.fn 17 []) [x21] (σ ++ [Row.mix z1])).bind fun x22 =>
 (buildSlice PP none 22 6 [(0, x7), (1, x10), (2, x13), (3, x16), (4, x19), (5, x22)] (σ ++ [Row.mix z1])).bind fun r23_1 =>
 f44_L0 G lo r23_1.1 (DV.p (PV.int IntKind.i64 (0))) r23_1.2 := by kernel_rfl
theorem F44_call {lo : Nat} {x0 : DV} {σ : Store} {r : DV × Store} (h : F44 guardT lo x0 σ = some r) : CC lo 44 [x0] σ = some r :=
 callL_run Go.Proofs.Try.func44 (by decide +kernel) rfl (by decide +kernel) h
noncomputable def c45_0 : Code := bodyOf Go.Proofs.Try.f45
noncomputable def a45_0 : Ann := (pol 45).ann
noncomputable def a45_37 : Ann := right (left (right (right (right (right (right a45_0))))))
noncomputable def a45_38 : Ann := left a45_37
noncomputable def c45_39 : Code := fstC (fstC (sndC (fstC (sndC (sndC (sndC (sndC (sndC c45_0))))))))
noncomputable def c45_59 : Code := sndC (sndC (sndC (sndC (sndC (sndC c45_0)))))
noncomputable def a45_59 : Ann := right (right (right (right (right (right a45_0)))))
noncomputable def f45_L0 (G : GuardT) (lo : Nat) (x2 x9 x57 x58 x59 : DV) (σ : Store) : Option (DV × Store) :=
 codeF G PP (pol 45) CC lo (.loop c45_39) a45_38 [Z, Z, x2, Z, Z, Z, Z, Z, Z, x9, Z, Z, Z, Z, Z, Z, Z, Z, Z, Z, Z, Z, Z, Z, Z, Z, Z, Z, Z, Z, Z, Z, Z, Z, Z, Z, Z, Z, Z, Z, Z, Z, Z, Z, Z, Z, Z, Z, Z, Z, Z, Z, Z, Z, Z, Z, Z, x57, x58, x59, Z, Z, Z, Z, Z, Z, Z, Z, Z, Z, Z, Z, Z, Z, Z, Z, Z] σ
 (blockC 0 a45_37 (seqC G PP (pol 45) CC lo c45_59 a45_59 (finR PP Go.Proofs.Try.f45.results.toList)))
noncomputable def F45 (G : GuardT) (lo : Nat) (x0 : DV) (σ : Store) : Option (DV × Store) :=
 codeF G PP (pol 45) CC lo c45_0 a45_0 [x0, Z, Z, Z, Z, Z, Z, Z, Z, Z, Z, Z, Z, Z, Z, Z, Z, Z, Z, Z, Z, Z, Z, Z, Z, Z, Z, Z, Z, Z, Z, Z, Z, Z, Z, Z, Z, Z, Z, Z, Z, Z, Z, Z, Z, Z, Z, Z, Z, Z, Z, Z, Z, Z, Z, Z, Z, Z, Z, Z, Z, Z, Z, Z, Z, Z, Z, Z, Z, Z, Z, Z, Z, Z, Z, Z, Z] σ (finR PP Go.Proofs.Try.f45.results.toList)
theorem f45_L0_eq (G : GuardT) (hG : GuardOk G) (lo : Nat) (x2 x9 x57 x58 x59 : DV) (σ : Store) : f45_L0 G lo x2 x9 x57 x58 x59 σ =
 (binOp PP .lss 3 x59 x58).bind fun x60 =>
 condK x60
 (
 (indexAddr PP 56 x57 x59).bind fun x62 =>
 (load PP 27 x62 σ).bind fun x63 =>
 (pureFn CC (DV.fn 76 []) [x9, x63] σ).bind fun x67 =>
 (extractV x67 0).bind fun x68 =>
 (extractV x67 1).bind fun x69 =>
 condK x69
 (
 (binOp PP .add 3 (DV.p (PV.int IntKind.i64 (3))) x59).bind fun x72 =>
 (build PP 88 [(0, x72), (2, x68)]).bind fun x74 =>
 (store PP lo 88 x2 x74 σ).bind fun σ8 =>
 (cellV PP 88 x2 σ8).bind fun v0 =>
 some ((DV.tuple [v0, (DV.p (PV.int IntKind.i64 (31)))]), σ8)
 )
 (
 (binOp PP .add 3 x59 (DV.p (PV.int IntKind.i64 (1)))).bind fun x75 =>
 f45_L0 G lo x2 x9 x57 x58 x75 σ
 )
 )
 (
 (build PP 88 []).bind fun x76 =>
 (store PP lo 88 x2 x76 σ).bind fun σ9 =>
 (cellV PP 88 x2 σ9).bind fun v0 =>
 some ((DV.tuple [v0, (DV.p (PV.int IntKind.i64 (0)))]), σ9)
 ) := (loopF_eq G hG).trans (by kernel_rfl)
theorem F45_eq (G : GuardT) (lo : Nat) (x0 : DV) (σ : Store) : F45 G lo x0 σ =
 (boxV x0).bind fun z1 =>
 (zeroOf PP 88).bind fun z2 =>
 (load PP 84 (DV.ptr (List.length σ) 0) ((σ ++ [Row.mix z1]) ++ [Row.mix z2])).bind fun x14 =>
 (pureFn CC (DV.fn 96 []) [x14] ((σ ++ [Row.mix z1]) ++ [Row.mix z2])).bind fun x15 =>
 (binOp PP .neq 34 x15 (DV.p (PV.int IntKind.i64 (0)))).bind fun x17 =>
 condK x17
 (
 (build PP 88 []).bind fun x18 =>
 (store PP lo 88 (DV.ptr (List.length (σ ++ [Row.mix z1])) 0) x18 ((σ ++ [Row.mix z1]) ++ [Row.mix z2])).bind fun σ1 =>
 (cellV PP 88 (DV.ptr (List.length (σ ++ [Row.mix z1])) 0) σ1).bind fun v0 =>
 some ((DV.tuple [v0, x15]), σ1)
 )
 (
 (fieldAddr PP 84 (DV.ptr (List.length σ) 0) 0).bind fun x21 =>
 (load PP 25 x21 ((σ ++ [Row.mix z1]) ++ [Row.mix z2])).bind fun x22 =>
 (fieldAddr PP 84 (DV.ptr (List.length σ) 0) 2).bind fun x23 =>
 (load PP 27 x23 ((σ ++ [Row.mix z1]) ++ [Row.mix z2])).bind fun x24 =>
 (fieldAddr PP 84 (DV.ptr (List.length σ) 0) 3).bind fun x25 =>
 (load PP 27 x25 ((σ ++ [Row.mix z1]) ++ [Row.mix z2])).bind fun x26 =>
 (pureFn CC (DV.fn 53 []) [x22, x24, x26] ((σ ++ [Row.mix z1]) ++ [Row.mix z2])).bind fun x27 =>
 (extractV x27 0).bind fun x28 =>
 (extractV x27 1).bind fun x29 =>
 (zeroOf PP 33).bind fun z5 =>
 (store PP lo 33 (DV.ptr (List.length ((σ ++ [Row.mix z1]) ++ [Row.mix z2])) 0) x28 (((σ ++ [Row.mix z1]) ++ [Row.mix z2]) ++ [Row.mix z5])).bind fun σ2 =>
 condK x29
 (
 (load PP 33 (DV.ptr (List.length ((σ ++ [Row.mix z1]) ++ [Row.mix z2])) 0) σ2).bind fun x31 =>
 (build PP 88 [(0, (DV.p (PV.int IntKind.i64 (1)))), (1, x31)]).bind fun x32 =>
 (store PP lo 88 (DV.ptr (List.length (σ ++ [Row.mix z1])) 0) x32 σ2).bind fun σ3 =>
 (cellV PP 88 (DV.ptr (List.length (σ ++ [Row.mix z1])) 0) σ3).bind fun v0 =>
 some ((DV.tuple [v0, (DV.p (PV.int IntKind.i64 (31)))]), σ3)
 )
 (
 (fieldAddr PP 84 (DV.ptr (List.length σ) 0) 1).bind fun x34 =>
 (load PP 25 x34 σ2).bind fun x35 =>
 (fieldAddr PP 84 (DV.ptr (List.length σ) 0) 4).bind fun x36 =>
 (load PP 27 x36 σ2).bind fun x37 =>
 (fieldAddr PP 84 (DV.ptr (List.length σ) 0) 5).bind fun x38 =>
 (load PP 27 x38 σ2).bind fun x39 =>
 (pureFn CC (DV.fn 53 []) [x35, x37, x39] σ2).bind fun x40 =>
 (extractV x40 0).bind fun x41 =>
 (extractV x40 1).bind fun x42 =>
 (zeroOf PP 33).bind fun z7 =>
 (store PP lo 33 (DV.ptr (List.length σ2) 0) x41 (σ2 ++ [Row.mix z7])).bind fun σ4 =>
 condK x42
 (
 (load PP 33 (DV.ptr (List.length σ2) 0) σ4).bind fun x44 =>
 (build PP 88 [(0, (DV.p (PV.int IntKind.i64 (2)))), (1, x44)]).bind fun x45 =>
 (store PP lo 88 (DV.ptr (List.length (σ ++ [Row.mix z1])) 0) x45 σ4).bind fun σ5 =>
 (cellV PP 88 (DV.ptr (List.length (σ ++ [Row.mix z1])) 0) σ5).bind fun v0 =>
 some ((DV.tuple [v0, (DV.p (PV.int IntKind.i64 (31)))]), σ5)
 )
 (
 (fieldAddr PP 84 (DV.ptr (List.length σ) 0) 3).bind fun x46 =>
 (load PP 27 x46 σ4).bind fun x47 =>
 (fieldAddr PP 84 (DV.ptr (List.length σ) 0) 5).bind fun x48 =>
 (load PP 27 x48 σ4).bind fun x49 =>
 (pureFn CC (DV.fn 95 []) [x49] σ4).bind fun x50 =>
 (buildSlice PP none 56 2 [(0, x47), (1, x50)] σ4).bind fun r51_6 =>
 (fieldAddr PP 84 (DV.ptr (List.length σ) 0) 2).bind fun x52 =>
 (load PP 27 x52 r51_6.2).bind fun x53 =>
 (fieldAddr PP 84 (DV.ptr (List.length σ) 0) 4).bind fun x54 =>
 (load PP 27 x54 r51_6.2).bind fun x55 =>
 (pureFn CC (DV.fn 95 []) [x55] r51_6.2).bind fun x56 =>
 (buildSlice PP none 56 2 [(0, x53), (1, x56)] r51_6.2).bind fun r57_7 =>
 (len PP 56 r57_7.1 r57_7.2).bind fun x58 =>
 f45_L0 G lo (DV.ptr (List.length (σ ++ [Row.mix z1])) 0) r51_6.1 r57_7.1 x58 (DV.p (PV.int IntKind.i64 (0))) r57_7.2
 )
 )
 ) := by kernel_rfl
theorem F45_call {lo : Nat} {x0 : DV} {σ : Store} {r : DV × Store} (h : F45 guardT lo x0 σ = some r) : CC lo 45 [x0] σ = some r :=
 callL_run Go.Proofs.Try.func45 (by decide +kernel) rfl (by decide +kernel) h
noncomputable def c46_0 : Code := bodyOf Go.Proofs.Try.f46
noncomputable def a46_0 : Ann := (pol 46).ann
noncomputable def F46 (G : GuardT) (lo : Nat) (x0 : DV) (σ : Store) : Option (DV × Store) :=
 codeF G PP (pol 46) CC lo c46_0 a46_0 [x0, Z, Z, Z, Z, Z, Z, Z, Z, Z, Z, Z, Z, Z, Z, Z, Z, Z, Z, Z, Z, Z] σ (finR PP Go.Proofs.Try.f46.results.toList)
theorem F46_eq (G : GuardT) (lo : Nat) (x0 : DV) (σ : Store) : F46 G lo x0 σ =
 (boxV x0).bind fun z1 =>
 (zeroOf PP 84).bind fun z2 =>
 (fieldAddr PP 84 (DV.ptr (List.length σ) 0) 0).bind fun x3 =>
 (load PP 25 x3 ((σ ++ [Row.mix z1]) ++ [Row.mix z2])).bind fun x4 =>
 (pureFn CC (DV.fn 14 []) [x4] ((σ ++ [Row.mix z1]) ++ [Row.mix z2])).bind fun x5 =>
 (fieldAddr PP 84 (DV.ptr (List.length σ) 0) 1).bind fun x6 =>
 (load PP 25 x6 ((σ ++ [Row.mix z1]) ++ [Row.mix z2])).bind fun x7 =>
 (pureFn CC (DV.fn 14 []) [x7] ((σ ++ [Row.mix z1]) ++ [Row.mix z2])).bind fun x8 =>
 (fieldAddr PP 84 (DV.ptr (List.length σ) 0) 2).bind fun x9 =>
 (load PP 27 x9 ((σ ++ [Row.mix z1]) ++ [Row.mix z2])).bind fun x10 =>
 (pureFn CC (DV.fn 15 []) [x10] ((σ ++ [Row.mix z1]) ++ [Row.mix z2])).bind fun x11 =>
 (fieldAddr PP 84 (DV.ptr (List.length σ) 0) 3).bind fun x12 =>
 (load PP 27 x12 ((σ ++ [Row.mix z1]) ++ [Row.mix z2])).bind fun x13 =>
 (pureFn CC (DV.fn 15 []) [x13] ((σ ++ [Row.mix z1]) ++ [Row.mix z2])).bind fun x14 =>
 (fieldAddr PP 84 (DV.ptr (List.length σ) 0) 4).bind fun x15 =>
 (load PP 27 x15 ((σ ++ [Row.mix z1]) ++ [Row.mix z2])).bind fun x16 =>
 (pureFn CC (DV.fn 15 []) [x16] ((σ ++ [Row.mix z1]) ++ [Row.mix z2])).bind fun x17 =>
 (fieldAddr PP 84 (DV.ptr (List.length σ) 0) 5).bind fun x18 =>
 (load PP 27 x18 ((σ ++ [Row.mix z1]) ++ [Row.mix z2])).bind fun x19 =>
 (pureFn CC (DV.fn 15 []) [x19] ((σ ++ [Row.mix z1]) ++ [Row.mix z2])).bind fun x20 =>
 (build PP 84 [(0, x5), (1, x8), (2, x11), (3, x14), (4, x17), (5, x20)]).bind fun x21 =>
 (store PP lo 84 (DV.ptr (List.length (σ ++ [Row.mix z1])) 0) x21 ((σ ++ [Row.mix z1]) ++ [Row.mix z2])).bind fun σ1 =>
 (cellV PP 84 (DV.ptr (List.length (σ ++ [Row.mix z1])) 0) σ1).bind fun v0 =>
 some (v0, σ1) := by kernel_rfl
theorem F46_call {lo : Nat} {x0 : DV} {σ : Store} {r : DV × Store} (h : F46 guardT lo x0 σ = some r) : CC lo 46 [x0] σ = some r :=
 callL_run Go.Proofs.Try.func46 (by decide +kernel) rfl (by decide +kernel) h
noncomputable def c96_0 : Code := bodyOf Go.Proofs.Try.f96
noncomputable def a96_0 : Ann := (pol 96).ann
noncomputable def F96 (G : GuardT) (lo : Nat) (x0 : DV) (σ : Store) : Option (DV × Store) :=
 codeF G PP (pol 96) CC lo c96_0 a96_0 [x0, Z, Z, Z, Z, Z, Z, Z, Z, Z, Z, Z, Z, Z, Z, Z, Z, Z, Z, Z, Z, Z, Z] σ (finR PP Go.Proofs.Try.f96.results.toList)
theorem F96_eq (G : GuardT) (lo : Nat) (x0 : DV) (σ : Store) : F96 G lo x0 σ =
 (boxV x0).bind fun z1 =>
 (fieldAddr PP 84 (DV.ptr (List.length σ) 0) 0).bind fun x3 =>
 (load PP 25 x3 (σ ++ [Row.mix z1])).bind fun x4 =>
 (pureFn CC (DV.fn 29 []) [x4] (σ ++ [Row.mix z1])).bind fun x5 =>
 (fieldAddr PP 84 (DV.ptr (List.length σ) 0) 2).bind fun x6 =>
 (load PP 27 x6 (σ ++ [Row.mix z1])).bind fun x7 =>
 (pureFn CC (DV.fn 33 []) [x7] (σ ++ [Row.mix z1])).bind fun x8 =>
 (fieldAddr PP 84 (DV.ptr (List.length σ) 0) 3).bind fun x9 =>
 (load PP 27 x9 (σ ++ [Row.mix z1])).bind fun x10 =>
 (pureFn CC (DV.fn 33 []) [x10] (σ ++ [Row.mix z1])).bind fun x11 =>
 (fieldAddr PP 84 (DV.ptr (List.length σ) 0) 1).bind fun x12 =>
 (load PP 25 x12 (σ ++ [Row.mix z1])).bind fun x13 =>
 (pureFn CC (DV.fn 29 []) [x13] (σ ++ [Row.mix z1])).bind fun x14 =>
 (fieldAddr PP 84 (DV.ptr (List.length σ) 0) 4).bind fun x15 =>
 (load PP 27 x15 (σ ++ [Row.mix z1])).bind fun x16 =>
 (pureFn CC (DV.fn 33 []) [x16] (σ ++ [Row.mix z1])).bind fun x17 =>
 (fieldAddr PP 84 (DV.ptr (List.length σ) 0) 5).bind fun x18 =>
 (load PP 27 x18 (σ ++ [Row.mix z1])).bind fun x19 =>
 (pureFn CC (DV.fn 33 []) [x19] (σ ++ [Row.mix z1])).bind fun x20 =>
 (buildSlice PP none 160 6 [(0, x5), (1, x8), (2, x11), (3, x14), (4, x17), (5, x20)] (σ ++ [Row.mix z1])).bind fun r21_1 =>
 (pureFn CC (DV.fn 52 []) [r21_1.1] r21_1.2).bind fun x22 =>
 some (x22, r21_1.2) := by kernel_rfl
theorem F96_call {lo : Nat} {x0 : DV} {σ : Store} {r : DV × Store} (h : F96 guardT lo x0 σ = some r) : CC lo 96 [x0] σ = some r :=
 callL_run Go.Proofs.Try.func96 (by decide +kernel) rfl (by decide +kernel) h
noncomputable def c9_0 : Code := bodyOf Go.Proofs.Try.f9
noncomputable def a9_0 : Ann := (pol 9).ann
noncomputable def F9 (G : GuardT) (lo : Nat) (x0 : DV) (σ : Store) : Option (DV × Store) :=
 codeF G PP (pol 9) CC lo c9_0 a9_0 [x0, Z, Z, Z, Z, Z, Z, Z, Z, Z, Z, Z, Z, Z, Z, Z, Z, Z, Z, Z, Z, Z, Z, Z, Z, Z, Z, Z, Z, Z, Z, Z, Z, Z, Z] σ (finR PP Go.Proofs.Try.f9.results.toList)
theorem F9_eq (G : GuardT) (lo : Nat) (x0 : DV) (σ : Store) : F9 G lo x0 σ =
 (boxV x0).bind fun z1 =>
 (pureFn CC (DV.fn 10 []) [] (σ ++ [Row.mix z1])).bind fun x7 =>
 (unOp .not x7).bind fun x8 =>
 condK x8
 (
 some ((DV.p (PV.bool false)), (σ ++ [Row.mix z1]))
 )
 (
 (load PP 84 (DV.ptr (List.length σ) 0) (σ ++ [Row.mix z1])).bind fun x9 =>
 (pureFn CC (DV.fn 43 []) [x9] (σ ++ [Row.mix z1])).bind fun x10 =>
 (unOp .not x10).bind fun x11 =>
 G _ x11 false ((load PP 84 (DV.ptr (List.length σ) 0) (σ ++ [Row.mix z1])).bind fun v => some (v, (σ ++ [Row.mix z1]))) (σ ++ [Row.mix z1]) fun x13 σ1 =>
 G _ x11 false ((pureFn CC (DV.fn 44 []) [x13] σ1).bind fun v => some (v, σ1)) σ1 fun x14 σ2 =>
 G _ x11 false ((binOp PP .neq 3 x14 (DV.p (PV.int IntKind.i64 (0)))).bind fun v => some (v, σ2)) σ2 fun x15 σ3 =>
 (pickV x11 (DV.p (PV.bool true)) x15).bind fun x16 =>
 condK x16
 (
 some ((DV.p (PV.bool true)), σ3)
 )
 (
 (load PP 84 (DV.ptr (List.length σ) 0) σ3).bind fun x18 =>
 (pureFn CC (DV.fn 46 []) [x18] σ3).bind fun x19 =>
 (pureFn CC (DV.fn 45 []) [x19] σ3).bind fun x20 =>
 (extractV x20 0).bind fun x21 =>
 (extractV x20 1).bind fun x22 =>
 (zeroOf PP 88).bind fun z3 =>
 (store PP lo 88 (DV.ptr (List.length σ3) 0) x21 (σ3 ++ [Row.mix z3])).bind fun σ4 =>
 (binOp PP .neq 34 x22 (DV.p (PV.int IntKind.i64 (0)))).bind fun x24 =>
 condK x24
 (
 (binOp PP .eql 34 x22 (DV.p (PV.int IntKind.i64 (31)))).bind fun x26 =>
 some (x26, σ4)
 )
 (
 (load PP 84 (DV.ptr (List.length σ) 0) σ4).bind fun x28 =>
 (pureFn CC (DV.fn 46 []) [x28] σ4).bind fun x29 =>
 (pureFn CC (DV.fn 47 []) [x29] σ4).bind fun x30 =>
 (extractV x30 0).bind fun x31 =>
 (extractV x30 1).bind fun x32 =>
 (binOp PP .eql 34 x32 (DV.p (PV.int IntKind.i64 (25)))).bind fun x34 =>
 some (x34, σ4)
 )
 )
 ) := by kernel_rfl
theorem F9_call {lo : Nat} {x0 : DV} {σ : Store} {r : DV × Store} (h : F9 guardT lo x0 σ = some r) : CC lo 9 [x0] σ = some r :=
 callL_run Go.Proofs.Try.func9 (by decide +kernel) rfl (by decide +kernel) h
end Go.D
end
