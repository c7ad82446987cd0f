/- Equations of functions 10, 8, 42, printed by gen.py. -/
import Derived.Test.YthddgnfaaccgjaaPc
import Derived.Test.YthddgnfaaccgjaaPd
import Derived.Test.YthddgnfaaccgjaaPf
import Derived.Test.YthddgnfaaccgjaaRows
import Derived.ProofKit
import Derived.SizedLaws
import Derived.Test.YthddgnfaaccgjaaPa
import Derived.OpenShut
import Derived.WideShapes
section
set_option linter.unusedVariables false
set_option maxRecDepth 10000
namespace Go.D
open _root_.Go.D.Code (fstC sndC)
open _root_.Go.D.Ann (left right)
noncomputable def c10_0 : Code := bodyOf Go.Proofs.Try.f10
noncomputable def a10_0 : Ann := (pol 10).ann
noncomputable def F10 (G : GuardT) (lo : Nat) (σ : Store) : Option (DV × Store) :=
 codeF G PP (pol 10) CC lo c10_0 a10_0 [ud, ud, ud, ud, ud, ud, ud, ud, ud, ud, ud, ud, ud, ud, ud, ud, ud, ud, ud, ud, ud, ud, ud, ud, ud, ud, ud, ud, ud, ud, ud, ud, ud, ud, ud, ud, ud, ud, ud, ud, ud, ud, ud, ud, ud, ud, ud, ud, ud, ud, ud, ud, ud, ud, ud, ud, ud, ud, ud, ud, ud, ud, ud, ud, ud, ud, ud, ud, ud, ud, ud, ud, ud, ud, ud, ud, ud, ud, ud, ud, ud, ud, ud, ud, ud, ud, ud, ud, ud, ud, ud, ud, ud, ud, ud] σ (finR PP Go.Proofs.Try.f10.results.toList)
theorem F10_eq (G : GuardT) (lo : Nat) (σ : Store) : F10 G lo σ =
 (pureFn CC (DV.fn 48 []) [] σ).bind fun x14 =>
 (pureFn CC (DV.fn 49 []) [] σ).bind fun x15 =>
 (pureFn CC (DV.fn 50 []) [] σ).bind fun x16 =>
 (pureFn CC (DV.fn 13 []) [x14, x15, x16] σ).bind fun x17 =>
 (extractV x17 0).bind fun x18 =>
 (extractV x17 1).bind fun x19 =>
 (zeroOf PP 33).bind fun z1 =>
 (store PP lo 33 (DV.ptr (List.length σ) 0) x18 (σ ++ [Row.mix z1])).bind fun σ1 =>
 (pureFn CC (DV.fn 48 []) [] σ1).bind fun x21 =>
 (pureFn CC (DV.fn 50 []) [] σ1).bind fun x22 =>
 (pureFn CC (DV.fn 38 []) [x22] σ1).bind fun x23 =>
 (pureFn CC (DV.fn 50 []) [] σ1).bind fun x24 =>
 (pureFn CC (DV.fn 13 []) [x21, x23, x24] σ1).bind fun x25 =>
 (extractV x25 0).bind fun x26 =>
 (extractV x25 1).bind fun x27 =>
 (zeroOf PP 33).bind fun z3 =>
 (store PP lo 33 (DV.ptr (List.length σ1) 0) x26 (σ1 ++ [Row.mix z3])).bind fun σ2 =>
 (pureFn CC (DV.fn 48 []) [] σ2).bind fun x29 =>
 (pureFn CC (DV.fn 48 []) [] σ2).bind fun x30 =>
 (pureFn CC (DV.fn 20 []) [x29, x30] σ2).bind fun x31 =>
 (extractV x31 0).bind fun x32 =>
 (extractV x31 1).bind fun x33 =>
 (extractV x31 2).bind fun x34 =>
 (zeroOf PP 47).bind fun z5 =>
 (store PP lo 47 (DV.ptr (List.length σ2) 0) x32 (σ2 ++ [Row.mix z5])).bind fun σ3 =>
 (pureFn CC (DV.fn 51 []) [] σ3).bind fun x36 =>
 (pureFn CC (DV.fn 45 []) [x36] σ3).bind fun x37 =>
 (extractV x37 0).bind fun x38 =>
 (extractV x37 1).bind fun x39 =>
 (zeroOf PP 88).bind fun z8 =>
 (store PP lo 88 (DV.ptr (List.length σ3) 0) x38 (σ3 ++ [Row.mix z8])).bind fun σ4 =>
 (pureFn CC (DV.fn 51 []) [] σ4).bind fun x40 =>
 (zeroOf PP 84).bind fun z10 =>
 (store PP lo 84 (DV.ptr (List.length σ4) 0) x40 (σ4 ++ [Row.mix z10])).bind fun σ5 =>
 (pureFn CC (DV.fn 49 []) [] σ5).bind fun x41 =>
 (fieldAddr PP 84 (DV.ptr (List.length σ4) 0) 2).bind fun x42 =>
 (store PP lo 27 x42 x41 σ5).bind fun σ6 =>
 (load PP 84 (DV.ptr (List.length σ4) 0) σ6).bind fun x44 =>
 (pureFn CC (DV.fn 45 []) [x44] σ6).bind fun x45 =>
 (extractV x45 0).bind fun x46 =>
 (extractV x45 1).bind fun x47 =>
 (zeroOf PP 88).bind fun z11 =>
 (store PP lo 88 (DV.ptr (List.length σ6) 0) x46 (σ6 ++ [Row.mix z11])).bind fun σ7 =>
 (binOp PP .neq 34 x19 (DV.p (PV.int IntKind.i64 (0)))).bind fun x49 =>
 G _ x49 false (some (x27, σ7)) σ7 fun x51 σ8 =>
 G _ x49 false ((binOp PP .neq 34 x51 (DV.p (PV.int IntKind.i64 (25)))).bind fun v => some (v, σ8)) σ8 fun x52 σ9 =>
 (pickV x49 (DV.p (PV.bool true)) x52).bind fun x53 =>
 G _ x53 false (some (x34, σ9)) σ9 fun x55 σ10 =>
 G _ x53 false ((binOp PP .neq 34 x55 (DV.p (PV.int IntKind.i64 (0)))).bind fun v => some (v, σ10)) σ10 fun x56 σ11 =>
 (pickV x53 (DV.p (PV.bool true)) x56).bind fun x57 =>
 G _ x57 false (some (x39, σ11)) σ11 fun x59 σ12 =>
 G _ x57 false ((binOp PP .neq 34 x59 (DV.p (PV.int IntKind.i64 (0)))).bind fun v => some (v, σ12)) σ12 fun x60 σ13 =>
 (pickV x57 (DV.p (PV.bool true)) x60).bind fun x61 =>
 G _ x61 false (some (x47, σ13)) σ13 fun x63 σ14 =>
 G _ x61 false ((binOp PP .neq 34 x63 (DV.p (PV.int IntKind.i64 (31)))).bind fun v => some (v, σ14)) σ14 fun x64 σ15 =>
 (pickV x61 (DV.p (PV.bool true)) x64).bind fun x65 =>
 G _ x65 false ((fieldAddr PP 88 (DV.ptr (List.length σ3) 0) 0).bind fun v => some (v, σ15)) σ15 fun x67 σ16 =>
 G _ x65 false ((load PP 3 x67 σ16).bind fun v => some (v, σ16)) σ16 fun x68 σ17 =>
 G _ x65 false ((binOp PP .neq 3 x68 (DV.p (PV.int IntKind.i64 (0)))).bind fun v => some (v, σ17)) σ17 fun x69 σ18 =>
 (pickV x65 (DV.p (PV.bool true)) x69).bind fun x70 =>
 G _ x70 false ((fieldAddr PP 88 (DV.ptr (List.length σ6) 0) 0).bind fun v => some (v, σ18)) σ18 fun x72 σ19 =>
 G _ x70 false ((load PP 3 x72 σ19).bind fun v => some (v, σ19)) σ19 fun x73 σ20 =>
 G _ x70 false ((binOp PP .neq 3 x73 (DV.p (PV.int IntKind.i64 (1)))).bind fun v => some (v, σ20)) σ20 fun x74 σ21 =>
 (pickV x70 (DV.p (PV.bool true)) x74).bind fun x75 =>
 condK x75
 (
 some ((DV.p (PV.bool false)), σ21)
 )
 (
 (load PP 33 (DV.ptr (List.length σ) 0) σ21).bind fun x76 =>
 (buildSlice PP none 22 3 [(0, (DV.p (PV.int IntKind.i64 (0)))), (1, (DV.p (PV.int IntKind.i64 (1)))), (2, (DV.p (PV.int IntKind.i64 (1))))] σ21).bind fun r77_22 =>
 (build PP 98 [(0, (DV.p (PV.int IntKind.i64 (1))))]).bind fun x78 =>
 (build PP 98 [(1, (DV.p (PV.int IntKind.i64 (1))))]).bind fun x79 =>
 (buildSlice PP none 31 2 [(0, x78), (1, x79)] r77_22.2).bind fun r80_23 =>
 (build PP 33 [(0, r77_22.1), (1, r80_23.1)]).bind fun x81 =>
 (pureFn CC (DV.fn 18 []) [x76, x81] r80_23.2).bind fun x82 =>
 G _ x82 true (some (x33, r80_23.2)) r80_23.2 fun x84 σ24 =>
 G _ x82 true ((buildSlice PP none 22 2 [(0, (DV.p (PV.int IntKind.i64 (0)))), (1, (DV.p (PV.int IntKind.i64 (0))))] σ24).bind fun r => some (r.1, r.2)) σ24 fun x85 σ25 =>
 G _ x82 true ((buildSlice PP none 48 1 [(0, x85)] σ25).bind fun r => some (r.1, r.2)) σ25 fun x86 σ26 =>
 G _ x82 true ((pureFn CC (DV.fn 23 []) [x84, x86] σ26).bind fun v => some (v, σ26)) σ26 fun x87 σ27 =>
 (pickV x82 x87 (DV.p (PV.bool false))).bind fun x88 =>
 G _ x88 true ((fieldAddr PP 47 (DV.ptr (List.length σ2) 0) 2).bind fun v => some (v, σ27)) σ27 fun x90 σ28 =>
 G _ x88 true ((load PP 45 x90 σ28).bind fun v => some (v, σ28)) σ28 fun x91 σ29 =>
 G _ x88 true ((len PP 45 x91 σ29).bind fun v => some (v, σ29)) σ29 fun x92 σ30 =>
 G _ x88 true ((binOp PP .eql 3 x92 (DV.p (PV.int IntKind.i64 (1)))).bind fun v => some (v, σ30)) σ30 fun x93 σ31 =>
 (pickV x88 x93 (DV.p (PV.bool false))).bind fun x94 =>
 some (x94, σ31)
 ) := by kernel_rfl
theorem F10_call {lo : Nat} {σ : Store} {r : DV × Store} (h : F10 guardT lo σ = some r) : CC lo 10 [] σ = some r :=
 callL_run Go.Proofs.Try.func10 (by decide +kernel) rfl (by decide +kernel) h
end Go.D
end
/- CheckRun and the reference's Run; OpenChecks. -/
section
set_option linter.unusedVariables false
set_option linter.unusedSimpArgs false
namespace Go.D

theorem one_cells {x : DV} (h : x.one = true) : x.cells = [x] ∧ x.isUndef = false := by
  cases x <;> simp_all [DV.one, DV.cells, DV.isUndef]
theorem bld33 {x y : DV} (hx : x.one = true) (hy : y.one = true) : build PP 33 [(0, x), (1, y)] = some (.agg [x, y]) := by
  obtain ⟨h1, h2⟩ := one_cells hx
  obtain ⟨h3, h4⟩ := one_cells hy
  have e : build PP 33 [(0, x), (1, y)] = (fill (fun i => ([(0, 1), (1, 1)] : List (Nat × Nat))[i]?) [.p .nilsl, .p .nilsl] [(0, x), (1, y)]).map .agg := Eq.trans (by kernel_rfl) rfl
  rw [e]
  simp [fill, h1, h2, h3, h4, splice]
/-- What is appended to: an empty literal, or a list. -/
def OutL (σ : Store) (lo sz n : Nat) (cs : List PV) (x : DV) : Prop :=
  cs.length = n * sz ∧ ((n = 0 ∧ x = .p (.sl true 0 [])) ∨ (n ≠ 0 ∧ ∃ r ver, x = .osl r ver sz n cs ∧ σ[r]? = some (.tok ver) ∧ lo ≤ r))
theorem OutL.one {σ : Store} {lo sz n : Nat} {cs : List PV} {x : DV} (h : OutL σ lo sz n cs x) : x.one = true := by
  rcases h.2 with ⟨_, rfl⟩ | ⟨_, r, ver, rfl, _⟩ <;> rfl
theorem OutL.snoc {σ : Store} {lo sz n : Nat} {cs : List PV} {x : DV} (h : OutL σ lo sz n cs x) (r : Row) : OutL (σ ++ [r]) lo sz n cs x :=
  ⟨h.1, h.2.imp id fun ⟨a, q, v, b, c, d⟩ => ⟨a, q, v, b, get_old c, d⟩⟩
theorem OutL.set {σ : Store} {lo sz n q : Nat} {cs : List PV} {x : DV} {c : List DV} (h : OutL σ lo sz n cs x) (hq : σ[q]? = some (.mix c)) (r : Row) : OutL (σ.set q r) lo sz n cs x :=
  ⟨h.1, h.2.imp id fun ⟨a, q', v, b, e, d⟩ => ⟨a, q', v, b, get_set_ne e (fun h => by rw [h, hq] at e; injection e with e; injection e), d⟩⟩
theorem plainFn_fn (call : CallF) (lo : Nat) (f : FuncId) (caps args : List DV) (σ : Store) : plainFn call lo (.fn f caps) args σ = call lo f (args ++ caps) σ := Eq.trans rfl rfl
end Go.D
end
/- The examples of chapter 24: awake answers true. -/
section
set_option linter.unusedVariables false
set_option linter.unusedSimpArgs false
set_option maxRecDepth 100000
namespace Go.D
theorem E48 (σ : Store) : pureV CC 48 [] σ = some (.agg (eCmp exC)) := pureV_run run48 rfl rfl
theorem E49 (σ : Store) : pureV CC 49 [] σ = some (.p wAll) := pureV_run run49 rfl rfl
theorem E50 (σ : Store) : pureV CC 50 [] σ = some (.p wZero) := pureV_run run50 rfl rfl
theorem E51 (σ : Store) : pureV CC 51 [] σ = some (.agg (exRule wTurn)) := pureV_run run51 rfl rfl
theorem E38 (σ : Store) : pureV CC 38 [.p wZero] σ = some (.p wTurn) := pureV_run run38 rfl rfl
theorem E13a (σ : Store) : pureV CC 13 [.agg (eCmp exC), .p wAll, .p wZero] σ = some (.tuple [.agg (eRun exR), .p (pI 0)]) := pureV_run run13a rfl rfl
theorem E13b (σ : Store) : pureV CC 13 [.agg (eCmp exC), .p wTurn, .p wZero] σ = some (.tuple [.agg [.p .nilsl, .p .nilsl], .p (pI 25)]) := pureV_run run13b rfl rfl
theorem E20 (σ : Store) : pureV CC 20 [.agg (eCmp exC), .agg (eCmp exC)] σ = some (.tuple [.agg exG, .p exL, .p (pI 0)]) := pureV_run run20 rfl rfl
theorem E45a (σ : Store) : pureV CC 45 [.agg (exRule wTurn)] σ = some (.tuple [.agg fault0, .p (pI 0)]) := pureV_run run45a rfl rfl
theorem E45b (σ : Store) : pureV CC 45 [.agg (exRule wAll)] σ = some (.tuple [.agg fault1, .p (pI 31)]) := pureV_run run45b rfl rfl
theorem E18 (σ : Store) : pureV CC 18 [.agg (eRun exR), .agg [.p (.sl true 3 (eInts [0, 1, 1])), .p (.sl true 2 [pI 1, pI 0, pI 0, pI 1])]] σ = some (.p (.bool true)) := by
  rw [pureV_view (args' := [.agg (eRun exR), .agg (eRun exR)]) rfl rfl]
  exact pureV_run run18 rfl rfl
theorem E23 (σ : Store) : pureV CC 23 [.p exL, .p (.sl true 1 [.sl true 2 (eInts [0, 0])])] σ = some (.p (.bool true)) := by
  rw [pureV_view (args' := [.p exL, .p exL]) rfl rfl]
  exact pureV_run run23 rfl rfl
theorem ex3_0 (a b c : DV) : extractV (.tuple [a, b, c]) 0 = some a := Eq.trans rfl rfl
theorem ex3_1 (a b c : DV) : extractV (.tuple [a, b, c]) 1 = some b := Eq.trans rfl rfl
theorem ex3_2 (a b c : DV) : extractV (.tuple [a, b, c]) 2 = some c := Eq.trans rfl rfl
theorem zero47 : zeroOf PP 47 = some [.p (pI 0), .p .nilsl, .p .nilsl] := Eq.trans (by kernel_rfl) rfl
theorem zero88 : zeroOf PP 88 = some [.p (pI 0), .p .nilsl, .p .nilsl, .p .nilsl] := Eq.trans (by kernel_rfl) rfl
theorem zero84 : zeroOf PP 84 = some [.p (pI 0), .p .nilsl, .p .nilsl, .p .nilsl, .p (pI 0), .p .nilsl, .p .nilsl, .p .nilsl, .p .nilsl, .p .nilsl, .p .nilsl, .p .nilsl] := Eq.trans (by kernel_rfl) rfl
theorem s47 : size? PP 47 = some 3 := Eq.trans (by kernel_rfl) rfl
theorem s88 : size? PP 88 = some 4 := Eq.trans (by kernel_rfl) rfl
theorem s84 : size? PP 84 = some 12 := Eq.trans (by kernel_rfl) rfl
theorem store_newN {t n : Nat} (hs : size? PP t = some n) {cs z : List DV} (σ : Store) (hz : z.length = n) (hc : cs.length = n) (ho : cs.all DV.one = true) : store PP 0 t (.ptr σ.length 0) (.agg cs) (σ ++ [.mix z]) = some (σ ++ [.mix cs]) := by
  have e : splice z 0 cs = cs := by simp [splice, hz, hc]
  simp [store, hs, DV.cells, storeN, hc, hz, ho, e]
theorem fa84_2 (x : DV) : fieldAddr PP 84 x 2 = shiftPtr x 8 := Eq.trans (by kernel_rfl) rfl
theorem fa88_0 (x : DV) : fieldAddr PP 88 x 0 = shiftPtr x 0 := Eq.trans (by kernel_rfl) rfl
theorem fa47_2 (x : DV) : fieldAddr PP 47 x 2 = shiftPtr x 2 := Eq.trans (by kernel_rfl) rfl
theorem load84 (x : DV) (σ : Store) : load PP 84 x σ = (loadN σ 12 x).map .agg := Eq.trans (by kernel_rfl) rfl
theorem load45 (x : DV) (σ : Store) : load PP 45 x σ = load1 x σ := Eq.trans (by kernel_rfl) rfl
theorem len45 (n : Nat) (cs : List PV) (σ : Store) : len PP 45 (.p (.sl false n cs)) σ = some (.p (.int .i64 n)) := Eq.trans (by kernel_rfl) rfl
theorem bld98a : build PP 98 [(0, .p (pI 1))] = some (.agg [.p (pI 1), .p (pI 0)]) := Eq.trans (by kernel_rfl) rfl
theorem bld98b : build PP 98 [(1, .p (pI 1))] = some (.agg [.p (pI 0), .p (pI 1)]) := Eq.trans (by kernel_rfl) rfl
theorem bs31_2 (a b c d : Int) (σ : Store) : buildSlice PP none 31 2 [(0, .agg [.p (pI a), .p (pI b)]), (1, .agg [.p (pI c), .p (pI d)])] σ = some (.p (.sl true 2 [pI a, pI b, pI c, pI d]), σ) := Eq.trans (by kernel_rfl) rfl
theorem bs22_2a (x y : Int) (σ : Store) : buildSlice PP none 22 2 [(0, .p (pI x)), (1, .p (pI y))] σ = some (.p (.sl true 2 (eInts [x, y])), σ) := Eq.trans (by kernel_rfl) rfl
def awS : Store := [.mix (eRun exR), .mix [.p .nilsl, .p .nilsl], .mix exG, .mix fault0, .mix (exRule wAll), .mix fault1]
theorem F10_true : ∃ σ', F10 guardT 0 [] = some (.p (.bool true), σ') := by
  refine ⟨awS, ?_⟩
  have sn33 := fun cs σ h1 h2 => store_newN (cs := cs) (z := [.p .nilsl, .p .nilsl]) s33 σ rfl h1 h2
  have n1 := fun (σ : Store) => store_newN (cs := eRun exR) (z := [.p .nilsl, .p .nilsl]) s33 σ rfl rfl rfl
  have n2 := fun (σ : Store) => store_newN (cs := [.p .nilsl, .p .nilsl]) (z := [.p .nilsl, .p .nilsl]) s33 σ rfl rfl rfl
  have n3 := fun (σ : Store) => store_newN (cs := exG) (z := [.p (pI 0), .p .nilsl, .p .nilsl]) s47 σ rfl rfl rfl
  have n4 := fun (σ : Store) => store_newN (cs := fault0) (z := [.p (pI 0), .p .nilsl, .p .nilsl, .p .nilsl]) s88 σ rfl rfl rfl
  have n5 := fun (σ : Store) => store_newN (cs := fault1) (z := [.p (pI 0), .p .nilsl, .p .nilsl, .p .nilsl]) s88 σ rfl rfl rfl
  have n6 := fun (σ : Store) => store_newN (cs := exRule wTurn) (z := [.p (pI 0), .p .nilsl, .p .nilsl, .p .nilsl, .p (pI 0), .p .nilsl, .p .nilsl, .p .nilsl, .p .nilsl, .p .nilsl, .p .nilsl, .p .nilsl]) s84 σ rfl rfl rfl
  rw [F10_eq]
  simp only [pureFn_fn, List.append_nil, E48, E49, E50, E51, E38, E13a, E13b, E20, obind, ex0, ex1, ex3_0, ex3_1, ex3_2, zero33, zero47, zero88, zero84, n1, n2, n3, n4, n6, E45a, fa84_2, shift_ptr, Nat.zero_add]
  simp only [List.nil_append, List.cons_append, List.length_nil, List.length_cons, Nat.zero_add, Nat.reduceAdd]
  have hst : store PP 0 27 (.ptr 4 8) (.p wAll) [.mix (eRun exR), .mix [.p .nilsl, .p .nilsl], .mix exG, .mix fault0, .mix (exRule wTurn)] = some [.mix (eRun exR), .mix [.p .nilsl, .p .nilsl], .mix exG, .mix fault0, .mix (exRule wAll)] := by kernel_rfl
  have hld : loadN ([.mix (eRun exR), .mix [.p .nilsl, .p .nilsl], .mix exG, .mix fault0, .mix (exRule wAll)] : Store) 12 (.ptr 4 0) = some (exRule wAll) := by kernel_rfl
  have n5' : store PP 0 88 (.ptr 5 0) (.agg fault1) [.mix (eRun exR), .mix [.p .nilsl, .p .nilsl], .mix exG, .mix fault0, .mix (exRule wAll), .mix [.p (pI 0), .p .nilsl, .p .nilsl, .p .nilsl]] = some awS := by kernel_rfl
  simp only [hst, obind, load84, hld, omap, E45b, ex0, ex1, List.cons_append, List.nil_append, n5', List.length_nil, List.length_cons, Nat.zero_add, Nat.reduceAdd]
  have q1 : load1 (.ptr 3 0) awS = some (.p (pI 0)) := by kernel_rfl
  have q2 : load1 (.ptr 5 0) awS = some (.p (pI 1)) := by kernel_rfl
  have q3 : loadN awS 2 (.ptr 0 0) = some (eRun exR) := by kernel_rfl
  have q4 : load1 (.ptr 2 2) awS = some (.p (.sl false 1 [pI 0, pI 0, pI 0])) := by kernel_rfl
  have hb33 : build PP 33 [(0, .p (.sl true 3 (eInts [0, 1, 1]))), (1, .p (.sl true 2 [pI 1, pI 0, pI 0, pI 1]))] = some (.agg [.p (.sl true 3 (eInts [0, 1, 1])), .p (.sl true 2 [pI 1, pI 0, pI 0, pI 1])]) := bld33 rfl rfl
  simp only [b_lss, b_eql, b_neq, b_leq, b_geq, b_gtr, guard_tt, guard_ff, guard_tf, guard_ft, guard_sk, obind, omap, pickV_true, pickV_false, condK_true, condK_false, decide_true, decide_false, Bool.not_true, Bool.not_false, not_bool, Int.reduceEq, fa88_0, shift_ptr, Nat.zero_add, load3, q1, q2, load33, q3, bs22_3, bld98a, bld98b, bs31_2, hb33, pureFn_fn, List.append_nil, E18, bs22_2a, bs48_1, E23, fa47_2, load45, q4, len45]
  rfl
theorem awake_true (σ : Store) : pureV CC 10 [] σ = some (.p (.bool true)) := by
  obtain ⟨σ', h⟩ := F10_true
  exact pureV_free rfl rfl (F10_call h) rfl
end Go.D
end
/- What a call's arguments are, as values of D: components, runs, watches. -/
section
set_option linter.unusedVariables false
set_option linter.unusedSimpArgs false
set_option maxRecDepth 100000
namespace Go.D
open Go.ChangeShapes Go.WideShapes Go.ChangeAt Go.RowKit

/-- All cells that can be read. -/
def memOf (W : World) : Mem := fun b o => W.cell? ⟨b, o, none⟩
variable {H : Type} {enc : TypeId × Value → H} {W : World} {base : Nat}

theorem ul3 : PP.underlying 3 = some (.int .i64) := by kernel_rfl
theorem cells3 : PP.cellsOf 3 = 1 := by kernel_rfl
theorem cells22 : PP.cellsOf 22 = 1 := by kernel_rfl
theorem cells23 : PP.cellsOf 23 = 1 := by kernel_rfl
theorem cells106 : PP.cellsOf 106 = 3 := by kernel_rfl
theorem read_int {sp : Nat → Bool} {hd : Bool} {fuel : Nat} {c : Value} {x : DataW H × List MemPlace} (h : DataW.trod enc PP W 0 sp hd fuel 3 [c] = some x) : ∃ n, c = .int .i64 n := by
  cases fuel with
  | zero => simp [DataW.trod] at h
  | succ n =>
    unfold DataW.trod at h
    rw [ul3] at h
    cases c <;> simp at h
    exact ⟨_, by rw [h.1.1]⟩
theorem spot_of {r : Reach} {b0 : Nat} {t e : TypeId} {a : Addr} {len cap : Nat} (ht : PP.underlying t = some (.slice e)) (h : Cell.okWide PP W r b0 t (.slice (some a) len cap)) : a.spot = none := by
  simp only [Cell.okWide, ht, Cell.ok] at h
  exact h.2.2.2.1
theorem read_sl {r : Reach} {b0 : Nat} {hd : Bool} {fuel : Nat} {c : Value} {x : DataW H × List MemPlace} (hok : Cell.okWide PP W r b0 22 c) (h : DataW.trod enc PP W 0 (fun _ => true) hd fuel 22 [c] = some x) : ∃ o, PRel (memOf W) (eSl o) c := by
  rcases open_ints u22 ul3 cells3 h with ⟨hc, _⟩ | ⟨a, len, cap, zs, hc, _, hl, hm, hz, _, hcell, _⟩
  · injection hc with hc; subst hc
    exact ⟨none, .nilsl⟩
  · injection hc with hc; subst hc
    have hs := spot_of u22 hok
    simp only [if_true] at hz
    have hlen : (zs.take len).length = len := by rw [List.length_take]; omega
    refine ⟨some (zs.take len), ?_⟩
    have e : eSl (some (zs.take len)) = .sl false len (eInts (zs.take len)) := by simp only [eSl, hlen]
    rw [e]
    refine .sl (fun j => .int .i64 (zs.getD j 0)) (fun _ => hs) hl (by simp) (fun j hj => ?_) (fun j hj => ?_)
    · rw [ints_length, hlen] at hj
      have := hcell j (by omega)
      rwa [addr_add hs] at this
    · rw [ints_length, hlen] at hj
      have : (eInts (zs.take len))[j] = pI (zs.getD j 0) := by
        simp only [eInts, List.getElem_map, List.getElem_take]
        rw [List.getD_eq_getElem?_getD, List.getElem?_eq_getElem (by omega)]
        rfl
      rw [this]
      exact .int _ _
theorem read_edg {sp : Nat → Bool} {hd : Bool} {fuel : Nat} {cs : List Value} {x : DataW H × List MemPlace} (h : DataW.trod enc PP W 0 sp hd fuel 106 cs = some x) : ∃ e : Edg, cs = [.int .i64 e.f, .int .i64 e.t, .int .i64 e.a] := by
  obtain ⟨xs, n, _, _, hl, hlen, hf⟩ := DataW.trod_struct Go.Proofs.Try.underlying106 h
  rw [cells106] at hl
  match cs, hl with
  | [a, b, c], _ =>
    match xs, hlen with
    | [y0, y1, y2], _ =>
      have h0 : DataW.trod enc PP W 0 sp hd n 3 (List.take (PP.cellsOf 3) (List.drop 0 [a, b, c])) = some y0 := hf 0 _ rfl
      have h1 : DataW.trod enc PP W 0 sp hd n 3 (List.take (PP.cellsOf 3) (List.drop 1 [a, b, c])) = some y1 := hf 1 _ rfl
      have h2 : DataW.trod enc PP W 0 sp hd n 3 (List.take (PP.cellsOf 3) (List.drop 2 [a, b, c])) = some y2 := hf 2 _ rfl
      rw [cells3] at h0 h1 h2
      obtain ⟨p, rfl⟩ := read_int h0
      obtain ⟨q, rfl⟩ := read_int h1
      obtain ⟨r, rfl⟩ := read_int h2
      exact ⟨⟨p, q, r⟩, rfl⟩
theorem read_es {r : Reach} {b0 : Nat} {hd : Bool} {fuel : Nat} {c : Value} {x : DataW H × List MemPlace} (hok : Cell.okWide PP W r b0 23 c) (h : DataW.trod enc PP W 0 (fun _ => true) hd fuel 23 [c] = some x) : ∃ o, PRel (memOf W) (eEs o) c := by
  rcases DataW.trod_slice u23 h with ⟨hc, _⟩ | ⟨a, len, cap, elems, rest, n, _, hc, _, _, hl, hm, hlen, hel, _, _⟩
  · injection hc with hc; subst hc
    exact ⟨none, .nilsl⟩
  · injection hc with hc; subst hc
    have hs := spot_of u23 hok
    rw [cells106] at hel
    have each : ∀ i, ∃ e : Edg, i < len → W.cell? ⟨a.block, a.off + i * 3, none⟩ = some (.int .i64 e.f) ∧ W.cell? ⟨a.block, a.off + i * 3 + 1, none⟩ = some (.int .i64 e.t) ∧ W.cell? ⟨a.block, a.off + i * 3 + 2, none⟩ = some (.int .i64 e.a) := by
      intro i
      by_cases hi : i < len
      · have h1 := hel i hi
        rw [List.getElem?_eq_getElem (by omega)] at h1
        obtain ⟨cs, h2, h3⟩ := Option.bind_eq_some_iff.1 h1
        obtain ⟨e, rfl⟩ := read_edg h3
        obtain ⟨_, _, h4⟩ := World.cells?_some h2
        refine ⟨e, fun _ => ⟨?_, ?_, ?_⟩⟩
        · have := h4 0 (by omega); rw [addr_add hs, addr_add rfl] at this; exact this
        · have := h4 1 (by omega); rw [addr_add hs, addr_add rfl] at this; exact this
        · have := h4 2 (by omega); rw [addr_add hs, addr_add rfl] at this; exact this
      · exact ⟨default, fun h => absurd h hi⟩
    obtain ⟨f, hf⟩ := Classical.axiomOfChoice each
    have hll : ((List.range len).map f).length = len := by simp
    refine ⟨some ((List.range len).map f), ?_⟩
    have e : eEs (some ((List.range len).map f)) = .sl false len (eEdgs ((List.range len).map f)) := by simp only [eEs, hll]
    rw [e]
    have hget : ∀ i, i < len → (eEdgs ((List.range len).map f))[i * 3]? = some (pI (f i).f) ∧ (eEdgs ((List.range len).map f))[i * 3 + 1]? = some (pI (f i).t) ∧ (eEdgs ((List.range len).map f))[i * 3 + 2]? = some (pI (f i).a) := by
      intro i hi
      have := edgs_get ((List.range len).map f) i (by rw [hll]; exact hi)
      simpa using this
    refine .sl (fun j => .int .i64 (if j % 3 = 0 then (f (j / 3)).f else if j % 3 = 1 then (f (j / 3)).t else (f (j / 3)).a)) (fun _ => hs) hl (by simp) (fun j hj => ?_) (fun j hj => ?_)
    · rw [edgs_length, hll] at hj
      obtain ⟨h0, h1, h2⟩ := hf (j / 3) (by omega)
      have hj3 : j = j / 3 * 3 + j % 3 := by omega
      show W.cell? _ = _
      by_cases c0 : j % 3 = 0
      · have : a.off + j = a.off + j / 3 * 3 := by omega
        rw [this]; simpa [c0] using h0
      · by_cases c1 : j % 3 = 1
        · have : a.off + j = a.off + j / 3 * 3 + 1 := by omega
          rw [this]; simpa [c1] using h1
        · have : a.off + j = a.off + j / 3 * 3 + 2 := by omega
          rw [this]; simpa [c0, c1] using h2
    · have hj' := hj
      rw [edgs_length, hll] at hj
      obtain ⟨h0, h1, h2⟩ := hget (j / 3) (by omega)
      have hx := List.getElem?_eq_getElem hj'
      by_cases c0 : j % 3 = 0
      · have : j / 3 * 3 = j := by omega
        rw [this, hx] at h0
        injection h0 with h0
        rw [h0]; simp only [c0, if_true]; exact .int _ _
      · by_cases c1 : j % 3 = 1
        · have : j / 3 * 3 + 1 = j := by omega
          rw [this, hx] at h1
          injection h1 with h1
          rw [h1]; simp only [c1, if_true, if_neg (show ¬ (1 = 0) by decide)]; exact .int _ _
        · have : j / 3 * 3 + 2 = j := by omega
          rw [this, hx] at h2
          injection h2 with h2
          rw [h2]; simp only [c0, c1, if_false]; exact .int _ _
theorem cells25 : PP.cellsOf 25 = 4 := by kernel_rfl
theorem types25 : PP.cellTypes PP.depth 25 = some [3, 22, 22, 23] := by kernel_rfl
theorem read_cmp {hd : Bool} {r : Reach} {b0 : Nat} {v : Value} {d : DataW H} {ps : List MemPlace} (hok : Value.okWide PP W r b0 25 v) (h : DataW.Trod enc PP W 0 (fun _ => true) hd 25 v d ps) :
    ∃ p : Cmp, VRel (fun _ _ => none) (memOf W) (.agg (eCmp p)) v := by
  simp only [Value.okWide, Go.Proofs.Try.underlying25] at hok
  obtain ⟨cs, rfl, hsz, ts, hts, _, hcell⟩ := hok
  rw [types25] at hts
  injection hts with hts; subst hts
  rw [cells25] at hsz
  obtain ⟨fuel, h⟩ := h
  obtain ⟨l⟩ := cs
  simp only [List.size_toArray] at hsz
  match l, hsz with
  | [c0, c1, c2, c3], _ =>
    have k1 : Cell.okWide PP W r b0 22 c1 := by obtain ⟨u, hu, hk⟩ := hcell 1 c1 rfl; cases hu; exact hk
    have k2 : Cell.okWide PP W r b0 22 c2 := by obtain ⟨u, hu, hk⟩ := hcell 2 c2 rfl; cases hu; exact hk
    have k3 : Cell.okWide PP W r b0 23 c3 := by obtain ⟨u, hu, hk⟩ := hcell 3 c3 rfl; cases hu; exact hk
    obtain ⟨xs, n, _, _, hl, hlen, hf⟩ := DataW.trod_struct Go.Proofs.Try.underlying25 h
    match xs, hlen with
    | [y0, y1, y2, y3], _ =>
      have e0 : DataW.trod enc PP W 0 (fun _ => true) hd n 3 (List.take (PP.cellsOf 3) (List.drop 0 [c0, c1, c2, c3])) = some y0 := hf 0 _ rfl
      have e1 : DataW.trod enc PP W 0 (fun _ => true) hd n 22 (List.take (PP.cellsOf 22) (List.drop 1 [c0, c1, c2, c3])) = some y1 := hf 1 _ rfl
      have e2 : DataW.trod enc PP W 0 (fun _ => true) hd n 22 (List.take (PP.cellsOf 22) (List.drop 2 [c0, c1, c2, c3])) = some y2 := hf 2 _ rfl
      have e3 : DataW.trod enc PP W 0 (fun _ => true) hd n 23 (List.take (PP.cellsOf 23) (List.drop 3 [c0, c1, c2, c3])) = some y3 := hf 3 _ rfl
      rw [cells3] at e0
      rw [cells22] at e1 e2
      rw [cells23] at e3
      obtain ⟨m, rfl⟩ := read_int e0
      obtain ⟨o1, r1⟩ := read_sl k1 e1
      obtain ⟨o2, r2⟩ := read_sl k2 e2
      obtain ⟨o3, r3⟩ := read_es k3 e3
      refine ⟨⟨m, o1, o2, o3⟩, .agg rfl fun j h1 h2 => ?_⟩
      match j, h1 with
      | 0, _ => exact .p (.int _ _)
      | 1, _ => exact .p r1
      | 2, _ => exact .p r2
      | 3, _ => exact .p r3
theorem below_of {C : Nat → Nat → Prop} {m : Nat → Prop} {w w' : World} (h : Frm C m w w') (hC : ∀ b o, ¬ C b o) (hm : ∀ b, ¬ m b) : Below w.heap.size w w' := by
  refine ⟨h.os, h.tape, h.output, h.size, fun k hk => ?_⟩
  have := h.obj k hk
  rw [Array.getElem?_eq_getElem hk] at this ⊢
  cases ho : w.heap[k] with
  | cells c e f =>
    rw [ho] at this
    cases hx : w'.heap[k]? with
    | none => rw [hx] at this; simp [ObjKept] at this
    | some o =>
      rw [hx] at this
      cases o with
      | cells c' e' f' =>
        obtain ⟨h1, h2, h3, h4⟩ := this
        subst h1; subst h2
        have : c' = c := Array.ext_getElem? fun i => by rw [h4 i (hC k i)]
        rw [this]
      | _ => simp [ObjKept] at this
  | map es c =>
    rw [ho] at this
    cases hx : w'.heap[k]? with
    | none => rw [hx] at this; simp [ObjKept] at this
    | some o =>
      rw [hx] at this
      cases o with
      | map es' c' =>
        rcases this with h1 | ⟨h1, h2⟩
        · exact absurd h1 (hm k)
        · rw [h1, h2]
      | _ => simp [ObjKept] at this
  | _ =>
    rw [ho] at this
    cases hx : w'.heap[k]? with
    | none => rw [hx] at this; simp [ObjKept] at this
    | some o => rw [hx] at this; cases o <;> simp [ObjKept] at this <;> simp_all
end Go.D
end
/- From what D answers to what the program answers in any world. -/
section
set_option linter.unusedVariables false
set_option linter.unusedSimpArgs false
set_option maxRecDepth 100000
namespace Go.D
open Go.ChangeShapes Go.WideShapes Go.ChangeAt Go.RowKit

theorem mixed_ok : PP.follows .mixedOrders = true := by kernel_rfl
theorem seqs_ok : ∀ g f kind, (pol g).seq f = some kind → SeqOk PP f kind := by
  intro g f kind h
  have h1 : (pol g).seq = fun _ => none := by
    unfold pol
    split <;> rfl
  rw [h1] at h
  exact absurd h (by simp)
/-- What D answers at the empty store, the program answers in any world. -/
theorem calls_of {f : FuncId} {args : List DV} {σ' : Store} {b : Bool} (h : CC 0 f args [] = some (.p (.bool b), σ')) {W : World} {vs : Array Value} (hv : Vals (fun _ _ => none) (memOf W) args vs) :
    Calls PP f vs W fun e W' => e = .returned (.bool b) ∧ Below W.heap.size W W' := by
  obtain ⟨k, hk⟩ := lim_some h
  have hs : SRel [] (fun _ _ => none) (memOf W) W := srel_bare fun b o v h => h
  obtain ⟨_, hc⟩ := callK_ok mixed_ok seqs_ok k _ _ _ _ _ _ (hk k (Nat.le_refl _)) (Nat.zero_le _) _ _ _ _ hs hv
  have hw := callsIn_wide.1 (hc Fence.wide 0 Free.wide)
  refine hw.mono ?_
  rintro e W' ⟨v', rfl, L', M', hp, hr⟩
  refine ⟨by rw [bool_of hr], below_of hp.frm ?_ ?_⟩
  · rintro b o ⟨r, row, l, _, ⟨h, _⟩, _⟩
    exact absurd h (by simp)
  · rintro b ⟨r, es, l, _, ⟨h, _⟩, _⟩
    exact absurd h (by simp)
theorem own_ok : ownKnob PP.godebug = none := by kernel_rfl
theorem laidOut_ok : laidOutB PP = true := by kernel_rfl
theorem ul4 : PP.underlying 4 = some .bool := by kernel_rfl
/-- The awake call. -/
def Awake : Prop := ∀ σ, pureV CC 10 [] σ = some (.p (.bool true))
end Go.D
end
/- Equations of functions 13, 53, 103, 104, 105, 99, 18, 27, 62, 63, 64, 3, printed by gen.py. -/
section
set_option linter.unusedVariables false
set_option maxRecDepth 10000
namespace Go.D
open _root_.Go.D.Code (fstC sndC)
open _root_.Go.D.Ann (left right)
end Go.D
end
/- Lists side by side, rows of lists, clones: turned from the texts of chapter 21. -/
section
set_option linter.unusedVariables false
set_option linter.unusedSimpArgs false
namespace Go.D
def rowOf : DV → Option Nat
  | .osl r _ _ _ _ => some r
  | _ => none
def Apart (x y : DV) : Prop := ∀ r, rowOf x = some r → rowOf y = some r → False
def Fresh (σ : Store) (x x' : DV) : Prop := ∀ r, rowOf x' = some r → rowOf x = some r ∨ r = σ.length
theorem Apart.symm {x y : DV} (h : Apart x y) : Apart y x := fun r a b => h r b a
theorem Apart.nil (y : DV) : Apart (.p .nilsl) y := fun r a _ => by simp [rowOf] at a
theorem Out.row_lt {σ : Store} {lo sz n : Nat} {cs : List PV} {x : DV} (ho : Out σ lo sz n cs x) {r : Nat} (h : rowOf x = some r) : r < σ.length := by
  rcases ho.2 with ⟨_, rfl⟩ | ⟨_, r', ver, rfl, h3, _⟩
  · simp [rowOf] at h
  · have : r' = r := by simpa [rowOf] using h
    rw [← this]; exact get_lt h3
theorem Apart.fresh {σ : Store} {lo sz n : Nat} {cs : List PV} {x x' y : DV} (h : Apart x y) (hf : Fresh σ x x') (hy : Out σ lo sz n cs y) : Apart x' y := by
  intro r a b
  rcases hf r a with h1 | h1
  · exact h r h1 b
  · have := hy.row_lt b
    omega
theorem Out.other {σ σ' : Store} {lo sz n : Nat} {cs : List PV} {x y : DV} (ho : Out σ lo sz n cs y) (h : Others σ σ' x) (ha : Apart x y) : Out σ' lo sz n cs y := by
  refine ⟨ho.1, ?_⟩
  rcases ho.2 with h1 | ⟨h1, r, ver, rfl, h3, h4⟩
  · exact .inl h1
  · refine .inr ⟨h1, r, ver, rfl, h r _ h3 ?_, h4⟩
    rintro r' ver' sz' n' cs' rfl e
    exact ha r (by rw [e]; rfl) rfl
theorem Out.pushF {σ : Store} {t e lo sz b n : Nat} {z : List DV} {cs vs : List PV} {x : DV} (hs : srcType PP t = true) (hu : PP.underlying t = some (.slice e)) (h1 : size? PP e = some sz) (h2 : bytes? PP e = some b) (h3 : zeroOf PP e = some z)
    (h4 : z.length = sz) (hz : 0 < sz) (hb : 0 < b) (hb2 : b ≤ 1000) (hv : vs.length = sz) (ho : Out σ lo sz n cs x) (hn : n ≤ 10000000) (hlo : lo ≤ σ.length) :
    ∃ x' σ', append PP lo false t t x (.p (.sl true 1 vs)) σ = some (x', σ') ∧ Out σ' lo sz (n + 1) (cs ++ vs) x' ∧ Others σ σ' x ∧ Fresh σ x x' := by
  have hsrc : source σ sz (.p (.sl true 1 vs)) = some (1, vs.map DV.p) := by simp [source, hv]
  have hz0 : ¬ (z.length ≠ sz ∨ sz = 0) := by omega
  obtain ⟨hc, ho⟩ := ho
  rcases ho with ⟨rfl, rfl⟩ | ⟨hn0, r, ver, rfl, hr, hl⟩
  · refine ⟨.osl σ.length 0 sz 1 vs, σ ++ [.tok 0], ?_, ⟨by simp [hc, hv], .inr ⟨by simp, σ.length, 0, ?_, get_snoc, hlo⟩⟩, ?_, ?_⟩
    · have : b ≤ 140737488355328 := by omega
      simp only [append, hs, hu, h1, h2, h3, hz0, hsrc, appNil]
      simp [this, hb, pures_map, h4, hz, Nat.ne_of_gt hz]
    · have : cs = [] := List.length_eq_zero_iff.1 (by simpa using hc)
      rw [this]; simp
    · intro i row hi _
      exact get_old hi
    · intro r h; right; simpa [rowOf] using h.symm
  · refine ⟨.osl r (ver + 1) sz (n + 1) (cs ++ vs), σ.set r (.tok (ver + 1)), ?_, ⟨by simp [hc, hv, Nat.add_mul], .inr ⟨by simp, r, ver + 1, rfl, ?_, hl⟩⟩, ?_, ?_⟩
    · have e1 : (n + 1) * b ≤ 140737488355328 := Nat.le_trans (Nat.mul_le_mul (show n + 1 ≤ 10000001 by omega) hb2) (by decide)
      have e2 : n + 1 ≤ 140737488355328 := by omega
      simp only [append, hs, hu, h1, h2, h3, hz0, hsrc, appTok]
      simp [e1, e2, hb, hc, hl, hr, pures_map, h4, Nat.ne_of_gt hz]
    · rw [List.getElem?_set_self (get_lt hr)]
    · intro i row hi hne
      rw [List.getElem?_set_ne (fun e => hne _ _ _ _ _ rfl e.symm)]
      exact hi
    · intro r' h; left; exact h
def PC (l : List Int) (v : DV) : Prop := l ≠ [] ∧ (v = .p (.sl true l.length (eInts l)) ∨ ∃ r ver, v = .osl r ver 1 l.length (eInts l))
theorem PC.thaw {l : List Int} {v : DV} (h : PC l v) (d : Nat) (σ : Store) : thawP 0 σ d v = some (eSl (some l)) := by
  rcases h.2 with rfl | ⟨r, ver, rfl⟩ <;> cases d <;> simp [thawP, loosen, loosens_ints, eSl]
theorem PC.source {l : List Int} {v : DV} (h : PC l v) (σ : Store) : Go.D.source σ 1 v = some (l.length, (eInts l).map DV.p) := by
  rcases h.2 with rfl | ⟨r, ver, rfl⟩ <;> simp [Go.D.source, ints_length]
end Go.D
end
/- Watches: errors, copies, what follows a pair. -/
section
set_option linter.unusedVariables false
set_option linter.unusedSimpArgs false
namespace Go.D

abbrev OW := Option (List (Option (List OI)))
def eWt : OW → PV
  | none => .nilsl
  | some l => .sl false l.length (l.map eLs)
abbrev W3 := List (List (List Int))
def wl (w : OW) : W3 := (L w).map fun r => (L r).map L
def rowsA (w : OW) (s : Nat) : Option (List OI) := (L w).getD s none
def rowA (w : OW) (s i : Nat) : OI := (L (rowsA w s)).getD i none
def cell3 (l : W3) (s i o : Nat) : Int := ((l.getD s []).getD i []).getD o 0
structure WSm (w : OW) : Prop where
  n : (L w).length ≤ 8
  r : ∀ s, (L (rowsA w s)).length ≤ 5
  c : ∀ s i, (L (rowA w s i)).length ≤ 5
end Go.D
end
/- Watches: copies, comparisons, what breaks them. -/
section
set_option linter.unusedVariables false
set_option linter.unusedSimpArgs false
namespace Go.D

structure WOk (l : W3) (n : Nat) : Prop where
  len : l.length = n
  n1 : 1 ≤ n
  n6 : n ≤ 6
  rows : ∀ s, s < n → (l.getD s []).length = 3
  row : ∀ s i, s < n → i < 3 → ((l.getD s []).getD i []).length = 3
  cell : ∀ s i o, s < n → i < 3 → o < 3 → -1 ≤ cell3 l s i o ∧ cell3 l s i o < n
theorem idx22i {o : OI} {s : Int} (h0 : 0 ≤ s) (h : s.toNat < (L o).length) : indexAddr PP 22 (.p (eSl o)) (.p (.int .i64 s)) = some (.pptr (eInts (L o)) s.toNat) := by
  have := idx22 (o := o) h
  rwa [Int.toNat_of_nonneg h0] at this
theorem L23 {a b : Option (List OI)} {σ : Store} {lo : Nat} (h0 : (L a).map L = (L b).map L) (hl : (L a).length ≤ 1000) (hx : ∀ x ∈ L a, (L x).length ≤ 1000) :
    ∀ (k i : Nat), (L a).length - i = k → i ≤ (L a).length → f23_L0 guardT lo (.p (eLs a)) (.p (eLs b)) (.p (pI (i : Nat))) σ = some (.p (.bool true), σ)
  | 0, i, hk, hi => by
    have : ¬ (i : Int) < ((L a).length : Nat) := by omega
    rw [f23_L0_eq guardT rfl]
    simp only [len48, b_lss, b_eql, b_neq, b_leq, b_geq, b_gtr, guard_tt, guard_ff, guard_tf, guard_ft, guard_sk, obind, omap, pickV_true, pickV_false, condK_true, condK_false, decide_true, decide_false, Bool.not_true, Bool.not_false, not_bool, this]
  | k + 1, i, hk, hi => by
    have hlen : (L a).length = (L b).length := by have := congrArg List.length h0; simpa using this
    have h : i < (L a).length := by omega
    have hb : i < (L b).length := by omega
    have h' : (i : Int) < ((L a).length : Nat) := by omega
    have e : L ((L a).getD i none) = L ((L b).getD i none) := by
      have h2 : ((L a).map L).getD i [] = ((L b).map L).getD i [] := by rw [h0]
      rw [getD_at [] (by simpa using h), getD_at [] (by simpa using hb)] at h2
      rw [getD_at none h, getD_at none hb]
      simpa using h2
    have ih := L23 (σ := σ) (lo := lo) h0 hl hx k (i + 1) (by omega) (by omega)
    have hx1 : (L ((L a).getD i none)).length ≤ 1000 := by rw [getD_at none h]; exact hx _ (List.getElem_mem h)
    rw [f23_L0_eq guardT rfl]
    simp only [len48, b_lss, b_eql, b_neq, b_leq, b_geq, b_gtr, guard_tt, guard_ff, guard_tf, guard_ft, guard_sk, obind, omap, pickV_true, pickV_false, condK_true, condK_false, decide_true, decide_false, Bool.not_true, Bool.not_false, not_bool, h', idx48 h, idx48 hb, load22, load1_ls h, load1_ls hb, shift_ptr, shift_pptr, Nat.zero_add, Nat.add_zero, pureFn_fn, List.append_nil, List.singleton_append, List.cons_append, List.nil_append, S61 e hx1, b_add, wrap_succ (show i ≤ 1000000 by omega), ih]
theorem S23 {a b : Option (List OI)} {σ : Store} (h0 : (L a).map L = (L b).map L) (hl : (L a).length ≤ 1000) (hx : ∀ x ∈ L a, (L x).length ≤ 1000) : pureV CC 23 [.p (eLs a), .p (eLs b)] σ = some (.p (.bool true)) := by
  have hlen : (L a).length = (L b).length := by have := congrArg List.length h0; simpa using this
  refine pureV_any (by simp [ls_view]) fun lo σ0 hs => ⟨_, σ0, F23_call (r := (.p (.bool true), σ0)) ?_, rfl⟩
  rw [F23_eq]
  have := L23 (lo := lo) (σ := σ0) h0 hl hx _ 0 (Nat.sub_zero _) (Nat.zero_le _)
  simp only [len48, b_lss, b_eql, b_neq, b_leq, b_geq, b_gtr, guard_tt, guard_ff, guard_tf, guard_ft, guard_sk, obind, omap, pickV_true, pickV_false, condK_true, condK_false, decide_true, decide_false, Bool.not_true, Bool.not_false, not_bool, hlen]
  exact this
end Go.D
end
/- The turned watch. -/
section
set_option linter.unusedVariables false
set_option linter.unusedSimpArgs false
namespace Go.D

def tRow (l : W3) (s i : Nat) : List Int := [cell3 l s 0 i, cell3 l s 1 i, cell3 l s 2 i]
theorem Out.snoc {σ : Store} {lo sz n : Nat} {cs : List PV} {x : DV} {r : Row} (ho : Out σ lo sz n cs x) : Out (σ ++ [r]) lo sz n cs x := by
  refine ⟨ho.1, ?_⟩
  rcases ho.2 with h | ⟨h1, q, ver, h2, h3, h4⟩
  · exact .inl h
  · exact .inr ⟨h1, q, ver, h2, get_old h3, h4⟩
theorem Out.osl {σ : Store} {lo sz n : Nat} {cs : List PV} {x : DV} (ho : Out σ lo sz n cs x) (hn : n ≠ 0) : ∃ r ver, x = .osl r ver sz n cs := by
  rcases ho.2 with ⟨h, _⟩ | ⟨h1, q, ver, h2, h3, h4⟩
  · exact absurd h hn
  · exact ⟨q, ver, h2⟩
section
variable {w : OW} (hw : WOk (wl w) (wl w).length) {s : Nat} (hs : s < (wl w).length)
include hw hs
end
end Go.D
end
/- The turned watch: what the program makes of it. -/
section
set_option linter.unusedVariables false
set_option linter.unusedSimpArgs false
namespace Go.D

/-- Rows that are there stay as they are. -/
def Ext (σ σ' : Store) : Prop := ∀ (j : Nat) (row : Row), σ[j]? = some row → σ'[j]? = some row
theorem Ext.refl (σ : Store) : Ext σ σ := fun _ _ h => h
theorem Ext.trans {a b c : Store} (h : Ext a b) (h2 : Ext b c) : Ext a c := fun j r e => h2 j r (h j r e)
theorem Ext.snoc (σ : Store) (r : Row) : Ext σ (σ ++ [r]) := fun j row h => get_old h
/-- A list of any cells that is appended to. -/
def OutM (σ : Store) (n : Nat) (cs : List DV) (x : DV) : Prop := (n = 0 ∧ cs = [] ∧ x = .p .nilsl) ∨ (∃ q, x = .rsl q 1 0 n ∧ σ[q]? = some (.mix cs) ∧ cs.length = n ∧ n ≠ 0)
theorem OutM.ext {σ σ' : Store} {n : Nat} {cs : List DV} {x : DV} (h : OutM σ n cs x) (he : Ext σ σ') : OutM σ' n cs x := by
  rcases h with h | ⟨q, h1, h2, h3, h4⟩
  · exact .inl h
  · exact .inr ⟨q, h1, he _ _ h2, h3, h4⟩
section
variable {w : OW} (hw : WOk (wl w) (wl w).length) {s : Nat} (hs : s < (wl w).length)
include hw hs
/-- What a finished state is. -/
def Ent (l : W3) (s : Nat) (σ : Store) (v : DV) : Prop :=
  ∃ R a b c va vb vc, v = .rsl R 1 0 3 ∧ σ[R]? = some (.mix [.osl a va 1 3 (eInts (tRow l s 0)), .osl b vb 1 3 (eInts (tRow l s 1)), .osl c vc 1 3 (eInts (tRow l s 2))])
omit hw hs in
theorem Ent.ext {l : W3} {s : Nat} {σ σ' : Store} {v : DV} (h : Ent l s σ v) (he : Ext σ σ') : Ent l s σ' v := by
  obtain ⟨R, a, b, c, va, vb, vc, h1, h2⟩ := h
  exact ⟨R, a, b, c, va, vb, vc, h1, he _ _ h2⟩
end
end Go.D
end
/- A search layer by layer, in plain terms: nodes with paths in the order in which they are found. -/
section
set_option linter.unusedVariables false
set_option linter.unusedSimpArgs false
namespace Go.D

structure QE where
  n : List Int
  p : List Int
deriving Inhabited
def ePth (p : List Int) : PV := if p = [] then .nilsl else .sl false p.length (eInts p)
def nodeD (l : List Int) : List DV := l.map fun n => .p (pI n)
def qeP (x : QE) : List PV := eInts x.n ++ [ePth x.p]
def qsP (q : List QE) : List PV := q.flatMap qeP
def hasN (q : List QE) (n : List Int) : Bool := q.any fun x => decide (x.n = n)
def addN (q : List QE) (n : List Int) (p : List Int) : List QE := if hasN q n = true then q else q ++ [⟨n, p⟩]
def entN (q : List QE) : List (DV × DV) := q.map fun x => (.agg (nodeD x.n), .p (.bool true))
theorem hasN_mem {q : List QE} {n : List Int} : hasN q n = true ↔ ∃ x ∈ q, x.n = n := by simp [hasN]
theorem nodup_le {α : Type} [DecidableEq α] : ∀ {l u : List α}, l.Nodup → (∀ x ∈ l, x ∈ u) → l.length ≤ u.length
  | [], u, _, _ => Nat.zero_le _
  | a :: l, u, hn, h => by
    have ha := h a (by simp)
    rw [List.nodup_cons] at hn
    have ih := nodup_le (l := l) (u := u.erase a) hn.2 fun x hx => by
      have hne : x ≠ a := fun e => hn.1 (e ▸ hx)
      exact (List.mem_erase_of_ne hne).2 (h x (by simp [hx]))
    have h1 := List.length_erase_of_mem ha
    have h2 : 0 < u.length := List.length_pos_of_mem ha
    simp only [List.length_cons]
    omega
/-- All lists of numbers below bounds. -/
def allTo : List Nat → List (List Int)
  | [] => [[]]
  | b :: bs => (List.range b).flatMap fun (v : Nat) => (allTo bs).map fun l => Int.ofNat v :: l
theorem allTo_len : ∀ bs : List Nat, (allTo bs).length = bs.foldr (· * ·) 1
  | [] => rfl
  | b :: bs => by
    have ih := allTo_len bs
    simp only [allTo, List.length_flatMap, List.length_map, ih, List.foldr_cons]
    induction b with
    | zero => simp
    | succ b ihb => rw [List.range_succ, List.map_append, List.sum_append, ihb, Nat.add_mul]; simp
theorem allTo_mem : ∀ {bs : List Nat} {l : List Int}, l.length = bs.length → (∀ i (h1 : i < l.length) (h2 : i < bs.length), 0 ≤ l[i] ∧ l[i] < (bs[i] : Nat)) → l ∈ allTo bs
  | [], [], _, _ => by simp [allTo]
  | b :: bs, v :: l, hl, h => by
    have h0 := h 0 (by simp) (by simp)
    have ih := allTo_mem (bs := bs) (l := l) (by simpa using hl) fun i h1 h2 => by
      have := h (i + 1) (by simp; omega) (by simp; omega)
      simpa using this
    simp only [List.getElem_cons_zero] at h0
    simp only [allTo, List.mem_flatMap, List.mem_range, List.mem_map]
    refine ⟨v.toNat, by omega, l, ih, ?_⟩
    show ((v.toNat : Nat) : Int) :: l = v :: l
    rw [Int.toNat_of_nonneg h0.1]
end Go.D
end
/- Lists of watches; lists that grow from a literal; equal lists. -/
section
set_option linter.unusedVariables false
set_option linter.unusedSimpArgs false
namespace Go.D
/-- A list that grows: nothing yet, a literal, or a row of its own from B on. -/
def Grow (σ : Store) (B sz n : Nat) (cs : List PV) (x : DV) : Prop :=
  cs.length = n * sz ∧ ((n = 0 ∧ x = .p .nilsl) ∨ x = .p (.sl true n cs) ∨ ∃ r ver, x = .osl r ver sz n cs ∧ σ[r]? = some (.tok ver) ∧ B ≤ r)
theorem Grow.push {σ : Store} {t e lo B sz b n m : Nat} {z : List DV} {cs vs : List PV} {x : DV} (hs : srcType PP t = true) (hu : PP.underlying t = some (.slice e)) (h1 : size? PP e = some sz) (h2 : bytes? PP e = some b) (h3 : zeroOf PP e = some z)
    (h4 : z.length = sz) (hz : 0 < sz) (hb : 0 < b) (hb2 : b ≤ 1000) (hv : vs.length = m * sz) (hm : m ≠ 0) (hm2 : m ≤ 1000) (ho : Grow σ B sz n cs x) (hn : n ≤ 1000000) (hlo : lo ≤ B) (hB : B ≤ σ.length) :
    ∃ r ver σ', append PP lo false t t x (.p (.sl true m vs)) σ = some (.osl r ver sz (n + m) (cs ++ vs), σ') ∧ Grow σ' B sz (n + m) (cs ++ vs) (.osl r ver sz (n + m) (cs ++ vs)) ∧ σ'[r]? = some (.tok ver) ∧ B ≤ r ∧ (∀ (j : Nat) (row : Row), j < B → σ[j]? = some row → σ'[j]? = some row) ∧ σ.length ≤ σ'.length ∧ (∀ (j : Nat) (row : Row), (∀ ver', row ≠ .tok ver') → σ[j]? = some row → σ'[j]? = some row) := by
  have hsrc : source σ sz (.p (.sl true m vs)) = some (m, vs.map DV.p) := by simp [source, hv]
  have hz0 : ¬ (z.length ≠ sz ∨ sz = 0) := by omega
  have e1 : (n + m) * b ≤ 140737488355328 := Nat.le_trans (Nat.mul_le_mul (show n + m ≤ 1001000 by omega) hb2) (by decide)
  have e2 : n + m ≤ 140737488355328 := by omega
  have hnm : n + m ≠ 0 := by omega
  obtain ⟨hc, ho⟩ := ho
  have hl : (cs ++ vs).length = (n + m) * sz := by rw [List.length_append, hc, hv, Nat.add_mul]
  rcases ho with ⟨rfl, rfl⟩ | rfl | ⟨r, ver, rfl, hr, hBr⟩
  · have hcs : cs = [] := List.length_eq_zero_iff.1 (by simpa using hc)
    subst hcs
    refine ⟨σ.length, 0, σ ++ [.tok 0], ?_, ⟨hl, .inr (.inr ⟨_, _, rfl, get_snoc, hB⟩)⟩, get_snoc, hB, fun j row _ h => get_old h, by simp, fun j row _ h => get_old h⟩
    simp only [append, hs, hu, h1, h2, h3, hz0, hsrc, appNil]
    simp only [Nat.zero_add] at e1 e2 ⊢
    simp [e1, e2, hb, hm, pures_map]
  · refine ⟨σ.length, 0, σ ++ [.tok 0], ?_, ⟨hl, .inr (.inr ⟨_, _, rfl, get_snoc, hB⟩)⟩, get_snoc, hB, fun j row _ h => get_old h, by simp, fun j row _ h => get_old h⟩
    simp only [append, hs, hu, h1, h2, h3, hz0, hsrc, appLit]
    simp [e1, e2, hb, hm, hc, pures_map]
  · refine ⟨r, ver + 1, σ.set r (.tok (ver + 1)), ?_, ⟨hl, .inr (.inr ⟨_, _, rfl, ?_, hBr⟩)⟩, ?_, hBr, fun j row hj h => get_set_ne h (by omega), by simp, fun j row hj h => get_set_ne h ?_⟩
    · have hlr : lo ≤ r := by omega
      simp only [append, hs, hu, h1, h2, h3, hz0, hsrc, appTok]
      simp [e1, e2, hb, hc, hlr, hr, pures_map]
    · rw [List.getElem?_set_self (get_lt hr)]
    · rw [List.getElem?_set_self (get_lt hr)]
    · rintro rfl
      rw [hr] at h
      injection h with h
      exact hj ver h.symm
theorem Grow.snoc {σ : Store} {B sz n : Nat} {cs : List PV} {x : DV} {r : Row} (h : Grow σ B sz n cs x) : Grow (σ ++ [r]) B sz n cs x := by
  refine ⟨h.1, ?_⟩
  rcases h.2 with h | h | ⟨q, ver, h1, h2, h3⟩
  · exact .inl h
  · exact .inr (.inl h)
  · exact .inr (.inr ⟨q, ver, h1, get_old h2, h3⟩)
theorem Grow.ext {σ σ' : Store} {B sz n : Nat} {cs : List PV} {x : DV} (h : Grow σ B sz n cs x) (he : Ext σ σ') : Grow σ' B sz n cs x := by
  refine ⟨h.1, ?_⟩
  rcases h.2 with h | h | ⟨q, ver, h1, h2, h3⟩
  · exact .inl h
  · exact .inr (.inl h)
  · exact .inr (.inr ⟨q, ver, h1, he _ _ h2, h3⟩)
/-- What is seen of it in a call. -/
theorem Grow.vw {σ : Store} {B sz n : Nat} {cs : List PV} {x : DV} (h : Grow σ B sz n cs x) (hn : n ≠ 0) : view x = .p (.sl false n (loosens cs)) := by
  rcases h.2 with h | rfl | ⟨q, ver, rfl, _⟩
  · exact absurd h.1 hn
  · simp [view, viewCell, loosen]
  · simp [view, viewCell]
theorem L61d {a b : OI} {σ : Store} {lo : Nat} (h0 : (L a).length = (L b).length) (hl : (L a).length ≤ 1000000) :
    ∀ (k i : Nat), (L a).length - i = k → i ≤ (L a).length → f61_L0 guardT lo (.p (eSl a)) (.p (eSl b)) (.p (pI (i : Nat))) σ = some (.p (.bool (decide ((L a).drop i = (L b).drop i))), σ)
  | 0, i, hk, hi => by
    have : ¬ (i : Int) < ((L a).length : Nat) := by omega
    rw [f61_L0_eq guardT rfl, List.drop_eq_nil_of_le (by omega), List.drop_eq_nil_of_le (by omega)]
    simp only [len22, b_lss, b_eql, b_neq, b_leq, b_geq, b_gtr, guard_tt, guard_ff, guard_tf, guard_ft, guard_sk, obind, omap, pickV_true, pickV_false, condK_true, condK_false, decide_true, decide_false, Bool.not_true, Bool.not_false, not_bool, this]
  | k + 1, i, hk, hi => by
    have h : i < (L a).length := by omega
    have hb : i < (L b).length := by omega
    have h' : (i : Int) < ((L a).length : Nat) := by omega
    have ih := L61d (σ := σ) (lo := lo) h0 hl k (i + 1) (by omega) (by omega)
    rw [f61_L0_eq guardT rfl, drop_cons h, drop_cons hb]
    by_cases e : (L a)[i] = (L b)[i]
    · simp only [len22, b_lss, b_eql, b_neq, b_leq, b_geq, b_gtr, guard_tt, guard_ff, guard_tf, guard_ft, guard_sk, obind, omap, pickV_true, pickV_false, condK_true, condK_false, decide_true, decide_false, Bool.not_true, Bool.not_false, not_bool, h', idx22 h, idx22 hb, load3, load1_ints h, load1_ints hb, e, b_add, wrap_succ (show i ≤ 1000000 by omega), ih, List.cons.injEq, true_and]
    · simp only [len22, b_lss, b_eql, b_neq, b_leq, b_geq, b_gtr, guard_tt, guard_ff, guard_tf, guard_ft, guard_sk, obind, omap, pickV_true, pickV_false, condK_true, condK_false, decide_true, decide_false, Bool.not_true, Bool.not_false, not_bool, h', idx22 h, idx22 hb, load3, load1_ints h, load1_ints hb, e, List.cons.injEq, false_and]
theorem S61d {a b : OI} {σ : Store} (hl : (L a).length ≤ 1000000) : pureV CC 61 [.p (eSl a), .p (eSl b)] σ = some (.p (.bool (decide (L a = L b)))) := by
  refine pureV_free (by simp [sl_view]) rfl (F61_call (r := (.p (.bool (decide (L a = L b))), [])) ?_) rfl
  rw [F61_eq]
  by_cases h : (L a).length = (L b).length
  · have := L61d (lo := 0) (σ := []) h hl _ 0 rfl (Nat.zero_le _)
    simp only [List.drop_zero] at this
    simp only [len22, b_lss, b_eql, b_neq, b_leq, b_geq, b_gtr, guard_tt, guard_ff, guard_tf, guard_ft, guard_sk, obind, omap, pickV_true, pickV_false, condK_true, condK_false, decide_true, decide_false, Bool.not_true, Bool.not_false, not_bool, h]
    exact this
  · have h2 : ¬ ((L a).length : Int) = ((L b).length : Nat) := by omega
    have h3 : ¬ L a = L b := fun e => h (by rw [e])
    simp only [len22, b_lss, b_eql, b_neq, b_leq, b_geq, b_gtr, guard_tt, guard_ff, guard_tf, guard_ft, guard_sk, obind, omap, pickV_true, pickV_false, condK_true, condK_false, decide_true, decide_false, Bool.not_true, Bool.not_false, not_bool, h2, h3]
end Go.D
end
/- What a call's arguments are: plain data of any type without pointers, as values of D. For any program. -/
section
set_option linter.unusedVariables false
set_option linter.unusedSimpArgs false
namespace Go.D

mutual
inductive Plain (P : Program) : TypeId → List PV → Prop where
  | bool {t : TypeId} (h : P.underlying t = some .bool) (b : Bool) : Plain P t [.bool b]
  | int {t : TypeId} {k : IntKind} (h : P.underlying t = some (.int k)) (n : Int) (hw : (Lit.int k n).wf = true) : Plain P t [.int k n]
  | str {t : TypeId} (h : P.underlying t = some .string) (s : ByteArray) (hs : s.size ≤ maxLen) : Plain P t [.str s]
  | nilsl {t e : TypeId} (h : P.underlying t = some (.slice e)) : Plain P t [.nilsl]
  | sl {t e : TypeId} (h : P.underlying t = some (.slice e)) (n : Nat) (cs : List PV) (hx : PlainL P (List.replicate n e) cs) : Plain P t [.sl false n cs]
  | struct {t : TypeId} {fs : Array Field} (h : P.underlying t = some (.struct fs)) (cs : List PV) (hx : PlainL P (fs.toList.map (·.type)) cs) : Plain P t cs
  | array {t e : TypeId} {n : Nat} (h : P.underlying t = some (.array n e)) (cs : List PV) (hx : PlainL P (List.replicate n e) cs) : Plain P t cs
inductive PlainL (P : Program) : List TypeId → List PV → Prop where
  | nil : PlainL P [] []
  | cons {t : TypeId} {ts : List TypeId} {a b : List PV} (h : Plain P t a) (hs : PlainL P ts b) : PlainL P (t :: ts) (a ++ b)
end

/-! ### Taking apart -/
section
variable {P : Program} {t e : TypeId} {k : IntKind} {cs : List PV}
theorem Plain.inv_int (hu : P.underlying t = some (.int k)) (h : Plain P t cs) : ∃ n, (Lit.int k n).wf = true ∧ cs = [.int k n] := by
  cases h with
  | int h n hw =>
    rw [hu] at h
    injection h with h
    injection h with h
    exact ⟨n, by rw [h]; exact hw, by rw [h]⟩
  | _ h => rw [hu] at h; injection h with h; exact absurd h (by simp)
theorem Plain.inv_bool (hu : P.underlying t = some .bool) (h : Plain P t cs) : ∃ b, cs = [.bool b] := by
  cases h with
  | bool h b => exact ⟨b, rfl⟩
  | _ h => rw [hu] at h; injection h with h; exact absurd h (by simp)
theorem Plain.inv_str (hu : P.underlying t = some .string) (h : Plain P t cs) : ∃ s, s.size ≤ maxLen ∧ cs = [.str s] := by
  cases h with
  | str h s hs => exact ⟨s, hs, rfl⟩
  | _ h => rw [hu] at h; injection h with h; exact absurd h (by simp)
theorem Plain.inv_slice (hu : P.underlying t = some (.slice e)) (h : Plain P t cs) : cs = [.nilsl] ∨ ∃ n xs, PlainL P (List.replicate n e) xs ∧ cs = [.sl false n xs] := by
  cases h with
  | nilsl h => exact .inl rfl
  | sl h n xs hx =>
    rw [hu] at h
    injection h with h
    injection h with h
    exact .inr ⟨n, xs, by rw [h]; exact hx, rfl⟩
  | _ h => rw [hu] at h; injection h with h; exact absurd h (by simp)
theorem Plain.inv_struct {fs : Array Field} (hu : P.underlying t = some (.struct fs)) (h : Plain P t cs) : PlainL P (fs.toList.map (·.type)) cs := by
  cases h with
  | struct h xs hx =>
    rw [hu] at h
    injection h with h
    injection h with h
    rw [h]; exact hx
  | _ h => rw [hu] at h; injection h with h; exact absurd h (by simp)
theorem Plain.inv_array {n : Nat} (hu : P.underlying t = some (.array n e)) (h : Plain P t cs) : PlainL P (List.replicate n e) cs := by
  cases h with
  | array h xs hx =>
    rw [hu] at h
    injection h with h
    injection h with h1 h2
    rw [h1, h2]; exact hx
  | _ h => rw [hu] at h; injection h with h; exact absurd h (by simp)
theorem PlainL.inv_nil (h : PlainL P [] cs) : cs = [] := by cases h; rfl
theorem PlainL.inv_cons {ts : List TypeId} (h : PlainL P (t :: ts) cs) : ∃ a b, Plain P t a ∧ PlainL P ts b ∧ cs = a ++ b := by
  cases h with
  | cons h hs => exact ⟨_, _, h, hs, rfl⟩
theorem PlainL.inv_rep {α : Type} {f : α → List PV} (hf : ∀ a, Plain P t a → ∃ x, a = f x) : ∀ {n : Nat} {cs : List PV}, PlainL P (List.replicate n t) cs → ∃ xs : List α, xs.length = n ∧ cs = xs.flatMap f
  | 0, cs, h => ⟨[], rfl, h.inv_nil⟩
  | n + 1, cs, h => by
    obtain ⟨a, b, h1, h2, rfl⟩ := PlainL.inv_cons (ts := List.replicate n t) h
    obtain ⟨x, rfl⟩ := hf a h1
    obtain ⟨xs, h3, rfl⟩ := PlainL.inv_rep hf h2
    exact ⟨x :: xs, by simp [h3], by simp⟩
end

/-! ### Types that are read -/
def layOk (P : Program) (ok : TypeId → Bool) (total : Nat) : Nat → List Field → Bool
  | off, [] => off == total
  | off, f :: fs => f.offset == off && ok f.type && layOk P ok total (off + P.cellsOf f.type) fs
def plainTy (P : Program) : Nat → TypeId → Bool
  | 0, _ => false
  | n + 1, t => match P.underlying t with
    | some .bool | some (.int _) | some .string => true
    | some (.slice e) => decide (0 < P.cellsOf e) && plainTy P n e
    | some (.struct fs) => layOk P (plainTy P n) (P.cellsOf t) 0 fs.toList
    | some (.array m e) => m * P.cellsOf e == P.cellsOf t && plainTy P n e
    | _ => false

section
variable {H : Type} {enc : TypeId × Value → H} {W : World} {P : Program} {hd : Bool}
abbrev memR (W : World) : Mem := fun b o => W.cell? ⟨b, o, none⟩

theorem spot_cell {a : Addr} {v : Value} (h : W.cell? a = some v) : a.spot = none := by
  unfold World.cell? at h
  split at h
  · split at h
    · exact absurd h (by simp)
    · rename_i hs
      cases e : a.spot with
      | none => rfl
      | some s => rw [e] at hs; exact absurd rfl hs
  · exact absurd h (by simp)
theorem addr_eq {a : Addr} {n : Nat} (h : a.spot = none) : a.add n = ⟨a.block, a.off + n, none⟩ := by
  cases a with
  | mk b o s => cases h; exact Addr.add_mid b o n

/-- Cells of pure values that stand for values. -/
def RelL (M : Mem) (ps : List PV) (vs : List Value) : Prop := ps.length = vs.length ∧ ∀ j (h1 : j < ps.length) (h2 : j < vs.length), PRel M ps[j] vs[j]

theorem RelL.append {M : Mem} {a c : List PV} {b d : List Value} (h : RelL M a b) (h2 : RelL M c d) : RelL M (a ++ c) (b ++ d) := by
  refine ⟨by simp [h.1, h2.1], fun j h3 h4 => ?_⟩
  by_cases hj : j < a.length
  · rw [List.getElem_append_left hj, List.getElem_append_left (by rw [← h.1]; exact hj)]
    exact h.2 j hj _
  · rw [List.getElem_append_right (by omega), List.getElem_append_right (by rw [← h.1]; omega)]
    have e : j - b.length = j - a.length := by rw [h.1]
    simp only [e]
    refine h2.2 _ (by simp at h3; omega) ?_
/-- Elements one after another. -/
theorem elems_read {e : TypeId} {sz : Nat} {b : Nat} : ∀ (n o : Nat),
    (∀ i, i < n → ∃ ps vs, Plain P e ps ∧ vs.length = sz ∧ RelL (memR W) ps vs ∧ ∀ j (h : j < vs.length), W.cell? ⟨b, o + i * sz + j, none⟩ = some vs[j]) →
    ∃ cs vs, PlainL P (List.replicate n e) cs ∧ vs.length = n * sz ∧ RelL (memR W) cs vs ∧ ∀ j (h : j < vs.length), W.cell? ⟨b, o + j, none⟩ = some vs[j]
  | 0, o, h => ⟨[], [], .nil, by simp, ⟨rfl, fun j h1 _ => absurd h1 (by simp)⟩, fun j h => absurd h (by simp)⟩
  | n + 1, o, h => by
    obtain ⟨ps, vs, h1, h2, h3, h4⟩ := h 0 (by omega)
    obtain ⟨cs, ws, g1, g2, g3, g4⟩ := elems_read n (o + sz) fun i hi => by
      obtain ⟨ps, vs, k1, k2, k3, k4⟩ := h (i + 1) (by omega)
      refine ⟨ps, vs, k1, k2, k3, fun j hj => ?_⟩
      have : o + sz + i * sz + j = o + (i + 1) * sz + j := by rw [Nat.add_mul]; omega
      rw [this]
      exact k4 j hj
    refine ⟨ps ++ cs, vs ++ ws, .cons h1 g1, by simp [h2, g2, Nat.add_mul]; omega, h3.append g3, fun j hj => ?_⟩
    by_cases hjv : j < vs.length
    · rw [List.getElem_append_left hjv]
      have := h4 j hjv
      simpa using this
    · rw [List.getElem_append_right (by omega)]
      have := g4 (j - vs.length) (by simp at hj; omega)
      have e2 : o + sz + (j - vs.length) = o + j := by omega
      rwa [e2] at this
theorem layOk_le {ok : TypeId → Bool} {total : Nat} : ∀ (fs : List Field) (off : Nat), layOk P ok total off fs = true → off ≤ total
  | [], off, h => by
    have : off = total := by simpa [layOk] using h
    omega
  | f :: fs, off, h => by
    simp only [layOk, Bool.and_eq_true] at h
    have := layOk_le fs _ h.2
    omega
theorem fields_read {ok : TypeId → Bool} {total : Nat} {cs : List Value} (hc : cs.length = total) : ∀ (fs : List Field) (off : Nat), layOk P ok total off fs = true →
    (∀ f ∈ fs, ok f.type = true → ∃ ps, Plain P f.type ps ∧ RelL (memR W) ps ((cs.drop f.offset).take (P.cellsOf f.type))) →
    ∃ ps, PlainL P (fs.map (·.type)) ps ∧ RelL (memR W) ps (cs.drop off)
  | [], off, h, hf => by
    have : off = total := by simpa [layOk] using h
    refine ⟨[], .nil, ?_⟩
    rw [List.drop_eq_nil_of_le (by omega)]
    exact ⟨rfl, fun j h1 _ => absurd h1 (by simp)⟩
  | f :: fs, off, h, hf => by
    simp only [layOk, Bool.and_eq_true, beq_iff_eq] at h
    obtain ⟨⟨h1, h2⟩, h3⟩ := h
    obtain ⟨ps, g1, g2⟩ := hf f (by simp) h2
    obtain ⟨qs, k1, k2⟩ := fields_read hc fs _ h3 fun g hg => hf g (by simp [hg])
    refine ⟨ps ++ qs, .cons g1 k1, ?_⟩
    have e : cs.drop off = (cs.drop off).take (P.cellsOf f.type) ++ cs.drop (off + P.cellsOf f.type) := by
      rw [← List.drop_drop, List.take_append_drop]
    rw [h1] at g2
    rw [e]
    exact g2.append k2
theorem parts_read {e : TypeId} {sz : Nat} {cs : List Value} : ∀ (n off : Nat), cs.length = off + n * sz →
    (∀ i, i < n → ∃ ps, Plain P e ps ∧ RelL (memR W) ps ((cs.drop (off + i * sz)).take sz)) → ∃ ps, PlainL P (List.replicate n e) ps ∧ RelL (memR W) ps (cs.drop off)
  | 0, off, hc, h => by
    refine ⟨[], .nil, ?_⟩
    rw [List.drop_eq_nil_of_le (by omega)]
    exact ⟨rfl, fun j h1 _ => absurd h1 (by simp)⟩
  | n + 1, off, hc, h => by
    obtain ⟨ps, g1, g2⟩ := h 0 (by omega)
    obtain ⟨qs, k1, k2⟩ := parts_read (sz := sz) n (off + sz) (by rw [hc, Nat.add_mul]; omega) fun i hi => by
      obtain ⟨ps, a1, a2⟩ := h (i + 1) (by omega)
      refine ⟨ps, a1, ?_⟩
      have : off + (i + 1) * sz = off + sz + i * sz := by rw [Nat.add_mul]; omega
      rwa [this] at a2
    refine ⟨ps ++ qs, .cons g1 k1, ?_⟩
    have e : cs.drop off = (cs.drop off).take sz ++ cs.drop (off + sz) := by
      rw [← List.drop_drop, List.take_append_drop]
    rw [Nat.zero_mul, Nat.add_zero] at g2
    rw [e]
    exact g2.append k2

theorem read_plain : ∀ (m fuel : Nat) (t : TypeId) (cs : List Value) (x : DataW H × List MemPlace), plainTy P m t = true → DataW.trod enc P W 0 (fun _ => true) hd fuel t cs = some x → ∃ ps, Plain P t ps ∧ RelL (memR W) ps cs
  | 0, _, _, _, _, hp, _ => by simp [plainTy] at hp
  | m + 1, fuel, t, cs, x, hp, h => by
    unfold plainTy at hp
    split at hp
    · rename_i hu
      obtain ⟨b, rfl, _⟩ := DataW.trod_bool hu h
      refine ⟨[.bool b], .bool hu b, rfl, fun j h1 h2 => ?_⟩
      match j, h1 with
      | 0, _ => exact .bool b
    · rename_i k hu
      obtain ⟨n, rfl, _, hw⟩ := DataW.trod_int hu h
      refine ⟨[.int k n], .int hu n hw, rfl, fun j h1 h2 => ?_⟩
      match j, h1 with
      | 0, _ => exact .int k n
    · rename_i hu
      obtain ⟨s, rfl, _, hs⟩ := DataW.trod_string hu h
      refine ⟨[.str s], .str hu s hs, rfl, fun j h1 h2 => ?_⟩
      match j, h1 with
      | 0, _ => exact .str s
    · rename_i e hu
      simp only [Bool.and_eq_true, decide_eq_true_eq] at hp
      obtain ⟨hsz, hpe⟩ := hp
      rcases DataW.trod_slice hu h with ⟨rfl, _⟩ | ⟨a, len, cap, elems, rest, n, _, rfl, _, _, hl, hm, hlen, hel, hrest, _⟩
      · refine ⟨[.nilsl], .nilsl hu, rfl, fun j h1 h2 => ?_⟩
        match j, h1 with
        | 0, _ => exact .nilsl
      · have hrest := hrest rfl
        have hspot : cap ≠ 0 → a.spot = none := by
          intro hc
          have key : ∃ cs, W.cells? 0 (a.add 0) (P.cellsOf e) = some cs := by
            by_cases h0 : 0 < len
            · have h1 := hel 0 h0
              rw [List.getElem?_eq_getElem (by omega)] at h1
              obtain ⟨cs, h2, _⟩ := Option.bind_eq_some_iff.1 h1
              exact ⟨cs, by simpa using h2⟩
            · have h1 := hrest.2 0 (by omega)
              rw [List.getElem?_eq_getElem (by omega)] at h1
              obtain ⟨cs, h2, _⟩ := Option.bind_eq_some_iff.1 h1
              have hl0 : len = 0 := by omega
              exact ⟨cs, by simpa [hl0] using h2⟩
          obtain ⟨cs, h2⟩ := key
          obtain ⟨_, h3, h4⟩ := World.cells?_some h2
          have h5 := h4 0 hsz
          rw [List.getElem?_eq_getElem (by omega)] at h5
          exact spot_cell (a := a) h5
        obtain ⟨ps, vs, g1, g2, g3, g4⟩ := elems_read (P := P) (W := W) (e := e) (sz := P.cellsOf e) (b := a.block) len a.off fun i hi => by
          have h1 := hel i hi
          rw [List.getElem?_eq_getElem (by omega)] at h1
          obtain ⟨vs, h2, h3⟩ := Option.bind_eq_some_iff.1 h1
          obtain ⟨ps, k1, k2⟩ := read_plain m n e vs _ hpe h3
          obtain ⟨_, h5, h4⟩ := World.cells?_some h2
          refine ⟨ps, vs, k1, h5, k2, fun j hj => ?_⟩
          have h6 := h4 j (by omega)
          have hs := hspot (by omega)
          rw [addr_eq hs, addr_eq rfl, List.getElem?_eq_getElem hj] at h6
          exact h6
        refine ⟨[.sl false len ps], .sl hu len ps g1, rfl, fun j h1 h2 => ?_⟩
        match j, h1 with
        | 0, _ =>
          refine .sl (fun j => vs.getD j Go.undef) hspot hl (by simp) (fun j hj => ?_) (fun j hj => ?_)
          · have hj2 : j < vs.length := by rw [← g3.1]; exact hj
            show W.cell? _ = _
            rw [List.getD_eq_getElem?_getD, List.getElem?_eq_getElem hj2]
            exact g4 j hj2
          · have hj2 : j < vs.length := by rw [← g3.1]; exact hj
            rw [List.getD_eq_getElem?_getD, List.getElem?_eq_getElem hj2]
            exact g3.2 j hj hj2
    · rename_i fs hu
      obtain ⟨xs, n, _, _, hl, hlen, hf⟩ := DataW.trod_struct hu h
      obtain ⟨ps, g1, g2⟩ := fields_read (P := P) (W := W) hl fs.toList 0 hp fun f hfm hok => by
        obtain ⟨i, hi, rfl⟩ := List.getElem_of_mem hfm
        have hi2 : i < fs.size := by simpa using hi
        have h1 := hf i fs[i] (by simp [hi2])
        rw [List.getElem?_eq_getElem (by omega)] at h1
        simp only [Array.getElem_toList] at hok ⊢
        obtain ⟨ps, k1, k2⟩ := read_plain m n _ _ _ hok h1
        exact ⟨ps, k1, k2⟩
      exact ⟨ps, .struct hu ps g1, g2⟩
    · rename_i k e hu
      simp only [Bool.and_eq_true, beq_iff_eq] at hp
      obtain ⟨xs, n, _, _, hl, hlen, hf⟩ := DataW.trod_array hu h
      obtain ⟨ps, g1, g2⟩ := parts_read (P := P) (W := W) (e := e) (sz := P.cellsOf e) (cs := cs) k 0 (by rw [hl, ← hp.1]; omega) fun i hi => by
        have h1 := hf i hi
        rw [List.getElem?_eq_getElem (by omega)] at h1
        obtain ⟨ps, k1, k2⟩ := read_plain m n _ _ _ hp.2 h1
        rw [Nat.zero_add]
        exact ⟨ps, k1, k2⟩
      exact ⟨ps, .array hu ps g1, g2⟩
    · exact absurd hp (by simp)

/-! ### Arguments -/
theorem relL_agg {ps : List PV} {vs : Array Value} (h : RelL (memR W) ps vs.toList) : VRel (fun _ _ => none) (memR W) (.agg (ps.map .p)) (.agg vs) := by
  refine .agg (by have := h.1; simp at this; simp [this]) fun j h1 h2 => ?_
  have := h.2 j (by simpa using h1) (by simpa using h2)
  simp only [List.getElem_map]
  exact .p (by simpa using this)
theorem relL_one {p : PV} {v : Value} (h : RelL (memR W) [p] [v]) : VRel (fun _ _ => none) (memR W) (.p p) v := .p (h.2 0 (by simp) (by simp))
variable {r : Reach} {b0 : Nat} {v : Value} {d : DataW H} {ps : List MemPlace} {t : TypeId}
theorem read_struct {fs : Array Field} (m : Nat) (hu : P.underlying t = some (.struct fs)) (hp : plainTy P m t = true) (hok : Value.okWide P W r b0 t v) (h : DataW.Trod enc P W 0 (fun _ => true) hd t v d ps) :
    ∃ cs, Plain P t cs ∧ VRel (fun _ _ => none) (memR W) (.agg (cs.map .p)) v := by
  simp only [Value.okWide, hu] at hok
  obtain ⟨vs, rfl, _⟩ := hok
  obtain ⟨fuel, h⟩ := h
  obtain ⟨cs, h1, h2⟩ := read_plain m fuel t _ _ hp h
  exact ⟨cs, h1, relL_agg h2⟩
theorem read_array {n : Nat} {e : TypeId} (m : Nat) (hu : P.underlying t = some (.array n e)) (hp : plainTy P m t = true) (hok : Value.okWide P W r b0 t v) (h : DataW.Trod enc P W 0 (fun _ => true) hd t v d ps) :
    ∃ cs, Plain P t cs ∧ VRel (fun _ _ => none) (memR W) (.agg (cs.map .p)) v := by
  simp only [Value.okWide, hu] at hok
  obtain ⟨vs, rfl, _⟩ := hok
  obtain ⟨fuel, h⟩ := h
  obtain ⟨cs, h1, h2⟩ := read_plain m fuel t _ _ hp h
  exact ⟨cs, h1, relL_agg h2⟩
theorem read_slice {e : TypeId} (m : Nat) (hu : P.underlying t = some (.slice e)) (hp : plainTy P m t = true) (hok : Value.okWide P W r b0 t v) (h : DataW.Trod enc P W 0 (fun _ => true) hd t v d ps) :
    ∃ c, Plain P t [c] ∧ VRel (fun _ _ => none) (memR W) (.p c) v := by
  obtain ⟨a0, len, cap, rfl⟩ := Go.WideShapes.okWide_slice hu hok
  obtain ⟨fuel, h⟩ := h
  obtain ⟨cs, h1, h2⟩ := read_plain m fuel t _ _ hp h
  rcases h1.inv_slice hu with rfl | ⟨n, xs, _, rfl⟩
  · exact ⟨_, h1, relL_one h2⟩
  · exact ⟨_, h1, relL_one h2⟩
theorem read_intA {k : IntKind} (hu : P.underlying t = some (.int k)) (hok : Value.okWide P W r b0 t v) (h : DataW.Trod enc P W 0 (fun _ => true) hd t v d ps) :
    ∃ n, (Lit.int k n).wf = true ∧ VRel (fun _ _ => none) (memR W) (.p (.int k n)) v := by
  obtain ⟨n, rfl⟩ := Go.WideShapes.okWide_int hu hok
  obtain ⟨fuel, h⟩ := h
  obtain ⟨n', h1, _, h2⟩ := DataW.trod_int hu h
  have : n = n' := by simpa [Value.cells] using h1
  subst this
  exact ⟨n, h2, .p (.int _ _)⟩
theorem read_strA (hu : P.underlying t = some .string) (hok : Value.okWide P W r b0 t v) (h : DataW.Trod enc P W 0 (fun _ => true) hd t v d ps) :
    ∃ s, s.size ≤ maxLen ∧ VRel (fun _ _ => none) (memR W) (.p (.str s)) v := by
  obtain ⟨s, rfl⟩ := Go.WideShapes.okWide_string hu hok
  obtain ⟨fuel, h⟩ := h
  obtain ⟨s', h1, _, h2⟩ := DataW.trod_string hu h
  have : s = s' := by simpa [Value.cells] using h1
  subst this
  exact ⟨s, h2, .p (.str _)⟩
end
end Go.D
end
/- What a call's arguments are, as values of D: watches, pairs, lists of watches, rules. -/
section
set_option linter.unusedVariables false
set_option linter.unusedSimpArgs false
set_option maxRecDepth 100000
namespace Go.D
open Go.ChangeShapes Go.WideShapes Go.ChangeAt Go.RowKit

section
variable {H : Type} {enc : TypeId × Value → H} {W : World} {hd : Bool} {r : Reach} {b0 : Nat} {v : Value} {d : DataW H} {ps : List MemPlace}
end
end Go.D
end
/- A path cloned and made longer; small divisions. -/
section
set_option linter.unusedVariables false
set_option linter.unusedSimpArgs false
namespace Go.D
end Go.D
end
/- Sorting in place, in plain terms: what the library's pdqsort does to a list, step by step, and that it sorts. -/
section
set_option linter.unusedVariables false
set_option linter.unusedSimpArgs false
namespace Go.D.Srt
variable {E : Type} [Inhabited E]
abbrev ge (A : List E) (i : Nat) : E := A.getD i default
def swp (A : List E) (i j : Nat) : List E := (A.set i (ge A j)).set j (ge A i)
theorem ge_set {A : List E} {i j : Nat} {v : E} (h : i < A.length) : ge (A.set i v) j = if i = j then v else ge A j := by
  unfold ge
  rw [List.getD_eq_getElem?_getD, List.getD_eq_getElem?_getD]
  by_cases e : i = j
  · subst e; rw [List.getElem?_set_self h, if_pos rfl]; rfl
  · rw [List.getElem?_set_ne e, if_neg e]
theorem swp_len (A : List E) (i j : Nat) : (swp A i j).length = A.length := by simp [swp]
theorem ge_swp {A : List E} {i j : Nat} (hi : i < A.length) (hj : j < A.length) (k : Nat) : ge (swp A i j) k = if k = j then ge A i else if k = i then ge A j else ge A k := by
  unfold swp
  rw [ge_set (by rw [List.length_set]; exact hj)]
  by_cases e : j = k
  · rw [if_pos e, if_pos e.symm]
  · rw [if_neg e, if_neg (fun h => e h.symm), ge_set hi]
    by_cases e2 : i = k
    · rw [if_pos e2, if_pos e2.symm]
    · rw [if_neg e2, if_neg (fun h => e2 h.symm)]
theorem swp_perm {A : List E} {i j : Nat} (hi : i < A.length) (hj : j < A.length) : (swp A i j).Perm A := by
  have e1 : ge A j = A[j] := by unfold ge; rw [List.getD_eq_getElem?_getD, List.getElem?_eq_getElem hj]; rfl
  have e2 : ge A i = A[i] := by unfold ge; rw [List.getD_eq_getElem?_getD, List.getElem?_eq_getElem hi]; rfl
  unfold swp
  rw [e1, e2]
  exact List.set_set_perm hi hj
/-- What stays, and where things come from: B is A, changed within [a, b). -/
structure RP (a b : Nat) (A B : List E) : Prop where
  len : B.length = A.length
  out : ∀ i, i < a ∨ b ≤ i → ge B i = ge A i
  all : ∀ P : E → Prop, (∀ i, a ≤ i → i < b → P (ge A i)) → ∀ i, a ≤ i → i < b → P (ge B i)
  perm : B.Perm A
theorem RP.refl (a b : Nat) (A : List E) : RP a b A A := ⟨rfl, fun _ _ => rfl, fun _ h => h, List.Perm.refl _⟩
theorem RP.trans {a b : Nat} {A B C : List E} (h : RP a b A B) (h2 : RP a b B C) : RP a b A C :=
  ⟨h2.len.trans h.len, fun i hi => (h2.out i hi).trans (h.out i hi), fun P hp => h2.all P (h.all P hp), h2.perm.trans h.perm⟩
theorem RP.mono {a b a' b' : Nat} {A B : List E} (h : RP a b A B) (ha : a' ≤ a) (hb : b ≤ b') : RP a' b' A B := by
  refine ⟨h.len, fun i hi => h.out i (by omega), fun P hp i h1 h2 => ?_, h.perm⟩
  by_cases hin : a ≤ i ∧ i < b
  · exact h.all P (fun j g1 g2 => hp j (by omega) (by omega)) i hin.1 hin.2
  · rw [h.out i (by omega)]; exact hp i h1 h2
theorem RP.swap {a b i j : Nat} {A : List E} (hi : a ≤ i ∧ i < b) (hj : a ≤ j ∧ j < b) (hb : b ≤ A.length) : RP a b A (swp A i j) := by
  refine ⟨swp_len _ _ _, fun k hk => ?_, fun P hp k h1 h2 => ?_, swp_perm (by omega) (by omega)⟩
  · rw [ge_swp (by omega) (by omega), if_neg (by omega), if_neg (by omega)]
  · rw [ge_swp (by omega) (by omega)]
    split
    · exact hp i hi.1 hi.2
    · split
      · exact hp j hj.1 hj.2
      · exact hp k h1 h2
/-- An order: what is asked of 'less'. -/
structure Ord (lt : E → E → Bool) : Prop where
  asym : ∀ x y, lt x y = true → lt y x = false
  trans : ∀ x y z, lt y x = false → lt z y = false → lt z x = false
omit [Inhabited E] in
theorem Ord.irr {lt : E → E → Bool} (h : Ord lt) (x : E) : lt x x = false := by
  cases e : lt x x with
  | false => rfl
  | true => have := h.asym x x e; rw [e] at this; exact absurd this (by decide)
/-- Sorted in [a, b). -/
def Sd (lt : E → E → Bool) (a b : Nat) (A : List E) : Prop := ∀ i j, a ≤ i → i < j → j < b → lt (ge A j) (ge A i) = false
section
variable {lt : E → E → Bool} (H : Ord lt)
def insIn (lt : E → E → Bool) (a : Nat) : Nat → List E → List E
  | 0, A => A
  | j + 1, A => if a < j + 1 ∧ lt (ge A (j + 1)) (ge A j) = true then insIn lt a j (swp A (j + 1) j) else A
def insOut (lt : E → E → Bool) (a : Nat) : Nat → Nat → List E → List E
  | 0, _, A => A
  | r + 1, i, A => insOut lt a r (i + 1) (insIn lt a i A)
theorem insIn_rp {a b : Nat} : ∀ (j : Nat) (A : List E), a ≤ j → j < b → b ≤ A.length → RP a b A (insIn lt a j A)
  | 0, A, ha, hb, hl => RP.refl _ _ _
  | j + 1, A, ha, hb, hl => by
    unfold insIn
    split
    · rename_i h
      exact (RP.swap ⟨by omega, by omega⟩ ⟨by omega, by omega⟩ hl).trans (insIn_rp j _ (by omega) (by omega) (by rw [swp_len]; exact hl))
    · exact RP.refl _ _ _
include H in
theorem insIn_sd {a i : Nat} : ∀ (j : Nat) (A : List E), a ≤ j → j ≤ i → i < A.length → (∀ p q, a ≤ p → p < q → q ≤ i → p ≠ j → q ≠ j → lt (ge A q) (ge A p) = false) → (∀ q, j < q → q ≤ i → lt (ge A q) (ge A j) = false) → Sd lt a (i + 1) (insIn lt a j A)
  | 0, A, ha, hj, hl, h1, h2 => by
    intro p q hp hpq hq
    by_cases e : p = 0
    · subst e; exact h2 q (by omega) (by omega)
    · exact h1 p q hp hpq (by omega) e (by omega)
  | j + 1, A, ha, hj, hl, h1, h2 => by
    unfold insIn
    split
    · rename_i h
      have g := fun k => ge_swp (A := A) (i := j + 1) (j := j) (by omega) (by omega) k
      refine insIn_sd j _ (by omega) (by omega) (by rw [swp_len]; exact hl) (fun p q hp hpq hq hpj hqj => ?_) (fun q hq hqi => ?_)
      · rw [g, g, if_neg hqj, if_neg hpj]
        by_cases e1 : q = j + 1
        · rw [if_pos e1, if_neg (by omega)]
          exact h1 p j hp (by omega) (by omega) (by omega) (by omega)
        · rw [if_neg e1]
          by_cases e2 : p = j + 1
          · rw [if_pos e2]
            exact h1 j q (by omega) (by omega) hq (by omega) e1
          · rw [if_neg e2]
            exact h1 p q hp hpq hq e2 e1
      · rw [g, g, if_neg (by omega), if_pos rfl]
        by_cases e1 : q = j + 1
        · rw [if_pos e1]; exact H.asym _ _ h.2
        · rw [if_neg e1]; exact h2 q (by omega) hqi
    · rename_i h
      intro p q hp hpq hq
      by_cases e1 : p = j + 1
      · subst e1; exact h2 q hpq (by omega)
      · by_cases e2 : q = j + 1
        · subst e2
          have hlt : lt (ge A (j + 1)) (ge A j) = false := by
            cases e : lt (ge A (j + 1)) (ge A j) with
            | false => rfl
            | true => exact absurd ⟨by omega, e⟩ h
          by_cases e3 : p = j
          · subst e3; exact hlt
          · exact H.trans _ _ _ (h1 p j hp (by omega) (by omega) e1 (by omega)) hlt
        · exact h1 p q hp hpq (by omega) e1 e2
include H in
theorem insIn_ok {a i : Nat} {A : List E} (ha : a ≤ i) (hl : i < A.length) (hs : Sd lt a i A) : Sd lt a (i + 1) (insIn lt a i A) :=
  insIn_sd H i A ha (Nat.le_refl _) hl (fun p q h1 h2 h3 h4 h5 => hs p q h1 h2 (by omega)) (fun q h1 h2 => by omega)
include H in
theorem insOut_ok {a b : Nat} : ∀ (r i : Nat) (A : List E), a ≤ i → i + r = b → b ≤ A.length → Sd lt a i A → RP a b A (insOut lt a r i A) ∧ Sd lt a b (insOut lt a r i A)
  | 0, i, A, ha, hr, hl, hs => ⟨RP.refl _ _ _, by rw [← hr]; exact hs⟩
  | r + 1, i, A, ha, hr, hl, hs => by
    have h1 := insIn_rp (lt := lt) (a := a) (b := b) i A ha (by omega) hl
    have h2 := insOut_ok (b := b) r (i + 1) (insIn lt a i A) (by omega) (by omega) (by rw [h1.len]; exact hl) (insIn_ok H (i := i) ha (show i < A.length by omega) hs)
    exact ⟨h1.trans h2.1, h2.2⟩
/-- With a lower bound in front, going further down changes nothing. -/
theorem insIn_low {a : Nat} : ∀ (j : Nat) (A : List E), a ≤ j → j < A.length → (0 < a → ∀ p, a ≤ p → p ≤ j → lt (ge A p) (ge A (a - 1)) = false) → insIn lt 0 j A = insIn lt a j A
  | 0, A, ha, hl, h => rfl
  | j + 1, A, ha, hl, h => by
    unfold insIn
    by_cases e : a = j + 1
    · subst e
      have := h (by omega) (j + 1) (Nat.le_refl _) (Nat.le_refl _)
      rw [show j + 1 - 1 = j by omega] at this
      rw [if_neg (by rw [this]; simp), if_neg (by omega)]
    · by_cases e2 : lt (ge A (j + 1)) (ge A j) = true
      · rw [if_pos ⟨by omega, e2⟩, if_pos ⟨by omega, e2⟩]
        refine insIn_low j _ (by omega) (by rw [swp_len]; omega) fun h0 p h1 h2 => ?_
        have g := fun k => ge_swp (A := A) (i := j + 1) (j := j) (by omega) (by omega) k
        rw [g, g, if_neg (show ¬ a - 1 = j by omega), if_neg (show ¬ a - 1 = j + 1 by omega)]
        split
        · exact h h0 (j + 1) (by omega) (Nat.le_refl _)
        · rw [if_neg (by omega)]; exact h h0 p h1 (by omega)
      · rw [if_neg (fun hh => e2 hh.2), if_neg (fun hh => e2 hh.2)]
/-- Children are not above their parents, from node lo on. -/
def Hp (lt : E → E → Bool) (f lo hi : Nat) (A : List E) : Prop := ∀ i c, lo ≤ i → (c = 2 * i + 1 ∨ c = 2 * i + 2) → c < hi → lt (ge A (f + i)) (ge A (f + c)) = false
def sift (lt : E → E → Bool) (f hi : Nat) : Nat → Nat → List E → List E
  | 0, _, A => A
  | k + 1, root, A =>
    if hi ≤ 2 * root + 1 then A else
    let c := if 2 * root + 2 < hi ∧ lt (ge A (f + (2 * root + 1))) (ge A (f + (2 * root + 2))) = true then 2 * root + 2 else 2 * root + 1
    if lt (ge A (f + root)) (ge A (f + c)) = true then sift lt f hi k c (swp A (f + root) (f + c)) else A
theorem sift_rp {f hi : Nat} : ∀ (k root : Nat) (A : List E), root < hi → f + hi ≤ A.length → RP f (f + hi) A (sift lt f hi k root A)
  | 0, root, A, hr, hl => RP.refl _ _ _
  | k + 1, root, A, hr, hl => by
    unfold sift
    split
    · exact RP.refl _ _ _
    · simp only
      generalize hc : (if 2 * root + 2 < hi ∧ lt (ge A (f + (2 * root + 1))) (ge A (f + (2 * root + 2))) = true then 2 * root + 2 else 2 * root + 1) = c
      have hcl : c < hi := by rw [← hc]; split <;> omega
      split
      · exact (RP.swap ⟨by omega, by omega⟩ ⟨by omega, by omega⟩ hl).trans (sift_rp k c _ hcl (by rw [swp_len]; exact hl))
      · exact RP.refl _ _ _
include H in
/-- All from lo on are right but the root, whose parent is above its children. -/
theorem sift_hp {f lo hi : Nat} : ∀ (k root : Nat) (A : List E), hi - root ≤ k → lo ≤ root → root < hi → f + hi ≤ A.length →
    (∀ i c, lo ≤ i → i ≠ root → (c = 2 * i + 1 ∨ c = 2 * i + 2) → c < hi → lt (ge A (f + i)) (ge A (f + c)) = false) →
    (∀ p c, lo ≤ p → (root = 2 * p + 1 ∨ root = 2 * p + 2) → (c = 2 * root + 1 ∨ c = 2 * root + 2) → c < hi → lt (ge A (f + p)) (ge A (f + c)) = false) → Hp lt f lo hi (sift lt f hi k root A)
  | 0, root, A, hk, hlo, hr, hl, h1, h2 => by omega
  | k + 1, root, A, hk, hlo, hr, hl, h1, h2 => by
    unfold sift
    split
    · rename_i h0
      intro i c hi1 hc hch
      by_cases e : i = root
      · omega
      · exact h1 i c hi1 e hc hch
    · rename_i h0
      simp only
      -- the greater child
      have hcc : ∃ c, (if 2 * root + 2 < hi ∧ lt (ge A (f + (2 * root + 1))) (ge A (f + (2 * root + 2))) = true then 2 * root + 2 else 2 * root + 1) = c ∧ (c = 2 * root + 1 ∨ c = 2 * root + 2) ∧ c < hi ∧ ∀ c', (c' = 2 * root + 1 ∨ c' = 2 * root + 2) → c' < hi → lt (ge A (f + c)) (ge A (f + c')) = false := by
        split
        · rename_i hh
          refine ⟨_, rfl, .inr rfl, by omega, fun c' hc' hl' => ?_⟩
          rcases hc' with rfl | rfl
          · exact H.asym _ _ hh.2
          · exact H.irr _
        · rename_i hh
          refine ⟨_, rfl, .inl rfl, by omega, fun c' hc' hl' => ?_⟩
          rcases hc' with rfl | rfl
          · exact H.irr _
          · cases e : lt (ge A (f + (2 * root + 1))) (ge A (f + (2 * root + 2))) with
            | false => rfl
            | true => exact absurd ⟨hl', e⟩ hh
      obtain ⟨c, hc, hc1, hc2, hc3⟩ := hcc
      rw [hc]
      have g := fun j => ge_swp (A := A) (i := f + root) (j := f + c) (by omega) (by omega) j
      split
      · rename_i hlt
        refine sift_hp k c _ (by omega) (by omega) hc2 (by rw [swp_len]; exact hl) (fun i c' hi1 hne hcc' hl' => ?_) (fun p c' hp1 hpc hcc' hl' => ?_)
        · rw [g, g]
          by_cases e1 : i = root
          · subst e1
            rw [if_neg (by omega), if_pos rfl]
            by_cases e2 : c' = c
            · subst e2; rw [if_pos rfl]; exact H.asym _ _ hlt
            · rw [if_neg (by omega), if_neg (by omega)]
              exact hc3 c' hcc' hl'
          · rw [if_neg (by omega), if_neg (by omega)]
            by_cases e2 : c' = c
            · omega
            · rw [if_neg (by omega)]
              by_cases e3 : c' = root
              · subst e3
                rw [if_pos rfl]
                exact h2 i c hi1 hcc' hc1 hc2
              · rw [if_neg (by omega)]
                exact h1 i c' hi1 e1 hcc' hl'
        · have hpr : p = root := by omega
          subst hpr
          rw [g, g, if_neg (by omega), if_pos rfl, if_neg (by omega), if_neg (by omega)]
          exact h1 c c' (by omega) (by omega) hcc' hl'
      · rename_i hlt
        intro i c' hi1 hcc' hl'
        by_cases e : i = root
        · subst e
          have hf : lt (ge A (f + i)) (ge A (f + c)) = false := by
            cases e : lt (ge A (f + i)) (ge A (f + c)) with
            | false => rfl
            | true => exact absurd e hlt
          exact H.trans _ _ _ (hc3 c' hcc' hl') hf |> fun h => by
            exact H.trans (ge A (f + c')) (ge A (f + c)) (ge A (f + i)) (hc3 c' hcc' hl') hf
        · exact h1 i c' hi1 e hcc' hl'
include H in
theorem Hp.top {f hi : Nat} {A : List E} (h : Hp lt f 0 hi A) : ∀ (i : Nat), i < hi → lt (ge A f) (ge A (f + i)) = false := by
  intro i
  induction i using Nat.strongRecOn with
  | _ i ih =>
    intro hi1
    by_cases e : i = 0
    · subst e; exact H.irr _
    · have h1 := ih ((i - 1) / 2) (by omega) (by omega)
      have h2 := h ((i - 1) / 2) i (Nat.zero_le _) (by omega) hi1
      exact H.trans _ _ _ h2 h1
def hpA (lt : E → E → Bool) (f n : Nat) : Nat → List E → List E
  | 0, A => sift lt f n n 0 A
  | i + 1, A => hpA lt f n i (sift lt f n n (i + 1) A)
def hpB (lt : E → E → Bool) (f : Nat) : Nat → List E → List E
  | 0, A => A
  | i + 1, A => hpB lt f i (sift lt f i i 0 (swp A f (f + i)))
include H in
theorem hpA_ok {f n : Nat} : ∀ (i : Nat) (A : List E), i < n → f + n ≤ A.length → Hp lt f (i + 1) n A → RP f (f + n) A (hpA lt f n i A) ∧ Hp lt f 0 n (hpA lt f n i A)
  | 0, A, hi, hl, h => ⟨sift_rp n 0 A hi hl, sift_hp H n 0 A (by omega) (Nat.le_refl _) hi hl (fun i c h1 h2 h3 h4 => h i c (by omega) h3 h4) (fun p c h1 h2 h3 h4 => by omega)⟩
  | i + 1, A, hi, hl, h => by
    have h1 := sift_rp (lt := lt) n (i + 1) A hi hl
    have h2 := sift_hp H (lo := i + 1) n (i + 1) A (by omega) (Nat.le_refl _) hi hl (fun j c g1 g2 g3 g4 => h j c (by omega) g3 g4) (fun p c g1 g2 g3 g4 => by omega)
    have h3 := hpA_ok i _ (by omega) (by rw [h1.len]; exact hl) h2
    exact ⟨h1.trans h3.1, h3.2⟩
include H in
theorem hpB_ok {f n : Nat} : ∀ (i : Nat) (A : List E), i ≤ n → f + n ≤ A.length → Hp lt f 0 i A → Sd lt (f + i) (f + n) A → (∀ p q, f ≤ p → p < f + i → f + i ≤ q → q < f + n → lt (ge A q) (ge A p) = false) →
    RP f (f + n) A (hpB lt f i A) ∧ Sd lt f (f + n) (hpB lt f i A)
  | 0, A, hi, hl, hh, hs, hle => ⟨RP.refl _ _ _, hs⟩
  | i + 1, A, hi, hl, hh, hs, hle => by
    have r1 : RP f (f + (i + 1)) A (swp A f (f + i)) := RP.swap ⟨by omega, by omega⟩ ⟨by omega, by omega⟩ (by omega)
    have g := fun j => ge_swp (A := A) (i := f) (j := f + i) (by omega) (by omega) j
    by_cases h0 : i = 0
    · subst h0
      have r2 : sift lt f 0 0 0 (swp A f (f + 0)) = swp A f (f + 0) := rfl
      have e1 : ∀ j, ge (swp A f (f + 0)) j = ge A j := by
        intro j
        rw [g]
        by_cases e : j = f
        · subst e; simp
        · rw [if_neg (by omega), if_neg e]
      refine ⟨(r1.mono (Nat.le_refl _) (by omega)), fun p q h1 h2 h3 => ?_⟩
      show lt (ge (swp A f (f + 0)) q) (ge (swp A f (f + 0)) p) = false
      rw [e1, e1]
      by_cases e : p = f
      · subst e; exact hle p q h1 (by omega) (by omega) h3
      · exact hs p q (by omega) h2 h3
    · have r2 := sift_rp (lt := lt) (f := f) (hi := i) i 0 (swp A f (f + i)) (by omega) (by rw [swp_len]; omega)
      have hnode : ∀ j c, 0 ≤ j → j ≠ 0 → (c = 2 * j + 1 ∨ c = 2 * j + 2) → c < i → lt (ge (swp A f (f + i)) (f + j)) (ge (swp A f (f + i)) (f + c)) = false := by
        intro j c _ hj hc hci
        rw [g, g, if_neg (by omega), if_neg (by omega), if_neg (by omega), if_neg (by omega)]
        exact hh j c (Nat.zero_le _) hc (by omega)
      have h2 := sift_hp H (f := f) (lo := 0) (hi := i) i 0 (swp A f (f + i)) (by omega) (Nat.le_refl _) (by omega) (by rw [swp_len]; omega) hnode (fun p c g1 g2 => by omega)
      have hmax := hh.top H
      have hout : ∀ q, f + i ≤ q → ge (sift lt f i i 0 (swp A f (f + i))) q = ge (swp A f (f + i)) q := fun q hq => r2.out q (by omega)
      have hs2 : Sd lt (f + i) (f + n) (sift lt f i i 0 (swp A f (f + i))) := by
        intro p q h3 h4 h5
        rw [hout p h3, hout q (by omega), g, g, if_neg (show ¬ q = f + i by omega), if_neg (show ¬ q = f by omega)]
        by_cases e : p = f + i
        · rw [if_pos e]; exact hle f q (Nat.le_refl _) (by omega) (by omega) h5
        · rw [if_neg e, if_neg (by omega)]; exact hs p q (by omega) h4 h5
      have hle2 : ∀ p q, f ≤ p → p < f + i → f + i ≤ q → q < f + n → lt (ge (sift lt f i i 0 (swp A f (f + i))) q) (ge (sift lt f i i 0 (swp A f (f + i))) p) = false := by
        intro p q h3 h4 h5 h6
        rw [hout q h5]
        refine r2.all (fun x => lt (ge (swp A f (f + i)) q) x = false) (fun k g1 g2 => ?_) p h3 h4
        rw [g, g]
        by_cases e : q = f + i
        · rw [if_pos e, if_neg (show ¬ k = f + i by omega)]
          split
          · have := hmax i (by omega); exact this
          · have := hmax (k - f) (by omega)
            rwa [show f + (k - f) = k by omega] at this
        · rw [if_neg e, if_neg (show ¬ q = f by omega), if_neg (show ¬ k = f + i by omega)]
          split
          · exact hle (f + i) q (by omega) (by omega) (by omega) h6
          · exact hle k q g1 (by omega) (by omega) h6
      have h3 := hpB_ok i _ (by omega) (by rw [r2.len, swp_len]; exact hl) h2 hs2 hle2
      exact ⟨((r1.mono (Nat.le_refl _) (by omega)).trans (r2.mono (Nat.le_refl _) (by omega))).trans h3.1, h3.2⟩
def upI (q : E → Bool) (A : List E) : Nat → Nat → Nat → Nat
  | 0, i, _ => i
  | k + 1, i, j => if i ≤ j ∧ q (ge A i) = true then upI q A k (i + 1) j else i
def dnJ (q : E → Bool) (A : List E) : Nat → Nat → Nat → Nat
  | 0, _, j => j
  | k + 1, i, j => if i ≤ j ∧ q (ge A j) = true then dnJ q A k i (j - 1) else j
theorem upI_ok {q : E → Bool} {A : List E} : ∀ (k i j : Nat), j + 1 - i ≤ k → i ≤ j + 1 → i ≤ upI q A k i j ∧ upI q A k i j ≤ j + 1 ∧ (∀ p, i ≤ p → p < upI q A k i j → q (ge A p) = true) ∧ (upI q A k i j ≤ j → q (ge A (upI q A k i j)) = false)
  | 0, i, j, hk, hi => ⟨Nat.le_refl _, hi, fun p h1 h2 => by simp only [upI] at h2; omega, fun h => by simp only [upI] at h; omega⟩
  | k + 1, i, j, hk, hi => by
    unfold upI
    split
    · rename_i h
      obtain ⟨a1, a2, a3, a4⟩ := upI_ok (q := q) (A := A) k (i + 1) j (by omega) (by omega)
      refine ⟨by omega, a2, fun p h1 h2 => ?_, a4⟩
      by_cases e : p = i
      · subst e; exact h.2
      · exact a3 p (by omega) h2
    · rename_i h
      refine ⟨Nat.le_refl _, hi, fun p h1 h2 => by omega, fun hij => ?_⟩
      cases e : q (ge A i) with
      | false => rfl
      | true => exact absurd ⟨hij, e⟩ h
theorem dnJ_ok {q : E → Bool} {A : List E} : ∀ (k i j : Nat), j + 1 - i ≤ k → i ≤ j + 1 → 1 ≤ i → dnJ q A k i j ≤ j ∧ i ≤ dnJ q A k i j + 1 ∧ (∀ p, dnJ q A k i j < p → p ≤ j → q (ge A p) = true) ∧ (i ≤ dnJ q A k i j → q (ge A (dnJ q A k i j)) = false)
  | 0, i, j, hk, hi, h1 => ⟨Nat.le_refl _, hi, fun p g1 g2 => by simp only [dnJ] at g1; omega, fun h => by simp only [dnJ] at h; omega⟩
  | k + 1, i, j, hk, hi, h1 => by
    unfold dnJ
    split
    · rename_i h
      obtain ⟨a1, a2, a3, a4⟩ := dnJ_ok (q := q) (A := A) k i (j - 1) (by omega) (by omega) h1
      refine ⟨by omega, a2, fun p g1 g2 => ?_, a4⟩
      by_cases e : p = j
      · subst e; exact h.2
      · exact a3 p g1 (by omega)
    · rename_i h
      refine ⟨Nat.le_refl _, hi, fun p g1 g2 => by omega, fun hij => ?_⟩
      cases e : q (ge A j) with
      | false => rfl
      | true => exact absurd ⟨hij, e⟩ h
/-- The loop of a partition: u is asked from the left, v from the right. -/
def prt (u v : E → E → Bool) (a : Nat) : Nat → Nat → Nat → List E → Nat × Nat × List E
  | 0, i, j, A => (i, j, A)
  | k + 1, i, j, A =>
    let i' := upI (u (ge A a)) A (j + 1 - i) i j
    let j' := dnJ (v (ge A a)) A (j + 1 - i') i' j
    if j' < i' then (i', j', A) else prt u v a k (i' + 1) (j' - 1) (swp A i' j')
theorem prt_ok {u v : E → E → Bool} (huv : ∀ x y, v x y = !u x y) {a b : Nat} : ∀ (k i j : Nat) (A : List E), j + 1 - i < k → a + 1 ≤ i → i ≤ j + 1 → j < b → b ≤ A.length →
    (∀ p, a < p → p < i → u (ge A a) (ge A p) = true) → (∀ p, j < p → p < b → u (ge A a) (ge A p) = false) →
    RP (a + 1) b A (prt u v a k i j A).2.2 ∧ (prt u v a k i j A).1 = (prt u v a k i j A).2.1 + 1 ∧ a ≤ (prt u v a k i j A).2.1 ∧ (prt u v a k i j A).2.1 < b ∧
      (∀ p, a < p → p ≤ (prt u v a k i j A).2.1 → u (ge A a) (ge (prt u v a k i j A).2.2 p) = true) ∧ (∀ p, (prt u v a k i j A).2.1 < p → p < b → u (ge A a) (ge (prt u v a k i j A).2.2 p) = false)
  | 0, i, j, A, hk, hi, hij, hj, hb, h1, h2 => by omega
  | k + 1, i, j, A, hk, hi, hij, hj, hb, h1, h2 => by
    obtain ⟨a1, a2, a3, a4⟩ := upI_ok (q := u (ge A a)) (A := A) (j + 1 - i) i j (Nat.le_refl _) hij
    obtain ⟨b1, b2, b3, b4⟩ := dnJ_ok (q := v (ge A a)) (A := A) (j + 1 - upI (u (ge A a)) A (j + 1 - i) i j) (upI (u (ge A a)) A (j + 1 - i) i j) j (Nat.le_refl _) a2 (by omega)
    unfold prt
    simp only
    generalize hI : upI (u (ge A a)) A (j + 1 - i) i j = i' at *
    generalize hJ : dnJ (v (ge A a)) A (j + 1 - i') i' j = j' at *
    have f1 : ∀ p, a < p → p < i' → u (ge A a) (ge A p) = true := fun p g1 g2 => by
      by_cases e : p < i
      · exact h1 p g1 e
      · exact a3 p (by omega) g2
    have f2 : ∀ p, j' < p → p < b → u (ge A a) (ge A p) = false := fun p g1 g2 => by
      by_cases e : p ≤ j
      · have := b3 p g1 e; rw [huv] at this; simpa using this
      · exact h2 p (by omega) g2
    split
    · rename_i hlt
      have : i' = j' + 1 := by omega
      show RP (a + 1) b A A ∧ i' = j' + 1 ∧ a ≤ j' ∧ j' < b ∧ (∀ p, a < p → p ≤ j' → u (ge A a) (ge A p) = true) ∧ (∀ p, j' < p → p < b → u (ge A a) (ge A p) = false)
      exact ⟨RP.refl _ _ _, this, by omega, by omega, fun p g1 g2 => f1 p g1 (by omega), f2⟩
    · rename_i hlt
      have c1 := a4 (by omega)
      have c2 := b4 (by omega)
      rw [huv] at c2
      have hne : i' ≠ j' := by
        rintro rfl
        rw [c1] at c2; exact absurd c2 (by decide)
      have g := fun m => ge_swp (A := A) (i := i') (j := j') (by omega) (by omega) m
      have gA : ge (swp A i' j') a = ge A a := by rw [g, if_neg (by omega), if_neg (by omega)]
      have r := prt_ok huv (a := a) (b := b) k (i' + 1) (j' - 1) (swp A i' j') (by omega) (by omega) (by omega) (by omega) (by rw [swp_len]; exact hb) (fun p g1 g2 => by
        rw [gA, g]
        by_cases e : p = i'
        · rw [if_neg (by omega), if_pos e]; simpa using c2
        · rw [if_neg (by omega), if_neg e]; exact f1 p g1 (by omega)) (fun p g1 g2 => by
        rw [gA, g]
        by_cases e : p = j'
        · rw [if_pos e]; exact c1
        · rw [if_neg e, if_neg (by omega)]; exact f2 p (by omega) g2)
      rw [gA] at r
      exact ⟨(RP.swap ⟨by omega, by omega⟩ ⟨by omega, by omega⟩ hb).trans r.1, r.2⟩
def scanI (lt : E → E → Bool) (A : List E) (b : Nat) : Nat → Nat → Nat
  | 0, i => i
  | k + 1, i => if i < b ∧ lt (ge A i) (ge A (i - 1)) = false then scanI lt A b k (i + 1) else i
def insUp (lt : E → E → Bool) : Nat → Nat → List E → List E
  | 0, _, A => A
  | r + 1, j, A => if lt (ge A j) (ge A (j - 1)) = true then insUp lt r (j + 1) (swp A j (j - 1)) else A
def pins (lt : E → E → Bool) (a b : Nat) : Nat → Nat → List E → Bool × List E
  | 0, _, A => (false, A)
  | s + 1, i, A =>
    let i' := scanI lt A b (b - i) i
    if i' = b then (true, A) else if b - a < 50 then (false, A) else
    let A1 := swp A i' (i' - 1)
    let A2 := if 2 ≤ i' - a then insIn lt 0 (i' - 1) A1 else A1
    let A3 := if 2 ≤ b - i' then insUp lt (b - (i' + 1)) (i' + 1) A2 else A2
    pins lt a b s i' A3
include H in
theorem scanI_ok {A : List E} {a b : Nat} : ∀ (k i : Nat), b - i ≤ k → a + 1 ≤ i → i ≤ b → Sd lt a i A → i ≤ scanI lt A b k i ∧ scanI lt A b k i ≤ b ∧ Sd lt a (scanI lt A b k i) A ∧ (scanI lt A b k i < b → lt (ge A (scanI lt A b k i)) (ge A (scanI lt A b k i - 1)) = true)
  | 0, i, hk, ha, hb, hs => ⟨Nat.le_refl _, hb, hs, fun h => by simp only [scanI] at h; omega⟩
  | k + 1, i, hk, ha, hb, hs => by
    unfold scanI
    split
    · rename_i h
      have hs2 : Sd lt a (i + 1) A := by
        intro p q h1 h2 h3
        by_cases e : q = i
        · subst e
          by_cases e2 : p = q - 1
          · rw [e2]; exact h.2
          · exact H.trans _ _ _ (hs p (q - 1) h1 (by omega) (by omega)) h.2
        · exact hs p q h1 h2 (by omega)
      obtain ⟨a1, a2⟩ := scanI_ok (a := a) (b := b) k (i + 1) (by omega) (by omega) (by omega) hs2
      exact ⟨by omega, a2⟩
    · rename_i h
      refine ⟨Nat.le_refl _, hb, hs, fun hib => ?_⟩
      cases e : lt (ge A i) (ge A (i - 1)) with
      | true => rfl
      | false => exact absurd ⟨hib, e⟩ h
theorem insUp_rp {i b : Nat} : ∀ (r j : Nat) (A : List E), i < j → j + r ≤ b → b ≤ A.length → RP i b A (insUp lt r j A)
  | 0, j, A, hi, hr, hl => RP.refl _ _ _
  | r + 1, j, A, hi, hr, hl => by
    unfold insUp
    split
    · exact (RP.swap ⟨by omega, by omega⟩ ⟨by omega, by omega⟩ hl).trans (insUp_rp r (j + 1) _ (by omega) (by omega) (by rw [swp_len]; exact hl))
    · exact RP.refl _ _ _
include H in
theorem pins_ok {a b : Nat} : ∀ (s i : Nat) (A : List E), a + 1 ≤ i → i ≤ b → b ≤ A.length → (0 < a → ∀ p, a ≤ p → p < b → lt (ge A p) (ge A (a - 1)) = false) → Sd lt a i A →
    RP a b A (pins lt a b s i A).2 ∧ ((pins lt a b s i A).1 = true → Sd lt a b (pins lt a b s i A).2)
  | 0, i, A, ha, hb, hl, hlow, hs => ⟨RP.refl _ _ _, fun h => by simp [pins] at h⟩
  | s + 1, i, A, ha, hb, hl, hlow, hs => by
    obtain ⟨a1, a2, a3, a4⟩ := scanI_ok H (b - i) i (Nat.le_refl _) ha hb hs
    unfold pins
    simp only
    generalize hI : scanI lt A b (b - i) i = i' at *
    split
    · rename_i e
      exact ⟨RP.refl _ _ _, fun _ => by rw [← e]; exact a3⟩
    · split
      · exact ⟨RP.refl _ _ _, fun h => absurd h (by simp)⟩
      · rename_i e1 e2
        have r1 : RP a b A (swp A i' (i' - 1)) := RP.swap ⟨by omega, by omega⟩ ⟨by omega, by omega⟩ hl
        have g := fun m => ge_swp (A := A) (i := i') (j := i' - 1) (by omega) (by omega) m
        have hlow1 : 0 < a → ∀ p, a ≤ p → p < b → lt (ge (swp A i' (i' - 1)) p) (ge (swp A i' (i' - 1)) (a - 1)) = false := fun h0 p h1 h2 => by
          rw [r1.out (a - 1) (by omega)]
          exact r1.all (fun x => lt x (ge A (a - 1)) = false) (fun k g1 g2 => hlow h0 k g1 g2) p h1 h2
        have hs1 : Sd lt a (i' - 1) (swp A i' (i' - 1)) := fun p q h1 h2 h3 => by
          rw [g, g, if_neg (by omega), if_neg (by omega), if_neg (by omega), if_neg (by omega)]
          exact a3 p q h1 h2 (by omega)
        have h2 : RP a b A (if 2 ≤ i' - a then insIn lt 0 (i' - 1) (swp A i' (i' - 1)) else swp A i' (i' - 1)) ∧ Sd lt a i' (if 2 ≤ i' - a then insIn lt 0 (i' - 1) (swp A i' (i' - 1)) else swp A i' (i' - 1)) := by
          split
          · rw [insIn_low (a := a) (i' - 1) (swp A i' (i' - 1)) (by omega) (by rw [swp_len]; omega) fun h0 p h1 h2 => hlow1 h0 p h1 (by omega)]
            refine ⟨r1.trans (insIn_rp (b := b) (i' - 1) (swp A i' (i' - 1)) (by omega) (by omega) (by rw [swp_len]; exact hl)), ?_⟩
            have := insIn_ok H (a := a) (i := i' - 1) (A := swp A i' (i' - 1)) (by omega) (by rw [swp_len]; omega) hs1
            rwa [show i' - 1 + 1 = i' by omega] at this
          · exact ⟨r1, fun p q h1 h2 h3 => by omega⟩
        generalize (if 2 ≤ i' - a then insIn lt 0 (i' - 1) (swp A i' (i' - 1)) else swp A i' (i' - 1)) = A2 at *
        have h3 : RP i' b A2 (if 2 ≤ b - i' then insUp lt (b - (i' + 1)) (i' + 1) A2 else A2) := by
          split
          · exact insUp_rp _ _ _ (by omega) (by omega) (by rw [h2.1.len]; exact hl)
          · exact RP.refl _ _ _
        generalize (if 2 ≤ b - i' then insUp lt (b - (i' + 1)) (i' + 1) A2 else A2) = A3 at *
        have h4 : RP a b A A3 := h2.1.trans (h3.mono (by omega) (Nat.le_refl _))
        have h5 := pins_ok (a := a) (b := b) s i' A3 (by omega) (by omega) (by rw [h4.len]; exact hl) (fun h0 p g1 g2 => by
          rw [h4.out (a - 1) (by omega)]
          exact h4.all (fun x => lt x (ge A (a - 1)) = false) (fun k g1 g2 => hlow h0 k g1 g2) p g1 g2) (fun p q g1 g2 g3 => by
          rw [h3.out p (by omega), h3.out q (by omega)]
          exact h2.2 p q g1 g2 g3)
        exact ⟨h4.trans h5.1, h5.2⟩
/-- Below, at and above a place. -/
def Mid (lt : E → E → Bool) (a b m : Nat) (A : List E) : Prop := (∀ p, a ≤ p → p < m → lt (ge A m) (ge A p) = false) ∧ (∀ p, m < p → p < b → lt (ge A p) (ge A m) = false)
include H in
theorem prt_mid {a b : Nat} {A : List E} (hab : a < b) (hb : b ≤ A.length) : let r := prt (fun pv x => lt x pv) (fun pv x => !lt x pv) a (b - a + 1) (a + 1) (b - 1) A
    a ≤ r.2.1 ∧ r.2.1 < b ∧ RP a b A (swp r.2.2 r.2.1 a) ∧ Mid lt a b r.2.1 (swp r.2.2 r.2.1 a) := by
  intro r
  obtain ⟨h1, h2, h3, h4, h5, h6⟩ := prt_ok (u := fun pv x => lt x pv) (v := fun pv x => !lt x pv) (fun _ _ => rfl) (a := a) (b := b) (b - a + 1) (a + 1) (b - 1) A (by omega) (by omega) (by omega) (by omega) hb (fun p g1 g2 => by omega) (fun p g1 g2 => by omega)
  have hr : r = prt (fun pv x => lt x pv) (fun pv x => !lt x pv) a (b - a + 1) (a + 1) (b - 1) A := rfl
  rw [← hr] at h1 h2 h3 h4 h5 h6
  clear_value r
  have hl := h1.len
  have g := fun m => ge_swp (A := r.2.2) (i := r.2.1) (j := a) (by omega) (by omega) m
  have hpa : ge r.2.2 a = ge A a := h1.out a (by omega)
  refine ⟨h3, h4, (h1.mono (by omega) (Nat.le_refl _)).trans (RP.swap ⟨h3, h4⟩ ⟨by omega, by omega⟩ (by omega)), ?_, ?_⟩
  · intro p g1 g2
    have gm : ge (swp r.2.2 r.2.1 a) r.2.1 = ge A a := by
      rw [g]
      by_cases e : r.2.1 = a
      · rw [if_pos e, e]; exact hpa
      · rw [if_neg e, if_pos rfl]; exact hpa
    rw [gm, g]
    by_cases e : p = a
    · rw [if_pos e]
      exact H.asym _ _ (h5 r.2.1 (by omega) (Nat.le_refl _))
    · rw [if_neg e, if_neg (by omega)]
      exact H.asym _ _ (h5 p (by omega) (by omega))
  · intro p g1 g2
    have gm : ge (swp r.2.2 r.2.1 a) r.2.1 = ge A a := by
      rw [g]
      by_cases e : r.2.1 = a
      · rw [if_pos e, e]; exact hpa
      · rw [if_neg e, if_pos rfl]; exact hpa
    rw [gm, g, if_neg (by omega), if_neg (by omega)]
    exact h6 p g1 g2
include H in
theorem glue {a b m : Nat} {A B : List E} (hm : a ≤ m ∧ m < b) (hM : Mid lt a b m A) (h1 : RP a m A B) (h2 : Sd lt a m B) {C : List E} (h3 : RP (m + 1) b B C) (h4 : Sd lt (m + 1) b C) : RP a b A C ∧ Sd lt a b C := by
  refine ⟨(h1.mono (Nat.le_refl _) (by omega)).trans (h3.mono (by omega) (Nat.le_refl _)), fun p q g1 g2 g3 => ?_⟩
  have eB : ge B m = ge A m := h1.out m (by omega)
  have eC : ge C m = ge A m := (h3.out m (by omega)).trans eB
  have low : ∀ p, a ≤ p → p < m → lt (ge A m) (ge C p) = false := fun p k1 k2 => by
    rw [h3.out p (by omega)]
    exact h1.all (fun x => lt (ge A m) x = false) (fun k j1 j2 => hM.1 k j1 j2) p k1 k2
  have high : ∀ q, m < q → q < b → lt (ge C q) (ge A m) = false := fun q k1 k2 =>
    h3.all (fun x => lt x (ge A m) = false) (fun k j1 j2 => by rw [h1.out k (by omega)]; exact hM.2 k (by omega) j2) q (by omega) k2
  by_cases e1 : q < m
  · rw [h3.out p (by omega), h3.out q (by omega)]; exact h2 p q g1 g2 e1
  · by_cases e2 : q = m
    · subst e2; rw [eC]; exact low p g1 g2
    · by_cases e3 : p < m
      · exact H.trans _ _ _ (low p g1 e3) (high q (by omega) g3)
      · by_cases e4 : p = m
        · subst e4; rw [eC]; exact high q g2 g3
        · exact h4 p q (by omega) g2 g3
include H in
theorem glue' {a b m : Nat} {A B : List E} (hm : a ≤ m ∧ m < b) (hM : Mid lt a b m A) (h1 : RP (m + 1) b A B) (h2 : Sd lt (m + 1) b B) {C : List E} (h3 : RP a m B C) (h4 : Sd lt a m C) : RP a b A C ∧ Sd lt a b C := by
  refine ⟨(h1.mono (by omega) (Nat.le_refl _)).trans (h3.mono (Nat.le_refl _) (by omega)), fun p q g1 g2 g3 => ?_⟩
  have eB : ge B m = ge A m := h1.out m (by omega)
  have eC : ge C m = ge A m := (h3.out m (by omega)).trans eB
  have low : ∀ p, a ≤ p → p < m → lt (ge A m) (ge C p) = false := fun p k1 k2 =>
    h3.all (fun x => lt (ge A m) x = false) (fun k j1 j2 => by rw [h1.out k (by omega)]; exact hM.1 k j1 j2) p k1 k2
  have high : ∀ q, m < q → q < b → lt (ge C q) (ge A m) = false := fun q k1 k2 => by
    rw [h3.out q (by omega)]
    exact h1.all (fun x => lt x (ge A m) = false) (fun k j1 j2 => hM.2 k (by omega) j2) q (by omega) k2
  by_cases e1 : q < m
  · exact h4 p q g1 g2 e1
  · by_cases e2 : q = m
    · subst e2; rw [eC]; exact low p g1 g2
    · by_cases e3 : p < m
      · exact H.trans _ _ _ (low p g1 e3) (high q (by omega) g3)
      · by_cases e4 : p = m
        · subst e4; rw [eC]; exact high q g2 g3
        · rw [h3.out p (by omega), h3.out q (by omega)]; exact h2 p q (by omega) g2 g3
include H in
/-- Elements equal to the pivot in front. -/
theorem prtE_ok {a b : Nat} {A : List E} (hab : a < b) (hb : b ≤ A.length) (hlow : ∀ p, a ≤ p → p < b → lt (ge A p) (ge A (a - 1)) = false) (h0 : 0 < a) (hpv : lt (ge A (a - 1)) (ge A a) = false) : let r := prt (fun pv x => !lt pv x) (fun pv x => lt pv x) a (b - a + 1) (a + 1) (b - 1) A
    a < r.1 ∧ r.1 ≤ b ∧ RP a b A r.2.2 ∧ (∀ p, r.1 ≤ p → p < b → lt (ge r.2.2 p) (ge r.2.2 (r.1 - 1)) = false) ∧ ∀ C, RP r.1 b r.2.2 C → Sd lt r.1 b C → Sd lt a b C := by
  intro r
  obtain ⟨h1, h2, h3, h4, h5, h6⟩ := prt_ok (u := fun pv x => !lt pv x) (v := fun pv x => lt pv x) (fun _ _ => by simp) (a := a) (b := b) (b - a + 1) (a + 1) (b - 1) A (by omega) (by omega) (by omega) (by omega) hb (fun p g1 g2 => by omega) (fun p g1 g2 => by omega)
  have hr : r = prt (fun pv x => !lt pv x) (fun pv x => lt pv x) a (b - a + 1) (a + 1) (b - 1) A := rfl
  rw [← hr] at h1 h2 h3 h4 h5 h6
  clear_value r
  have hpa : ge r.2.2 a = ge A a := h1.out a (by omega)
  have r0 : RP a b A r.2.2 := h1.mono (by omega) (Nat.le_refl _)
  -- not above the pivot, so all alike
  have up : ∀ p, a ≤ p → p < r.1 → lt (ge A a) (ge r.2.2 p) = false := fun p g1 g2 => by
    by_cases e : p = a
    · rw [e, hpa]; exact H.irr _
    · have := h5 p (by omega) (by omega)
      simpa using this
  have dn : ∀ p, a ≤ p → p < b → lt (ge r.2.2 p) (ge A (a - 1)) = false := fun p g1 g2 => r0.all (fun x => lt x (ge A (a - 1)) = false) hlow p g1 g2
  have ab : ∀ p, r.1 ≤ p → p < b → lt (ge A a) (ge r.2.2 p) = true := fun p g1 g2 => by
    have := h6 p (by omega) g2
    simpa using this
  refine ⟨by omega, by omega, r0, fun p g1 g2 => ?_, fun C hC hS p q g1 g2 g3 => ?_⟩
  · exact H.trans _ _ _ (up (r.1 - 1) (by omega) (by omega)) (H.asym _ _ (ab p g1 g2))
  · have abC : ∀ p, r.1 ≤ p → p < b → lt (ge A a) (ge C p) = true := fun p k1 k2 => hC.all (fun x => lt (ge A a) x = true) ab p k1 k2
    by_cases e1 : q < r.1
    · rw [hC.out p (by omega), hC.out q (by omega)]
      -- p ≤ pivot ≤ low ≤ q
      exact H.trans _ _ _ (H.trans _ _ _ (up p g1 (by omega)) hpv) (dn q (by omega) (by omega))
    · by_cases e2 : p < r.1
      · rw [hC.out p (by omega)]
        exact H.trans _ _ _ (up p g1 e2) (H.asym _ _ (abC q (by omega) g3))
      · exact hS p q (by omega) g2 g3
end
end Go.D.Srt
end
