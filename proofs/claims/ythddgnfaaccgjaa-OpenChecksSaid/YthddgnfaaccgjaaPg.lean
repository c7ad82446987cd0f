/- OpenChecks: for every component and every run the law answers true and leaves its arguments as they were: the given statement, without conditions. -/
import Derived.Test.YthddgnfaaccgjaaPc
import Derived.Test.YthddgnfaaccgjaaPd
import Derived.Test.YthddgnfaaccgjaaPf
import Derived.Test.YthddgnfaaccgjaaRows
import Derived.ProofKit
import Derived.SizedLaws
/- Equations of functions 10, 8, 42, printed by gen.py. -/
section
set_option linter.unusedVariables false
set_option maxRecDepth 10000
namespace Go.D
open _root_.Go.D.Code (fstC sndC)
open _root_.Go.D.Ann (left right)
noncomputable def c10_0 : Code := bodyOf Go.Proofs.Try.f10
noncomputable def a10_0 : Ann := (pol 10).ann
noncomputable def F10 (G : GuardT) (lo : Nat) (σ : Store) : Option (DV × Store) :=
 codeF G PP (pol 10) CC lo c10_0 a10_0 [ud, ud, ud, ud, ud, ud, ud, ud, ud, ud, ud, ud, ud, ud, ud, ud, ud, ud, ud, ud, ud, ud, ud, ud, ud, ud, ud, ud, ud, ud, ud, ud, ud, ud, ud, ud, ud, ud, ud, ud, ud, ud, ud, ud, ud, ud, ud, ud, ud, ud, ud, ud, ud, ud, ud, ud, ud, ud, ud, ud, ud, ud, ud, ud, ud, ud, ud, ud, ud, ud, ud, ud, ud, ud, ud, ud, ud, ud, ud, ud, ud, ud, ud, ud, ud, ud, ud, ud, ud, ud, ud, ud, ud, ud, ud] σ (finR PP Go.Proofs.Try.f10.results.toList)
theorem F10_eq (G : GuardT) (lo : Nat) (σ : Store) : F10 G lo σ =
 (pureFn CC (DV.fn 48 []) [] σ).bind fun x14 =>
 (pureFn CC (DV.fn 49 []) [] σ).bind fun x15 =>
 (pureFn CC (DV.fn 50 []) [] σ).bind fun x16 =>
 (pureFn CC (DV.fn 13 []) [x14, x15, x16] σ).bind fun x17 =>
 (extractV x17 0).bind fun x18 =>
 (extractV x17 1).bind fun x19 =>
 (zeroOf PP 33).bind fun z1 =>
 (store PP lo 33 (DV.ptr (List.length σ) 0) x18 (σ ++ [Row.mix z1])).bind fun σ1 =>
 (pureFn CC (DV.fn 48 []) [] σ1).bind fun x21 =>
 (pureFn CC (DV.fn 50 []) [] σ1).bind fun x22 =>
 (pureFn CC (DV.fn 38 []) [x22] σ1).bind fun x23 =>
 (pureFn CC (DV.fn 50 []) [] σ1).bind fun x24 =>
 (pureFn CC (DV.fn 13 []) [x21, x23, x24] σ1).bind fun x25 =>
 (extractV x25 0).bind fun x26 =>
 (extractV x25 1).bind fun x27 =>
 (zeroOf PP 33).bind fun z3 =>
 (store PP lo 33 (DV.ptr (List.length σ1) 0) x26 (σ1 ++ [Row.mix z3])).bind fun σ2 =>
 (pureFn CC (DV.fn 48 []) [] σ2).bind fun x29 =>
 (pureFn CC (DV.fn 48 []) [] σ2).bind fun x30 =>
 (pureFn CC (DV.fn 20 []) [x29, x30] σ2).bind fun x31 =>
 (extractV x31 0).bind fun x32 =>
 (extractV x31 1).bind fun x33 =>
 (extractV x31 2).bind fun x34 =>
 (zeroOf PP 47).bind fun z5 =>
 (store PP lo 47 (DV.ptr (List.length σ2) 0) x32 (σ2 ++ [Row.mix z5])).bind fun σ3 =>
 (pureFn CC (DV.fn 51 []) [] σ3).bind fun x36 =>
 (pureFn CC (DV.fn 45 []) [x36] σ3).bind fun x37 =>
 (extractV x37 0).bind fun x38 =>
 (extractV x37 1).bind fun x39 =>
 (zeroOf PP 88).bind fun z8 =>
 (store PP lo 88 (DV.ptr (List.length σ3) 0) x38 (σ3 ++ [Row.mix z8])).bind fun σ4 =>
 (pureFn CC (DV.fn 51 []) [] σ4).bind fun x40 =>
 (zeroOf PP 84).bind fun z10 =>
 (store PP lo 84 (DV.ptr (List.length σ4) 0) x40 (σ4 ++ [Row.mix z10])).bind fun σ5 =>
 (pureFn CC (DV.fn 49 []) [] σ5).bind fun x41 =>
 (fieldAddr PP 84 (DV.ptr (List.length σ4) 0) 2).bind fun x42 =>
 (store PP lo 27 x42 x41 σ5).bind fun σ6 =>
 (load PP 84 (DV.ptr (List.length σ4) 0) σ6).bind fun x44 =>
 (pureFn CC (DV.fn 45 []) [x44] σ6).bind fun x45 =>
 (extractV x45 0).bind fun x46 =>
 (extractV x45 1).bind fun x47 =>
 (zeroOf PP 88).bind fun z11 =>
 (store PP lo 88 (DV.ptr (List.length σ6) 0) x46 (σ6 ++ [Row.mix z11])).bind fun σ7 =>
 (binOp PP .neq 34 x19 (DV.p (PV.int IntKind.i64 (0)))).bind fun x49 =>
 G _ x49 false (some (x27, σ7)) σ7 fun x51 σ8 =>
 G _ x49 false ((binOp PP .neq 34 x51 (DV.p (PV.int IntKind.i64 (25)))).bind fun v => some (v, σ8)) σ8 fun x52 σ9 =>
 (pickV x49 (DV.p (PV.bool true)) x52).bind fun x53 =>
 G _ x53 false (some (x34, σ9)) σ9 fun x55 σ10 =>
 G _ x53 false ((binOp PP .neq 34 x55 (DV.p (PV.int IntKind.i64 (0)))).bind fun v => some (v, σ10)) σ10 fun x56 σ11 =>
 (pickV x53 (DV.p (PV.bool true)) x56).bind fun x57 =>
 G _ x57 false (some (x39, σ11)) σ11 fun x59 σ12 =>
 G _ x57 false ((binOp PP .neq 34 x59 (DV.p (PV.int IntKind.i64 (0)))).bind fun v => some (v, σ12)) σ12 fun x60 σ13 =>
 (pickV x57 (DV.p (PV.bool true)) x60).bind fun x61 =>
 G _ x61 false (some (x47, σ13)) σ13 fun x63 σ14 =>
 G _ x61 false ((binOp PP .neq 34 x63 (DV.p (PV.int IntKind.i64 (31)))).bind fun v => some (v, σ14)) σ14 fun x64 σ15 =>
 (pickV x61 (DV.p (PV.bool true)) x64).bind fun x65 =>
 G _ x65 false ((fieldAddr PP 88 (DV.ptr (List.length σ3) 0) 0).bind fun v => some (v, σ15)) σ15 fun x67 σ16 =>
 G _ x65 false ((load PP 3 x67 σ16).bind fun v => some (v, σ16)) σ16 fun x68 σ17 =>
 G _ x65 false ((binOp PP .neq 3 x68 (DV.p (PV.int IntKind.i64 (0)))).bind fun v => some (v, σ17)) σ17 fun x69 σ18 =>
 (pickV x65 (DV.p (PV.bool true)) x69).bind fun x70 =>
 G _ x70 false ((fieldAddr PP 88 (DV.ptr (List.length σ6) 0) 0).bind fun v => some (v, σ18)) σ18 fun x72 σ19 =>
 G _ x70 false ((load PP 3 x72 σ19).bind fun v => some (v, σ19)) σ19 fun x73 σ20 =>
 G _ x70 false ((binOp PP .neq 3 x73 (DV.p (PV.int IntKind.i64 (1)))).bind fun v => some (v, σ20)) σ20 fun x74 σ21 =>
 (pickV x70 (DV.p (PV.bool true)) x74).bind fun x75 =>
 condK x75
 (
 some ((DV.p (PV.bool false)), σ21)
 )
 (
 (load PP 33 (DV.ptr (List.length σ) 0) σ21).bind fun x76 =>
 (buildSlice PP none 22 3 [(0, (DV.p (PV.int IntKind.i64 (0)))), (1, (DV.p (PV.int IntKind.i64 (1)))), (2, (DV.p (PV.int IntKind.i64 (1))))] σ21).bind fun r77_22 =>
 (build PP 98 [(0, (DV.p (PV.int IntKind.i64 (1))))]).bind fun x78 =>
 (build PP 98 [(1, (DV.p (PV.int IntKind.i64 (1))))]).bind fun x79 =>
 (buildSlice PP none 31 2 [(0, x78), (1, x79)] r77_22.2).bind fun r80_23 =>
 (build PP 33 [(0, r77_22.1), (1, r80_23.1)]).bind fun x81 =>
 (pureFn CC (DV.fn 18 []) [x76, x81] r80_23.2).bind fun x82 =>
 G _ x82 true (some (x33, r80_23.2)) r80_23.2 fun x84 σ24 =>
 G _ x82 true ((buildSlice PP none 22 2 [(0, (DV.p (PV.int IntKind.i64 (0)))), (1, (DV.p (PV.int IntKind.i64 (0))))] σ24).bind fun r => some (r.1, r.2)) σ24 fun x85 σ25 =>
 G _ x82 true ((buildSlice PP none 48 1 [(0, x85)] σ25).bind fun r => some (r.1, r.2)) σ25 fun x86 σ26 =>
 G _ x82 true ((pureFn CC (DV.fn 23 []) [x84, x86] σ26).bind fun v => some (v, σ26)) σ26 fun x87 σ27 =>
 (pickV x82 x87 (DV.p (PV.bool false))).bind fun x88 =>
 G _ x88 true ((fieldAddr PP 47 (DV.ptr (List.length σ2) 0) 2).bind fun v => some (v, σ27)) σ27 fun x90 σ28 =>
 G _ x88 true ((load PP 45 x90 σ28).bind fun v => some (v, σ28)) σ28 fun x91 σ29 =>
 G _ x88 true ((len PP 45 x91 σ29).bind fun v => some (v, σ29)) σ29 fun x92 σ30 =>
 G _ x88 true ((binOp PP .eql 3 x92 (DV.p (PV.int IntKind.i64 (1)))).bind fun v => some (v, σ30)) σ30 fun x93 σ31 =>
 (pickV x88 x93 (DV.p (PV.bool false))).bind fun x94 =>
 some (x94, σ31)
 ) := by kernel_rfl
theorem F10_call {lo : Nat} {σ : Store} {r : DV × Store} (h : F10 guardT lo σ = some r) : CC lo 10 [] σ = some r :=
 callL_run Go.Proofs.Try.func10 (by decide +kernel) rfl (by decide +kernel) h
noncomputable def c8_0 : Code := bodyOf Go.Proofs.Try.f8
noncomputable def a8_0 : Ann := (pol 8).ann
noncomputable def F8 (G : GuardT) (lo : Nat) (x0 x1 x2 : DV) (σ : Store) : Option (DV × Store) :=
 codeF G PP (pol 8) CC lo c8_0 a8_0 [x0, x1, x2, ud, ud, ud, ud, ud, ud, ud, ud, ud, ud, ud, ud, ud, ud, ud, ud, ud, ud, ud, ud, ud, ud, ud, ud, ud, ud, ud, ud, ud, ud, ud, ud, ud, ud, ud, ud, ud, ud, ud, ud, ud, ud, ud, ud, ud, ud, ud, ud, ud, ud, ud, ud, ud, ud, ud, ud, ud, ud, ud, ud, ud, ud, ud, ud, ud, ud, ud, ud, ud, ud, ud, ud, ud, ud, ud, ud, ud, ud, ud, ud, ud, ud, ud] σ (finR PP Go.Proofs.Try.f8.results.toList)
theorem F8_eq (G : GuardT) (lo : Nat) (x0 x1 x2 : DV) (σ : Store) : F8 G lo x0 x1 x2 σ =
 (boxV x0).bind fun z3 =>
 (boxV x1).bind fun z4 =>
 (boxV x2).bind fun z5 =>
 (pureFn CC (DV.fn 10 []) [] (((σ ++ [Row.mix z3]) ++ [Row.mix z4]) ++ [Row.mix z5])).bind fun x9 =>
 (unOp .not x9).bind fun x10 =>
 condK x10
 (
 some ((DV.p (PV.bool false)), (((σ ++ [Row.mix z3]) ++ [Row.mix z4]) ++ [Row.mix z5]))
 )
 (
 (load PP 25 (DV.ptr (List.length σ) 0) (((σ ++ [Row.mix z3]) ++ [Row.mix z4]) ++ [Row.mix z5])).bind fun x11 =>
 (pureFn CC (DV.fn 11 []) [x11] (((σ ++ [Row.mix z3]) ++ [Row.mix z4]) ++ [Row.mix z5])).bind fun x12 =>
 (unOp .not x12).bind fun x13 =>
 G _ x13 false ((indexAddr PP 81 (DV.ptr (List.length (σ ++ [Row.mix z3])) 0) (DV.p (PV.int IntKind.i64 (0)))).bind fun v => some (v, (((σ ++ [Row.mix z3]) ++ [Row.mix z4]) ++ [Row.mix z5]))) (((σ ++ [Row.mix z3]) ++ [Row.mix z4]) ++ [Row.mix z5]) fun x15 σ1 =>
 G _ x13 false ((load PP 27 x15 σ1).bind fun v => some (v, σ1)) σ1 fun x16 σ2 =>
 G _ x13 false ((pureFn CC (DV.fn 12 []) [x16] σ2).bind fun v => some (v, σ2)) σ2 fun x17 σ3 =>
 G _ x13 false ((unOp .not x17).bind fun v => some (v, σ3)) σ3 fun x18 σ4 =>
 (pickV x13 (DV.p (PV.bool true)) x18).bind fun x19 =>
 G _ x19 false ((indexAddr PP 81 (DV.ptr (List.length (σ ++ [Row.mix z3])) 0) (DV.p (PV.int IntKind.i64 (1)))).bind fun v => some (v, σ4)) σ4 fun x21 σ5 =>
 G _ x19 false ((load PP 27 x21 σ5).bind fun v => some (v, σ5)) σ5 fun x22 σ6 =>
 G _ x19 false ((pureFn CC (DV.fn 12 []) [x22] σ6).bind fun v => some (v, σ6)) σ6 fun x23 σ7 =>
 G _ x19 false ((unOp .not x23).bind fun v => some (v, σ7)) σ7 fun x24 σ8 =>
 (pickV x19 (DV.p (PV.bool true)) x24).bind fun x25 =>
 G _ x25 false ((fieldAddr PP 33 (DV.ptr (List.length ((σ ++ [Row.mix z3]) ++ [Row.mix z4])) 0) 1).bind fun v => some (v, σ8)) σ8 fun x27 σ9 =>
 G _ x25 false ((load PP 31 x27 σ9).bind fun v => some (v, σ9)) σ9 fun x28 σ10 =>
 G _ x25 false ((len PP 31 x28 σ10).bind fun v => some (v, σ10)) σ10 fun x29 σ11 =>
 G _ x25 false ((binOp PP .gtr 3 x29 (DV.p (PV.int IntKind.i64 (20)))).bind fun v => some (v, σ11)) σ11 fun x30 σ12 =>
 (pickV x25 (DV.p (PV.bool true)) x30).bind fun x31 =>
 G _ x31 false ((fieldAddr PP 33 (DV.ptr (List.length ((σ ++ [Row.mix z3]) ++ [Row.mix z4])) 0) 0).bind fun v => some (v, σ12)) σ12 fun x33 σ13 =>
 G _ x31 false ((load PP 22 x33 σ13).bind fun v => some (v, σ13)) σ13 fun x34 σ14 =>
 G _ x31 false ((len PP 22 x34 σ14).bind fun v => some (v, σ14)) σ14 fun x35 σ15 =>
 G _ x31 false ((binOp PP .gtr 3 x35 (DV.p (PV.int IntKind.i64 (22)))).bind fun v => some (v, σ15)) σ15 fun x36 σ16 =>
 (pickV x31 (DV.p (PV.bool true)) x36).bind fun x37 =>
 G _ x37 false ((load PP 25 (DV.ptr (List.length σ) 0) σ16).bind fun v => some (v, σ16)) σ16 fun x39 σ17 =>
 G _ x37 false ((pureFn CC (DV.fn 16 []) [x39] σ17).bind fun v => some (v, σ17)) σ17 fun x40 σ18 =>
 G _ x37 false ((binOp PP .neq 3 x40 (DV.p (PV.int IntKind.i64 (0)))).bind fun v => some (v, σ18)) σ18 fun x41 σ19 =>
 (pickV x37 (DV.p (PV.bool true)) x41).bind fun x42 =>
 G _ x42 false ((indexAddr PP 81 (DV.ptr (List.length (σ ++ [Row.mix z3])) 0) (DV.p (PV.int IntKind.i64 (0)))).bind fun v => some (v, σ19)) σ19 fun x44 σ20 =>
 G _ x42 false ((load PP 27 x44 σ20).bind fun v => some (v, σ20)) σ20 fun x45 σ21 =>
 G _ x42 false ((pureFn CC (DV.fn 17 []) [x45] σ21).bind fun v => some (v, σ21)) σ21 fun x46 σ22 =>
 G _ x42 false ((binOp PP .neq 3 x46 (DV.p (PV.int IntKind.i64 (0)))).bind fun v => some (v, σ22)) σ22 fun x47 σ23 =>
 (pickV x42 (DV.p (PV.bool true)) x47).bind fun x48 =>
 G _ x48 false ((indexAddr PP 81 (DV.ptr (List.length (σ ++ [Row.mix z3])) 0) (DV.p (PV.int IntKind.i64 (1)))).bind fun v => some (v, σ23)) σ23 fun x50 σ24 =>
 G _ x48 false ((load PP 27 x50 σ24).bind fun v => some (v, σ24)) σ24 fun x51 σ25 =>
 G _ x48 false ((pureFn CC (DV.fn 17 []) [x51] σ25).bind fun v => some (v, σ25)) σ25 fun x52 σ26 =>
 G _ x48 false ((binOp PP .neq 3 x52 (DV.p (PV.int IntKind.i64 (0)))).bind fun v => some (v, σ26)) σ26 fun x53 σ27 =>
 (pickV x48 (DV.p (PV.bool true)) x53).bind fun x54 =>
 condK x54
 (
 some ((DV.p (PV.bool true)), σ27)
 )
 (
 (load PP 25 (DV.ptr (List.length σ) 0) σ27).bind fun x56 =>
 (pureFn CC (DV.fn 14 []) [x56] σ27).bind fun x57 =>
 (indexAddr PP 81 (DV.ptr (List.length (σ ++ [Row.mix z3])) 0) (DV.p (PV.int IntKind.i64 (0)))).bind fun x58 =>
 (load PP 27 x58 σ27).bind fun x59 =>
 (pureFn CC (DV.fn 15 []) [x59] σ27).bind fun x60 =>
 (indexAddr PP 81 (DV.ptr (List.length (σ ++ [Row.mix z3])) 0) (DV.p (PV.int IntKind.i64 (1)))).bind fun x61 =>
 (load PP 27 x61 σ27).bind fun x62 =>
 (pureFn CC (DV.fn 15 []) [x62] σ27).bind fun x63 =>
 (pureFn CC (DV.fn 13 []) [x57, x60, x63] σ27).bind fun x64 =>
 (extractV x64 0).bind fun x65 =>
 (extractV x64 1).bind fun x66 =>
 (zeroOf PP 33).bind fun z7 =>
 (store PP lo 33 (DV.ptr (List.length σ27) 0) x65 (σ27 ++ [Row.mix z7])).bind fun σ28 =>
 (binOp PP .eql 34 x66 (DV.p (PV.int IntKind.i64 (0)))).bind fun x68 =>
 condK x68
 (
 (load PP 25 (DV.ptr (List.length σ) 0) σ28).bind fun x69 =>
 (load PP 81 (DV.ptr (List.length (σ ++ [Row.mix z3])) 0) σ28).bind fun x70 =>
 (load PP 33 (DV.ptr (List.length σ27) 0) σ28).bind fun x71 =>
 (pureFn CC (DV.fn 42 []) [x69, x70, x71] σ28).bind fun x72 =>
 some (x72, σ28)
 )
 (
 (binOp PP .eql 34 x66 (DV.p (PV.int IntKind.i64 (25)))).bind fun x74 =>
 G _ x74 false (some (x66, σ28)) σ28 fun x76 σ29 =>
 G _ x74 false ((binOp PP .eql 34 x76 (DV.p (PV.int IntKind.i64 (2)))).bind fun v => some (v, σ29)) σ29 fun x77 σ30 =>
 (pickV x74 (DV.p (PV.bool true)) x77).bind fun x78 =>
 G _ x78 true ((load PP 25 (DV.ptr (List.length σ) 0) σ30).bind fun v => some (v, σ30)) σ30 fun x80 σ31 =>
 G _ x78 true ((load PP 81 (DV.ptr (List.length (σ ++ [Row.mix z3])) 0) σ31).bind fun v => some (v, σ31)) σ31 fun x81 σ32 =>
 G _ x78 true ((load PP 33 (DV.ptr (List.length ((σ ++ [Row.mix z3]) ++ [Row.mix z4])) 0) σ32).bind fun v => some (v, σ32)) σ32 fun x82 σ33 =>
 G _ x78 true ((pureFn CC (DV.fn 42 []) [x80, x81, x82] σ33).bind fun v => some (v, σ33)) σ33 fun x83 σ34 =>
 G _ x78 true ((unOp .not x83).bind fun v => some (v, σ34)) σ34 fun x84 σ35 =>
 (pickV x78 x84 (DV.p (PV.bool false))).bind fun x85 =>
 some (x85, σ35)
 )
 )
 ) := by kernel_rfl
theorem F8_call {lo : Nat} {x0 x1 x2 : DV} {σ : Store} {r : DV × Store} (h : F8 guardT lo x0 x1 x2 σ = some r) : CC lo 8 [x0, x1, x2] σ = some r :=
 callL_run Go.Proofs.Try.func8 (by decide +kernel) rfl (by decide +kernel) h
noncomputable def c42_0 : Code := bodyOf Go.Proofs.Try.f42
noncomputable def a42_0 : Ann := (pol 42).ann
noncomputable def F42 (G : GuardT) (lo : Nat) (x0 x1 x2 : DV) (σ : Store) : Option (DV × Store) :=
 codeF G PP (pol 42) CC lo c42_0 a42_0 [x0, x1, x2, ud, ud, ud, ud, ud, ud, ud, ud, ud, ud, ud, ud, ud, ud, ud, ud, ud, ud, ud, ud, ud, ud, ud, ud, ud, ud, ud, ud, ud, ud, ud, ud, ud, ud, ud, ud, ud, ud, ud, ud, ud, ud, ud, ud, ud, ud, ud, ud, ud, ud, ud, ud, ud, ud, ud, ud, ud, ud, ud, ud, ud, ud] σ (finR PP Go.Proofs.Try.f42.results.toList)
theorem F42_eq (G : GuardT) (lo : Nat) (x0 x1 x2 : DV) (σ : Store) : F42 G lo x0 x1 x2 σ =
 (boxV x0).bind fun z3 =>
 (boxV x1).bind fun z4 =>
 (boxV x2).bind fun z5 =>
 (fieldAddr PP 33 (DV.ptr (List.length ((σ ++ [Row.mix z3]) ++ [Row.mix z4])) 0) 1).bind fun x14 =>
 (load PP 31 x14 (((σ ++ [Row.mix z3]) ++ [Row.mix z4]) ++ [Row.mix z5])).bind fun x15 =>
 (len PP 31 x15 (((σ ++ [Row.mix z3]) ++ [Row.mix z4]) ++ [Row.mix z5])).bind fun x16 =>
 (binOp PP .sub 3 x16 (DV.p (PV.int IntKind.i64 (1)))).bind fun x17 =>
 (load PP 25 (DV.ptr (List.length σ) 0) (((σ ++ [Row.mix z3]) ++ [Row.mix z4]) ++ [Row.mix z5])).bind fun x19 =>
 (pureFn CC (DV.fn 14 []) [x19] (((σ ++ [Row.mix z3]) ++ [Row.mix z4]) ++ [Row.mix z5])).bind fun x20 =>
 (load PP 33 (DV.ptr (List.length ((σ ++ [Row.mix z3]) ++ [Row.mix z4])) 0) (((σ ++ [Row.mix z3]) ++ [Row.mix z4]) ++ [Row.mix z5])).bind fun x21 =>
 (pureFn CC (DV.fn 31 []) [x21] (((σ ++ [Row.mix z3]) ++ [Row.mix z4]) ++ [Row.mix z5])).bind fun x22 =>
 (pureFn CC (DV.fn 30 []) [x20, x22] (((σ ++ [Row.mix z3]) ++ [Row.mix z4]) ++ [Row.mix z5])).bind fun x23 =>
 (extractV x23 0).bind fun x24 =>
 (extractV x23 1).bind fun x25 =>
 (binOp PP .neq 34 x25 (DV.p (PV.int IntKind.i64 (0)))).bind fun x27 =>
 G _ x27 false (some (x17, (((σ ++ [Row.mix z3]) ++ [Row.mix z4]) ++ [Row.mix z5]))) (((σ ++ [Row.mix z3]) ++ [Row.mix z4]) ++ [Row.mix z5]) fun x29 σ1 =>
 G _ x27 false ((binOp PP .lss 3 x29 (DV.p (PV.int IntKind.i64 (0)))).bind fun v => some (v, σ1)) σ1 fun x30 σ2 =>
 (pickV x27 (DV.p (PV.bool true)) x30).bind fun x31 =>
 condK x31
 (
 some ((DV.p (PV.bool false)), σ2)
 )
 (
 (indexAddr PP 81 (DV.ptr (List.length (σ ++ [Row.mix z3])) 0) (DV.p (PV.int IntKind.i64 (0)))).bind fun x33 =>
 (load PP 27 x33 σ2).bind fun x34 =>
 (pureFn CC (DV.fn 15 []) [x34] σ2).bind fun x35 =>
 (fieldAddr PP 33 (DV.ptr (List.length ((σ ++ [Row.mix z3]) ++ [Row.mix z4])) 0) 1).bind fun x36 =>
 (load PP 31 x36 σ2).bind fun x37 =>
 (sliceOp PP 31 x37 none (some x17) none).bind fun x39 =>
 (pureFn CC (DV.fn 35 []) [x39] σ2).bind fun x40 =>
 (pureFn CC (DV.fn 34 []) [x35, x40] σ2).bind fun x41 =>
 (extractV x41 0).bind fun x42 =>
 (extractV x41 1).bind fun x43 =>
 (indexAddr PP 81 (DV.ptr (List.length (σ ++ [Row.mix z3])) 0) (DV.p (PV.int IntKind.i64 (1)))).bind fun x45 =>
 (load PP 27 x45 σ2).bind fun x46 =>
 (pureFn CC (DV.fn 15 []) [x46] σ2).bind fun x47 =>
 (fieldAddr PP 33 (DV.ptr (List.length ((σ ++ [Row.mix z3]) ++ [Row.mix z4])) 0) 1).bind fun x48 =>
 (load PP 31 x48 σ2).bind fun x49 =>
 (pureFn CC (DV.fn 35 []) [x49] σ2).bind fun x50 =>
 (pureFn CC (DV.fn 34 []) [x47, x50] σ2).bind fun x51 =>
 (extractV x51 0).bind fun x52 =>
 (extractV x51 1).bind fun x53 =>
 (binOp PP .eql 34 x43 (DV.p (PV.int IntKind.i64 (25)))).bind fun x55 =>
 G _ x55 true (some (x53, σ2)) σ2 fun x57 σ3 =>
 G _ x55 true ((binOp PP .eql 34 x57 (DV.p (PV.int IntKind.i64 (0)))).bind fun v => some (v, σ3)) σ3 fun x58 σ4 =>
 (pickV x55 x58 (DV.p (PV.bool false))).bind fun x59 =>
 G _ x59 true (some (x52, σ4)) σ4 fun x61 σ5 =>
 G _ x59 true (some (x17, σ5)) σ5 fun x62 σ6 =>
 G _ x59 true ((binOp PP .eql 3 x61 x62).bind fun v => some (v, σ6)) σ6 fun x63 σ7 =>
 (pickV x59 x63 (DV.p (PV.bool false))).bind fun x64 =>
 some (x64, σ7)
 ) := by kernel_rfl
theorem F42_call {lo : Nat} {x0 x1 x2 : DV} {σ : Store} {r : DV × Store} (h : F42 guardT lo x0 x1 x2 σ = some r) : CC lo 42 [x0, x1, x2] σ = some r :=
 callL_run Go.Proofs.Try.func42 (by decide +kernel) rfl (by decide +kernel) h
end Go.D
end
/- CheckRun and the reference's Run; OpenChecks. -/
section
set_option linter.unusedVariables false
set_option linter.unusedSimpArgs false
namespace Go.D

/-! ### Copies -/
theorem one_cells {x : DV} (h : x.one = true) : x.cells = [x] ∧ x.isUndef = false := by
  cases x <;> simp_all [DV.one, DV.cells, DV.isUndef]
theorem bld33 {x y : DV} (hx : x.one = true) (hy : y.one = true) : build PP 33 [(0, x), (1, y)] = some (.agg [x, y]) := by
  obtain ⟨h1, h2⟩ := one_cells hx
  obtain ⟨h3, h4⟩ := one_cells hy
  have e : build PP 33 [(0, x), (1, y)] = (fill (fun i => ([(0, 1), (1, 1)] : List (Nat × Nat))[i]?) [.p .nilsl, .p .nilsl] [(0, x), (1, y)]).map .agg := Eq.trans (by kernel_rfl) rfl
  rw [e]
  simp [fill, h1, h2, h3, h4, splice]
theorem st33 {σ : Store} {r lo : Nat} {a b x y : DV} (h : σ[r]? = some (.mix [a, b])) (hx : x.one = true) (hy : y.one = true) (hlo : lo ≤ r) : store PP lo 33 (.ptr r 0) (.agg [x, y]) σ = some (σ.set r (.mix [x, y])) := by
  simp [store, s33, DV.cells, storeN, hlo, h, hx, hy, splice]
theorem cell33 {σ : Store} {r : Nat} {x y : DV} (h : σ[r]? = some (.mix [x, y])) : cellV PP 33 (.ptr r 0) σ = some (.agg [x, y]) := by
  have e : cellV PP 33 (.ptr r 0) σ = (loadN σ 2 (.ptr r 0)).map .agg := Eq.trans (by kernel_rfl) rfl
  rw [e, loadN_ptr (vs := [x, y]) h rfl (by simp)]
  rfl
theorem app31 {o : OP} {lo : Nat} (hl : (L o).length ≤ 1000) (σ : Store) : append PP lo false 31 31 (.p (.sl true 0 [])) (.p (ePs o)) σ = some (if (L o).length = 0 then (.p (.sl true 0 []), σ) else (.osl σ.length 0 2 (L o).length (ePrs (L o)), σ ++ [.tok 0])) := by
  have hsrc : source σ 2 (.p (ePs o)) = some ((L o).length, (ePrs (L o)).map DV.p) := by
    cases o <;> simp [source, ePs, prs_length, ePrs]
  have h1 : (L o).length * 16 ≤ 140737488355328 := by omega
  have h2 : (L o).length ≤ 140737488355328 := by omega
  simp only [append, src31, u31, s98, bytes98, zero98, hsrc, appLit]
  simp [h1, h2, pures_map]
  split <;> rfl

/-- What is appended to: an empty literal, or a list. -/
def OutL (σ : Store) (lo sz n : Nat) (cs : List PV) (x : DV) : Prop :=
  cs.length = n * sz ∧ ((n = 0 ∧ x = .p (.sl true 0 [])) ∨ (n ≠ 0 ∧ ∃ r ver, x = .osl r ver sz n cs ∧ σ[r]? = some (.tok ver) ∧ lo ≤ r))
theorem OutL.one {σ : Store} {lo sz n : Nat} {cs : List PV} {x : DV} (h : OutL σ lo sz n cs x) : x.one = true := by
  rcases h.2 with ⟨_, rfl⟩ | ⟨_, r, ver, rfl, _⟩ <;> rfl
theorem OutL.tw {σ : Store} {lo sz n : Nat} {cs : List PV} {x : DV} (h : OutL σ lo sz n cs x) (m : Nat) (τ : Store) : thaw m τ x = some (.p (.sl false n (loosens cs))) := by
  obtain ⟨h0, h⟩ := h
  rcases h with ⟨rfl, rfl⟩ | ⟨hn, r, ver, rfl, _, _⟩
  · have : cs = [] := List.length_eq_zero_iff.1 (by simpa using h0)
    rw [this]; rfl
  · simp [thaw, thaw1, thawP]
theorem OutL.snoc {σ : Store} {lo sz n : Nat} {cs : List PV} {x : DV} (h : OutL σ lo sz n cs x) (r : Row) : OutL (σ ++ [r]) lo sz n cs x :=
  ⟨h.1, h.2.imp id fun ⟨a, q, v, b, c, d⟩ => ⟨a, q, v, b, get_old c, d⟩⟩
theorem OutL.set {σ : Store} {lo sz n q : Nat} {cs : List PV} {x : DV} {c : List DV} (h : OutL σ lo sz n cs x) (hq : σ[q]? = some (.mix c)) (r : Row) : OutL (σ.set q r) lo sz n cs x :=
  ⟨h.1, h.2.imp id fun ⟨a, q', v, b, e, d⟩ => ⟨a, q', v, b, get_set_ne e (fun h => by rw [h, hq] at e; injection e with e; injection e), d⟩⟩

theorem C55 {o : OI} {lo : Nat} {σ : Store} (hl : (L o).length ≤ 1000) (hlo : lo ≤ σ.length) : ∃ x σ', CC lo 55 [.p (eSl o)] σ = some (x, σ') ∧ OutL σ' lo 1 (L o).length (eInts (L o)) x ∧ (σ' = σ ∨ σ' = σ ++ [.tok 0]) := by
  by_cases h : (L o).length = 0
  · refine ⟨.p (.sl true 0 []), σ, F55_call ?_, ⟨by simp [ints_length], .inl ⟨h, rfl⟩⟩, .inl rfl⟩
    rw [F55_eq]
    simp only [bs22_0, obind, app22 hl, h, if_true]
  · refine ⟨.osl σ.length 0 1 (L o).length (eInts (L o)), σ ++ [.tok 0], F55_call ?_, ⟨by simp [ints_length], .inr ⟨h, _, _, rfl, get_snoc, hlo⟩⟩, .inr rfl⟩
    rw [F55_eq]
    simp only [bs22_0, obind, app22 hl, h, if_false]
theorem C35 {o : OP} {lo : Nat} {σ : Store} (hl : (L o).length ≤ 1000) (hlo : lo ≤ σ.length) : ∃ x σ', CC lo 35 [.p (ePs o)] σ = some (x, σ') ∧ OutL σ' lo 2 (L o).length (ePrs (L o)) x ∧ (σ' = σ ∨ σ' = σ ++ [.tok 0]) := by
  by_cases h : (L o).length = 0
  · refine ⟨.p (.sl true 0 []), σ, F35_call ?_, ⟨by simp [prs_length], .inl ⟨h, rfl⟩⟩, .inl rfl⟩
    rw [F35_eq]
    simp only [bs31_0, obind, app31 hl, h, if_true]
  · refine ⟨.osl σ.length 0 2 (L o).length (ePrs (L o)), σ ++ [.tok 0], F35_call ?_, ⟨by simp [prs_length], .inr ⟨h, _, _, rfl, get_snoc, hlo⟩⟩, .inr rfl⟩
    rw [F35_eq]
    simp only [bs31_0, obind, app31 hl, h, if_false]
theorem S35 {o : OP} {σ : Store} (hl : (L o).length ≤ 1000) : pureV CC 35 [.p (ePs o)] σ = some (.p (ePs (some (L o)))) := by
  refine pureV_any (by simp [ps_view]) fun lo σ0 hs => ?_
  obtain ⟨x, σ', h1, h2, _⟩ := C35 (lo := lo) (σ := σ0) hl (by rcases hs with ⟨rfl, rfl, _⟩ | ⟨_, rfl, _⟩ <;> simp_all)
  refine ⟨x, σ', h1, ?_⟩
  have := h2.tw lo σ'
  rw [loosens_prs] at this
  rcases h2.2 with ⟨_, rfl⟩ | ⟨_, r, ver, rfl, _⟩ <;> exact this

theorem plainFn_fn (call : CallF) (lo : Nat) (f : FuncId) (caps args : List DV) (σ : Store) : plainFn call lo (.fn f caps) args σ = call lo f (args ++ caps) σ := Eq.trans rfl rfl

/-- OwnRun, as a plain call. -/
theorem C31 {r : Run} {lo : Nat} {σ : Store} (hr : RSm r) (hlo : lo ≤ σ.length) : ∃ x y σ', CC lo 31 [.agg (eRun r)] σ = some (.agg [x, y], σ') ∧ OutL σ' lo 1 (L r.st).length (eInts (L r.st)) x ∧ OutL σ' lo 2 (L r.ps).length (ePrs (L r.ps)) y ∧
    (∀ (i : Nat) (row : Row), σ[i]? = some row → σ'[i]? = some row) ∧ σ.length + 2 ≤ σ'.length := by
  have g0 : (σ ++ [Row.mix (eRun r)] ++ [Row.mix [.p .nilsl, .p .nilsl]])[σ.length]? = some (.mix (eRun r)) := get_old get_snoc
  have g1 : (σ ++ [Row.mix (eRun r)] ++ [Row.mix [.p .nilsl, .p .nilsl]])[(σ ++ [Row.mix (eRun r)]).length]? = some (.mix [.p .nilsl, .p .nilsl]) := get_snoc
  obtain ⟨x, σ1, h1, h2, h3⟩ := C55 (o := r.st) (lo := List.length (σ ++ [Row.mix (eRun r)] ++ [Row.mix [.p .nilsl, .p .nilsl]])) (σ := σ ++ [Row.mix (eRun r)] ++ [Row.mix [.p .nilsl, .p .nilsl]]) hr.s (Nat.le_refl _)
  have k1 : ∀ {i : Nat} {row : Row}, (σ ++ [Row.mix (eRun r)] ++ [Row.mix [.p .nilsl, .p .nilsl]])[i]? = some row → σ1[i]? = some row := fun h => by
    rcases h3 with rfl | rfl
    · exact h
    · exact get_old h
  have hl1 : σ.length + 2 ≤ σ1.length := by rcases h3 with rfl | rfl <;> simp
  obtain ⟨y, σ2, h4, h5, h6⟩ := C35 (o := r.ps) (lo := lo) (σ := σ1) hr.p (by omega)
  have k2 : ∀ {i : Nat} {row : Row}, σ1[i]? = some row → σ2[i]? = some row := fun h => by
    rcases h6 with rfl | rfl
    · exact h
    · exact get_old h
  have hx2 : OutL σ2 (List.length (σ ++ [Row.mix (eRun r)] ++ [Row.mix [.p .nilsl, .p .nilsl]])) 1 (L r.st).length (eInts (L r.st)) x := by
    rcases h6 with rfl | rfl
    · exact h2
    · exact h2.snoc _
  have g2 := k2 (k1 g1)
  have hlo2 : lo ≤ (σ ++ [Row.mix (eRun r)]).length := by simp; omega
  refine ⟨x, y, σ2.set (σ ++ [Row.mix (eRun r)]).length (.mix [x, y]), F31_call ?_, ?_, h5.set g2 _, ?_, ?_⟩
  · rw [F31_eq]
    simp only [box_run, zero33, guard_tt, guard_ff, guard_tf, guard_ft, guard_sk, obind, omap, pickV_true, pickV_false, condK_true, condK_false, decide_true, decide_false, Bool.not_true, Bool.not_false, not_bool, fa33_0, fa33_1, load31, load22, load33, len31, len22, shift_ptr, shift_pptr, Nat.zero_add, Nat.add_zero, pureFn_fn, List.append_nil, List.singleton_append, List.cons_append, List.nil_append, rn_0 (g0), rn_1 (g0), plainFn_fn, h1, rn_1 (k1 g0), h4, bld33 h2.one h5.one, st33 g2 h2.one h5.one hlo2, cell33 (List.getElem?_set_self (get_lt g2))]
  · have := hx2.set g2 (.mix [x, y])
    exact ⟨this.1, this.2.imp id fun ⟨a, q, v, b, c, d⟩ => ⟨a, q, v, b, c, by simp at d; omega⟩⟩
  · intro i row h
    refine get_set_ne (k2 (k1 (get_old (get_old h)))) ?_
    have := get_lt h
    simp; omega
  · rw [List.length_set]
    rcases h6 with rfl | rfl
    · exact hl1
    · simp; omega
def ownR (r : Run) : Run := ⟨some (L r.st), some (L r.ps)⟩
theorem rsm_own {r : Run} (h : RSm r) : RSm (ownR r) := ⟨h.s, h.p⟩
theorem S31 {r : Run} {σ : Store} (hr : RSm r) : pureV CC 31 [.agg (eRun r)] σ = some (.agg (eRun (ownR r))) := by
  refine pureV_any (by simp [run_view]) fun lo σ0 hs => ?_
  obtain ⟨x, y, σ', h1, h2, h3, _⟩ := C31 (lo := lo) (σ := σ0) hr (by rcases hs with ⟨rfl, rfl, _⟩ | ⟨_, rfl, _⟩ <;> simp_all)
  refine ⟨_, σ', h1, ?_⟩
  have t1 := h2.tw lo σ'
  have t2 := h3.tw lo σ'
  rw [loosens_ints] at t1
  rw [loosens_prs] at t2
  simp [thawAll, thawPart, mapO, t1, t2, eRun, ownR, eSl, ePs]

/-! ### CheckRun -/
theorem pred_ok {c : Cmp} {n : Nat} (hc : COk c n) : pred c.n = (n : Int) - 1 := by
  have h1 := hc.nn
  have h2 := hc.n10
  show IntKind.wrap .i64 (c.n - 1) = _
  rw [h1]; exact wrap_ok (by omega) (by omega)
theorem not_badS {c : Cmp} {n : Nat} (hc : COk c n) {l : List Int} (h : l.any (badS c) = false) {i : Nat} (hi : i < l.length) : 0 ≤ l.getD i 0 ∧ l.getD i 0 < n := by
  have hb := List.any_eq_false.1 h _ (List.getElem_mem hi)
  rw [getD_at 0 hi]
  simp only [badS, inR, pred_ok hc, Bool.not_eq_true, Bool.not_eq_false', Bool.and_eq_true, decide_eq_true_eq] at hb
  omega
theorem wrap_nat1 {n : Nat} (h : n ≤ 1000000) : IntKind.wrap .i64 ((n : Int) + 1) = (n : Int) + 1 := wrap_ok (by omega) (by omega)

theorem L30 {c : Cmp} {r : Run} {n : Nat} {lo : Nat} (hc : COk c n) (hr : RSm r) (hlen : (L r.st).length = (L r.ps).length + 1) (hb : (L r.st).any (badS c) = false) :
    ∀ (k i : Nat) (σ : Store), σ[0]? = some (.mix (eCmp c)) → σ[1]? = some (.mix (eRun r)) → lo ≤ σ.length → (L r.ps).length - i = k → i ≤ (L r.ps).length →
      ∃ σ', f30_L0 guardT lo (.ptr 0 0) (.ptr 1 0) (.p (ePs r.ps)) (.p (pI ((L r.ps).length : Nat))) (.p (pI (i : Nat))) σ = some (tup2 (runLoop c r i k), σ')
  | 0, i, σ, h0, h1, hlo, hk, hi => by
    have : ¬ (i : Int) < ((L r.ps).length : Nat) := by omega
    refine ⟨σ, ?_⟩
    rw [f30_L0_eq guardT rfl]
    simp only [b_lss, b_eql, b_neq, b_leq, b_geq, b_gtr, guard_tt, guard_ff, guard_tf, guard_ft, guard_sk, obind, omap, pickV_true, pickV_false, condK_true, condK_false, decide_true, decide_false, Bool.not_true, Bool.not_false, not_bool, this, fa33_0, fa33_1, load31, load22, load33, len31, len22, shift_ptr, shift_pptr, Nat.zero_add, Nat.add_zero, pureFn_fn, List.append_nil, List.singleton_append, List.cons_append, List.nil_append, rn_0 (h1), rn_1 (h1), runLoop, tup2]
  | k + 1, i, σ, h0, h1, hlo, hk, hi => by
    have hp := hr.p
    have h : i < (L r.ps).length := by omega
    have h' : (i : Int) < ((L r.ps).length : Nat) := by omega
    have hs0 : i < (L r.st).length := by omega
    have hs1 : i + 1 < (L r.st).length := by omega
    have w := wrap_succ (show i ≤ 1000000 by omega)
    obtain ⟨q1, q2⟩ := not_badS hc hb hs0
    have hz : (stAt r i).toNat < (L c.out).length := by rw [hc.o]; show ((L r.st).getD i 0).toNat < n; omega
    have ez : (((stAt r i).toNat : Nat) : Int) = stAt r i := by show ((((L r.st).getD i 0).toNat : Nat) : Int) = (L r.st).getD i 0; omega
    have hix : indexAddr PP 22 (.p (eSl c.out)) (.p (.int .i64 (stAt r i))) = some (.pptr (eInts (L c.out)) (stAt r i).toNat) := by
      have := idx22 (o := c.out) hz
      rwa [ez] at this
    generalize hρ1 : σ ++ [Row.mix (prD (prAt r i))] = ρ1
    have s1 : store PP lo 98 (.ptr σ.length 0) (.agg (prD (prAt r i))) (σ ++ [.mix [.p (pI 0), .p (pI 0)]]) = some ρ1 := by
      rw [← hρ1]
      have hs : splice ([.p (pI 0), .p (pI 0)] : List DV) 0 (prD (prAt r i)) = prD (prAt r i) := rfl
      simp [store, s98, DV.cells, storeN, prD, hlo]
      exact ⟨⟨rfl, rfl⟩, by simpa [prD] using hs⟩
    have k0 : ρ1[0]? = some (.mix (eCmp c)) := by rw [← hρ1]; exact get_old h0
    have k1 : ρ1[1]? = some (.mix (eRun r)) := by rw [← hρ1]; exact get_old h1
    have kp : ρ1[σ.length]? = some (.mix (prD (prAt r i))) := by rw [← hρ1]; exact get_snoc
    have hl1 : lo ≤ ρ1.length := by rw [← hρ1]; simp; omega
    generalize hx : (⟨stAt r i, (prAt r i).i, stAt r (i + 1)⟩ : Edg) = x
    generalize hρ2 : ρ1 ++ [Row.mix (edgD x)] = ρ2
    have s2 : store PP lo 106 (.ptr ρ1.length 0) (.agg (edgD x)) (ρ1 ++ [.mix [.p (pI 0), .p (pI 0), .p (pI 0)]]) = some ρ2 := by
      rw [← hρ2]
      have hs : splice ([.p (pI 0), .p (pI 0), .p (pI 0)] : List DV) 0 (edgD x) = edgD x := rfl
      simp [store, s106, DV.cells, storeN, edgD, hl1]
      exact ⟨⟨rfl, rfl, rfl⟩, by simpa [edgD] using hs⟩
    have m0 : ρ2[0]? = some (.mix (eCmp c)) := by rw [← hρ2]; exact get_old k0
    have m1 : ρ2[1]? = some (.mix (eRun r)) := by rw [← hρ2]; exact get_old k1
    have mp : ρ2[σ.length]? = some (.mix (prD (prAt r i))) := by rw [← hρ2]; exact get_old kp
    have mx : ρ2[ρ1.length]? = some (.mix (edgD x)) := by rw [← hρ2]; exact get_snoc
    have hl2 : lo ≤ ρ2.length := by rw [← hρ2]; simp; omega
    obtain ⟨σ', ih⟩ := L30 hc hr hlen hb k (i + 1) ρ2 m0 m1 hl2 (by omega) (by omega)
    have xf : x.f = stAt r i := by rw [← hx]
    have b1 : build PP 106 [(0, .p (pI ((L r.st).getD i 0))), (1, .p (pI (prAt r i).i)), (2, .p (pI ((L r.st).getD (i + 1) 0)))] = some (.agg (edgD x)) := by rw [bld106, ← hx]; rfl
    have hpr : (L r.ps).getD i default = prAt r i := rfl
    have gx : load1 (.ptr ρ1.length 0) ρ2 = some (.p (pI (stAt r i))) := by rw [← xf]; exact load1_ptr mx rfl
    have go : load1 (.ptr σ.length 1) ρ2 = some (.p (pI (prAt r i).o)) := load1_ptr mp rfl
    have gi : load1 (.ptr σ.length 0) ρ1 = some (.p (pI (prAt r i).i)) := load1_ptr kp rfl
    have hok : okStep c r i = (hasE (L c.mv) x && decide ((L c.out).getD (stAt r i).toNat 0 = (prAt r i).o)) := by rw [okStep, hx]
    rw [f30_L0_eq guardT rfl, runLoop, hok]
    simp only [b_lss, b_eql, b_neq, b_leq, b_geq, b_gtr, guard_tt, guard_ff, guard_tf, guard_ft, guard_sk, obind, omap, pickV_true, pickV_false, condK_true, condK_false, decide_true, decide_false, Bool.not_true, Bool.not_false, not_bool, h', idx31 h, load98, load98_D h, hpr, zero98, s1, fa33_0, fa33_1, load31, load22, load33, len31, len22, shift_ptr, shift_pptr, Nat.zero_add, Nat.add_zero, pureFn_fn, List.append_nil, List.singleton_append, List.cons_append, List.nil_append, rn_0 (k1), rn_1 (k1), idx22 hs0, load3, load1_getD hs0, fa98_0, fa98_1, gi, b_add, w, idx22 hs1, load1_getD hs1, b1, zero106, s2, fa25_0, fa25_1, fa25_2, fa25_3, load3, load22, load23, load25, len22, len23, cm_0 (m0), cm_1 (m0), cm_2 (m0), cm_3 (m0), load106, loadN_ptr (off := 0) (n := 3) (vs := edgD x) mx rfl (by simp [edgD]), S87 hc.sm.m]
    cases h2 : hasE (L c.mv) x with
    | false => exact ⟨_, by simp only [guard_tt, guard_ff, guard_tf, guard_ft, guard_sk, obind, omap, pickV_true, pickV_false, condK_true, condK_false, decide_true, decide_false, Bool.not_true, Bool.not_false, not_bool, Bool.false_and, Bool.false_eq_true, if_false]; rfl⟩
    | true =>
      simp only [guard_tt, guard_ff, guard_tf, guard_ft, guard_sk, obind, omap, pickV_true, pickV_false, condK_true, condK_false, decide_true, decide_false, Bool.not_true, Bool.not_false, not_bool, shift_ptr, shift_pptr, Nat.zero_add, Nat.add_zero, pureFn_fn, List.append_nil, List.singleton_append, List.cons_append, List.nil_append, cm_0 (m0), cm_1 (m0), cm_2 (m0), cm_3 (m0), fa106_0, gx, go, hix, load1_getD hz, b_neq, Bool.true_and]
      cases h3 : decide ((L c.out).getD (stAt r i).toNat 0 = (prAt r i).o) with
      | false => exact ⟨_, by simp only [guard_tt, guard_ff, guard_tf, guard_ft, guard_sk, obind, omap, pickV_true, pickV_false, condK_true, condK_false, decide_true, decide_false, Bool.not_true, Bool.not_false, not_bool, Bool.false_eq_true, if_false]; rfl⟩
      | true => exact ⟨σ', by simp only [guard_tt, guard_ff, guard_tf, guard_ft, guard_sk, obind, omap, pickV_true, pickV_false, condK_true, condK_false, decide_true, decide_false, Bool.not_true, Bool.not_false, not_bool, if_true]; exact ih⟩

theorem bs160_4 (x y z u : Int) (σ : Store) : buildSlice PP none 160 4 [(0, .p (pI x)), (1, .p (pI y)), (2, .p (pI z)), (3, .p (pI u))] σ = some (.p (.sl true 4 (eInts [x, y, z, u])), σ) := Eq.trans (by kernel_rfl) rfl
theorem either4 (x y z u : Int) (σ : Store) : pureV CC 52 [.p (.sl true 4 (eInts [x, y, z, u]))] σ = some (.p (pI (orL [x, y, z, u]))) := S52t (l := [x, y, z, u]) rfl (by simp)
theorem idx22z {o : OI} (h : 0 < (L o).length) : indexAddr PP 22 (.p (eSl o)) (.p (pI 0)) = some (.pptr (eInts (L o)) 0) := idx22 (i := 0) h

theorem S30 {c : Cmp} {r : Run} {σ : Store} (hc : CSm c) (hr : RSm r) : pureV CC 30 [.agg (eCmp c), .agg (eRun r)] σ = some (tup2 (chkRun c r)) := by
  refine pureV_any (by simp [cmp_view, run_view]) fun lo σ0 hs => ?_
  rcases hs with ⟨rfl, rfl, _⟩ | ⟨_, _, h⟩
  case inr => exact absurd h (by simp [rowFree, rowFree1, eCmp, eRun])
  have g0 : ([Row.mix (eCmp c), Row.mix (eRun r)] : Store)[0]? = some (.mix (eCmp c)) := rfl
  have g1 : ([Row.mix (eCmp c), Row.mix (eRun r)] : Store)[1]? = some (.mix (eRun r)) := rfl
  have hp := hr.p
  have hbs : pureV CC 80 [.p (eSl r.st), .fn 84 [.ptr 0 0]] [Row.mix (eCmp c), Row.mix (eRun r)] = some (.p (.bool ((L r.st).any (badS c)))) := by
    refine S80' hr.s fun σ1 hat v hv => ?_
    rcases hat with ⟨_, hf⟩ | rfl
    · exact absurd hf (by simp [rowFree1])
    · exact S84 g0
  have key : ∃ σ', F30 guardT 0 (.agg (eCmp c)) (.agg (eRun r)) [] = some (tup2 (chkRun c r), σ') := by
    rw [F30_eq]
    simp only [box_cmp, box_run, guard_tt, guard_ff, guard_tf, guard_ft, guard_sk, obind, omap, pickV_true, pickV_false, condK_true, condK_false, decide_true, decide_false, Bool.not_true, Bool.not_false, not_bool, List.length_nil, List.length_cons, fa33_0, fa33_1, load31, load22, load33, len31, len22, fa25_0, fa25_1, fa25_2, fa25_3, load3, load22, load23, load25, len22, len23, shift_ptr, shift_pptr, Nat.zero_add, Nat.add_zero, pureFn_fn, List.append_nil, List.singleton_append, List.cons_append, List.nil_append, rn_0 (g1), rn_1 (g1), cm_0 (g0), cm_1 (g0), cm_2 (g0), cm_3 (g0), cm_all g0, hbs, S29 hc, S85 hr.p, b_add, wrap_nat1 (show (L r.ps).length ≤ 1000000 by omega), b_eql, S54, bs160_4, either4, b_neq]
    unfold chkRun
    by_cases hce : cmpE c = 0
    · have hok := cok_of hc hce
      rw [if_pos hce, runRes]
      by_cases h1 : prsE (L r.ps) = 0
      · rw [if_pos h1]
        by_cases h2 : ((L r.st).length : Int) = ((L r.ps).length : Nat) + 1
        · rw [if_pos h2]
          cases h3 : (L r.st).any (badS c) with
          | true => exact ⟨_, by simp only [hce, h1, h2, guard_tt, guard_ff, guard_tf, guard_ft, guard_sk, obind, omap, pickV_true, pickV_false, condK_true, condK_false, decide_true, decide_false, Bool.not_true, Bool.not_false, not_bool, orL, Bool.false_eq_true, if_true, if_false, Int.reduceEq, reduceIte]; rfl⟩
          | false =>
            have hst : 0 < (L r.st).length := by omega
            have hg : (L r.st).getD 0 0 = stAt r 0 := rfl
            simp only [hce, h1, h2, guard_tt, guard_ff, guard_tf, guard_ft, guard_sk, obind, omap, pickV_true, pickV_false, condK_true, condK_false, decide_true, decide_false, Bool.not_true, Bool.not_false, not_bool, orL, Bool.false_eq_true, if_true, if_false, reduceIte, shift_ptr, shift_pptr, Nat.zero_add, Nat.add_zero, pureFn_fn, List.append_nil, List.singleton_append, List.cons_append, List.nil_append, cm_0 (g0), cm_1 (g0), cm_2 (g0), cm_3 (g0), rn_0 (g1), rn_1 (g1), idx22z hst, load1_getD hst, S86 hc.i, hg]
            cases h4 : hasI (L c.init) (stAt r 0) with
            | false => exact ⟨_, by simp only [guard_tt, guard_ff, guard_tf, guard_ft, guard_sk, obind, omap, pickV_true, pickV_false, condK_true, condK_false, decide_true, decide_false, Bool.not_true, Bool.not_false, not_bool, Bool.false_eq_true, if_false]; rfl⟩
            | true =>
              simp only [guard_tt, guard_ff, guard_tf, guard_ft, guard_sk, obind, omap, pickV_true, pickV_false, condK_true, condK_false, decide_true, decide_false, Bool.not_true, Bool.not_false, not_bool, if_true, shift_ptr, shift_pptr, Nat.zero_add, Nat.add_zero, pureFn_fn, List.append_nil, List.singleton_append, List.cons_append, List.nil_append, rn_0 (g1), rn_1 (g1), len31]
              exact L30 (lo := 0) hok hr (by omega) h3 _ 0 _ g0 g1 (Nat.zero_le _) (Nat.sub_zero _) (Nat.zero_le _)
        · rw [if_neg h2]
          exact ⟨_, by simp only [hce, h1, h2, guard_tt, guard_ff, guard_tf, guard_ft, guard_sk, obind, omap, pickV_true, pickV_false, condK_true, condK_false, decide_true, decide_false, Bool.not_true, Bool.not_false, not_bool, orL, Bool.false_eq_true, if_true, if_false, Int.reduceEq, reduceIte]; rfl⟩
      · rw [if_neg h1]
        exact ⟨_, by simp only [hce, h1, guard_tt, guard_ff, guard_tf, guard_ft, guard_sk, obind, omap, pickV_true, pickV_false, condK_true, condK_false, decide_true, decide_false, Bool.not_true, Bool.not_false, not_bool, orL, Bool.false_eq_true, if_true, if_false, Int.reduceEq, reduceIte]; rfl⟩
    · rw [if_neg hce]
      exact ⟨_, by simp only [hce, guard_tt, guard_ff, guard_tf, guard_ft, guard_sk, obind, omap, pickV_true, pickV_false, condK_true, condK_false, decide_true, decide_false, Bool.not_true, Bool.not_false, not_bool, orL, Bool.false_eq_true, if_true, if_false, Int.reduceEq, reduceIte]; rfl⟩
  obtain ⟨σ', h⟩ := key
  exact ⟨_, σ', F30_call h, rfl⟩

/-! ### The reference's Run, of a right component -/
theorem L32_1 {c : Cmp} {r : Run} {n : Nat} {lo : Nat} {σ : Store} (hc : COk c n) (hr : RSm r) (hlen : (L r.st).length = (L r.ps).length + 1) (hb : (L r.st).any (badS c) = false) (h0 : σ[0]? = some (.mix (eCmp c))) (h1 : σ[1]? = some (.mix (eRun r))) :
    ∀ (k i : Nat), (L r.ps).length - i = k → i ≤ (L r.ps).length → f32_L1 guardT lo (.ptr 0 0) (.ptr 1 0) (.p (pI (i : Nat))) σ = some (tup2 (runLoop c r i k), σ)
  | 0, i, hk, hi => by
    have : ¬ (i : Int) < ((L r.ps).length : Nat) := by omega
    rw [f32_L1_eq guardT rfl]
    simp only [fa33_0, fa33_1, load31, load22, load33, len31, len22, shift_ptr, shift_pptr, Nat.zero_add, Nat.add_zero, pureFn_fn, List.append_nil, List.singleton_append, List.cons_append, List.nil_append, rn_0 (h1), rn_1 (h1), b_lss, b_eql, b_neq, b_leq, b_geq, b_gtr, guard_tt, guard_ff, guard_tf, guard_ft, guard_sk, obind, omap, pickV_true, pickV_false, condK_true, condK_false, decide_true, decide_false, Bool.not_true, Bool.not_false, not_bool, this, runLoop, tup2]
  | k + 1, i, hk, hi => by
    have hp := hr.p
    have h : i < (L r.ps).length := by omega
    have h' : (i : Int) < ((L r.ps).length : Nat) := by omega
    have hs0 : i < (L r.st).length := by omega
    have hs1 : i + 1 < (L r.st).length := by omega
    have w := wrap_succ (show i ≤ 1000000 by omega)
    obtain ⟨q1, q2⟩ := not_badS hc hb hs0
    have hz : (stAt r i).toNat < (L c.out).length := by rw [hc.o]; show ((L r.st).getD i 0).toNat < n; omega
    have ez : (((stAt r i).toNat : Nat) : Int) = stAt r i := by show ((((L r.st).getD i 0).toNat : Nat) : Int) = (L r.st).getD i 0; omega
    have hix : indexAddr PP 22 (.p (eSl c.out)) (.p (.int .i64 (stAt r i))) = some (.pptr (eInts (L c.out)) (stAt r i).toNat) := by
      have := idx22 (o := c.out) hz
      rwa [ez] at this
    have ih := L32_1 (lo := lo) hc hr hlen hb h0 h1 k (i + 1) (by omega) (by omega)
    have hpr : (L r.ps).getD i default = prAt r i := rfl
    have hsi : (L r.st).getD i 0 = stAt r i := rfl
    have hsj : (L r.st).getD (i + 1) 0 = stAt r (i + 1) := rfl
    have ec : decide ((prAt r i).o = (L c.out).getD (stAt r i).toNat 0) = decide ((L c.out).getD (stAt r i).toNat 0 = (prAt r i).o) := by rw [decide_eq_decide]; exact eq_comm
    rw [f32_L1_eq guardT rfl, runLoop, okStep]
    simp only [fa33_0, fa33_1, load31, load22, load33, len31, len22, shift_ptr, shift_pptr, Nat.zero_add, Nat.add_zero, pureFn_fn, List.append_nil, List.singleton_append, List.cons_append, List.nil_append, rn_0 (h1), rn_1 (h1), b_lss, b_eql, b_neq, b_leq, b_geq, b_gtr, guard_tt, guard_ff, guard_tf, guard_ft, guard_sk, obind, omap, pickV_true, pickV_false, condK_true, condK_false, decide_true, decide_false, Bool.not_true, Bool.not_false, not_bool, h', idx31 h, fa98_1, load3, load1_pr1 h, fa25_0, fa25_1, fa25_2, fa25_3, load3, load22, load23, load25, len22, len23, cm_0 (h0), cm_1 (h0), cm_2 (h0), cm_3 (h0), idx22 hs0, load1_getD hs0, hsi, hpr, hix, load1_getD hz, ec]
    cases h3 : decide ((L c.out).getD (stAt r i).toNat 0 = (prAt r i).o) with
    | false => simp only [guard_tt, guard_ff, guard_tf, guard_ft, guard_sk, obind, omap, pickV_true, pickV_false, condK_true, condK_false, decide_true, decide_false, Bool.not_true, Bool.not_false, not_bool, Bool.and_false, Bool.false_eq_true, if_false, tup2]
    | true =>
      simp only [guard_tt, guard_ff, guard_tf, guard_ft, guard_sk, obind, omap, pickV_true, pickV_false, condK_true, condK_false, decide_true, decide_false, Bool.not_true, Bool.not_false, not_bool, shift_ptr, shift_pptr, Nat.zero_add, Nat.add_zero, pureFn_fn, List.append_nil, List.singleton_append, List.cons_append, List.nil_append, cm_all h0, rn_0 (h1), rn_1 (h1), idx22 hs0, load1_getD hs0, hsi, idx31 h, fa98_0, load1_pr0 h, hpr, b_add, w, idx22 hs1, load1_getD hs1, hsj, bld106, S89 hc.sm.m, Bool.and_true]
      cases h2 : hasE (L c.mv) ⟨stAt r i, (prAt r i).i, stAt r (i + 1)⟩ with
      | false => simp only [guard_tt, guard_ff, guard_tf, guard_ft, guard_sk, obind, omap, pickV_true, pickV_false, condK_true, condK_false, decide_true, decide_false, Bool.not_true, Bool.not_false, not_bool, Bool.false_eq_true, if_false, tup2]
      | true => simp only [guard_tt, guard_ff, guard_tf, guard_ft, guard_sk, obind, omap, pickV_true, pickV_false, condK_true, condK_false, decide_true, decide_false, Bool.not_true, Bool.not_false, not_bool, if_true]; exact ih
theorem L32_0 {c : Cmp} {r : Run} {n : Nat} {lo : Nat} {σ : Store} (hc : COk c n) (hr : RSm r) (hlen : (L r.st).length = (L r.ps).length + 1) (h0 : σ[0]? = some (.mix (eCmp c))) (h1 : σ[1]? = some (.mix (eRun r))) :
    ∀ (k i : Nat), (L r.st).length - i = k → i ≤ (L r.st).length → f32_L0 guardT lo (.ptr 0 0) (.ptr 1 0) (.p (pI (i : Nat))) σ = if ((L r.st).drop i).any (badS c) = true then some (tup2 (0, 3), σ) else if hasI (L c.init) (stAt r 0) then f32_L1 guardT lo (.ptr 0 0) (.ptr 1 0) (.p (pI (0 : Nat))) σ else some (tup2 (0, 10), σ)
  | 0, i, hk, hi => by
    have : ¬ (i : Int) < ((L r.st).length : Nat) := by omega
    have hst : 0 < (L r.st).length := by omega
    have hg : (L r.st).getD 0 0 = stAt r 0 := rfl
    rw [f32_L0_eq guardT rfl, List.drop_eq_nil_of_le (by omega)]
    simp only [fa33_0, fa33_1, load31, load22, load33, len31, len22, fa25_0, fa25_1, fa25_2, fa25_3, load3, load22, load23, load25, len22, len23, shift_ptr, shift_pptr, Nat.zero_add, Nat.add_zero, pureFn_fn, List.append_nil, List.singleton_append, List.cons_append, List.nil_append, rn_0 (h1), rn_1 (h1), cm_0 (h0), cm_1 (h0), cm_2 (h0), cm_3 (h0), b_lss, b_eql, b_neq, b_leq, b_geq, b_gtr, guard_tt, guard_ff, guard_tf, guard_ft, guard_sk, obind, omap, pickV_true, pickV_false, condK_true, condK_false, decide_true, decide_false, Bool.not_true, Bool.not_false, not_bool, this, idx22z hst, load1_getD hst, hg, S88 hc.sm.i, List.any_nil, Bool.false_eq_true, if_false]
    cases h4 : hasI (L c.init) (stAt r 0) with
    | false => simp only [guard_tt, guard_ff, guard_tf, guard_ft, guard_sk, obind, omap, pickV_true, pickV_false, condK_true, condK_false, decide_true, decide_false, Bool.not_true, Bool.not_false, not_bool, Bool.false_eq_true, if_false, tup2]
    | true => simp only [guard_tt, guard_ff, guard_tf, guard_ft, guard_sk, obind, omap, pickV_true, pickV_false, condK_true, condK_false, decide_true, decide_false, Bool.not_true, Bool.not_false, not_bool, if_true]; rfl
  | k + 1, i, hk, hi => by
    have hs := hr.s
    have h : i < (L r.st).length := by omega
    have h' : (i : Int) < ((L r.st).length : Nat) := by omega
    have ih := L32_0 (lo := lo) hc hr hlen h0 h1 k (i + 1) (by omega) (by omega)
    rw [f32_L0_eq guardT rfl, drop_cons h, List.any_cons, badS]
    cases h2 : inR (L r.st)[i] 0 (pred c.n) <;>
      simp only [fa33_0, fa33_1, load31, load22, load33, len31, len22, fa25_0, fa25_1, fa25_2, fa25_3, load3, load22, load23, load25, len22, len23, shift_ptr, shift_pptr, Nat.zero_add, Nat.add_zero, pureFn_fn, List.append_nil, List.singleton_append, List.cons_append, List.nil_append, rn_0 (h1), rn_1 (h1), cm_0 (h0), cm_1 (h0), cm_2 (h0), cm_3 (h0), b_lss, b_eql, b_neq, b_leq, b_geq, b_gtr, guard_tt, guard_ff, guard_tf, guard_ft, guard_sk, obind, omap, pickV_true, pickV_false, condK_true, condK_false, decide_true, decide_false, Bool.not_true, Bool.not_false, not_bool, h', idx22 h, load1_ints h, b_sub, S57, h2, Bool.true_or, Bool.false_or, if_true, tup2, b_add, wrap_succ (show i ≤ 1000000 by omega), ih]
theorem S32 {c : Cmp} {r : Run} {n : Nat} {σ : Store} (hc : COk c n) (hr : RSm r) : pureV CC 32 [.agg (eCmp c), .agg (eRun r)] σ = some (tup2 (runRes c r)) := by
  refine pureV_any (by simp [cmp_view, run_view]) fun lo σ0 hs => ?_
  rcases hs with ⟨rfl, rfl, _⟩ | ⟨_, _, h⟩
  case inr => exact absurd h (by simp [rowFree, rowFree1, eCmp, eRun])
  have g0 : ([Row.mix (eCmp c), Row.mix (eRun r)] : Store)[0]? = some (.mix (eCmp c)) := rfl
  have g1 : ([Row.mix (eCmp c), Row.mix (eRun r)] : Store)[1]? = some (.mix (eRun r)) := rfl
  have hp := hr.p
  refine ⟨tup2 (runRes c r), [Row.mix (eCmp c), Row.mix (eRun r)], F32_call ?_, rfl⟩
  rw [F32_eq, runRes]
  simp only [box_cmp, box_run, guard_tt, guard_ff, guard_tf, guard_ft, guard_sk, obind, omap, pickV_true, pickV_false, condK_true, condK_false, decide_true, decide_false, Bool.not_true, Bool.not_false, not_bool, List.length_nil, List.length_cons, fa33_0, fa33_1, load31, load22, load33, len31, len22, shift_ptr, shift_pptr, Nat.zero_add, Nat.add_zero, pureFn_fn, List.append_nil, List.singleton_append, List.cons_append, List.nil_append, rn_0 (g1), rn_1 (g1), S39 hr.p, b_neq]
  by_cases h1 : prsE (L r.ps) = 0
  · rw [if_pos h1]
    by_cases h2 : ((L r.st).length : Int) = ((L r.ps).length : Nat) + 1
    · rw [if_pos h2]
      simp only [h1, h2, guard_tt, guard_ff, guard_tf, guard_ft, guard_sk, obind, omap, pickV_true, pickV_false, condK_true, condK_false, decide_true, decide_false, Bool.not_true, Bool.not_false, not_bool, shift_ptr, shift_pptr, Nat.zero_add, Nat.add_zero, pureFn_fn, List.append_nil, List.singleton_append, List.cons_append, List.nil_append, fa33_0, fa33_1, load31, load22, load33, len31, len22, rn_0 (g1), rn_1 (g1), b_add, wrap_nat1 (show (L r.ps).length ≤ 1000000 by omega), b_neq]
      have e0 := L32_0 (lo := 0) hc hr (by omega) g0 g1 _ 0 (Nat.sub_zero _) (Nat.zero_le _)
      rw [List.drop_zero] at e0
      refine e0.trans ?_
      cases h3 : (L r.st).any (badS c) with
      | true => rfl
      | false =>
        simp only [Bool.false_eq_true, if_false]
        cases h4 : hasI (L c.init) (stAt r 0) with
        | false => rfl
        | true =>
          simp only [if_true]
          exact L32_1 (lo := 0) hc hr (by omega) h3 g0 g1 _ 0 (Nat.sub_zero _) (Nat.zero_le _)
    · rw [if_neg h2]
      simp only [h1, h2, guard_tt, guard_ff, guard_tf, guard_ft, guard_sk, obind, omap, pickV_true, pickV_false, condK_true, condK_false, decide_true, decide_false, Bool.not_true, Bool.not_false, not_bool, shift_ptr, shift_pptr, Nat.zero_add, Nat.add_zero, pureFn_fn, List.append_nil, List.singleton_append, List.cons_append, List.nil_append, fa33_0, fa33_1, load31, load22, load33, len31, len22, rn_0 (g1), rn_1 (g1), b_add, wrap_nat1 (show (L r.ps).length ≤ 1000000 by omega), b_neq, tup2]
  · rw [if_neg h1]
    simp only [h1, guard_tt, guard_ff, guard_tf, guard_ft, guard_sk, obind, omap, pickV_true, pickV_false, condK_true, condK_false, decide_true, decide_false, Bool.not_true, Bool.not_false, not_bool, tup2]

/-! ### OpenChecks -/
theorem runLoop_own (c : Cmp) (r : Run) : ∀ k i, runLoop (ownC c) (ownR r) i k = runLoop c r i k
  | 0, i => rfl
  | k + 1, i => by
    unfold runLoop
    rw [runLoop_own c r k (i + 1)]
    rfl
theorem runRes_own (c : Cmp) (r : Run) : runRes (ownC c) (ownR r) = runRes c r := by
  unfold runRes
  rw [runLoop_own]
  rfl
theorem law6 (hawake : ∀ σ, pureV CC 10 [] σ = some (.p (.bool true))) (c : Cmp) (r : Run) : ∃ σ', F6 guardT 0 (.agg (eCmp c)) (.agg (eRun r)) [] = some (.p (.bool true), σ') := by
  have g0 : ([Row.mix (eCmp c), Row.mix (eRun r)] : Store)[0]? = some (.mix (eCmp c)) := rfl
  have g1 : ([Row.mix (eCmp c), Row.mix (eRun r)] : Store)[1]? = some (.mix (eRun r)) := rfl
  rw [F6_eq]
  simp only [box_cmp, box_run, guard_tt, guard_ff, guard_tf, guard_ft, guard_sk, obind, omap, pickV_true, pickV_false, condK_true, condK_false, decide_true, decide_false, Bool.not_true, Bool.not_false, not_bool, List.length_nil, List.length_cons, fa33_0, fa33_1, load31, load22, load33, len31, len22, fa25_0, fa25_1, fa25_2, fa25_3, load3, load22, load23, load25, len22, len23, shift_ptr, shift_pptr, Nat.zero_add, Nat.add_zero, pureFn_fn, List.append_nil, List.singleton_append, List.cons_append, List.nil_append, hawake, cm_all g0, S11]
  cases hfew : fewC c with
  | false => exact ⟨_, by simp only [guard_tt, guard_ff, guard_tf, guard_ft, guard_sk, obind, omap, pickV_true, pickV_false, condK_true, condK_false, decide_true, decide_false, Bool.not_true, Bool.not_false, not_bool]; rfl⟩
  | true =>
    have hc := csm_of hfew
    simp only [guard_tt, guard_ff, guard_tf, guard_ft, guard_sk, obind, omap, pickV_true, pickV_false, condK_true, condK_false, decide_true, decide_false, Bool.not_true, Bool.not_false, not_bool, fa33_0, fa33_1, load31, load22, load33, len31, len22, shift_ptr, shift_pptr, Nat.zero_add, Nat.add_zero, pureFn_fn, List.append_nil, List.singleton_append, List.cons_append, List.nil_append, rn_0 (g1), rn_1 (g1), S28]
    by_cases h62 : (L r.ps).length ≤ 62
    · by_cases h63 : ((L r.st).length : Int) > 63
      · exact ⟨_, by simp only [h62, h63, guard_tt, guard_ff, guard_tf, guard_ft, guard_sk, obind, omap, pickV_true, pickV_false, condK_true, condK_false, decide_true, decide_false, Bool.not_true, Bool.not_false, not_bool, fa33_0, fa33_1, load31, load22, load33, len31, len22, shift_ptr, shift_pptr, Nat.zero_add, Nat.add_zero, pureFn_fn, List.append_nil, List.singleton_append, List.cons_append, List.nil_append, rn_0 (g1), rn_1 (g1), b_lss, b_eql, b_neq, b_leq, b_geq, b_gtr]; rfl⟩
      · have hr : RSm r := ⟨by omega, by omega⟩
        simp only [h62, h63, guard_tt, guard_ff, guard_tf, guard_ft, guard_sk, obind, omap, pickV_true, pickV_false, condK_true, condK_false, decide_true, decide_false, Bool.not_true, Bool.not_false, not_bool, fa33_0, fa33_1, load31, load22, load33, len31, len22, shift_ptr, shift_pptr, Nat.zero_add, Nat.add_zero, pureFn_fn, List.append_nil, List.singleton_append, List.cons_append, List.nil_append, rn_0 (g1), rn_1 (g1), b_lss, b_eql, b_neq, b_leq, b_geq, b_gtr, cm_all g0, S16 hc, S14 hc, S29 (csm_own hc), cmpE_own, rn_all g1, S31 hr, S30 (csm_own hc) (rsm_own hr)]
        rw [chkRun, cmpE_own, runRes_own]
        by_cases he : cmpE c = 0
        · simp only [he, if_true, guard_tt, guard_ff, guard_tf, guard_ft, guard_sk, obind, omap, pickV_true, pickV_false, condK_true, condK_false, decide_true, decide_false, Bool.not_true, Bool.not_false, not_bool, tup2, ex0, ex1, load25, load33, cm_all g0, rn_all g1, shift_ptr, shift_pptr, Nat.zero_add, Nat.add_zero, pureFn_fn, List.append_nil, List.singleton_append, List.cons_append, List.nil_append, S32 (cok_of hc he) hr, b_eql]
          exact ⟨_, rfl⟩
        · simp only [he, if_false, guard_tt, guard_ff, guard_tf, guard_ft, guard_sk, obind, omap, pickV_true, pickV_false, condK_true, condK_false, decide_true, decide_false, Bool.not_true, Bool.not_false, not_bool, tup2, ex0, ex1, b_eql]
          exact ⟨_, rfl⟩
    · exact ⟨_, by simp only [h62, guard_tt, guard_ff, guard_tf, guard_ft, guard_sk, obind, omap, pickV_true, pickV_false, condK_true, condK_false, decide_true, decide_false, Bool.not_true, Bool.not_false, not_bool]; rfl⟩
theorem call6 (hawake : ∀ σ, pureV CC 10 [] σ = some (.p (.bool true))) (c : Cmp) (r : Run) : ∃ σ', CC 0 6 [.agg (eCmp c), .agg (eRun r)] [] = some (.p (.bool true), σ') := by
  obtain ⟨σ', h⟩ := law6 hawake c r
  exact ⟨σ', F6_call h⟩
end Go.D
end
/- The examples of chapter 24: awake answers true. -/
section
set_option linter.unusedVariables false
set_option linter.unusedSimpArgs false
set_option maxRecDepth 100000
namespace Go.D
theorem E48 (σ : Store) : pureV CC 48 [] σ = some (.agg (eCmp exC)) := pureV_run run48 rfl rfl
theorem E49 (σ : Store) : pureV CC 49 [] σ = some (.p wAll) := pureV_run run49 rfl rfl
theorem E50 (σ : Store) : pureV CC 50 [] σ = some (.p wZero) := pureV_run run50 rfl rfl
theorem E51 (σ : Store) : pureV CC 51 [] σ = some (.agg (exRule wTurn)) := pureV_run run51 rfl rfl
theorem E38 (σ : Store) : pureV CC 38 [.p wZero] σ = some (.p wTurn) := pureV_run run38 rfl rfl
theorem E13a (σ : Store) : pureV CC 13 [.agg (eCmp exC), .p wAll, .p wZero] σ = some (.tuple [.agg (eRun exR), .p (pI 0)]) := pureV_run run13a rfl rfl
theorem E13b (σ : Store) : pureV CC 13 [.agg (eCmp exC), .p wTurn, .p wZero] σ = some (.tuple [.agg [.p .nilsl, .p .nilsl], .p (pI 25)]) := pureV_run run13b rfl rfl
theorem E20 (σ : Store) : pureV CC 20 [.agg (eCmp exC), .agg (eCmp exC)] σ = some (.tuple [.agg exG, .p exL, .p (pI 0)]) := pureV_run run20 rfl rfl
theorem E45a (σ : Store) : pureV CC 45 [.agg (exRule wTurn)] σ = some (.tuple [.agg fault0, .p (pI 0)]) := pureV_run run45a rfl rfl
theorem E45b (σ : Store) : pureV CC 45 [.agg (exRule wAll)] σ = some (.tuple [.agg fault1, .p (pI 31)]) := pureV_run run45b rfl rfl
theorem E18 (σ : Store) : pureV CC 18 [.agg (eRun exR), .agg [.p (.sl true 3 (eInts [0, 1, 1])), .p (.sl true 2 [pI 1, pI 0, pI 0, pI 1])]] σ = some (.p (.bool true)) := by
  rw [pureV_view (args' := [.agg (eRun exR), .agg (eRun exR)]) rfl rfl]
  exact pureV_run run18 rfl rfl
theorem E23 (σ : Store) : pureV CC 23 [.p exL, .p (.sl true 1 [.sl true 2 (eInts [0, 0])])] σ = some (.p (.bool true)) := by
  rw [pureV_view (args' := [.p exL, .p exL]) rfl rfl]
  exact pureV_run run23 rfl rfl
theorem ex3_0 (a b c : DV) : extractV (.tuple [a, b, c]) 0 = some a := Eq.trans rfl rfl
theorem ex3_1 (a b c : DV) : extractV (.tuple [a, b, c]) 1 = some b := Eq.trans rfl rfl
theorem ex3_2 (a b c : DV) : extractV (.tuple [a, b, c]) 2 = some c := Eq.trans rfl rfl
theorem zero47 : zeroOf PP 47 = some [.p (pI 0), .p .nilsl, .p .nilsl] := Eq.trans (by kernel_rfl) rfl
theorem zero88 : zeroOf PP 88 = some [.p (pI 0), .p .nilsl, .p .nilsl, .p .nilsl] := Eq.trans (by kernel_rfl) rfl
theorem zero84 : zeroOf PP 84 = some [.p (pI 0), .p .nilsl, .p .nilsl, .p .nilsl, .p (pI 0), .p .nilsl, .p .nilsl, .p .nilsl, .p .nilsl, .p .nilsl, .p .nilsl, .p .nilsl] := Eq.trans (by kernel_rfl) rfl
theorem s47 : size? PP 47 = some 3 := Eq.trans (by kernel_rfl) rfl
theorem s88 : size? PP 88 = some 4 := Eq.trans (by kernel_rfl) rfl
theorem s84 : size? PP 84 = some 12 := Eq.trans (by kernel_rfl) rfl
theorem s27w : size? PP 27 = some 1 := Eq.trans (by kernel_rfl) rfl
theorem store_newN {t n : Nat} (hs : size? PP t = some n) {cs z : List DV} (σ : Store) (hz : z.length = n) (hc : cs.length = n) (ho : cs.all DV.one = true) : store PP 0 t (.ptr σ.length 0) (.agg cs) (σ ++ [.mix z]) = some (σ ++ [.mix cs]) := by
  have e : splice z 0 cs = cs := by simp [splice, hz, hc]
  simp [store, hs, DV.cells, storeN, hc, hz, ho, e]
theorem fa84_2 (x : DV) : fieldAddr PP 84 x 2 = shiftPtr x 8 := Eq.trans (by kernel_rfl) rfl
theorem fa88_0 (x : DV) : fieldAddr PP 88 x 0 = shiftPtr x 0 := Eq.trans (by kernel_rfl) rfl
theorem fa47_2 (x : DV) : fieldAddr PP 47 x 2 = shiftPtr x 2 := Eq.trans (by kernel_rfl) rfl
theorem load84 (x : DV) (σ : Store) : load PP 84 x σ = (loadN σ 12 x).map .agg := Eq.trans (by kernel_rfl) rfl
theorem load45 (x : DV) (σ : Store) : load PP 45 x σ = load1 x σ := Eq.trans (by kernel_rfl) rfl
theorem len45 (n : Nat) (cs : List PV) (σ : Store) : len PP 45 (.p (.sl false n cs)) σ = some (.p (.int .i64 n)) := Eq.trans (by kernel_rfl) rfl
theorem bld98a : build PP 98 [(0, .p (pI 1))] = some (.agg [.p (pI 1), .p (pI 0)]) := Eq.trans (by kernel_rfl) rfl
theorem bld98b : build PP 98 [(1, .p (pI 1))] = some (.agg [.p (pI 0), .p (pI 1)]) := Eq.trans (by kernel_rfl) rfl
theorem bs31_2 (a b c d : Int) (σ : Store) : buildSlice PP none 31 2 [(0, .agg [.p (pI a), .p (pI b)]), (1, .agg [.p (pI c), .p (pI d)])] σ = some (.p (.sl true 2 [pI a, pI b, pI c, pI d]), σ) := Eq.trans (by kernel_rfl) rfl
theorem bs22_2a (x y : Int) (σ : Store) : buildSlice PP none 22 2 [(0, .p (pI x)), (1, .p (pI y))] σ = some (.p (.sl true 2 (eInts [x, y])), σ) := Eq.trans (by kernel_rfl) rfl
theorem st27w (a b c d e f g h i j k l x : DV) (v : PV) (r0 r1 r2 r3 : Row) (rest : Store) : store PP 0 27 (.ptr 4 8) (.p v) (r0 :: r1 :: r2 :: r3 :: .mix [a, b, c, d, e, f, g, h, i, j, k, l] :: rest) = some (r0 :: r1 :: r2 :: r3 :: .mix [a, b, c, d, e, f, g, h, .p v, j, k, l] :: rest) := Eq.trans (by kernel_rfl) rfl

def awS : Store := [.mix (eRun exR), .mix [.p .nilsl, .p .nilsl], .mix exG, .mix fault0, .mix (exRule wAll), .mix fault1]
theorem F10_true : ∃ σ', F10 guardT 0 [] = some (.p (.bool true), σ') := by
  refine ⟨awS, ?_⟩
  have sn33 := fun cs σ h1 h2 => store_newN (cs := cs) (z := [.p .nilsl, .p .nilsl]) s33 σ rfl h1 h2
  have n1 := fun (σ : Store) => store_newN (cs := eRun exR) (z := [.p .nilsl, .p .nilsl]) s33 σ rfl rfl rfl
  have n2 := fun (σ : Store) => store_newN (cs := [.p .nilsl, .p .nilsl]) (z := [.p .nilsl, .p .nilsl]) s33 σ rfl rfl rfl
  have n3 := fun (σ : Store) => store_newN (cs := exG) (z := [.p (pI 0), .p .nilsl, .p .nilsl]) s47 σ rfl rfl rfl
  have n4 := fun (σ : Store) => store_newN (cs := fault0) (z := [.p (pI 0), .p .nilsl, .p .nilsl, .p .nilsl]) s88 σ rfl rfl rfl
  have n5 := fun (σ : Store) => store_newN (cs := fault1) (z := [.p (pI 0), .p .nilsl, .p .nilsl, .p .nilsl]) s88 σ rfl rfl rfl
  have n6 := fun (σ : Store) => store_newN (cs := exRule wTurn) (z := [.p (pI 0), .p .nilsl, .p .nilsl, .p .nilsl, .p (pI 0), .p .nilsl, .p .nilsl, .p .nilsl, .p .nilsl, .p .nilsl, .p .nilsl, .p .nilsl]) s84 σ rfl rfl rfl
  rw [F10_eq]
  simp only [pureFn_fn, List.append_nil, E48, E49, E50, E51, E38, E13a, E13b, E20, obind, ex0, ex1, ex3_0, ex3_1, ex3_2, zero33, zero47, zero88, zero84, n1, n2, n3, n4, n6, E45a, fa84_2, shift_ptr, Nat.zero_add]
  simp only [List.nil_append, List.cons_append, List.length_nil, List.length_cons, Nat.zero_add, Nat.reduceAdd]
  have hst : store PP 0 27 (.ptr 4 8) (.p wAll) [.mix (eRun exR), .mix [.p .nilsl, .p .nilsl], .mix exG, .mix fault0, .mix (exRule wTurn)] = some [.mix (eRun exR), .mix [.p .nilsl, .p .nilsl], .mix exG, .mix fault0, .mix (exRule wAll)] := by kernel_rfl
  have hld : loadN ([.mix (eRun exR), .mix [.p .nilsl, .p .nilsl], .mix exG, .mix fault0, .mix (exRule wAll)] : Store) 12 (.ptr 4 0) = some (exRule wAll) := by kernel_rfl
  have n5' : store PP 0 88 (.ptr 5 0) (.agg fault1) [.mix (eRun exR), .mix [.p .nilsl, .p .nilsl], .mix exG, .mix fault0, .mix (exRule wAll), .mix [.p (pI 0), .p .nilsl, .p .nilsl, .p .nilsl]] = some awS := by kernel_rfl
  simp only [hst, obind, load84, hld, omap, E45b, ex0, ex1, List.cons_append, List.nil_append, n5', List.length_nil, List.length_cons, Nat.zero_add, Nat.reduceAdd]
  have q1 : load1 (.ptr 3 0) awS = some (.p (pI 0)) := by kernel_rfl
  have q2 : load1 (.ptr 5 0) awS = some (.p (pI 1)) := by kernel_rfl
  have q3 : loadN awS 2 (.ptr 0 0) = some (eRun exR) := by kernel_rfl
  have q4 : load1 (.ptr 2 2) awS = some (.p (.sl false 1 [pI 0, pI 0, pI 0])) := by kernel_rfl
  have hb33 : build PP 33 [(0, .p (.sl true 3 (eInts [0, 1, 1]))), (1, .p (.sl true 2 [pI 1, pI 0, pI 0, pI 1]))] = some (.agg [.p (.sl true 3 (eInts [0, 1, 1])), .p (.sl true 2 [pI 1, pI 0, pI 0, pI 1])]) := bld33 rfl rfl
  simp only [b_lss, b_eql, b_neq, b_leq, b_geq, b_gtr, guard_tt, guard_ff, guard_tf, guard_ft, guard_sk, obind, omap, pickV_true, pickV_false, condK_true, condK_false, decide_true, decide_false, Bool.not_true, Bool.not_false, not_bool, Int.reduceEq, fa88_0, shift_ptr, Nat.zero_add, load3, q1, q2, load33, q3, bs22_3, bld98a, bld98b, bs31_2, hb33, pureFn_fn, List.append_nil, E18, bs22_2a, bs48_1, E23, fa47_2, load45, q4, len45]
  rfl
theorem awake_true (σ : Store) : pureV CC 10 [] σ = some (.p (.bool true)) := by
  obtain ⟨σ', h⟩ := F10_true
  exact pureV_free rfl rfl (F10_call h) rfl
end Go.D
end
/- What a call's arguments are, as values of D: components, runs, watches. -/
section
set_option linter.unusedVariables false
set_option linter.unusedSimpArgs false
set_option maxRecDepth 100000
namespace Go.D
open Go.ChangeShapes Go.WideShapes Go.ChangeAt Go.RowKit

/-- All cells that can be read. -/
def memOf (W : World) : Mem := fun b o => W.cell? ⟨b, o, none⟩

variable {H : Type} {enc : TypeId × Value → H} {W : World} {base : Nat}

theorem ul3 : PP.underlying 3 = some (.int .i64) := by kernel_rfl
theorem cells3 : PP.cellsOf 3 = 1 := by kernel_rfl
theorem cells22 : PP.cellsOf 22 = 1 := by kernel_rfl
theorem cells23 : PP.cellsOf 23 = 1 := by kernel_rfl
theorem cells106 : PP.cellsOf 106 = 3 := by kernel_rfl

theorem read_int {sp : Nat → Bool} {hd : Bool} {fuel : Nat} {c : Value} {x : DataW H × List MemPlace} (h : DataW.trod enc PP W 0 sp hd fuel 3 [c] = some x) : ∃ n, c = .int .i64 n := by
  cases fuel with
  | zero => simp [DataW.trod] at h
  | succ n =>
    unfold DataW.trod at h
    rw [ul3] at h
    cases c <;> simp at h
    exact ⟨_, by rw [h.1.1]⟩

theorem spot_of {r : Reach} {b0 : Nat} {t e : TypeId} {a : Addr} {len cap : Nat} (ht : PP.underlying t = some (.slice e)) (h : Cell.okWide PP W r b0 t (.slice (some a) len cap)) : a.spot = none := by
  simp only [Cell.okWide, ht, Cell.ok] at h
  exact h.2.2.2.1

theorem read_sl {r : Reach} {b0 : Nat} {hd : Bool} {fuel : Nat} {c : Value} {x : DataW H × List MemPlace} (hok : Cell.okWide PP W r b0 22 c) (h : DataW.trod enc PP W 0 (fun _ => true) hd fuel 22 [c] = some x) : ∃ o, PRel (memOf W) (eSl o) c := by
  rcases open_ints u22 ul3 cells3 h with ⟨hc, _⟩ | ⟨a, len, cap, zs, hc, _, hl, hm, hz, _, hcell, _⟩
  · injection hc with hc; subst hc
    exact ⟨none, .nilsl⟩
  · injection hc with hc; subst hc
    have hs := spot_of u22 hok
    simp only [if_true] at hz
    have hlen : (zs.take len).length = len := by rw [List.length_take]; omega
    refine ⟨some (zs.take len), ?_⟩
    have e : eSl (some (zs.take len)) = .sl false len (eInts (zs.take len)) := by simp only [eSl, hlen]
    rw [e]
    refine .sl (fun j => .int .i64 (zs.getD j 0)) (fun _ => hs) hl (by simp) (fun j hj => ?_) (fun j hj => ?_)
    · rw [ints_length, hlen] at hj
      have := hcell j (by omega)
      rwa [addr_add hs] at this
    · rw [ints_length, hlen] at hj
      have : (eInts (zs.take len))[j] = pI (zs.getD j 0) := by
        simp only [eInts, List.getElem_map, List.getElem_take]
        rw [List.getD_eq_getElem?_getD, List.getElem?_eq_getElem (by omega)]
        rfl
      rw [this]
      exact .int _ _

theorem read_edg {sp : Nat → Bool} {hd : Bool} {fuel : Nat} {cs : List Value} {x : DataW H × List MemPlace} (h : DataW.trod enc PP W 0 sp hd fuel 106 cs = some x) : ∃ e : Edg, cs = [.int .i64 e.f, .int .i64 e.t, .int .i64 e.a] := by
  obtain ⟨xs, n, _, _, hl, hlen, hf⟩ := DataW.trod_struct Go.Proofs.Try.underlying106 h
  rw [cells106] at hl
  match cs, hl with
  | [a, b, c], _ =>
    match xs, hlen with
    | [y0, y1, y2], _ =>
      have h0 : DataW.trod enc PP W 0 sp hd n 3 (List.take (PP.cellsOf 3) (List.drop 0 [a, b, c])) = some y0 := hf 0 _ rfl
      have h1 : DataW.trod enc PP W 0 sp hd n 3 (List.take (PP.cellsOf 3) (List.drop 1 [a, b, c])) = some y1 := hf 1 _ rfl
      have h2 : DataW.trod enc PP W 0 sp hd n 3 (List.take (PP.cellsOf 3) (List.drop 2 [a, b, c])) = some y2 := hf 2 _ rfl
      rw [cells3] at h0 h1 h2
      obtain ⟨p, rfl⟩ := read_int h0
      obtain ⟨q, rfl⟩ := read_int h1
      obtain ⟨r, rfl⟩ := read_int h2
      exact ⟨⟨p, q, r⟩, rfl⟩

theorem read_es {r : Reach} {b0 : Nat} {hd : Bool} {fuel : Nat} {c : Value} {x : DataW H × List MemPlace} (hok : Cell.okWide PP W r b0 23 c) (h : DataW.trod enc PP W 0 (fun _ => true) hd fuel 23 [c] = some x) : ∃ o, PRel (memOf W) (eEs o) c := by
  rcases DataW.trod_slice u23 h with ⟨hc, _⟩ | ⟨a, len, cap, elems, rest, n, _, hc, _, _, hl, hm, hlen, hel, _, _⟩
  · injection hc with hc; subst hc
    exact ⟨none, .nilsl⟩
  · injection hc with hc; subst hc
    have hs := spot_of u23 hok
    rw [cells106] at hel
    have each : ∀ i, ∃ e : Edg, i < len → W.cell? ⟨a.block, a.off + i * 3, none⟩ = some (.int .i64 e.f) ∧ W.cell? ⟨a.block, a.off + i * 3 + 1, none⟩ = some (.int .i64 e.t) ∧ W.cell? ⟨a.block, a.off + i * 3 + 2, none⟩ = some (.int .i64 e.a) := by
      intro i
      by_cases hi : i < len
      · have h1 := hel i hi
        rw [List.getElem?_eq_getElem (by omega)] at h1
        obtain ⟨cs, h2, h3⟩ := Option.bind_eq_some_iff.1 h1
        obtain ⟨e, rfl⟩ := read_edg h3
        obtain ⟨_, _, h4⟩ := World.cells?_some h2
        refine ⟨e, fun _ => ⟨?_, ?_, ?_⟩⟩
        · have := h4 0 (by omega); rw [addr_add hs, addr_add rfl] at this; exact this
        · have := h4 1 (by omega); rw [addr_add hs, addr_add rfl] at this; exact this
        · have := h4 2 (by omega); rw [addr_add hs, addr_add rfl] at this; exact this
      · exact ⟨default, fun h => absurd h hi⟩
    obtain ⟨f, hf⟩ := Classical.axiomOfChoice each
    have hll : ((List.range len).map f).length = len := by simp
    refine ⟨some ((List.range len).map f), ?_⟩
    have e : eEs (some ((List.range len).map f)) = .sl false len (eEdgs ((List.range len).map f)) := by simp only [eEs, hll]
    rw [e]
    have hget : ∀ i, i < len → (eEdgs ((List.range len).map f))[i * 3]? = some (pI (f i).f) ∧ (eEdgs ((List.range len).map f))[i * 3 + 1]? = some (pI (f i).t) ∧ (eEdgs ((List.range len).map f))[i * 3 + 2]? = some (pI (f i).a) := by
      intro i hi
      have := edgs_get ((List.range len).map f) i (by rw [hll]; exact hi)
      simpa using this
    refine .sl (fun j => .int .i64 (if j % 3 = 0 then (f (j / 3)).f else if j % 3 = 1 then (f (j / 3)).t else (f (j / 3)).a)) (fun _ => hs) hl (by simp) (fun j hj => ?_) (fun j hj => ?_)
    · rw [edgs_length, hll] at hj
      obtain ⟨h0, h1, h2⟩ := hf (j / 3) (by omega)
      have hj3 : j = j / 3 * 3 + j % 3 := by omega
      show W.cell? _ = _
      by_cases c0 : j % 3 = 0
      · have : a.off + j = a.off + j / 3 * 3 := by omega
        rw [this]; simpa [c0] using h0
      · by_cases c1 : j % 3 = 1
        · have : a.off + j = a.off + j / 3 * 3 + 1 := by omega
          rw [this]; simpa [c1] using h1
        · have : a.off + j = a.off + j / 3 * 3 + 2 := by omega
          rw [this]; simpa [c0, c1] using h2
    · have hj' := hj
      rw [edgs_length, hll] at hj
      obtain ⟨h0, h1, h2⟩ := hget (j / 3) (by omega)
      have hx := List.getElem?_eq_getElem hj'
      by_cases c0 : j % 3 = 0
      · have : j / 3 * 3 = j := by omega
        rw [this, hx] at h0
        injection h0 with h0
        rw [h0]; simp only [c0, if_true]; exact .int _ _
      · by_cases c1 : j % 3 = 1
        · have : j / 3 * 3 + 1 = j := by omega
          rw [this, hx] at h1
          injection h1 with h1
          rw [h1]; simp only [c1, if_true, if_neg (show ¬ (1 = 0) by decide)]; exact .int _ _
        · have : j / 3 * 3 + 2 = j := by omega
          rw [this, hx] at h2
          injection h2 with h2
          rw [h2]; simp only [c0, c1, if_false]; exact .int _ _

theorem read_path {hd : Bool} {r : Reach} {b0 : Nat} {v : Value} {d : DataW H} {ps : List MemPlace} (hok : Value.okWide PP W r b0 22 v) (h : DataW.Trod enc PP W 0 (fun _ => true) hd 22 v d ps) :
    ∃ o, VRel (fun _ _ => none) (memOf W) (.p (eSl o)) v := by
  obtain ⟨a0, len, cap, rfl⟩ := okWide_slice u22 hok
  have hk : Cell.okWide PP W r b0 22 (.slice a0 len cap) := by simpa only [Value.okWide, u22] using hok
  obtain ⟨fuel, h⟩ := h
  obtain ⟨o, ho⟩ := read_sl hk (by simpa [Value.cells] using h)
  exact ⟨o, .p ho⟩

theorem cells98 : PP.cellsOf 98 = 2 := by kernel_rfl
theorem cells25 : PP.cellsOf 25 = 4 := by kernel_rfl
theorem cells33 : PP.cellsOf 33 = 2 := by kernel_rfl
theorem cells31 : PP.cellsOf 31 = 1 := by kernel_rfl
theorem types25 : PP.cellTypes PP.depth 25 = some [3, 22, 22, 23] := by kernel_rfl
theorem types33 : PP.cellTypes PP.depth 33 = some [22, 31] := by kernel_rfl

theorem read_pr {sp : Nat → Bool} {hd : Bool} {fuel : Nat} {cs : List Value} {x : DataW H × List MemPlace} (h : DataW.trod enc PP W 0 sp hd fuel 98 cs = some x) : ∃ e : Pr, cs = [.int .i64 e.i, .int .i64 e.o] := by
  obtain ⟨xs, n, _, _, hl, hlen, hf⟩ := DataW.trod_struct Go.Proofs.Try.underlying98 h
  rw [cells98] at hl
  match cs, hl with
  | [a, b], _ =>
    match xs, hlen with
    | [y0, y1], _ =>
      have h0 : DataW.trod enc PP W 0 sp hd n 3 (List.take (PP.cellsOf 3) (List.drop 0 [a, b])) = some y0 := hf 0 _ rfl
      have h1 : DataW.trod enc PP W 0 sp hd n 3 (List.take (PP.cellsOf 3) (List.drop 1 [a, b])) = some y1 := hf 1 _ rfl
      rw [cells3] at h0 h1
      obtain ⟨p, rfl⟩ := read_int h0
      obtain ⟨q, rfl⟩ := read_int h1
      exact ⟨⟨p, q⟩, rfl⟩

theorem read_ps {r : Reach} {b0 : Nat} {hd : Bool} {fuel : Nat} {c : Value} {x : DataW H × List MemPlace} (hok : Cell.okWide PP W r b0 31 c) (h : DataW.trod enc PP W 0 (fun _ => true) hd fuel 31 [c] = some x) : ∃ o, PRel (memOf W) (ePs o) c := by
  rcases DataW.trod_slice u31 h with ⟨hc, _⟩ | ⟨a, len, cap, elems, rest, n, _, hc, _, _, hl, hm, hlen, hel, _, _⟩
  · injection hc with hc; subst hc
    exact ⟨none, .nilsl⟩
  · injection hc with hc; subst hc
    have hs := spot_of u31 hok
    rw [cells98] at hel
    have each : ∀ i, ∃ e : Pr, i < len → W.cell? ⟨a.block, a.off + i * 2, none⟩ = some (.int .i64 e.i) ∧ W.cell? ⟨a.block, a.off + i * 2 + 1, none⟩ = some (.int .i64 e.o) := by
      intro i
      by_cases hi : i < len
      · have h1 := hel i hi
        rw [List.getElem?_eq_getElem (by omega)] at h1
        obtain ⟨cs, h2, h3⟩ := Option.bind_eq_some_iff.1 h1
        obtain ⟨e, rfl⟩ := read_pr h3
        obtain ⟨_, _, h4⟩ := World.cells?_some h2
        refine ⟨e, fun _ => ⟨?_, ?_⟩⟩
        · have := h4 0 (by omega); rw [addr_add hs, addr_add rfl] at this; exact this
        · have := h4 1 (by omega); rw [addr_add hs, addr_add rfl] at this; exact this
      · exact ⟨default, fun h => absurd h hi⟩
    obtain ⟨f, hf⟩ := Classical.axiomOfChoice each
    have hll : ((List.range len).map f).length = len := by simp
    refine ⟨some ((List.range len).map f), ?_⟩
    have e : ePs (some ((List.range len).map f)) = .sl false len (ePrs ((List.range len).map f)) := by simp only [ePs, hll]
    rw [e]
    have hget : ∀ i, i < len → (ePrs ((List.range len).map f))[i * 2]? = some (pI (f i).i) ∧ (ePrs ((List.range len).map f))[i * 2 + 1]? = some (pI (f i).o) := by
      intro i hi
      have := prs_get ((List.range len).map f) i (by rw [hll]; exact hi)
      simpa using this
    refine .sl (fun j => .int .i64 (if j % 2 = 0 then (f (j / 2)).i else (f (j / 2)).o)) (fun _ => hs) hl (by simp) (fun j hj => ?_) (fun j hj => ?_)
    · rw [prs_length, hll] at hj
      obtain ⟨h0, h1⟩ := hf (j / 2) (by omega)
      show W.cell? _ = _
      by_cases c0 : j % 2 = 0
      · have : a.off + j = a.off + j / 2 * 2 := by omega
        rw [this]; simpa [c0] using h0
      · have : a.off + j = a.off + j / 2 * 2 + 1 := by omega
        rw [this]; simpa [c0] using h1
    · have hj' := hj
      rw [prs_length, hll] at hj
      obtain ⟨h0, h1⟩ := hget (j / 2) (by omega)
      have hx := List.getElem?_eq_getElem hj'
      by_cases c0 : j % 2 = 0
      · have : j / 2 * 2 = j := by omega
        rw [this, hx] at h0
        injection h0 with h0
        rw [h0]; simp only [c0, if_true]; exact .int _ _
      · have : j / 2 * 2 + 1 = j := by omega
        rw [this, hx] at h1
        injection h1 with h1
        rw [h1]; simp only [c0, if_false]; exact .int _ _

theorem read_cmp {hd : Bool} {r : Reach} {b0 : Nat} {v : Value} {d : DataW H} {ps : List MemPlace} (hok : Value.okWide PP W r b0 25 v) (h : DataW.Trod enc PP W 0 (fun _ => true) hd 25 v d ps) :
    ∃ p : Cmp, VRel (fun _ _ => none) (memOf W) (.agg (eCmp p)) v := by
  simp only [Value.okWide, Go.Proofs.Try.underlying25] at hok
  obtain ⟨cs, rfl, hsz, ts, hts, _, hcell⟩ := hok
  rw [types25] at hts
  injection hts with hts; subst hts
  rw [cells25] at hsz
  obtain ⟨fuel, h⟩ := h
  obtain ⟨l⟩ := cs
  simp only [List.size_toArray] at hsz
  match l, hsz with
  | [c0, c1, c2, c3], _ =>
    have k1 : Cell.okWide PP W r b0 22 c1 := by obtain ⟨u, hu, hk⟩ := hcell 1 c1 rfl; cases hu; exact hk
    have k2 : Cell.okWide PP W r b0 22 c2 := by obtain ⟨u, hu, hk⟩ := hcell 2 c2 rfl; cases hu; exact hk
    have k3 : Cell.okWide PP W r b0 23 c3 := by obtain ⟨u, hu, hk⟩ := hcell 3 c3 rfl; cases hu; exact hk
    obtain ⟨xs, n, _, _, hl, hlen, hf⟩ := DataW.trod_struct Go.Proofs.Try.underlying25 h
    match xs, hlen with
    | [y0, y1, y2, y3], _ =>
      have e0 : DataW.trod enc PP W 0 (fun _ => true) hd n 3 (List.take (PP.cellsOf 3) (List.drop 0 [c0, c1, c2, c3])) = some y0 := hf 0 _ rfl
      have e1 : DataW.trod enc PP W 0 (fun _ => true) hd n 22 (List.take (PP.cellsOf 22) (List.drop 1 [c0, c1, c2, c3])) = some y1 := hf 1 _ rfl
      have e2 : DataW.trod enc PP W 0 (fun _ => true) hd n 22 (List.take (PP.cellsOf 22) (List.drop 2 [c0, c1, c2, c3])) = some y2 := hf 2 _ rfl
      have e3 : DataW.trod enc PP W 0 (fun _ => true) hd n 23 (List.take (PP.cellsOf 23) (List.drop 3 [c0, c1, c2, c3])) = some y3 := hf 3 _ rfl
      rw [cells3] at e0
      rw [cells22] at e1 e2
      rw [cells23] at e3
      obtain ⟨m, rfl⟩ := read_int e0
      obtain ⟨o1, r1⟩ := read_sl k1 e1
      obtain ⟨o2, r2⟩ := read_sl k2 e2
      obtain ⟨o3, r3⟩ := read_es k3 e3
      refine ⟨⟨m, o1, o2, o3⟩, .agg rfl fun j h1 h2 => ?_⟩
      match j, h1 with
      | 0, _ => exact .p (.int _ _)
      | 1, _ => exact .p r1
      | 2, _ => exact .p r2
      | 3, _ => exact .p r3

theorem read_run {hd : Bool} {r : Reach} {b0 : Nat} {v : Value} {d : DataW H} {ps : List MemPlace} (hok : Value.okWide PP W r b0 33 v) (h : DataW.Trod enc PP W 0 (fun _ => true) hd 33 v d ps) :
    ∃ p : Run, VRel (fun _ _ => none) (memOf W) (.agg (eRun p)) v := by
  simp only [Value.okWide, Go.Proofs.Try.underlying33] at hok
  obtain ⟨cs, rfl, hsz, ts, hts, _, hcell⟩ := hok
  rw [types33] at hts
  injection hts with hts; subst hts
  rw [cells33] at hsz
  obtain ⟨fuel, h⟩ := h
  obtain ⟨l⟩ := cs
  simp only [List.size_toArray] at hsz
  match l, hsz with
  | [c0, c1], _ =>
    have k0 : Cell.okWide PP W r b0 22 c0 := by obtain ⟨u, hu, hk⟩ := hcell 0 c0 rfl; cases hu; exact hk
    have k1 : Cell.okWide PP W r b0 31 c1 := by obtain ⟨u, hu, hk⟩ := hcell 1 c1 rfl; cases hu; exact hk
    obtain ⟨xs, n, _, _, hl, hlen, hf⟩ := DataW.trod_struct Go.Proofs.Try.underlying33 h
    match xs, hlen with
    | [y0, y1], _ =>
      have e0 : DataW.trod enc PP W 0 (fun _ => true) hd n 22 (List.take (PP.cellsOf 22) (List.drop 0 [c0, c1])) = some y0 := hf 0 _ rfl
      have e1 : DataW.trod enc PP W 0 (fun _ => true) hd n 31 (List.take (PP.cellsOf 31) (List.drop 1 [c0, c1])) = some y1 := hf 1 _ rfl
      rw [cells22] at e0
      rw [cells31] at e1
      obtain ⟨o0, r0⟩ := read_sl k0 e0
      obtain ⟨o1, r1⟩ := read_ps k1 e1
      refine ⟨⟨o0, o1⟩, .agg rfl fun j h1 h2 => ?_⟩
      match j, h1 with
      | 0, _ => exact .p r0
      | 1, _ => exact .p r1

/-! ### What a call leaves of what was there -/
theorem below_of {C : Nat → Nat → Prop} {m : Nat → Prop} {w w' : World} (h : Frm C m w w') (hC : ∀ b o, ¬ C b o) (hm : ∀ b, ¬ m b) : Below w.heap.size w w' := by
  refine ⟨h.os, h.tape, h.output, h.size, fun k hk => ?_⟩
  have := h.obj k hk
  rw [Array.getElem?_eq_getElem hk] at this ⊢
  cases ho : w.heap[k] with
  | cells c e f =>
    rw [ho] at this
    cases hx : w'.heap[k]? with
    | none => rw [hx] at this; simp [ObjKept] at this
    | some o =>
      rw [hx] at this
      cases o with
      | cells c' e' f' =>
        obtain ⟨h1, h2, h3, h4⟩ := this
        subst h1; subst h2
        have : c' = c := Array.ext_getElem? fun i => by rw [h4 i (hC k i)]
        rw [this]
      | _ => simp [ObjKept] at this
  | map es c =>
    rw [ho] at this
    cases hx : w'.heap[k]? with
    | none => rw [hx] at this; simp [ObjKept] at this
    | some o =>
      rw [hx] at this
      cases o with
      | map es' c' =>
        rcases this with h1 | ⟨h1, h2⟩
        · exact absurd h1 (hm k)
        · rw [h1, h2]
      | _ => simp [ObjKept] at this
  | _ =>
    rw [ho] at this
    cases hx : w'.heap[k]? with
    | none => rw [hx] at this; simp [ObjKept] at this
    | some o => rw [hx] at this; cases o <;> simp [ObjKept] at this <;> simp_all

end Go.D
end
/- From what D answers to what the program answers in any world. -/
section
set_option linter.unusedVariables false
set_option linter.unusedSimpArgs false
set_option maxRecDepth 100000
namespace Go.D
open Go.ChangeShapes Go.WideShapes Go.ChangeAt Go.RowKit

theorem mixed_ok : PP.follows .mixedOrders = true := by kernel_rfl
theorem seqs_ok : ∀ g f kind, (pol g).seq f = some kind → SeqOk PP f kind := by
  intro g f kind h
  have h1 : (pol g).seq = fun _ => none := by
    unfold pol
    split <;> rfl
  rw [h1] at h
  exact absurd h (by simp)

/-- What D answers at the empty store, the program answers in any world. -/
theorem calls_of {f : FuncId} {args : List DV} {σ' : Store} {b : Bool} (h : CC 0 f args [] = some (.p (.bool b), σ')) {W : World} {vs : Array Value} (hv : Vals (fun _ _ => none) (memOf W) args vs) :
    Calls PP f vs W fun e W' => e = .returned (.bool b) ∧ Below W.heap.size W W' := by
  obtain ⟨k, hk⟩ := lim_some h
  have hs : SRel [] (fun _ _ => none) (memOf W) W := srel_bare fun b o v h => h
  obtain ⟨_, hc⟩ := callK_ok mixed_ok seqs_ok k _ _ _ _ _ _ (hk k (Nat.le_refl _)) (Nat.zero_le _) _ _ _ _ hs hv
  have hw := callsIn_wide.1 (hc Fence.wide 0 Free.wide)
  refine hw.mono ?_
  rintro e W' ⟨v', rfl, L', M', hp, hr⟩
  refine ⟨by rw [bool_of hr], below_of hp.frm ?_ ?_⟩
  · rintro b o ⟨r, row, l, _, ⟨h, _⟩, _⟩
    exact absurd h (by simp)
  · rintro b ⟨r, es, l, _, ⟨h, _⟩, _⟩
    exact absurd h (by simp)

theorem own_ok : ownKnob PP.godebug = none := by kernel_rfl
theorem laidOut_ok : laidOutB PP = true := by kernel_rfl
theorem ul4 : PP.underlying 4 = some .bool := by kernel_rfl

/-- The awake call. -/
def Awake : Prop := ∀ σ, pureV CC 10 [] σ = some (.p (.bool true))

end Go.D
end
/- OpenChecks: for every component and every run the law answers true and leaves its arguments as they were: the given statement, without conditions. -/
section
set_option linter.unusedVariables false
set_option linter.unusedSimpArgs false
set_option maxRecDepth 100000
namespace Go.D
open Go.ChangeShapes Go.WideShapes Go.ChangeAt Go.RowKit

theorem openChecks_calls (hawake : Awake) {H : Type} {enc : TypeId × Value → H} {W : World} {base : Nat} {args : Array Value} {ds : List (DataW H)} {ps : List MemPlace}
    (hval : ∀ (j : Nat) t v, ([25, 33] : List TypeId).toArray[j]? = some t → args[j]? = some v → Value.okWide PP W .any base t v)
    (hA : DataW.TrodAll enc PP W 0 (fun _ => true) true [25, 33] args.toList ds ps) :
    Calls PP 6 args W fun e W' => e = .returned (.bool true) ∧ Below W.heap.size W W' := by
  obtain ⟨v0, v1, d0, d1, p0, p1, rfl, rfl, rfl, h0, h1⟩ := trodAll_two hA
  obtain ⟨o0, ho0⟩ := read_cmp (hval 0 25 v0 rfl rfl) h0
  obtain ⟨o1, ho1⟩ := read_run (hval 1 33 v1 rfl rfl) h1
  obtain ⟨σ', hc⟩ := call6 hawake o0 o1
  refine calls_of hc ⟨rfl, fun j h1 h2 => ?_⟩
  match j, h1 with
  | 0, _ => exact ho0
  | 1, _ => exact ho1

end Go.D
namespace Go.Proofs.Ythddgnfaaccgjaa
open Go.D Go.ChangeShapes Go.WideShapes Go.ChangeAt Go.RowKit

set_option maxRecDepth 100000 in
theorem openChecks_lifted (hawake : Awake) (os : Os) (started : os.Started) (H : Type) (enc : TypeId × Value → H) :
    ReturnsInHanded {} Try.checked os 6 .any (Rows.openChecksSpec.pre6 enc Try.prog Try.f6 Rows.openChecksRow.domain false) (Rows.openChecksSpec.post enc Try.prog Try.f6 false true false false) := by
  refine returnsInHanded_of_change_sized (C := Try.checked) own_ok started (by kernel_rfl) Try.func6
    (ChangeSpec.witness6 (enc := enc) (C := Try.checked) false ⟨#[], #[.agg #[.int .i64 0, .slice none 0 0, .slice none 0 0, .slice none 0 0], .agg #[.slice none 0 0, .slice none 0 0]], []⟩ 8 (by kernel_rfl) (by kernel_rfl) (by kernel_rfl) (by kernel_rfl)) ?_
  intro W base args ds gs before hval0 hW _ hsz0 _
  have hval : ∀ (j : Nat) t v, Try.f6.params[j]? = some t → args[j]? = some v → Value.okWide Try.prog W .any base t v := hval0
  have hW' := hW
  obtain ⟨p, q, hA0, hV, rfl, _, _⟩ := hW
  have hA : DataW.TrodAll enc Try.prog W 0 (fun _ => true) true Try.f6.params.toList args.toList ds p := hA0
  rw [Try.params6] at hA hval
  have hA2 := hA
  obtain ⟨v0, v1, d0, d1, p0, p1, rfl, rfl, rfl, h0, h1⟩ := trodAll_two hA
  obtain ⟨rfl, rfl⟩ := trodVars_none hV
  have hlt : ∀ x ∈ p0 ++ p1, x.block < W.heap.size := fun x hx => by
    have := hW'.lt x (by simpa using hx)
    exact this
  have e0 : ∀ x ∈ p0, x.block < W.heap.size := fun x hx => hlt x (List.mem_append_left _ hx)
  have e1 : ∀ x ∈ p1, x.block < W.heap.size := fun x hx => hlt x (List.mem_append_right _ hx)
  refine (openChecks_calls hawake (base := base) hval hA2).mono ?_
  rintro e W2 ⟨rfl, hnx⟩
  refine ⟨_, rfl, _, _, _, [], p0 ++ p1, [], hW', ?_, ?_, rfl, hnx.frame _, fun h => by cases h⟩
  · exact trodAll_mk1 (shut_bool ul4 true)
  · exact trodAll_mk2 (Below.trod laidOut_ok (by kernel_rfl) (of_decide_eq_true (by kernel_rfl)) h0 hnx e0) (Below.trod laidOut_ok (by kernel_rfl) (of_decide_eq_true (by kernel_rfl)) h1 hnx e1)

theorem openChecks_holds : Rows.OpenChecksSaid :=
  OpenClaim.holds_of_wide 6 Try.f6 rfl rfl rfl rfl rfl rfl rfl ⟨rfl, rfl, rfl, rfl, rfl⟩ rfl rfl rfl rfl rfl (by kernel_rfl) Try.func6 (by kernel_rfl)
    (of_decide_eq_true (by kernel_rfl)) (by unfold Func.isWrapper; first | (rw [if_pos (by decide +kernel)]; kernel_rfl) | (rw [if_neg (by decide +kernel)]; exact ⟨rfl, rfl⟩))
    (fun os started H enc _ => openChecks_lifted awake_true os started H enc)

end Go.Proofs.Ythddgnfaaccgjaa
end
