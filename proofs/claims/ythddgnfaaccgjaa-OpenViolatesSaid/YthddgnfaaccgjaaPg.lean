/- Equations of functions 10, 8, 42, printed by gen.py. -/
import Derived.Test.YthddgnfaaccgjaaPc
import Derived.Test.YthddgnfaaccgjaaPd
import Derived.Test.YthddgnfaaccgjaaPf
import Derived.Test.YthddgnfaaccgjaaRows
import Derived.ProofKit
import Derived.SizedLaws
section
set_option linter.unusedVariables false
set_option maxRecDepth 10000
namespace Go.D
open _root_.Go.D.Code (fstC sndC)
open _root_.Go.D.Ann (left right)
noncomputable def c10_0 : Code := bodyOf Go.Proofs.Try.f10
noncomputable def a10_0 : Ann := (pol 10).ann
noncomputable def F10 (G : GuardT) (lo : Nat) (σ : Store) : Option (DV × Store) :=
 codeF G PP (pol 10) CC lo c10_0 a10_0 [ud, ud, ud, ud, ud, ud, ud, ud, ud, ud, ud, ud, ud, ud, ud, ud, ud, ud, ud, ud, ud, ud, ud, ud, ud, ud, ud, ud, ud, ud, ud, ud, ud, ud, ud, ud, ud, ud, ud, ud, ud, ud, ud, ud, ud, ud, ud, ud, ud, ud, ud, ud, ud, ud, ud, ud, ud, ud, ud, ud, ud, ud, ud, ud, ud, ud, ud, ud, ud, ud, ud, ud, ud, ud, ud, ud, ud, ud, ud, ud, ud, ud, ud, ud, ud, ud, ud, ud, ud, ud, ud, ud, ud, ud, ud] σ (finR PP Go.Proofs.Try.f10.results.toList)
theorem F10_eq (G : GuardT) (lo : Nat) (σ : Store) : F10 G lo σ =
 (pureFn CC (DV.fn 48 []) [] σ).bind fun x14 =>
 (pureFn CC (DV.fn 49 []) [] σ).bind fun x15 =>
 (pureFn CC (DV.fn 50 []) [] σ).bind fun x16 =>
 (pureFn CC (DV.fn 13 []) [x14, x15, x16] σ).bind fun x17 =>
 (extractV x17 0).bind fun x18 =>
 (extractV x17 1).bind fun x19 =>
 (zeroOf PP 33).bind fun z1 =>
 (store PP lo 33 (DV.ptr (List.length σ) 0) x18 (σ ++ [Row.mix z1])).bind fun σ1 =>
 (pureFn CC (DV.fn 48 []) [] σ1).bind fun x21 =>
 (pureFn CC (DV.fn 50 []) [] σ1).bind fun x22 =>
 (pureFn CC (DV.fn 38 []) [x22] σ1).bind fun x23 =>
 (pureFn CC (DV.fn 50 []) [] σ1).bind fun x24 =>
 (pureFn CC (DV.fn 13 []) [x21, x23, x24] σ1).bind fun x25 =>
 (extractV x25 0).bind fun x26 =>
 (extractV x25 1).bind fun x27 =>
 (zeroOf PP 33).bind fun z3 =>
 (store PP lo 33 (DV.ptr (List.length σ1) 0) x26 (σ1 ++ [Row.mix z3])).bind fun σ2 =>
 (pureFn CC (DV.fn 48 []) [] σ2).bind fun x29 =>
 (pureFn CC (DV.fn 48 []) [] σ2).bind fun x30 =>
 (pureFn CC (DV.fn 20 []) [x29, x30] σ2).bind fun x31 =>
 (extractV x31 0).bind fun x32 =>
 (extractV x31 1).bind fun x33 =>
 (extractV x31 2).bind fun x34 =>
 (zeroOf PP 47).bind fun z5 =>
 (store PP lo 47 (DV.ptr (List.length σ2) 0) x32 (σ2 ++ [Row.mix z5])).bind fun σ3 =>
 (pureFn CC (DV.fn 51 []) [] σ3).bind fun x36 =>
 (pureFn CC (DV.fn 45 []) [x36] σ3).bind fun x37 =>
 (extractV x37 0).bind fun x38 =>
 (extractV x37 1).bind fun x39 =>
 (zeroOf PP 88).bind fun z8 =>
 (store PP lo 88 (DV.ptr (List.length σ3) 0) x38 (σ3 ++ [Row.mix z8])).bind fun σ4 =>
 (pureFn CC (DV.fn 51 []) [] σ4).bind fun x40 =>
 (zeroOf PP 84).bind fun z10 =>
 (store PP lo 84 (DV.ptr (List.length σ4) 0) x40 (σ4 ++ [Row.mix z10])).bind fun σ5 =>
 (pureFn CC (DV.fn 49 []) [] σ5).bind fun x41 =>
 (fieldAddr PP 84 (DV.ptr (List.length σ4) 0) 2).bind fun x42 =>
 (store PP lo 27 x42 x41 σ5).bind fun σ6 =>
 (load PP 84 (DV.ptr (List.length σ4) 0) σ6).bind fun x44 =>
 (pureFn CC (DV.fn 45 []) [x44] σ6).bind fun x45 =>
 (extractV x45 0).bind fun x46 =>
 (extractV x45 1).bind fun x47 =>
 (zeroOf PP 88).bind fun z11 =>
 (store PP lo 88 (DV.ptr (List.length σ6) 0) x46 (σ6 ++ [Row.mix z11])).bind fun σ7 =>
 (binOp PP .neq 34 x19 (DV.p (PV.int IntKind.i64 (0)))).bind fun x49 =>
 G _ x49 false (some (x27, σ7)) σ7 fun x51 σ8 =>
 G _ x49 false ((binOp PP .neq 34 x51 (DV.p (PV.int IntKind.i64 (25)))).bind fun v => some (v, σ8)) σ8 fun x52 σ9 =>
 (pickV x49 (DV.p (PV.bool true)) x52).bind fun x53 =>
 G _ x53 false (some (x34, σ9)) σ9 fun x55 σ10 =>
 G _ x53 false ((binOp PP .neq 34 x55 (DV.p (PV.int IntKind.i64 (0)))).bind fun v => some (v, σ10)) σ10 fun x56 σ11 =>
 (pickV x53 (DV.p (PV.bool true)) x56).bind fun x57 =>
 G _ x57 false (some (x39, σ11)) σ11 fun x59 σ12 =>
 G _ x57 false ((binOp PP .neq 34 x59 (DV.p (PV.int IntKind.i64 (0)))).bind fun v => some (v, σ12)) σ12 fun x60 σ13 =>
 (pickV x57 (DV.p (PV.bool true)) x60).bind fun x61 =>
 G _ x61 false (some (x47, σ13)) σ13 fun x63 σ14 =>
 G _ x61 false ((binOp PP .neq 34 x63 (DV.p (PV.int IntKind.i64 (31)))).bind fun v => some (v, σ14)) σ14 fun x64 σ15 =>
 (pickV x61 (DV.p (PV.bool true)) x64).bind fun x65 =>
 G _ x65 false ((fieldAddr PP 88 (DV.ptr (List.length σ3) 0) 0).bind fun v => some (v, σ15)) σ15 fun x67 σ16 =>
 G _ x65 false ((load PP 3 x67 σ16).bind fun v => some (v, σ16)) σ16 fun x68 σ17 =>
 G _ x65 false ((binOp PP .neq 3 x68 (DV.p (PV.int IntKind.i64 (0)))).bind fun v => some (v, σ17)) σ17 fun x69 σ18 =>
 (pickV x65 (DV.p (PV.bool true)) x69).bind fun x70 =>
 G _ x70 false ((fieldAddr PP 88 (DV.ptr (List.length σ6) 0) 0).bind fun v => some (v, σ18)) σ18 fun x72 σ19 =>
 G _ x70 false ((load PP 3 x72 σ19).bind fun v => some (v, σ19)) σ19 fun x73 σ20 =>
 G _ x70 false ((binOp PP .neq 3 x73 (DV.p (PV.int IntKind.i64 (1)))).bind fun v => some (v, σ20)) σ20 fun x74 σ21 =>
 (pickV x70 (DV.p (PV.bool true)) x74).bind fun x75 =>
 condK x75
 (
 some ((DV.p (PV.bool false)), σ21)
 )
 (
 (load PP 33 (DV.ptr (List.length σ) 0) σ21).bind fun x76 =>
 (buildSlice PP none 22 3 [(0, (DV.p (PV.int IntKind.i64 (0)))), (1, (DV.p (PV.int IntKind.i64 (1)))), (2, (DV.p (PV.int IntKind.i64 (1))))] σ21).bind fun r77_22 =>
 (build PP 98 [(0, (DV.p (PV.int IntKind.i64 (1))))]).bind fun x78 =>
 (build PP 98 [(1, (DV.p (PV.int IntKind.i64 (1))))]).bind fun x79 =>
 (buildSlice PP none 31 2 [(0, x78), (1, x79)] r77_22.2).bind fun r80_23 =>
 (build PP 33 [(0, r77_22.1), (1, r80_23.1)]).bind fun x81 =>
 (pureFn CC (DV.fn 18 []) [x76, x81] r80_23.2).bind fun x82 =>
 G _ x82 true (some (x33, r80_23.2)) r80_23.2 fun x84 σ24 =>
 G _ x82 true ((buildSlice PP none 22 2 [(0, (DV.p (PV.int IntKind.i64 (0)))), (1, (DV.p (PV.int IntKind.i64 (0))))] σ24).bind fun r => some (r.1, r.2)) σ24 fun x85 σ25 =>
 G _ x82 true ((buildSlice PP none 48 1 [(0, x85)] σ25).bind fun r => some (r.1, r.2)) σ25 fun x86 σ26 =>
 G _ x82 true ((pureFn CC (DV.fn 23 []) [x84, x86] σ26).bind fun v => some (v, σ26)) σ26 fun x87 σ27 =>
 (pickV x82 x87 (DV.p (PV.bool false))).bind fun x88 =>
 G _ x88 true ((fieldAddr PP 47 (DV.ptr (List.length σ2) 0) 2).bind fun v => some (v, σ27)) σ27 fun x90 σ28 =>
 G _ x88 true ((load PP 45 x90 σ28).bind fun v => some (v, σ28)) σ28 fun x91 σ29 =>
 G _ x88 true ((len PP 45 x91 σ29).bind fun v => some (v, σ29)) σ29 fun x92 σ30 =>
 G _ x88 true ((binOp PP .eql 3 x92 (DV.p (PV.int IntKind.i64 (1)))).bind fun v => some (v, σ30)) σ30 fun x93 σ31 =>
 (pickV x88 x93 (DV.p (PV.bool false))).bind fun x94 =>
 some (x94, σ31)
 ) := by kernel_rfl
theorem F10_call {lo : Nat} {σ : Store} {r : DV × Store} (h : F10 guardT lo σ = some r) : CC lo 10 [] σ = some r :=
 callL_run Go.Proofs.Try.func10 (by decide +kernel) rfl (by decide +kernel) h
noncomputable def c8_0 : Code := bodyOf Go.Proofs.Try.f8
noncomputable def a8_0 : Ann := (pol 8).ann
noncomputable def F8 (G : GuardT) (lo : Nat) (x0 x1 x2 : DV) (σ : Store) : Option (DV × Store) :=
 codeF G PP (pol 8) CC lo c8_0 a8_0 [x0, x1, x2, ud, ud, ud, ud, ud, ud, ud, ud, ud, ud, ud, ud, ud, ud, ud, ud, ud, ud, ud, ud, ud, ud, ud, ud, ud, ud, ud, ud, ud, ud, ud, ud, ud, ud, ud, ud, ud, ud, ud, ud, ud, ud, ud, ud, ud, ud, ud, ud, ud, ud, ud, ud, ud, ud, ud, ud, ud, ud, ud, ud, ud, ud, ud, ud, ud, ud, ud, ud, ud, ud, ud, ud, ud, ud, ud, ud, ud, ud, ud, ud, ud, ud, ud] σ (finR PP Go.Proofs.Try.f8.results.toList)
theorem F8_eq (G : GuardT) (lo : Nat) (x0 x1 x2 : DV) (σ : Store) : F8 G lo x0 x1 x2 σ =
 (boxV x0).bind fun z3 =>
 (boxV x1).bind fun z4 =>
 (boxV x2).bind fun z5 =>
 (pureFn CC (DV.fn 10 []) [] (((σ ++ [Row.mix z3]) ++ [Row.mix z4]) ++ [Row.mix z5])).bind fun x9 =>
 (unOp .not x9).bind fun x10 =>
 condK x10
 (
 some ((DV.p (PV.bool false)), (((σ ++ [Row.mix z3]) ++ [Row.mix z4]) ++ [Row.mix z5]))
 )
 (
 (load PP 25 (DV.ptr (List.length σ) 0) (((σ ++ [Row.mix z3]) ++ [Row.mix z4]) ++ [Row.mix z5])).bind fun x11 =>
 (pureFn CC (DV.fn 11 []) [x11] (((σ ++ [Row.mix z3]) ++ [Row.mix z4]) ++ [Row.mix z5])).bind fun x12 =>
 (unOp .not x12).bind fun x13 =>
 G _ x13 false ((indexAddr PP 81 (DV.ptr (List.length (σ ++ [Row.mix z3])) 0) (DV.p (PV.int IntKind.i64 (0)))).bind fun v => some (v, (((σ ++ [Row.mix z3]) ++ [Row.mix z4]) ++ [Row.mix z5]))) (((σ ++ [Row.mix z3]) ++ [Row.mix z4]) ++ [Row.mix z5]) fun x15 σ1 =>
 G _ x13 false ((load PP 27 x15 σ1).bind fun v => some (v, σ1)) σ1 fun x16 σ2 =>
 G _ x13 false ((pureFn CC (DV.fn 12 []) [x16] σ2).bind fun v => some (v, σ2)) σ2 fun x17 σ3 =>
 G _ x13 false ((unOp .not x17).bind fun v => some (v, σ3)) σ3 fun x18 σ4 =>
 (pickV x13 (DV.p (PV.bool true)) x18).bind fun x19 =>
 G _ x19 false ((indexAddr PP 81 (DV.ptr (List.length (σ ++ [Row.mix z3])) 0) (DV.p (PV.int IntKind.i64 (1)))).bind fun v => some (v, σ4)) σ4 fun x21 σ5 =>
 G _ x19 false ((load PP 27 x21 σ5).bind fun v => some (v, σ5)) σ5 fun x22 σ6 =>
 G _ x19 false ((pureFn CC (DV.fn 12 []) [x22] σ6).bind fun v => some (v, σ6)) σ6 fun x23 σ7 =>
 G _ x19 false ((unOp .not x23).bind fun v => some (v, σ7)) σ7 fun x24 σ8 =>
 (pickV x19 (DV.p (PV.bool true)) x24).bind fun x25 =>
 G _ x25 false ((fieldAddr PP 33 (DV.ptr (List.length ((σ ++ [Row.mix z3]) ++ [Row.mix z4])) 0) 1).bind fun v => some (v, σ8)) σ8 fun x27 σ9 =>
 G _ x25 false ((load PP 31 x27 σ9).bind fun v => some (v, σ9)) σ9 fun x28 σ10 =>
 G _ x25 false ((len PP 31 x28 σ10).bind fun v => some (v, σ10)) σ10 fun x29 σ11 =>
 G _ x25 false ((binOp PP .gtr 3 x29 (DV.p (PV.int IntKind.i64 (20)))).bind fun v => some (v, σ11)) σ11 fun x30 σ12 =>
 (pickV x25 (DV.p (PV.bool true)) x30).bind fun x31 =>
 G _ x31 false ((fieldAddr PP 33 (DV.ptr (List.length ((σ ++ [Row.mix z3]) ++ [Row.mix z4])) 0) 0).bind fun v => some (v, σ12)) σ12 fun x33 σ13 =>
 G _ x31 false ((load PP 22 x33 σ13).bind fun v => some (v, σ13)) σ13 fun x34 σ14 =>
 G _ x31 false ((len PP 22 x34 σ14).bind fun v => some (v, σ14)) σ14 fun x35 σ15 =>
 G _ x31 false ((binOp PP .gtr 3 x35 (DV.p (PV.int IntKind.i64 (22)))).bind fun v => some (v, σ15)) σ15 fun x36 σ16 =>
 (pickV x31 (DV.p (PV.bool true)) x36).bind fun x37 =>
 G _ x37 false ((load PP 25 (DV.ptr (List.length σ) 0) σ16).bind fun v => some (v, σ16)) σ16 fun x39 σ17 =>
 G _ x37 false ((pureFn CC (DV.fn 16 []) [x39] σ17).bind fun v => some (v, σ17)) σ17 fun x40 σ18 =>
 G _ x37 false ((binOp PP .neq 3 x40 (DV.p (PV.int IntKind.i64 (0)))).bind fun v => some (v, σ18)) σ18 fun x41 σ19 =>
 (pickV x37 (DV.p (PV.bool true)) x41).bind fun x42 =>
 G _ x42 false ((indexAddr PP 81 (DV.ptr (List.length (σ ++ [Row.mix z3])) 0) (DV.p (PV.int IntKind.i64 (0)))).bind fun v => some (v, σ19)) σ19 fun x44 σ20 =>
 G _ x42 false ((load PP 27 x44 σ20).bind fun v => some (v, σ20)) σ20 fun x45 σ21 =>
 G _ x42 false ((pureFn CC (DV.fn 17 []) [x45] σ21).bind fun v => some (v, σ21)) σ21 fun x46 σ22 =>
 G _ x42 false ((binOp PP .neq 3 x46 (DV.p (PV.int IntKind.i64 (0)))).bind fun v => some (v, σ22)) σ22 fun x47 σ23 =>
 (pickV x42 (DV.p (PV.bool true)) x47).bind fun x48 =>
 G _ x48 false ((indexAddr PP 81 (DV.ptr (List.length (σ ++ [Row.mix z3])) 0) (DV.p (PV.int IntKind.i64 (1)))).bind fun v => some (v, σ23)) σ23 fun x50 σ24 =>
 G _ x48 false ((load PP 27 x50 σ24).bind fun v => some (v, σ24)) σ24 fun x51 σ25 =>
 G _ x48 false ((pureFn CC (DV.fn 17 []) [x51] σ25).bind fun v => some (v, σ25)) σ25 fun x52 σ26 =>
 G _ x48 false ((binOp PP .neq 3 x52 (DV.p (PV.int IntKind.i64 (0)))).bind fun v => some (v, σ26)) σ26 fun x53 σ27 =>
 (pickV x48 (DV.p (PV.bool true)) x53).bind fun x54 =>
 condK x54
 (
 some ((DV.p (PV.bool true)), σ27)
 )
 (
 (load PP 25 (DV.ptr (List.length σ) 0) σ27).bind fun x56 =>
 (pureFn CC (DV.fn 14 []) [x56] σ27).bind fun x57 =>
 (indexAddr PP 81 (DV.ptr (List.length (σ ++ [Row.mix z3])) 0) (DV.p (PV.int IntKind.i64 (0)))).bind fun x58 =>
 (load PP 27 x58 σ27).bind fun x59 =>
 (pureFn CC (DV.fn 15 []) [x59] σ27).bind fun x60 =>
 (indexAddr PP 81 (DV.ptr (List.length (σ ++ [Row.mix z3])) 0) (DV.p (PV.int IntKind.i64 (1)))).bind fun x61 =>
 (load PP 27 x61 σ27).bind fun x62 =>
 (pureFn CC (DV.fn 15 []) [x62] σ27).bind fun x63 =>
 (pureFn CC (DV.fn 13 []) [x57, x60, x63] σ27).bind fun x64 =>
 (extractV x64 0).bind fun x65 =>
 (extractV x64 1).bind fun x66 =>
 (zeroOf PP 33).bind fun z7 =>
 (store PP lo 33 (DV.ptr (List.length σ27) 0) x65 (σ27 ++ [Row.mix z7])).bind fun σ28 =>
 (binOp PP .eql 34 x66 (DV.p (PV.int IntKind.i64 (0)))).bind fun x68 =>
 condK x68
 (
 (load PP 25 (DV.ptr (List.length σ) 0) σ28).bind fun x69 =>
 (load PP 81 (DV.ptr (List.length (σ ++ [Row.mix z3])) 0) σ28).bind fun x70 =>
 (load PP 33 (DV.ptr (List.length σ27) 0) σ28).bind fun x71 =>
 (pureFn CC (DV.fn 42 []) [x69, x70, x71] σ28).bind fun x72 =>
 some (x72, σ28)
 )
 (
 (binOp PP .eql 34 x66 (DV.p (PV.int IntKind.i64 (25)))).bind fun x74 =>
 G _ x74 false (some (x66, σ28)) σ28 fun x76 σ29 =>
 G _ x74 false ((binOp PP .eql 34 x76 (DV.p (PV.int IntKind.i64 (2)))).bind fun v => some (v, σ29)) σ29 fun x77 σ30 =>
 (pickV x74 (DV.p (PV.bool true)) x77).bind fun x78 =>
 G _ x78 true ((load PP 25 (DV.ptr (List.length σ) 0) σ30).bind fun v => some (v, σ30)) σ30 fun x80 σ31 =>
 G _ x78 true ((load PP 81 (DV.ptr (List.length (σ ++ [Row.mix z3])) 0) σ31).bind fun v => some (v, σ31)) σ31 fun x81 σ32 =>
 G _ x78 true ((load PP 33 (DV.ptr (List.length ((σ ++ [Row.mix z3]) ++ [Row.mix z4])) 0) σ32).bind fun v => some (v, σ32)) σ32 fun x82 σ33 =>
 G _ x78 true ((pureFn CC (DV.fn 42 []) [x80, x81, x82] σ33).bind fun v => some (v, σ33)) σ33 fun x83 σ34 =>
 G _ x78 true ((unOp .not x83).bind fun v => some (v, σ34)) σ34 fun x84 σ35 =>
 (pickV x78 x84 (DV.p (PV.bool false))).bind fun x85 =>
 some (x85, σ35)
 )
 )
 ) := by kernel_rfl
theorem F8_call {lo : Nat} {x0 x1 x2 : DV} {σ : Store} {r : DV × Store} (h : F8 guardT lo x0 x1 x2 σ = some r) : CC lo 8 [x0, x1, x2] σ = some r :=
 callL_run Go.Proofs.Try.func8 (by decide +kernel) rfl (by decide +kernel) h
noncomputable def c42_0 : Code := bodyOf Go.Proofs.Try.f42
noncomputable def a42_0 : Ann := (pol 42).ann
noncomputable def F42 (G : GuardT) (lo : Nat) (x0 x1 x2 : DV) (σ : Store) : Option (DV × Store) :=
 codeF G PP (pol 42) CC lo c42_0 a42_0 [x0, x1, x2, ud, ud, ud, ud, ud, ud, ud, ud, ud, ud, ud, ud, ud, ud, ud, ud, ud, ud, ud, ud, ud, ud, ud, ud, ud, ud, ud, ud, ud, ud, ud, ud, ud, ud, ud, ud, ud, ud, ud, ud, ud, ud, ud, ud, ud, ud, ud, ud, ud, ud, ud, ud, ud, ud, ud, ud, ud, ud, ud, ud, ud, ud] σ (finR PP Go.Proofs.Try.f42.results.toList)
theorem F42_eq (G : GuardT) (lo : Nat) (x0 x1 x2 : DV) (σ : Store) : F42 G lo x0 x1 x2 σ =
 (boxV x0).bind fun z3 =>
 (boxV x1).bind fun z4 =>
 (boxV x2).bind fun z5 =>
 (fieldAddr PP 33 (DV.ptr (List.length ((σ ++ [Row.mix z3]) ++ [Row.mix z4])) 0) 1).bind fun x14 =>
 (load PP 31 x14 (((σ ++ [Row.mix z3]) ++ [Row.mix z4]) ++ [Row.mix z5])).bind fun x15 =>
 (len PP 31 x15 (((σ ++ [Row.mix z3]) ++ [Row.mix z4]) ++ [Row.mix z5])).bind fun x16 =>
 (binOp PP .sub 3 x16 (DV.p (PV.int IntKind.i64 (1)))).bind fun x17 =>
 (load PP 25 (DV.ptr (List.length σ) 0) (((σ ++ [Row.mix z3]) ++ [Row.mix z4]) ++ [Row.mix z5])).bind fun x19 =>
 (pureFn CC (DV.fn 14 []) [x19] (((σ ++ [Row.mix z3]) ++ [Row.mix z4]) ++ [Row.mix z5])).bind fun x20 =>
 (load PP 33 (DV.ptr (List.length ((σ ++ [Row.mix z3]) ++ [Row.mix z4])) 0) (((σ ++ [Row.mix z3]) ++ [Row.mix z4]) ++ [Row.mix z5])).bind fun x21 =>
 (pureFn CC (DV.fn 31 []) [x21] (((σ ++ [Row.mix z3]) ++ [Row.mix z4]) ++ [Row.mix z5])).bind fun x22 =>
 (pureFn CC (DV.fn 30 []) [x20, x22] (((σ ++ [Row.mix z3]) ++ [Row.mix z4]) ++ [Row.mix z5])).bind fun x23 =>
 (extractV x23 0).bind fun x24 =>
 (extractV x23 1).bind fun x25 =>
 (binOp PP .neq 34 x25 (DV.p (PV.int IntKind.i64 (0)))).bind fun x27 =>
 G _ x27 false (some (x17, (((σ ++ [Row.mix z3]) ++ [Row.mix z4]) ++ [Row.mix z5]))) (((σ ++ [Row.mix z3]) ++ [Row.mix z4]) ++ [Row.mix z5]) fun x29 σ1 =>
 G _ x27 false ((binOp PP .lss 3 x29 (DV.p (PV.int IntKind.i64 (0)))).bind fun v => some (v, σ1)) σ1 fun x30 σ2 =>
 (pickV x27 (DV.p (PV.bool true)) x30).bind fun x31 =>
 condK x31
 (
 some ((DV.p (PV.bool false)), σ2)
 )
 (
 (indexAddr PP 81 (DV.ptr (List.length (σ ++ [Row.mix z3])) 0) (DV.p (PV.int IntKind.i64 (0)))).bind fun x33 =>
 (load PP 27 x33 σ2).bind fun x34 =>
 (pureFn CC (DV.fn 15 []) [x34] σ2).bind fun x35 =>
 (fieldAddr PP 33 (DV.ptr (List.length ((σ ++ [Row.mix z3]) ++ [Row.mix z4])) 0) 1).bind fun x36 =>
 (load PP 31 x36 σ2).bind fun x37 =>
 (sliceOp PP 31 x37 none (some x17) none).bind fun x39 =>
 (pureFn CC (DV.fn 35 []) [x39] σ2).bind fun x40 =>
 (pureFn CC (DV.fn 34 []) [x35, x40] σ2).bind fun x41 =>
 (extractV x41 0).bind fun x42 =>
 (extractV x41 1).bind fun x43 =>
 (indexAddr PP 81 (DV.ptr (List.length (σ ++ [Row.mix z3])) 0) (DV.p (PV.int IntKind.i64 (1)))).bind fun x45 =>
 (load PP 27 x45 σ2).bind fun x46 =>
 (pureFn CC (DV.fn 15 []) [x46] σ2).bind fun x47 =>
 (fieldAddr PP 33 (DV.ptr (List.length ((σ ++ [Row.mix z3]) ++ [Row.mix z4])) 0) 1).bind fun x48 =>
 (load PP 31 x48 σ2).bind fun x49 =>
 (pureFn CC (DV.fn 35 []) [x49] σ2).bind fun x50 =>
 (pureFn CC (DV.fn 34 []) [x47, x50] σ2).bind fun x51 =>
 (extractV x51 0).bind fun x52 =>
 (extractV x51 1).bind fun x53 =>
 (binOp PP .eql 34 x43 (DV.p (PV.int IntKind.i64 (25)))).bind fun x55 =>
 G _ x55 true (some (x53, σ2)) σ2 fun x57 σ3 =>
 G _ x55 true ((binOp PP .eql 34 x57 (DV.p (PV.int IntKind.i64 (0)))).bind fun v => some (v, σ3)) σ3 fun x58 σ4 =>
 (pickV x55 x58 (DV.p (PV.bool false))).bind fun x59 =>
 G _ x59 true (some (x52, σ4)) σ4 fun x61 σ5 =>
 G _ x59 true (some (x17, σ5)) σ5 fun x62 σ6 =>
 G _ x59 true ((binOp PP .eql 3 x61 x62).bind fun v => some (v, σ6)) σ6 fun x63 σ7 =>
 (pickV x59 x63 (DV.p (PV.bool false))).bind fun x64 =>
 some (x64, σ7)
 ) := by kernel_rfl
theorem F42_call {lo : Nat} {x0 x1 x2 : DV} {σ : Store} {r : DV × Store} (h : F42 guardT lo x0 x1 x2 σ = some r) : CC lo 42 [x0, x1, x2] σ = some r :=
 callL_run Go.Proofs.Try.func42 (by decide +kernel) rfl (by decide +kernel) h
end Go.D
end
/- CheckRun and the reference's Run; OpenChecks. -/
section
set_option linter.unusedVariables false
set_option linter.unusedSimpArgs false
namespace Go.D

/-! ### Copies -/
theorem one_cells {x : DV} (h : x.one = true) : x.cells = [x] ∧ x.isUndef = false := by
  cases x <;> simp_all [DV.one, DV.cells, DV.isUndef]
theorem bld33 {x y : DV} (hx : x.one = true) (hy : y.one = true) : build PP 33 [(0, x), (1, y)] = some (.agg [x, y]) := by
  obtain ⟨h1, h2⟩ := one_cells hx
  obtain ⟨h3, h4⟩ := one_cells hy
  have e : build PP 33 [(0, x), (1, y)] = (fill (fun i => ([(0, 1), (1, 1)] : List (Nat × Nat))[i]?) [.p .nilsl, .p .nilsl] [(0, x), (1, y)]).map .agg := Eq.trans (by kernel_rfl) rfl
  rw [e]
  simp [fill, h1, h2, h3, h4, splice]
theorem st33 {σ : Store} {r lo : Nat} {a b x y : DV} (h : σ[r]? = some (.mix [a, b])) (hx : x.one = true) (hy : y.one = true) (hlo : lo ≤ r) : store PP lo 33 (.ptr r 0) (.agg [x, y]) σ = some (σ.set r (.mix [x, y])) := by
  simp [store, s33, DV.cells, storeN, hlo, h, hx, hy, splice]
theorem cell33 {σ : Store} {r : Nat} {x y : DV} (h : σ[r]? = some (.mix [x, y])) : cellV PP 33 (.ptr r 0) σ = some (.agg [x, y]) := by
  have e : cellV PP 33 (.ptr r 0) σ = (loadN σ 2 (.ptr r 0)).map .agg := Eq.trans (by kernel_rfl) rfl
  rw [e, loadN_ptr (vs := [x, y]) h rfl (by simp)]
  rfl
theorem app31 {o : OP} {lo : Nat} (hl : (L o).length ≤ 1000) (σ : Store) : append PP lo false 31 31 (.p (.sl true 0 [])) (.p (ePs o)) σ = some (if (L o).length = 0 then (.p (.sl true 0 []), σ) else (.osl σ.length 0 2 (L o).length (ePrs (L o)), σ ++ [.tok 0])) := by
  have hsrc : source σ 2 (.p (ePs o)) = some ((L o).length, (ePrs (L o)).map DV.p) := by
    cases o <;> simp [source, ePs, prs_length, ePrs]
  have h1 : (L o).length * 16 ≤ 140737488355328 := by omega
  have h2 : (L o).length ≤ 140737488355328 := by omega
  simp only [append, src31, u31, s98, bytes98, zero98, hsrc, appLit]
  simp [h1, h2, pures_map]
  split <;> rfl

/-- What is appended to: an empty literal, or a list. -/
def OutL (σ : Store) (lo sz n : Nat) (cs : List PV) (x : DV) : Prop :=
  cs.length = n * sz ∧ ((n = 0 ∧ x = .p (.sl true 0 [])) ∨ (n ≠ 0 ∧ ∃ r ver, x = .osl r ver sz n cs ∧ σ[r]? = some (.tok ver) ∧ lo ≤ r))
theorem OutL.one {σ : Store} {lo sz n : Nat} {cs : List PV} {x : DV} (h : OutL σ lo sz n cs x) : x.one = true := by
  rcases h.2 with ⟨_, rfl⟩ | ⟨_, r, ver, rfl, _⟩ <;> rfl
theorem OutL.tw {σ : Store} {lo sz n : Nat} {cs : List PV} {x : DV} (h : OutL σ lo sz n cs x) (m : Nat) (τ : Store) : thaw m τ x = some (.p (.sl false n (loosens cs))) := by
  obtain ⟨h0, h⟩ := h
  rcases h with ⟨rfl, rfl⟩ | ⟨hn, r, ver, rfl, _, _⟩
  · have : cs = [] := List.length_eq_zero_iff.1 (by simpa using h0)
    rw [this]; rfl
  · simp [thaw, thaw1, thawP]
theorem OutL.snoc {σ : Store} {lo sz n : Nat} {cs : List PV} {x : DV} (h : OutL σ lo sz n cs x) (r : Row) : OutL (σ ++ [r]) lo sz n cs x :=
  ⟨h.1, h.2.imp id fun ⟨a, q, v, b, c, d⟩ => ⟨a, q, v, b, get_old c, d⟩⟩
theorem OutL.set {σ : Store} {lo sz n q : Nat} {cs : List PV} {x : DV} {c : List DV} (h : OutL σ lo sz n cs x) (hq : σ[q]? = some (.mix c)) (r : Row) : OutL (σ.set q r) lo sz n cs x :=
  ⟨h.1, h.2.imp id fun ⟨a, q', v, b, e, d⟩ => ⟨a, q', v, b, get_set_ne e (fun h => by rw [h, hq] at e; injection e with e; injection e), d⟩⟩

theorem C55 {o : OI} {lo : Nat} {σ : Store} (hl : (L o).length ≤ 1000) (hlo : lo ≤ σ.length) : ∃ x σ', CC lo 55 [.p (eSl o)] σ = some (x, σ') ∧ OutL σ' lo 1 (L o).length (eInts (L o)) x ∧ (σ' = σ ∨ σ' = σ ++ [.tok 0]) := by
  by_cases h : (L o).length = 0
  · refine ⟨.p (.sl true 0 []), σ, F55_call ?_, ⟨by simp [ints_length], .inl ⟨h, rfl⟩⟩, .inl rfl⟩
    rw [F55_eq]
    simp only [bs22_0, obind, app22 hl, h, if_true]
  · refine ⟨.osl σ.length 0 1 (L o).length (eInts (L o)), σ ++ [.tok 0], F55_call ?_, ⟨by simp [ints_length], .inr ⟨h, _, _, rfl, get_snoc, hlo⟩⟩, .inr rfl⟩
    rw [F55_eq]
    simp only [bs22_0, obind, app22 hl, h, if_false]
theorem C35 {o : OP} {lo : Nat} {σ : Store} (hl : (L o).length ≤ 1000) (hlo : lo ≤ σ.length) : ∃ x σ', CC lo 35 [.p (ePs o)] σ = some (x, σ') ∧ OutL σ' lo 2 (L o).length (ePrs (L o)) x ∧ (σ' = σ ∨ σ' = σ ++ [.tok 0]) ∧ (∀ r v n cs, x = .osl r v 2 n cs → r = σ.length) := by
  by_cases h : (L o).length = 0
  · refine ⟨.p (.sl true 0 []), σ, F35_call ?_, ⟨by simp [prs_length], .inl ⟨h, rfl⟩⟩, .inl rfl, fun r v n cs e => absurd e (by simp)⟩
    rw [F35_eq]
    simp only [bs31_0, obind, app31 hl, h, if_true]
  · refine ⟨.osl σ.length 0 2 (L o).length (ePrs (L o)), σ ++ [.tok 0], F35_call ?_, ⟨by simp [prs_length], .inr ⟨h, _, _, rfl, get_snoc, hlo⟩⟩, .inr rfl, fun r v n cs e => by injection e with e; exact e.symm⟩
    rw [F35_eq]
    simp only [bs31_0, obind, app31 hl, h, if_false]
theorem S35 {o : OP} {σ : Store} (hl : (L o).length ≤ 1000) : pureV CC 35 [.p (ePs o)] σ = some (.p (ePs (some (L o)))) := by
  refine pureV_any (by simp [ps_view]) fun lo σ0 hs => ?_
  obtain ⟨x, σ', h1, h2, _⟩ := C35 (lo := lo) (σ := σ0) hl (by rcases hs with ⟨rfl, rfl, _⟩ | ⟨_, rfl, _⟩ <;> simp_all)
  refine ⟨x, σ', h1, ?_⟩
  have := h2.tw lo σ'
  rw [loosens_prs] at this
  rcases h2.2 with ⟨_, rfl⟩ | ⟨_, r, ver, rfl, _⟩ <;> exact this

theorem plainFn_fn (call : CallF) (lo : Nat) (f : FuncId) (caps args : List DV) (σ : Store) : plainFn call lo (.fn f caps) args σ = call lo f (args ++ caps) σ := Eq.trans rfl rfl

/-- OwnRun, as a plain call. -/
theorem C31 {r : Run} {lo : Nat} {σ : Store} (hr : RSm r) (hlo : lo ≤ σ.length) : ∃ x y σ', CC lo 31 [.agg (eRun r)] σ = some (.agg [x, y], σ') ∧ OutL σ' lo 1 (L r.st).length (eInts (L r.st)) x ∧ OutL σ' lo 2 (L r.ps).length (ePrs (L r.ps)) y ∧
    (∀ (i : Nat) (row : Row), σ[i]? = some row → σ'[i]? = some row) ∧ σ.length + 2 ≤ σ'.length ∧ (∀ r v n cs r' v' n' cs', x = .osl r v 1 n cs → y = .osl r' v' 2 n' cs' → r ≠ r') := by
  have g0 : (σ ++ [Row.mix (eRun r)] ++ [Row.mix [.p .nilsl, .p .nilsl]])[σ.length]? = some (.mix (eRun r)) := get_old get_snoc
  have g1 : (σ ++ [Row.mix (eRun r)] ++ [Row.mix [.p .nilsl, .p .nilsl]])[(σ ++ [Row.mix (eRun r)]).length]? = some (.mix [.p .nilsl, .p .nilsl]) := get_snoc
  obtain ⟨x, σ1, h1, h2, h3⟩ := C55 (o := r.st) (lo := List.length (σ ++ [Row.mix (eRun r)] ++ [Row.mix [.p .nilsl, .p .nilsl]])) (σ := σ ++ [Row.mix (eRun r)] ++ [Row.mix [.p .nilsl, .p .nilsl]]) hr.s (Nat.le_refl _)
  have k1 : ∀ {i : Nat} {row : Row}, (σ ++ [Row.mix (eRun r)] ++ [Row.mix [.p .nilsl, .p .nilsl]])[i]? = some row → σ1[i]? = some row := fun h => by
    rcases h3 with rfl | rfl
    · exact h
    · exact get_old h
  have hl1 : σ.length + 2 ≤ σ1.length := by rcases h3 with rfl | rfl <;> simp
  obtain ⟨y, σ2, h4, h5, h6, h7⟩ := C35 (o := r.ps) (lo := lo) (σ := σ1) hr.p (by omega)
  have k2 : ∀ {i : Nat} {row : Row}, σ1[i]? = some row → σ2[i]? = some row := fun h => by
    rcases h6 with rfl | rfl
    · exact h
    · exact get_old h
  have hx2 : OutL σ2 (List.length (σ ++ [Row.mix (eRun r)] ++ [Row.mix [.p .nilsl, .p .nilsl]])) 1 (L r.st).length (eInts (L r.st)) x := by
    rcases h6 with rfl | rfl
    · exact h2
    · exact h2.snoc _
  have g2 := k2 (k1 g1)
  have hlo2 : lo ≤ (σ ++ [Row.mix (eRun r)]).length := by simp; omega
  refine ⟨x, y, σ2.set (σ ++ [Row.mix (eRun r)]).length (.mix [x, y]), F31_call ?_, ?_, h5.set g2 _, ?_, ?_, ?_⟩
  · rw [F31_eq]
    simp only [box_run, zero33, guard_tt, guard_ff, guard_tf, guard_ft, guard_sk, obind, omap, pickV_true, pickV_false, condK_true, condK_false, decide_true, decide_false, Bool.not_true, Bool.not_false, not_bool, fa33_0, fa33_1, load31, load22, load33, len31, len22, shift_ptr, shift_pptr, Nat.zero_add, Nat.add_zero, pureFn_fn, List.append_nil, List.singleton_append, List.cons_append, List.nil_append, rn_0 (g0), rn_1 (g0), plainFn_fn, h1, rn_1 (k1 g0), h4, bld33 h2.one h5.one, st33 g2 h2.one h5.one hlo2, cell33 (List.getElem?_set_self (get_lt g2))]
  · have := hx2.set g2 (.mix [x, y])
    exact ⟨this.1, this.2.imp id fun ⟨a, q, v, b, c, d⟩ => ⟨a, q, v, b, c, by simp at d; omega⟩⟩
  · intro i row h
    refine get_set_ne (k2 (k1 (get_old (get_old h)))) ?_
    have := get_lt h
    simp; omega
  · rw [List.length_set]
    rcases h6 with rfl | rfl
    · exact hl1
    · simp; omega
  · intro r v n cs r' v' n' cs' e1 e2
    have e3 := h7 _ _ _ _ e2
    rcases h2.2 with ⟨_, e4⟩ | ⟨_, q, u, e4, e5, _⟩
    · rw [e4] at e1; exact absurd e1 (by simp)
    · rw [e4] at e1
      injection e1 with e6
      have := get_lt e5
      omega
def ownR (r : Run) : Run := ⟨some (L r.st), some (L r.ps)⟩
theorem rsm_own {r : Run} (h : RSm r) : RSm (ownR r) := ⟨h.s, h.p⟩
theorem S31 {r : Run} {σ : Store} (hr : RSm r) : pureV CC 31 [.agg (eRun r)] σ = some (.agg (eRun (ownR r))) := by
  refine pureV_any (by simp [run_view]) fun lo σ0 hs => ?_
  obtain ⟨x, y, σ', h1, h2, h3, _⟩ := C31 (lo := lo) (σ := σ0) hr (by rcases hs with ⟨rfl, rfl, _⟩ | ⟨_, rfl, _⟩ <;> simp_all)
  refine ⟨_, σ', h1, ?_⟩
  have t1 := h2.tw lo σ'
  have t2 := h3.tw lo σ'
  rw [loosens_ints] at t1
  rw [loosens_prs] at t2
  simp [thawAll, thawPart, mapO, t1, t2, eRun, ownR, eSl, ePs]

/-! ### CheckRun -/
theorem pred_ok {c : Cmp} {n : Nat} (hc : COk c n) : pred c.n = (n : Int) - 1 := by
  have h1 := hc.nn
  have h2 := hc.n10
  show IntKind.wrap .i64 (c.n - 1) = _
  rw [h1]; exact wrap_ok (by omega) (by omega)
theorem not_badS {c : Cmp} {n : Nat} (hc : COk c n) {l : List Int} (h : l.any (badS c) = false) {i : Nat} (hi : i < l.length) : 0 ≤ l.getD i 0 ∧ l.getD i 0 < n := by
  have hb := List.any_eq_false.1 h _ (List.getElem_mem hi)
  rw [getD_at 0 hi]
  simp only [badS, inR, pred_ok hc, Bool.not_eq_true, Bool.not_eq_false', Bool.and_eq_true, decide_eq_true_eq] at hb
  omega
theorem wrap_nat1 {n : Nat} (h : n ≤ 1000000) : IntKind.wrap .i64 ((n : Int) + 1) = (n : Int) + 1 := wrap_ok (by omega) (by omega)

theorem L30 {c : Cmp} {r : Run} {n : Nat} {lo : Nat} (hc : COk c n) (hr : RSm r) (hlen : (L r.st).length = (L r.ps).length + 1) (hb : (L r.st).any (badS c) = false) :
    ∀ (k i : Nat) (σ : Store), σ[0]? = some (.mix (eCmp c)) → σ[1]? = some (.mix (eRun r)) → lo ≤ σ.length → (L r.ps).length - i = k → i ≤ (L r.ps).length →
      ∃ σ', f30_L0 guardT lo (.ptr 0 0) (.ptr 1 0) (.p (ePs r.ps)) (.p (pI ((L r.ps).length : Nat))) (.p (pI (i : Nat))) σ = some (tup2 (runLoop c r i k), σ')
  | 0, i, σ, h0, h1, hlo, hk, hi => by
    have : ¬ (i : Int) < ((L r.ps).length : Nat) := by omega
    refine ⟨σ, ?_⟩
    rw [f30_L0_eq guardT rfl]
    simp only [b_lss, b_eql, b_neq, b_leq, b_geq, b_gtr, guard_tt, guard_ff, guard_tf, guard_ft, guard_sk, obind, omap, pickV_true, pickV_false, condK_true, condK_false, decide_true, decide_false, Bool.not_true, Bool.not_false, not_bool, this, fa33_0, fa33_1, load31, load22, load33, len31, len22, shift_ptr, shift_pptr, Nat.zero_add, Nat.add_zero, pureFn_fn, List.append_nil, List.singleton_append, List.cons_append, List.nil_append, rn_0 (h1), rn_1 (h1), runLoop, tup2]
  | k + 1, i, σ, h0, h1, hlo, hk, hi => by
    have hp := hr.p
    have h : i < (L r.ps).length := by omega
    have h' : (i : Int) < ((L r.ps).length : Nat) := by omega
    have hs0 : i < (L r.st).length := by omega
    have hs1 : i + 1 < (L r.st).length := by omega
    have w := wrap_succ (show i ≤ 1000000 by omega)
    obtain ⟨q1, q2⟩ := not_badS hc hb hs0
    have hz : (stAt r i).toNat < (L c.out).length := by rw [hc.o]; show ((L r.st).getD i 0).toNat < n; omega
    have ez : (((stAt r i).toNat : Nat) : Int) = stAt r i := by show ((((L r.st).getD i 0).toNat : Nat) : Int) = (L r.st).getD i 0; omega
    have hix : indexAddr PP 22 (.p (eSl c.out)) (.p (.int .i64 (stAt r i))) = some (.pptr (eInts (L c.out)) (stAt r i).toNat) := by
      have := idx22 (o := c.out) hz
      rwa [ez] at this
    generalize hρ1 : σ ++ [Row.mix (prD (prAt r i))] = ρ1
    have s1 : store PP lo 98 (.ptr σ.length 0) (.agg (prD (prAt r i))) (σ ++ [.mix [.p (pI 0), .p (pI 0)]]) = some ρ1 := by
      rw [← hρ1]
      have hs : splice ([.p (pI 0), .p (pI 0)] : List DV) 0 (prD (prAt r i)) = prD (prAt r i) := rfl
      simp [store, s98, DV.cells, storeN, prD, hlo]
      exact ⟨⟨rfl, rfl⟩, by simpa [prD] using hs⟩
    have k0 : ρ1[0]? = some (.mix (eCmp c)) := by rw [← hρ1]; exact get_old h0
    have k1 : ρ1[1]? = some (.mix (eRun r)) := by rw [← hρ1]; exact get_old h1
    have kp : ρ1[σ.length]? = some (.mix (prD (prAt r i))) := by rw [← hρ1]; exact get_snoc
    have hl1 : lo ≤ ρ1.length := by rw [← hρ1]; simp; omega
    generalize hx : (⟨stAt r i, (prAt r i).i, stAt r (i + 1)⟩ : Edg) = x
    generalize hρ2 : ρ1 ++ [Row.mix (edgD x)] = ρ2
    have s2 : store PP lo 106 (.ptr ρ1.length 0) (.agg (edgD x)) (ρ1 ++ [.mix [.p (pI 0), .p (pI 0), .p (pI 0)]]) = some ρ2 := by
      rw [← hρ2]
      have hs : splice ([.p (pI 0), .p (pI 0), .p (pI 0)] : List DV) 0 (edgD x) = edgD x := rfl
      simp [store, s106, DV.cells, storeN, edgD, hl1]
      exact ⟨⟨rfl, rfl, rfl⟩, by simpa [edgD] using hs⟩
    have m0 : ρ2[0]? = some (.mix (eCmp c)) := by rw [← hρ2]; exact get_old k0
    have m1 : ρ2[1]? = some (.mix (eRun r)) := by rw [← hρ2]; exact get_old k1
    have mp : ρ2[σ.length]? = some (.mix (prD (prAt r i))) := by rw [← hρ2]; exact get_old kp
    have mx : ρ2[ρ1.length]? = some (.mix (edgD x)) := by rw [← hρ2]; exact get_snoc
    have hl2 : lo ≤ ρ2.length := by rw [← hρ2]; simp; omega
    obtain ⟨σ', ih⟩ := L30 hc hr hlen hb k (i + 1) ρ2 m0 m1 hl2 (by omega) (by omega)
    have xf : x.f = stAt r i := by rw [← hx]
    have b1 : build PP 106 [(0, .p (pI ((L r.st).getD i 0))), (1, .p (pI (prAt r i).i)), (2, .p (pI ((L r.st).getD (i + 1) 0)))] = some (.agg (edgD x)) := by rw [bld106, ← hx]; rfl
    have hpr : (L r.ps).getD i default = prAt r i := rfl
    have gx : load1 (.ptr ρ1.length 0) ρ2 = some (.p (pI (stAt r i))) := by rw [← xf]; exact load1_ptr mx rfl
    have go : load1 (.ptr σ.length 1) ρ2 = some (.p (pI (prAt r i).o)) := load1_ptr mp rfl
    have gi : load1 (.ptr σ.length 0) ρ1 = some (.p (pI (prAt r i).i)) := load1_ptr kp rfl
    have hok : okStep c r i = (hasE (L c.mv) x && decide ((L c.out).getD (stAt r i).toNat 0 = (prAt r i).o)) := by rw [okStep, hx]
    rw [f30_L0_eq guardT rfl, runLoop, hok]
    simp only [b_lss, b_eql, b_neq, b_leq, b_geq, b_gtr, guard_tt, guard_ff, guard_tf, guard_ft, guard_sk, obind, omap, pickV_true, pickV_false, condK_true, condK_false, decide_true, decide_false, Bool.not_true, Bool.not_false, not_bool, h', idx31 h, load98, load98_D h, hpr, zero98, s1, fa33_0, fa33_1, load31, load22, load33, len31, len22, shift_ptr, shift_pptr, Nat.zero_add, Nat.add_zero, pureFn_fn, List.append_nil, List.singleton_append, List.cons_append, List.nil_append, rn_0 (k1), rn_1 (k1), idx22 hs0, load3, load1_getD hs0, fa98_0, fa98_1, gi, b_add, w, idx22 hs1, load1_getD hs1, b1, zero106, s2, fa25_0, fa25_1, fa25_2, fa25_3, load3, load22, load23, load25, len22, len23, cm_0 (m0), cm_1 (m0), cm_2 (m0), cm_3 (m0), load106, loadN_ptr (off := 0) (n := 3) (vs := edgD x) mx rfl (by simp [edgD]), S87 hc.sm.m]
    cases h2 : hasE (L c.mv) x with
    | false => exact ⟨_, by simp only [guard_tt, guard_ff, guard_tf, guard_ft, guard_sk, obind, omap, pickV_true, pickV_false, condK_true, condK_false, decide_true, decide_false, Bool.not_true, Bool.not_false, not_bool, Bool.false_and, Bool.false_eq_true, if_false]; rfl⟩
    | true =>
      simp only [guard_tt, guard_ff, guard_tf, guard_ft, guard_sk, obind, omap, pickV_true, pickV_false, condK_true, condK_false, decide_true, decide_false, Bool.not_true, Bool.not_false, not_bool, shift_ptr, shift_pptr, Nat.zero_add, Nat.add_zero, pureFn_fn, List.append_nil, List.singleton_append, List.cons_append, List.nil_append, cm_0 (m0), cm_1 (m0), cm_2 (m0), cm_3 (m0), fa106_0, gx, go, hix, load1_getD hz, b_neq, Bool.true_and]
      cases h3 : decide ((L c.out).getD (stAt r i).toNat 0 = (prAt r i).o) with
      | false => exact ⟨_, by simp only [guard_tt, guard_ff, guard_tf, guard_ft, guard_sk, obind, omap, pickV_true, pickV_false, condK_true, condK_false, decide_true, decide_false, Bool.not_true, Bool.not_false, not_bool, Bool.false_eq_true, if_false]; rfl⟩
      | true => exact ⟨σ', by simp only [guard_tt, guard_ff, guard_tf, guard_ft, guard_sk, obind, omap, pickV_true, pickV_false, condK_true, condK_false, decide_true, decide_false, Bool.not_true, Bool.not_false, not_bool, if_true]; exact ih⟩

theorem bs160_4 (x y z u : Int) (σ : Store) : buildSlice PP none 160 4 [(0, .p (pI x)), (1, .p (pI y)), (2, .p (pI z)), (3, .p (pI u))] σ = some (.p (.sl true 4 (eInts [x, y, z, u])), σ) := Eq.trans (by kernel_rfl) rfl
theorem either4 (x y z u : Int) (σ : Store) : pureV CC 52 [.p (.sl true 4 (eInts [x, y, z, u]))] σ = some (.p (pI (orL [x, y, z, u]))) := S52t (l := [x, y, z, u]) rfl (by simp)
theorem idx22z {o : OI} (h : 0 < (L o).length) : indexAddr PP 22 (.p (eSl o)) (.p (pI 0)) = some (.pptr (eInts (L o)) 0) := idx22 (i := 0) h

theorem S30 {c : Cmp} {r : Run} {σ : Store} (hc : CSm c) (hr : RSm r) : pureV CC 30 [.agg (eCmp c), .agg (eRun r)] σ = some (tup2 (chkRun c r)) := by
  refine pureV_any (by simp [cmp_view, run_view]) fun lo σ0 hs => ?_
  rcases hs with ⟨rfl, rfl, _⟩ | ⟨_, _, h⟩
  case inr => exact absurd h (by simp [rowFree, rowFree1, eCmp, eRun])
  have g0 : ([Row.mix (eCmp c), Row.mix (eRun r)] : Store)[0]? = some (.mix (eCmp c)) := rfl
  have g1 : ([Row.mix (eCmp c), Row.mix (eRun r)] : Store)[1]? = some (.mix (eRun r)) := rfl
  have hp := hr.p
  have hbs : pureV CC 80 [.p (eSl r.st), .fn 84 [.ptr 0 0]] [Row.mix (eCmp c), Row.mix (eRun r)] = some (.p (.bool ((L r.st).any (badS c)))) := by
    refine S80' hr.s fun σ1 hat v hv => ?_
    rcases hat with ⟨_, hf⟩ | rfl
    · exact absurd hf (by simp [rowFree1])
    · exact S84 g0
  have key : ∃ σ', F30 guardT 0 (.agg (eCmp c)) (.agg (eRun r)) [] = some (tup2 (chkRun c r), σ') := by
    rw [F30_eq]
    simp only [box_cmp, box_run, guard_tt, guard_ff, guard_tf, guard_ft, guard_sk, obind, omap, pickV_true, pickV_false, condK_true, condK_false, decide_true, decide_false, Bool.not_true, Bool.not_false, not_bool, List.length_nil, List.length_cons, fa33_0, fa33_1, load31, load22, load33, len31, len22, fa25_0, fa25_1, fa25_2, fa25_3, load3, load22, load23, load25, len22, len23, shift_ptr, shift_pptr, Nat.zero_add, Nat.add_zero, pureFn_fn, List.append_nil, List.singleton_append, List.cons_append, List.nil_append, rn_0 (g1), rn_1 (g1), cm_0 (g0), cm_1 (g0), cm_2 (g0), cm_3 (g0), cm_all g0, hbs, S29 hc, S85 hr.p, b_add, wrap_nat1 (show (L r.ps).length ≤ 1000000 by omega), b_eql, S54, bs160_4, either4, b_neq]
    unfold chkRun
    by_cases hce : cmpE c = 0
    · have hok := cok_of hc hce
      rw [if_pos hce, runRes]
      by_cases h1 : prsE (L r.ps) = 0
      · rw [if_pos h1]
        by_cases h2 : ((L r.st).length : Int) = ((L r.ps).length : Nat) + 1
        · rw [if_pos h2]
          cases h3 : (L r.st).any (badS c) with
          | true => exact ⟨_, by simp only [hce, h1, h2, guard_tt, guard_ff, guard_tf, guard_ft, guard_sk, obind, omap, pickV_true, pickV_false, condK_true, condK_false, decide_true, decide_false, Bool.not_true, Bool.not_false, not_bool, orL, Bool.false_eq_true, if_true, if_false, Int.reduceEq, reduceIte]; rfl⟩
          | false =>
            have hst : 0 < (L r.st).length := by omega
            have hg : (L r.st).getD 0 0 = stAt r 0 := rfl
            simp only [hce, h1, h2, guard_tt, guard_ff, guard_tf, guard_ft, guard_sk, obind, omap, pickV_true, pickV_false, condK_true, condK_false, decide_true, decide_false, Bool.not_true, Bool.not_false, not_bool, orL, Bool.false_eq_true, if_true, if_false, reduceIte, shift_ptr, shift_pptr, Nat.zero_add, Nat.add_zero, pureFn_fn, List.append_nil, List.singleton_append, List.cons_append, List.nil_append, cm_0 (g0), cm_1 (g0), cm_2 (g0), cm_3 (g0), rn_0 (g1), rn_1 (g1), idx22z hst, load1_getD hst, S86 hc.i, hg]
            cases h4 : hasI (L c.init) (stAt r 0) with
            | false => exact ⟨_, by simp only [guard_tt, guard_ff, guard_tf, guard_ft, guard_sk, obind, omap, pickV_true, pickV_false, condK_true, condK_false, decide_true, decide_false, Bool.not_true, Bool.not_false, not_bool, Bool.false_eq_true, if_false]; rfl⟩
            | true =>
              simp only [guard_tt, guard_ff, guard_tf, guard_ft, guard_sk, obind, omap, pickV_true, pickV_false, condK_true, condK_false, decide_true, decide_false, Bool.not_true, Bool.not_false, not_bool, if_true, shift_ptr, shift_pptr, Nat.zero_add, Nat.add_zero, pureFn_fn, List.append_nil, List.singleton_append, List.cons_append, List.nil_append, rn_0 (g1), rn_1 (g1), len31]
              exact L30 (lo := 0) hok hr (by omega) h3 _ 0 _ g0 g1 (Nat.zero_le _) (Nat.sub_zero _) (Nat.zero_le _)
        · rw [if_neg h2]
          exact ⟨_, by simp only [hce, h1, h2, guard_tt, guard_ff, guard_tf, guard_ft, guard_sk, obind, omap, pickV_true, pickV_false, condK_true, condK_false, decide_true, decide_false, Bool.not_true, Bool.not_false, not_bool, orL, Bool.false_eq_true, if_true, if_false, Int.reduceEq, reduceIte]; rfl⟩
      · rw [if_neg h1]
        exact ⟨_, by simp only [hce, h1, guard_tt, guard_ff, guard_tf, guard_ft, guard_sk, obind, omap, pickV_true, pickV_false, condK_true, condK_false, decide_true, decide_false, Bool.not_true, Bool.not_false, not_bool, orL, Bool.false_eq_true, if_true, if_false, Int.reduceEq, reduceIte]; rfl⟩
    · rw [if_neg hce]
      exact ⟨_, by simp only [hce, guard_tt, guard_ff, guard_tf, guard_ft, guard_sk, obind, omap, pickV_true, pickV_false, condK_true, condK_false, decide_true, decide_false, Bool.not_true, Bool.not_false, not_bool, orL, Bool.false_eq_true, if_true, if_false, Int.reduceEq, reduceIte]; rfl⟩
  obtain ⟨σ', h⟩ := key
  exact ⟨_, σ', F30_call h, rfl⟩

/-! ### The reference's Run, of a right component -/
theorem L32_1 {c : Cmp} {r : Run} {n : Nat} {lo : Nat} {σ : Store} (hc : COk c n) (hr : RSm r) (hlen : (L r.st).length = (L r.ps).length + 1) (hb : (L r.st).any (badS c) = false) (h0 : σ[0]? = some (.mix (eCmp c))) (h1 : σ[1]? = some (.mix (eRun r))) :
    ∀ (k i : Nat), (L r.ps).length - i = k → i ≤ (L r.ps).length → f32_L1 guardT lo (.ptr 0 0) (.ptr 1 0) (.p (pI (i : Nat))) σ = some (tup2 (runLoop c r i k), σ)
  | 0, i, hk, hi => by
    have : ¬ (i : Int) < ((L r.ps).length : Nat) := by omega
    rw [f32_L1_eq guardT rfl]
    simp only [fa33_0, fa33_1, load31, load22, load33, len31, len22, shift_ptr, shift_pptr, Nat.zero_add, Nat.add_zero, pureFn_fn, List.append_nil, List.singleton_append, List.cons_append, List.nil_append, rn_0 (h1), rn_1 (h1), b_lss, b_eql, b_neq, b_leq, b_geq, b_gtr, guard_tt, guard_ff, guard_tf, guard_ft, guard_sk, obind, omap, pickV_true, pickV_false, condK_true, condK_false, decide_true, decide_false, Bool.not_true, Bool.not_false, not_bool, this, runLoop, tup2]
  | k + 1, i, hk, hi => by
    have hp := hr.p
    have h : i < (L r.ps).length := by omega
    have h' : (i : Int) < ((L r.ps).length : Nat) := by omega
    have hs0 : i < (L r.st).length := by omega
    have hs1 : i + 1 < (L r.st).length := by omega
    have w := wrap_succ (show i ≤ 1000000 by omega)
    obtain ⟨q1, q2⟩ := not_badS hc hb hs0
    have hz : (stAt r i).toNat < (L c.out).length := by rw [hc.o]; show ((L r.st).getD i 0).toNat < n; omega
    have ez : (((stAt r i).toNat : Nat) : Int) = stAt r i := by show ((((L r.st).getD i 0).toNat : Nat) : Int) = (L r.st).getD i 0; omega
    have hix : indexAddr PP 22 (.p (eSl c.out)) (.p (.int .i64 (stAt r i))) = some (.pptr (eInts (L c.out)) (stAt r i).toNat) := by
      have := idx22 (o := c.out) hz
      rwa [ez] at this
    have ih := L32_1 (lo := lo) hc hr hlen hb h0 h1 k (i + 1) (by omega) (by omega)
    have hpr : (L r.ps).getD i default = prAt r i := rfl
    have hsi : (L r.st).getD i 0 = stAt r i := rfl
    have hsj : (L r.st).getD (i + 1) 0 = stAt r (i + 1) := rfl
    have ec : decide ((prAt r i).o = (L c.out).getD (stAt r i).toNat 0) = decide ((L c.out).getD (stAt r i).toNat 0 = (prAt r i).o) := by rw [decide_eq_decide]; exact eq_comm
    rw [f32_L1_eq guardT rfl, runLoop, okStep]
    simp only [fa33_0, fa33_1, load31, load22, load33, len31, len22, shift_ptr, shift_pptr, Nat.zero_add, Nat.add_zero, pureFn_fn, List.append_nil, List.singleton_append, List.cons_append, List.nil_append, rn_0 (h1), rn_1 (h1), b_lss, b_eql, b_neq, b_leq, b_geq, b_gtr, guard_tt, guard_ff, guard_tf, guard_ft, guard_sk, obind, omap, pickV_true, pickV_false, condK_true, condK_false, decide_true, decide_false, Bool.not_true, Bool.not_false, not_bool, h', idx31 h, fa98_1, load3, load1_pr1 h, fa25_0, fa25_1, fa25_2, fa25_3, load3, load22, load23, load25, len22, len23, cm_0 (h0), cm_1 (h0), cm_2 (h0), cm_3 (h0), idx22 hs0, load1_getD hs0, hsi, hpr, hix, load1_getD hz, ec]
    cases h3 : decide ((L c.out).getD (stAt r i).toNat 0 = (prAt r i).o) with
    | false => simp only [guard_tt, guard_ff, guard_tf, guard_ft, guard_sk, obind, omap, pickV_true, pickV_false, condK_true, condK_false, decide_true, decide_false, Bool.not_true, Bool.not_false, not_bool, Bool.and_false, Bool.false_eq_true, if_false, tup2]
    | true =>
      simp only [guard_tt, guard_ff, guard_tf, guard_ft, guard_sk, obind, omap, pickV_true, pickV_false, condK_true, condK_false, decide_true, decide_false, Bool.not_true, Bool.not_false, not_bool, shift_ptr, shift_pptr, Nat.zero_add, Nat.add_zero, pureFn_fn, List.append_nil, List.singleton_append, List.cons_append, List.nil_append, cm_all h0, rn_0 (h1), rn_1 (h1), idx22 hs0, load1_getD hs0, hsi, idx31 h, fa98_0, load1_pr0 h, hpr, b_add, w, idx22 hs1, load1_getD hs1, hsj, bld106, S89 hc.sm.m, Bool.and_true]
      cases h2 : hasE (L c.mv) ⟨stAt r i, (prAt r i).i, stAt r (i + 1)⟩ with
      | false => simp only [guard_tt, guard_ff, guard_tf, guard_ft, guard_sk, obind, omap, pickV_true, pickV_false, condK_true, condK_false, decide_true, decide_false, Bool.not_true, Bool.not_false, not_bool, Bool.false_eq_true, if_false, tup2]
      | true => simp only [guard_tt, guard_ff, guard_tf, guard_ft, guard_sk, obind, omap, pickV_true, pickV_false, condK_true, condK_false, decide_true, decide_false, Bool.not_true, Bool.not_false, not_bool, if_true]; exact ih
theorem L32_0 {c : Cmp} {r : Run} {n : Nat} {lo : Nat} {σ : Store} (hc : COk c n) (hr : RSm r) (hlen : (L r.st).length = (L r.ps).length + 1) (h0 : σ[0]? = some (.mix (eCmp c))) (h1 : σ[1]? = some (.mix (eRun r))) :
    ∀ (k i : Nat), (L r.st).length - i = k → i ≤ (L r.st).length → f32_L0 guardT lo (.ptr 0 0) (.ptr 1 0) (.p (pI (i : Nat))) σ = if ((L r.st).drop i).any (badS c) = true then some (tup2 (0, 3), σ) else if hasI (L c.init) (stAt r 0) then f32_L1 guardT lo (.ptr 0 0) (.ptr 1 0) (.p (pI (0 : Nat))) σ else some (tup2 (0, 10), σ)
  | 0, i, hk, hi => by
    have : ¬ (i : Int) < ((L r.st).length : Nat) := by omega
    have hst : 0 < (L r.st).length := by omega
    have hg : (L r.st).getD 0 0 = stAt r 0 := rfl
    rw [f32_L0_eq guardT rfl, List.drop_eq_nil_of_le (by omega)]
    simp only [fa33_0, fa33_1, load31, load22, load33, len31, len22, fa25_0, fa25_1, fa25_2, fa25_3, load3, load22, load23, load25, len22, len23, shift_ptr, shift_pptr, Nat.zero_add, Nat.add_zero, pureFn_fn, List.append_nil, List.singleton_append, List.cons_append, List.nil_append, rn_0 (h1), rn_1 (h1), cm_0 (h0), cm_1 (h0), cm_2 (h0), cm_3 (h0), b_lss, b_eql, b_neq, b_leq, b_geq, b_gtr, guard_tt, guard_ff, guard_tf, guard_ft, guard_sk, obind, omap, pickV_true, pickV_false, condK_true, condK_false, decide_true, decide_false, Bool.not_true, Bool.not_false, not_bool, this, idx22z hst, load1_getD hst, hg, S88 hc.sm.i, List.any_nil, Bool.false_eq_true, if_false]
    cases h4 : hasI (L c.init) (stAt r 0) with
    | false => simp only [guard_tt, guard_ff, guard_tf, guard_ft, guard_sk, obind, omap, pickV_true, pickV_false, condK_true, condK_false, decide_true, decide_false, Bool.not_true, Bool.not_false, not_bool, Bool.false_eq_true, if_false, tup2]
    | true => simp only [guard_tt, guard_ff, guard_tf, guard_ft, guard_sk, obind, omap, pickV_true, pickV_false, condK_true, condK_false, decide_true, decide_false, Bool.not_true, Bool.not_false, not_bool, if_true]; rfl
  | k + 1, i, hk, hi => by
    have hs := hr.s
    have h : i < (L r.st).length := by omega
    have h' : (i : Int) < ((L r.st).length : Nat) := by omega
    have ih := L32_0 (lo := lo) hc hr hlen h0 h1 k (i + 1) (by omega) (by omega)
    rw [f32_L0_eq guardT rfl, drop_cons h, List.any_cons, badS]
    cases h2 : inR (L r.st)[i] 0 (pred c.n) <;>
      simp only [fa33_0, fa33_1, load31, load22, load33, len31, len22, fa25_0, fa25_1, fa25_2, fa25_3, load3, load22, load23, load25, len22, len23, shift_ptr, shift_pptr, Nat.zero_add, Nat.add_zero, pureFn_fn, List.append_nil, List.singleton_append, List.cons_append, List.nil_append, rn_0 (h1), rn_1 (h1), cm_0 (h0), cm_1 (h0), cm_2 (h0), cm_3 (h0), b_lss, b_eql, b_neq, b_leq, b_geq, b_gtr, guard_tt, guard_ff, guard_tf, guard_ft, guard_sk, obind, omap, pickV_true, pickV_false, condK_true, condK_false, decide_true, decide_false, Bool.not_true, Bool.not_false, not_bool, h', idx22 h, load1_ints h, b_sub, S57, h2, Bool.true_or, Bool.false_or, if_true, tup2, b_add, wrap_succ (show i ≤ 1000000 by omega), ih]
theorem S32 {c : Cmp} {r : Run} {n : Nat} {σ : Store} (hc : COk c n) (hr : RSm r) : pureV CC 32 [.agg (eCmp c), .agg (eRun r)] σ = some (tup2 (runRes c r)) := by
  refine pureV_any (by simp [cmp_view, run_view]) fun lo σ0 hs => ?_
  rcases hs with ⟨rfl, rfl, _⟩ | ⟨_, _, h⟩
  case inr => exact absurd h (by simp [rowFree, rowFree1, eCmp, eRun])
  have g0 : ([Row.mix (eCmp c), Row.mix (eRun r)] : Store)[0]? = some (.mix (eCmp c)) := rfl
  have g1 : ([Row.mix (eCmp c), Row.mix (eRun r)] : Store)[1]? = some (.mix (eRun r)) := rfl
  have hp := hr.p
  refine ⟨tup2 (runRes c r), [Row.mix (eCmp c), Row.mix (eRun r)], F32_call ?_, rfl⟩
  rw [F32_eq, runRes]
  simp only [box_cmp, box_run, guard_tt, guard_ff, guard_tf, guard_ft, guard_sk, obind, omap, pickV_true, pickV_false, condK_true, condK_false, decide_true, decide_false, Bool.not_true, Bool.not_false, not_bool, List.length_nil, List.length_cons, fa33_0, fa33_1, load31, load22, load33, len31, len22, shift_ptr, shift_pptr, Nat.zero_add, Nat.add_zero, pureFn_fn, List.append_nil, List.singleton_append, List.cons_append, List.nil_append, rn_0 (g1), rn_1 (g1), S39 hr.p, b_neq]
  by_cases h1 : prsE (L r.ps) = 0
  · rw [if_pos h1]
    by_cases h2 : ((L r.st).length : Int) = ((L r.ps).length : Nat) + 1
    · rw [if_pos h2]
      simp only [h1, h2, guard_tt, guard_ff, guard_tf, guard_ft, guard_sk, obind, omap, pickV_true, pickV_false, condK_true, condK_false, decide_true, decide_false, Bool.not_true, Bool.not_false, not_bool, shift_ptr, shift_pptr, Nat.zero_add, Nat.add_zero, pureFn_fn, List.append_nil, List.singleton_append, List.cons_append, List.nil_append, fa33_0, fa33_1, load31, load22, load33, len31, len22, rn_0 (g1), rn_1 (g1), b_add, wrap_nat1 (show (L r.ps).length ≤ 1000000 by omega), b_neq]
      have e0 := L32_0 (lo := 0) hc hr (by omega) g0 g1 _ 0 (Nat.sub_zero _) (Nat.zero_le _)
      rw [List.drop_zero] at e0
      refine e0.trans ?_
      cases h3 : (L r.st).any (badS c) with
      | true => rfl
      | false =>
        simp only [Bool.false_eq_true, if_false]
        cases h4 : hasI (L c.init) (stAt r 0) with
        | false => rfl
        | true =>
          simp only [if_true]
          exact L32_1 (lo := 0) hc hr (by omega) h3 g0 g1 _ 0 (Nat.sub_zero _) (Nat.zero_le _)
    · rw [if_neg h2]
      simp only [h1, h2, guard_tt, guard_ff, guard_tf, guard_ft, guard_sk, obind, omap, pickV_true, pickV_false, condK_true, condK_false, decide_true, decide_false, Bool.not_true, Bool.not_false, not_bool, shift_ptr, shift_pptr, Nat.zero_add, Nat.add_zero, pureFn_fn, List.append_nil, List.singleton_append, List.cons_append, List.nil_append, fa33_0, fa33_1, load31, load22, load33, len31, len22, rn_0 (g1), rn_1 (g1), b_add, wrap_nat1 (show (L r.ps).length ≤ 1000000 by omega), b_neq, tup2]
  · rw [if_neg h1]
    simp only [h1, guard_tt, guard_ff, guard_tf, guard_ft, guard_sk, obind, omap, pickV_true, pickV_false, condK_true, condK_false, decide_true, decide_false, Bool.not_true, Bool.not_false, not_bool, tup2]

/-! ### OpenChecks -/
theorem runLoop_own (c : Cmp) (r : Run) : ∀ k i, runLoop (ownC c) (ownR r) i k = runLoop c r i k
  | 0, i => rfl
  | k + 1, i => by
    unfold runLoop
    rw [runLoop_own c r k (i + 1)]
    rfl
theorem runRes_own (c : Cmp) (r : Run) : runRes (ownC c) (ownR r) = runRes c r := by
  unfold runRes
  rw [runLoop_own]
  rfl
theorem law6 (hawake : ∀ σ, pureV CC 10 [] σ = some (.p (.bool true))) (c : Cmp) (r : Run) : ∃ σ', F6 guardT 0 (.agg (eCmp c)) (.agg (eRun r)) [] = some (.p (.bool true), σ') := by
  have g0 : ([Row.mix (eCmp c), Row.mix (eRun r)] : Store)[0]? = some (.mix (eCmp c)) := rfl
  have g1 : ([Row.mix (eCmp c), Row.mix (eRun r)] : Store)[1]? = some (.mix (eRun r)) := rfl
  rw [F6_eq]
  simp only [box_cmp, box_run, guard_tt, guard_ff, guard_tf, guard_ft, guard_sk, obind, omap, pickV_true, pickV_false, condK_true, condK_false, decide_true, decide_false, Bool.not_true, Bool.not_false, not_bool, List.length_nil, List.length_cons, fa33_0, fa33_1, load31, load22, load33, len31, len22, fa25_0, fa25_1, fa25_2, fa25_3, load3, load22, load23, load25, len22, len23, shift_ptr, shift_pptr, Nat.zero_add, Nat.add_zero, pureFn_fn, List.append_nil, List.singleton_append, List.cons_append, List.nil_append, hawake, cm_all g0, S11]
  cases hfew : fewC c with
  | false => exact ⟨_, by simp only [guard_tt, guard_ff, guard_tf, guard_ft, guard_sk, obind, omap, pickV_true, pickV_false, condK_true, condK_false, decide_true, decide_false, Bool.not_true, Bool.not_false, not_bool]; rfl⟩
  | true =>
    have hc := csm_of hfew
    simp only [guard_tt, guard_ff, guard_tf, guard_ft, guard_sk, obind, omap, pickV_true, pickV_false, condK_true, condK_false, decide_true, decide_false, Bool.not_true, Bool.not_false, not_bool, fa33_0, fa33_1, load31, load22, load33, len31, len22, shift_ptr, shift_pptr, Nat.zero_add, Nat.add_zero, pureFn_fn, List.append_nil, List.singleton_append, List.cons_append, List.nil_append, rn_0 (g1), rn_1 (g1), S28]
    by_cases h62 : (L r.ps).length ≤ 62
    · by_cases h63 : ((L r.st).length : Int) > 63
      · exact ⟨_, by simp only [h62, h63, guard_tt, guard_ff, guard_tf, guard_ft, guard_sk, obind, omap, pickV_true, pickV_false, condK_true, condK_false, decide_true, decide_false, Bool.not_true, Bool.not_false, not_bool, fa33_0, fa33_1, load31, load22, load33, len31, len22, shift_ptr, shift_pptr, Nat.zero_add, Nat.add_zero, pureFn_fn, List.append_nil, List.singleton_append, List.cons_append, List.nil_append, rn_0 (g1), rn_1 (g1), b_lss, b_eql, b_neq, b_leq, b_geq, b_gtr]; rfl⟩
      · have hr : RSm r := ⟨by omega, by omega⟩
        simp only [h62, h63, guard_tt, guard_ff, guard_tf, guard_ft, guard_sk, obind, omap, pickV_true, pickV_false, condK_true, condK_false, decide_true, decide_false, Bool.not_true, Bool.not_false, not_bool, fa33_0, fa33_1, load31, load22, load33, len31, len22, shift_ptr, shift_pptr, Nat.zero_add, Nat.add_zero, pureFn_fn, List.append_nil, List.singleton_append, List.cons_append, List.nil_append, rn_0 (g1), rn_1 (g1), b_lss, b_eql, b_neq, b_leq, b_geq, b_gtr, cm_all g0, S16 hc, S14 hc, S29 (csm_own hc), cmpE_own, rn_all g1, S31 hr, S30 (csm_own hc) (rsm_own hr)]
        rw [chkRun, cmpE_own, runRes_own]
        by_cases he : cmpE c = 0
        · simp only [he, if_true, guard_tt, guard_ff, guard_tf, guard_ft, guard_sk, obind, omap, pickV_true, pickV_false, condK_true, condK_false, decide_true, decide_false, Bool.not_true, Bool.not_false, not_bool, tup2, ex0, ex1, load25, load33, cm_all g0, rn_all g1, shift_ptr, shift_pptr, Nat.zero_add, Nat.add_zero, pureFn_fn, List.append_nil, List.singleton_append, List.cons_append, List.nil_append, S32 (cok_of hc he) hr, b_eql]
          exact ⟨_, rfl⟩
        · simp only [he, if_false, guard_tt, guard_ff, guard_tf, guard_ft, guard_sk, obind, omap, pickV_true, pickV_false, condK_true, condK_false, decide_true, decide_false, Bool.not_true, Bool.not_false, not_bool, tup2, ex0, ex1, b_eql]
          exact ⟨_, rfl⟩
    · exact ⟨_, by simp only [h62, guard_tt, guard_ff, guard_tf, guard_ft, guard_sk, obind, omap, pickV_true, pickV_false, condK_true, condK_false, decide_true, decide_false, Bool.not_true, Bool.not_false, not_bool]; rfl⟩
theorem call6 (hawake : ∀ σ, pureV CC 10 [] σ = some (.p (.bool true))) (c : Cmp) (r : Run) : ∃ σ', CC 0 6 [.agg (eCmp c), .agg (eRun r)] [] = some (.p (.bool true), σ') := by
  obtain ⟨σ', h⟩ := law6 hawake c r
  exact ⟨σ', F6_call h⟩
end Go.D
end
/- The examples of chapter 24: awake answers true. -/
section
set_option linter.unusedVariables false
set_option linter.unusedSimpArgs false
set_option maxRecDepth 100000
namespace Go.D
theorem E48 (σ : Store) : pureV CC 48 [] σ = some (.agg (eCmp exC)) := pureV_run run48 rfl rfl
theorem E49 (σ : Store) : pureV CC 49 [] σ = some (.p wAll) := pureV_run run49 rfl rfl
theorem E50 (σ : Store) : pureV CC 50 [] σ = some (.p wZero) := pureV_run run50 rfl rfl
theorem E51 (σ : Store) : pureV CC 51 [] σ = some (.agg (exRule wTurn)) := pureV_run run51 rfl rfl
theorem E38 (σ : Store) : pureV CC 38 [.p wZero] σ = some (.p wTurn) := pureV_run run38 rfl rfl
theorem E13a (σ : Store) : pureV CC 13 [.agg (eCmp exC), .p wAll, .p wZero] σ = some (.tuple [.agg (eRun exR), .p (pI 0)]) := pureV_run run13a rfl rfl
theorem E13b (σ : Store) : pureV CC 13 [.agg (eCmp exC), .p wTurn, .p wZero] σ = some (.tuple [.agg [.p .nilsl, .p .nilsl], .p (pI 25)]) := pureV_run run13b rfl rfl
theorem E20 (σ : Store) : pureV CC 20 [.agg (eCmp exC), .agg (eCmp exC)] σ = some (.tuple [.agg exG, .p exL, .p (pI 0)]) := pureV_run run20 rfl rfl
theorem E45a (σ : Store) : pureV CC 45 [.agg (exRule wTurn)] σ = some (.tuple [.agg fault0, .p (pI 0)]) := pureV_run run45a rfl rfl
theorem E45b (σ : Store) : pureV CC 45 [.agg (exRule wAll)] σ = some (.tuple [.agg fault1, .p (pI 31)]) := pureV_run run45b rfl rfl
theorem E18 (σ : Store) : pureV CC 18 [.agg (eRun exR), .agg [.p (.sl true 3 (eInts [0, 1, 1])), .p (.sl true 2 [pI 1, pI 0, pI 0, pI 1])]] σ = some (.p (.bool true)) := by
  rw [pureV_view (args' := [.agg (eRun exR), .agg (eRun exR)]) rfl rfl]
  exact pureV_run run18 rfl rfl
theorem E23 (σ : Store) : pureV CC 23 [.p exL, .p (.sl true 1 [.sl true 2 (eInts [0, 0])])] σ = some (.p (.bool true)) := by
  rw [pureV_view (args' := [.p exL, .p exL]) rfl rfl]
  exact pureV_run run23 rfl rfl
theorem ex3_0 (a b c : DV) : extractV (.tuple [a, b, c]) 0 = some a := Eq.trans rfl rfl
theorem ex3_1 (a b c : DV) : extractV (.tuple [a, b, c]) 1 = some b := Eq.trans rfl rfl
theorem ex3_2 (a b c : DV) : extractV (.tuple [a, b, c]) 2 = some c := Eq.trans rfl rfl
theorem zero47 : zeroOf PP 47 = some [.p (pI 0), .p .nilsl, .p .nilsl] := Eq.trans (by kernel_rfl) rfl
theorem zero88 : zeroOf PP 88 = some [.p (pI 0), .p .nilsl, .p .nilsl, .p .nilsl] := Eq.trans (by kernel_rfl) rfl
theorem zero84 : zeroOf PP 84 = some [.p (pI 0), .p .nilsl, .p .nilsl, .p .nilsl, .p (pI 0), .p .nilsl, .p .nilsl, .p .nilsl, .p .nilsl, .p .nilsl, .p .nilsl, .p .nilsl] := Eq.trans (by kernel_rfl) rfl
theorem s47 : size? PP 47 = some 3 := Eq.trans (by kernel_rfl) rfl
theorem s88 : size? PP 88 = some 4 := Eq.trans (by kernel_rfl) rfl
theorem s84 : size? PP 84 = some 12 := Eq.trans (by kernel_rfl) rfl
theorem s27w : size? PP 27 = some 1 := Eq.trans (by kernel_rfl) rfl
theorem store_newN {t n : Nat} (hs : size? PP t = some n) {cs z : List DV} (σ : Store) (hz : z.length = n) (hc : cs.length = n) (ho : cs.all DV.one = true) : store PP 0 t (.ptr σ.length 0) (.agg cs) (σ ++ [.mix z]) = some (σ ++ [.mix cs]) := by
  have e : splice z 0 cs = cs := by simp [splice, hz, hc]
  simp [store, hs, DV.cells, storeN, hc, hz, ho, e]
theorem fa84_2 (x : DV) : fieldAddr PP 84 x 2 = shiftPtr x 8 := Eq.trans (by kernel_rfl) rfl
theorem fa88_0 (x : DV) : fieldAddr PP 88 x 0 = shiftPtr x 0 := Eq.trans (by kernel_rfl) rfl
theorem fa47_2 (x : DV) : fieldAddr PP 47 x 2 = shiftPtr x 2 := Eq.trans (by kernel_rfl) rfl
theorem load84 (x : DV) (σ : Store) : load PP 84 x σ = (loadN σ 12 x).map .agg := Eq.trans (by kernel_rfl) rfl
theorem load45 (x : DV) (σ : Store) : load PP 45 x σ = load1 x σ := Eq.trans (by kernel_rfl) rfl
theorem len45 (n : Nat) (cs : List PV) (σ : Store) : len PP 45 (.p (.sl false n cs)) σ = some (.p (.int .i64 n)) := Eq.trans (by kernel_rfl) rfl
theorem bld98a : build PP 98 [(0, .p (pI 1))] = some (.agg [.p (pI 1), .p (pI 0)]) := Eq.trans (by kernel_rfl) rfl
theorem bld98b : build PP 98 [(1, .p (pI 1))] = some (.agg [.p (pI 0), .p (pI 1)]) := Eq.trans (by kernel_rfl) rfl
theorem bs31_2 (a b c d : Int) (σ : Store) : buildSlice PP none 31 2 [(0, .agg [.p (pI a), .p (pI b)]), (1, .agg [.p (pI c), .p (pI d)])] σ = some (.p (.sl true 2 [pI a, pI b, pI c, pI d]), σ) := Eq.trans (by kernel_rfl) rfl
theorem bs22_2a (x y : Int) (σ : Store) : buildSlice PP none 22 2 [(0, .p (pI x)), (1, .p (pI y))] σ = some (.p (.sl true 2 (eInts [x, y])), σ) := Eq.trans (by kernel_rfl) rfl
theorem st27w (a b c d e f g h i j k l x : DV) (v : PV) (r0 r1 r2 r3 : Row) (rest : Store) : store PP 0 27 (.ptr 4 8) (.p v) (r0 :: r1 :: r2 :: r3 :: .mix [a, b, c, d, e, f, g, h, i, j, k, l] :: rest) = some (r0 :: r1 :: r2 :: r3 :: .mix [a, b, c, d, e, f, g, h, .p v, j, k, l] :: rest) := Eq.trans (by kernel_rfl) rfl

def awS : Store := [.mix (eRun exR), .mix [.p .nilsl, .p .nilsl], .mix exG, .mix fault0, .mix (exRule wAll), .mix fault1]
theorem F10_true : ∃ σ', F10 guardT 0 [] = some (.p (.bool true), σ') := by
  refine ⟨awS, ?_⟩
  have sn33 := fun cs σ h1 h2 => store_newN (cs := cs) (z := [.p .nilsl, .p .nilsl]) s33 σ rfl h1 h2
  have n1 := fun (σ : Store) => store_newN (cs := eRun exR) (z := [.p .nilsl, .p .nilsl]) s33 σ rfl rfl rfl
  have n2 := fun (σ : Store) => store_newN (cs := [.p .nilsl, .p .nilsl]) (z := [.p .nilsl, .p .nilsl]) s33 σ rfl rfl rfl
  have n3 := fun (σ : Store) => store_newN (cs := exG) (z := [.p (pI 0), .p .nilsl, .p .nilsl]) s47 σ rfl rfl rfl
  have n4 := fun (σ : Store) => store_newN (cs := fault0) (z := [.p (pI 0), .p .nilsl, .p .nilsl, .p .nilsl]) s88 σ rfl rfl rfl
  have n5 := fun (σ : Store) => store_newN (cs := fault1) (z := [.p (pI 0), .p .nilsl, .p .nilsl, .p .nilsl]) s88 σ rfl rfl rfl
  have n6 := fun (σ : Store) => store_newN (cs := exRule wTurn) (z := [.p (pI 0), .p .nilsl, .p .nilsl, .p .nilsl, .p (pI 0), .p .nilsl, .p .nilsl, .p .nilsl, .p .nilsl, .p .nilsl, .p .nilsl, .p .nilsl]) s84 σ rfl rfl rfl
  rw [F10_eq]
  simp only [pureFn_fn, List.append_nil, E48, E49, E50, E51, E38, E13a, E13b, E20, obind, ex0, ex1, ex3_0, ex3_1, ex3_2, zero33, zero47, zero88, zero84, n1, n2, n3, n4, n6, E45a, fa84_2, shift_ptr, Nat.zero_add]
  simp only [List.nil_append, List.cons_append, List.length_nil, List.length_cons, Nat.zero_add, Nat.reduceAdd]
  have hst : store PP 0 27 (.ptr 4 8) (.p wAll) [.mix (eRun exR), .mix [.p .nilsl, .p .nilsl], .mix exG, .mix fault0, .mix (exRule wTurn)] = some [.mix (eRun exR), .mix [.p .nilsl, .p .nilsl], .mix exG, .mix fault0, .mix (exRule wAll)] := by kernel_rfl
  have hld : loadN ([.mix (eRun exR), .mix [.p .nilsl, .p .nilsl], .mix exG, .mix fault0, .mix (exRule wAll)] : Store) 12 (.ptr 4 0) = some (exRule wAll) := by kernel_rfl
  have n5' : store PP 0 88 (.ptr 5 0) (.agg fault1) [.mix (eRun exR), .mix [.p .nilsl, .p .nilsl], .mix exG, .mix fault0, .mix (exRule wAll), .mix [.p (pI 0), .p .nilsl, .p .nilsl, .p .nilsl]] = some awS := by kernel_rfl
  simp only [hst, obind, load84, hld, omap, E45b, ex0, ex1, List.cons_append, List.nil_append, n5', List.length_nil, List.length_cons, Nat.zero_add, Nat.reduceAdd]
  have q1 : load1 (.ptr 3 0) awS = some (.p (pI 0)) := by kernel_rfl
  have q2 : load1 (.ptr 5 0) awS = some (.p (pI 1)) := by kernel_rfl
  have q3 : loadN awS 2 (.ptr 0 0) = some (eRun exR) := by kernel_rfl
  have q4 : load1 (.ptr 2 2) awS = some (.p (.sl false 1 [pI 0, pI 0, pI 0])) := by kernel_rfl
  have hb33 : build PP 33 [(0, .p (.sl true 3 (eInts [0, 1, 1]))), (1, .p (.sl true 2 [pI 1, pI 0, pI 0, pI 1]))] = some (.agg [.p (.sl true 3 (eInts [0, 1, 1])), .p (.sl true 2 [pI 1, pI 0, pI 0, pI 1])]) := bld33 rfl rfl
  simp only [b_lss, b_eql, b_neq, b_leq, b_geq, b_gtr, guard_tt, guard_ff, guard_tf, guard_ft, guard_sk, obind, omap, pickV_true, pickV_false, condK_true, condK_false, decide_true, decide_false, Bool.not_true, Bool.not_false, not_bool, Int.reduceEq, fa88_0, shift_ptr, Nat.zero_add, load3, q1, q2, load33, q3, bs22_3, bld98a, bld98b, bs31_2, hb33, pureFn_fn, List.append_nil, E18, bs22_2a, bs48_1, E23, fa47_2, load45, q4, len45]
  rfl
theorem awake_true (σ : Store) : pureV CC 10 [] σ = some (.p (.bool true)) := by
  obtain ⟨σ', h⟩ := F10_true
  exact pureV_free rfl rfl (F10_call h) rfl
end Go.D
end
/- What a call's arguments are, as values of D: components, runs, watches. -/
section
set_option linter.unusedVariables false
set_option linter.unusedSimpArgs false
set_option maxRecDepth 100000
namespace Go.D
open Go.ChangeShapes Go.WideShapes Go.ChangeAt Go.RowKit

/-- All cells that can be read. -/
def memOf (W : World) : Mem := fun b o => W.cell? ⟨b, o, none⟩

variable {H : Type} {enc : TypeId × Value → H} {W : World} {base : Nat}

theorem ul3 : PP.underlying 3 = some (.int .i64) := by kernel_rfl
theorem cells3 : PP.cellsOf 3 = 1 := by kernel_rfl
theorem cells22 : PP.cellsOf 22 = 1 := by kernel_rfl
theorem cells23 : PP.cellsOf 23 = 1 := by kernel_rfl
theorem cells106 : PP.cellsOf 106 = 3 := by kernel_rfl

theorem read_int {sp : Nat → Bool} {hd : Bool} {fuel : Nat} {c : Value} {x : DataW H × List MemPlace} (h : DataW.trod enc PP W 0 sp hd fuel 3 [c] = some x) : ∃ n, c = .int .i64 n := by
  cases fuel with
  | zero => simp [DataW.trod] at h
  | succ n =>
    unfold DataW.trod at h
    rw [ul3] at h
    cases c <;> simp at h
    exact ⟨_, by rw [h.1.1]⟩

theorem spot_of {r : Reach} {b0 : Nat} {t e : TypeId} {a : Addr} {len cap : Nat} (ht : PP.underlying t = some (.slice e)) (h : Cell.okWide PP W r b0 t (.slice (some a) len cap)) : a.spot = none := by
  simp only [Cell.okWide, ht, Cell.ok] at h
  exact h.2.2.2.1

theorem read_sl {r : Reach} {b0 : Nat} {hd : Bool} {fuel : Nat} {c : Value} {x : DataW H × List MemPlace} (hok : Cell.okWide PP W r b0 22 c) (h : DataW.trod enc PP W 0 (fun _ => true) hd fuel 22 [c] = some x) : ∃ o, PRel (memOf W) (eSl o) c := by
  rcases open_ints u22 ul3 cells3 h with ⟨hc, _⟩ | ⟨a, len, cap, zs, hc, _, hl, hm, hz, _, hcell, _⟩
  · injection hc with hc; subst hc
    exact ⟨none, .nilsl⟩
  · injection hc with hc; subst hc
    have hs := spot_of u22 hok
    simp only [if_true] at hz
    have hlen : (zs.take len).length = len := by rw [List.length_take]; omega
    refine ⟨some (zs.take len), ?_⟩
    have e : eSl (some (zs.take len)) = .sl false len (eInts (zs.take len)) := by simp only [eSl, hlen]
    rw [e]
    refine .sl (fun j => .int .i64 (zs.getD j 0)) (fun _ => hs) hl (by simp) (fun j hj => ?_) (fun j hj => ?_)
    · rw [ints_length, hlen] at hj
      have := hcell j (by omega)
      rwa [addr_add hs] at this
    · rw [ints_length, hlen] at hj
      have : (eInts (zs.take len))[j] = pI (zs.getD j 0) := by
        simp only [eInts, List.getElem_map, List.getElem_take]
        rw [List.getD_eq_getElem?_getD, List.getElem?_eq_getElem (by omega)]
        rfl
      rw [this]
      exact .int _ _

theorem read_edg {sp : Nat → Bool} {hd : Bool} {fuel : Nat} {cs : List Value} {x : DataW H × List MemPlace} (h : DataW.trod enc PP W 0 sp hd fuel 106 cs = some x) : ∃ e : Edg, cs = [.int .i64 e.f, .int .i64 e.t, .int .i64 e.a] := by
  obtain ⟨xs, n, _, _, hl, hlen, hf⟩ := DataW.trod_struct Go.Proofs.Try.underlying106 h
  rw [cells106] at hl
  match cs, hl with
  | [a, b, c], _ =>
    match xs, hlen with
    | [y0, y1, y2], _ =>
      have h0 : DataW.trod enc PP W 0 sp hd n 3 (List.take (PP.cellsOf 3) (List.drop 0 [a, b, c])) = some y0 := hf 0 _ rfl
      have h1 : DataW.trod enc PP W 0 sp hd n 3 (List.take (PP.cellsOf 3) (List.drop 1 [a, b, c])) = some y1 := hf 1 _ rfl
      have h2 : DataW.trod enc PP W 0 sp hd n 3 (List.take (PP.cellsOf 3) (List.drop 2 [a, b, c])) = some y2 := hf 2 _ rfl
      rw [cells3] at h0 h1 h2
      obtain ⟨p, rfl⟩ := read_int h0
      obtain ⟨q, rfl⟩ := read_int h1
      obtain ⟨r, rfl⟩ := read_int h2
      exact ⟨⟨p, q, r⟩, rfl⟩

theorem read_es {r : Reach} {b0 : Nat} {hd : Bool} {fuel : Nat} {c : Value} {x : DataW H × List MemPlace} (hok : Cell.okWide PP W r b0 23 c) (h : DataW.trod enc PP W 0 (fun _ => true) hd fuel 23 [c] = some x) : ∃ o, PRel (memOf W) (eEs o) c := by
  rcases DataW.trod_slice u23 h with ⟨hc, _⟩ | ⟨a, len, cap, elems, rest, n, _, hc, _, _, hl, hm, hlen, hel, _, _⟩
  · injection hc with hc; subst hc
    exact ⟨none, .nilsl⟩
  · injection hc with hc; subst hc
    have hs := spot_of u23 hok
    rw [cells106] at hel
    have each : ∀ i, ∃ e : Edg, i < len → W.cell? ⟨a.block, a.off + i * 3, none⟩ = some (.int .i64 e.f) ∧ W.cell? ⟨a.block, a.off + i * 3 + 1, none⟩ = some (.int .i64 e.t) ∧ W.cell? ⟨a.block, a.off + i * 3 + 2, none⟩ = some (.int .i64 e.a) := by
      intro i
      by_cases hi : i < len
      · have h1 := hel i hi
        rw [List.getElem?_eq_getElem (by omega)] at h1
        obtain ⟨cs, h2, h3⟩ := Option.bind_eq_some_iff.1 h1
        obtain ⟨e, rfl⟩ := read_edg h3
        obtain ⟨_, _, h4⟩ := World.cells?_some h2
        refine ⟨e, fun _ => ⟨?_, ?_, ?_⟩⟩
        · have := h4 0 (by omega); rw [addr_add hs, addr_add rfl] at this; exact this
        · have := h4 1 (by omega); rw [addr_add hs, addr_add rfl] at this; exact this
        · have := h4 2 (by omega); rw [addr_add hs, addr_add rfl] at this; exact this
      · exact ⟨default, fun h => absurd h hi⟩
    obtain ⟨f, hf⟩ := Classical.axiomOfChoice each
    have hll : ((List.range len).map f).length = len := by simp
    refine ⟨some ((List.range len).map f), ?_⟩
    have e : eEs (some ((List.range len).map f)) = .sl false len (eEdgs ((List.range len).map f)) := by simp only [eEs, hll]
    rw [e]
    have hget : ∀ i, i < len → (eEdgs ((List.range len).map f))[i * 3]? = some (pI (f i).f) ∧ (eEdgs ((List.range len).map f))[i * 3 + 1]? = some (pI (f i).t) ∧ (eEdgs ((List.range len).map f))[i * 3 + 2]? = some (pI (f i).a) := by
      intro i hi
      have := edgs_get ((List.range len).map f) i (by rw [hll]; exact hi)
      simpa using this
    refine .sl (fun j => .int .i64 (if j % 3 = 0 then (f (j / 3)).f else if j % 3 = 1 then (f (j / 3)).t else (f (j / 3)).a)) (fun _ => hs) hl (by simp) (fun j hj => ?_) (fun j hj => ?_)
    · rw [edgs_length, hll] at hj
      obtain ⟨h0, h1, h2⟩ := hf (j / 3) (by omega)
      have hj3 : j = j / 3 * 3 + j % 3 := by omega
      show W.cell? _ = _
      by_cases c0 : j % 3 = 0
      · have : a.off + j = a.off + j / 3 * 3 := by omega
        rw [this]; simpa [c0] using h0
      · by_cases c1 : j % 3 = 1
        · have : a.off + j = a.off + j / 3 * 3 + 1 := by omega
          rw [this]; simpa [c1] using h1
        · have : a.off + j = a.off + j / 3 * 3 + 2 := by omega
          rw [this]; simpa [c0, c1] using h2
    · have hj' := hj
      rw [edgs_length, hll] at hj
      obtain ⟨h0, h1, h2⟩ := hget (j / 3) (by omega)
      have hx := List.getElem?_eq_getElem hj'
      by_cases c0 : j % 3 = 0
      · have : j / 3 * 3 = j := by omega
        rw [this, hx] at h0
        injection h0 with h0
        rw [h0]; simp only [c0, if_true]; exact .int _ _
      · by_cases c1 : j % 3 = 1
        · have : j / 3 * 3 + 1 = j := by omega
          rw [this, hx] at h1
          injection h1 with h1
          rw [h1]; simp only [c1, if_true, if_neg (show ¬ (1 = 0) by decide)]; exact .int _ _
        · have : j / 3 * 3 + 2 = j := by omega
          rw [this, hx] at h2
          injection h2 with h2
          rw [h2]; simp only [c0, c1, if_false]; exact .int _ _

theorem read_path {hd : Bool} {r : Reach} {b0 : Nat} {v : Value} {d : DataW H} {ps : List MemPlace} (hok : Value.okWide PP W r b0 22 v) (h : DataW.Trod enc PP W 0 (fun _ => true) hd 22 v d ps) :
    ∃ o, VRel (fun _ _ => none) (memOf W) (.p (eSl o)) v := by
  obtain ⟨a0, len, cap, rfl⟩ := okWide_slice u22 hok
  have hk : Cell.okWide PP W r b0 22 (.slice a0 len cap) := by simpa only [Value.okWide, u22] using hok
  obtain ⟨fuel, h⟩ := h
  obtain ⟨o, ho⟩ := read_sl hk (by simpa [Value.cells] using h)
  exact ⟨o, .p ho⟩

theorem cells98 : PP.cellsOf 98 = 2 := by kernel_rfl
theorem cells25 : PP.cellsOf 25 = 4 := by kernel_rfl
theorem cells33 : PP.cellsOf 33 = 2 := by kernel_rfl
theorem cells31 : PP.cellsOf 31 = 1 := by kernel_rfl
theorem types25 : PP.cellTypes PP.depth 25 = some [3, 22, 22, 23] := by kernel_rfl
theorem types33 : PP.cellTypes PP.depth 33 = some [22, 31] := by kernel_rfl

theorem read_pr {sp : Nat → Bool} {hd : Bool} {fuel : Nat} {cs : List Value} {x : DataW H × List MemPlace} (h : DataW.trod enc PP W 0 sp hd fuel 98 cs = some x) : ∃ e : Pr, cs = [.int .i64 e.i, .int .i64 e.o] := by
  obtain ⟨xs, n, _, _, hl, hlen, hf⟩ := DataW.trod_struct Go.Proofs.Try.underlying98 h
  rw [cells98] at hl
  match cs, hl with
  | [a, b], _ =>
    match xs, hlen with
    | [y0, y1], _ =>
      have h0 : DataW.trod enc PP W 0 sp hd n 3 (List.take (PP.cellsOf 3) (List.drop 0 [a, b])) = some y0 := hf 0 _ rfl
      have h1 : DataW.trod enc PP W 0 sp hd n 3 (List.take (PP.cellsOf 3) (List.drop 1 [a, b])) = some y1 := hf 1 _ rfl
      rw [cells3] at h0 h1
      obtain ⟨p, rfl⟩ := read_int h0
      obtain ⟨q, rfl⟩ := read_int h1
      exact ⟨⟨p, q⟩, rfl⟩

theorem read_ps {r : Reach} {b0 : Nat} {hd : Bool} {fuel : Nat} {c : Value} {x : DataW H × List MemPlace} (hok : Cell.okWide PP W r b0 31 c) (h : DataW.trod enc PP W 0 (fun _ => true) hd fuel 31 [c] = some x) : ∃ o, PRel (memOf W) (ePs o) c := by
  rcases DataW.trod_slice u31 h with ⟨hc, _⟩ | ⟨a, len, cap, elems, rest, n, _, hc, _, _, hl, hm, hlen, hel, _, _⟩
  · injection hc with hc; subst hc
    exact ⟨none, .nilsl⟩
  · injection hc with hc; subst hc
    have hs := spot_of u31 hok
    rw [cells98] at hel
    have each : ∀ i, ∃ e : Pr, i < len → W.cell? ⟨a.block, a.off + i * 2, none⟩ = some (.int .i64 e.i) ∧ W.cell? ⟨a.block, a.off + i * 2 + 1, none⟩ = some (.int .i64 e.o) := by
      intro i
      by_cases hi : i < len
      · have h1 := hel i hi
        rw [List.getElem?_eq_getElem (by omega)] at h1
        obtain ⟨cs, h2, h3⟩ := Option.bind_eq_some_iff.1 h1
        obtain ⟨e, rfl⟩ := read_pr h3
        obtain ⟨_, _, h4⟩ := World.cells?_some h2
        refine ⟨e, fun _ => ⟨?_, ?_⟩⟩
        · have := h4 0 (by omega); rw [addr_add hs, addr_add rfl] at this; exact this
        · have := h4 1 (by omega); rw [addr_add hs, addr_add rfl] at this; exact this
      · exact ⟨default, fun h => absurd h hi⟩
    obtain ⟨f, hf⟩ := Classical.axiomOfChoice each
    have hll : ((List.range len).map f).length = len := by simp
    refine ⟨some ((List.range len).map f), ?_⟩
    have e : ePs (some ((List.range len).map f)) = .sl false len (ePrs ((List.range len).map f)) := by simp only [ePs, hll]
    rw [e]
    have hget : ∀ i, i < len → (ePrs ((List.range len).map f))[i * 2]? = some (pI (f i).i) ∧ (ePrs ((List.range len).map f))[i * 2 + 1]? = some (pI (f i).o) := by
      intro i hi
      have := prs_get ((List.range len).map f) i (by rw [hll]; exact hi)
      simpa using this
    refine .sl (fun j => .int .i64 (if j % 2 = 0 then (f (j / 2)).i else (f (j / 2)).o)) (fun _ => hs) hl (by simp) (fun j hj => ?_) (fun j hj => ?_)
    · rw [prs_length, hll] at hj
      obtain ⟨h0, h1⟩ := hf (j / 2) (by omega)
      show W.cell? _ = _
      by_cases c0 : j % 2 = 0
      · have : a.off + j = a.off + j / 2 * 2 := by omega
        rw [this]; simpa [c0] using h0
      · have : a.off + j = a.off + j / 2 * 2 + 1 := by omega
        rw [this]; simpa [c0] using h1
    · have hj' := hj
      rw [prs_length, hll] at hj
      obtain ⟨h0, h1⟩ := hget (j / 2) (by omega)
      have hx := List.getElem?_eq_getElem hj'
      by_cases c0 : j % 2 = 0
      · have : j / 2 * 2 = j := by omega
        rw [this, hx] at h0
        injection h0 with h0
        rw [h0]; simp only [c0, if_true]; exact .int _ _
      · have : j / 2 * 2 + 1 = j := by omega
        rw [this, hx] at h1
        injection h1 with h1
        rw [h1]; simp only [c0, if_false]; exact .int _ _

theorem read_cmp {hd : Bool} {r : Reach} {b0 : Nat} {v : Value} {d : DataW H} {ps : List MemPlace} (hok : Value.okWide PP W r b0 25 v) (h : DataW.Trod enc PP W 0 (fun _ => true) hd 25 v d ps) :
    ∃ p : Cmp, VRel (fun _ _ => none) (memOf W) (.agg (eCmp p)) v := by
  simp only [Value.okWide, Go.Proofs.Try.underlying25] at hok
  obtain ⟨cs, rfl, hsz, ts, hts, _, hcell⟩ := hok
  rw [types25] at hts
  injection hts with hts; subst hts
  rw [cells25] at hsz
  obtain ⟨fuel, h⟩ := h
  obtain ⟨l⟩ := cs
  simp only [List.size_toArray] at hsz
  match l, hsz with
  | [c0, c1, c2, c3], _ =>
    have k1 : Cell.okWide PP W r b0 22 c1 := by obtain ⟨u, hu, hk⟩ := hcell 1 c1 rfl; cases hu; exact hk
    have k2 : Cell.okWide PP W r b0 22 c2 := by obtain ⟨u, hu, hk⟩ := hcell 2 c2 rfl; cases hu; exact hk
    have k3 : Cell.okWide PP W r b0 23 c3 := by obtain ⟨u, hu, hk⟩ := hcell 3 c3 rfl; cases hu; exact hk
    obtain ⟨xs, n, _, _, hl, hlen, hf⟩ := DataW.trod_struct Go.Proofs.Try.underlying25 h
    match xs, hlen with
    | [y0, y1, y2, y3], _ =>
      have e0 : DataW.trod enc PP W 0 (fun _ => true) hd n 3 (List.take (PP.cellsOf 3) (List.drop 0 [c0, c1, c2, c3])) = some y0 := hf 0 _ rfl
      have e1 : DataW.trod enc PP W 0 (fun _ => true) hd n 22 (List.take (PP.cellsOf 22) (List.drop 1 [c0, c1, c2, c3])) = some y1 := hf 1 _ rfl
      have e2 : DataW.trod enc PP W 0 (fun _ => true) hd n 22 (List.take (PP.cellsOf 22) (List.drop 2 [c0, c1, c2, c3])) = some y2 := hf 2 _ rfl
      have e3 : DataW.trod enc PP W 0 (fun _ => true) hd n 23 (List.take (PP.cellsOf 23) (List.drop 3 [c0, c1, c2, c3])) = some y3 := hf 3 _ rfl
      rw [cells3] at e0
      rw [cells22] at e1 e2
      rw [cells23] at e3
      obtain ⟨m, rfl⟩ := read_int e0
      obtain ⟨o1, r1⟩ := read_sl k1 e1
      obtain ⟨o2, r2⟩ := read_sl k2 e2
      obtain ⟨o3, r3⟩ := read_es k3 e3
      refine ⟨⟨m, o1, o2, o3⟩, .agg rfl fun j h1 h2 => ?_⟩
      match j, h1 with
      | 0, _ => exact .p (.int _ _)
      | 1, _ => exact .p r1
      | 2, _ => exact .p r2
      | 3, _ => exact .p r3

theorem read_run {hd : Bool} {r : Reach} {b0 : Nat} {v : Value} {d : DataW H} {ps : List MemPlace} (hok : Value.okWide PP W r b0 33 v) (h : DataW.Trod enc PP W 0 (fun _ => true) hd 33 v d ps) :
    ∃ p : Run, VRel (fun _ _ => none) (memOf W) (.agg (eRun p)) v := by
  simp only [Value.okWide, Go.Proofs.Try.underlying33] at hok
  obtain ⟨cs, rfl, hsz, ts, hts, _, hcell⟩ := hok
  rw [types33] at hts
  injection hts with hts; subst hts
  rw [cells33] at hsz
  obtain ⟨fuel, h⟩ := h
  obtain ⟨l⟩ := cs
  simp only [List.size_toArray] at hsz
  match l, hsz with
  | [c0, c1], _ =>
    have k0 : Cell.okWide PP W r b0 22 c0 := by obtain ⟨u, hu, hk⟩ := hcell 0 c0 rfl; cases hu; exact hk
    have k1 : Cell.okWide PP W r b0 31 c1 := by obtain ⟨u, hu, hk⟩ := hcell 1 c1 rfl; cases hu; exact hk
    obtain ⟨xs, n, _, _, hl, hlen, hf⟩ := DataW.trod_struct Go.Proofs.Try.underlying33 h
    match xs, hlen with
    | [y0, y1], _ =>
      have e0 : DataW.trod enc PP W 0 (fun _ => true) hd n 22 (List.take (PP.cellsOf 22) (List.drop 0 [c0, c1])) = some y0 := hf 0 _ rfl
      have e1 : DataW.trod enc PP W 0 (fun _ => true) hd n 31 (List.take (PP.cellsOf 31) (List.drop 1 [c0, c1])) = some y1 := hf 1 _ rfl
      rw [cells22] at e0
      rw [cells31] at e1
      obtain ⟨o0, r0⟩ := read_sl k0 e0
      obtain ⟨o1, r1⟩ := read_ps k1 e1
      refine ⟨⟨o0, o1⟩, .agg rfl fun j h1 h2 => ?_⟩
      match j, h1 with
      | 0, _ => exact .p r0
      | 1, _ => exact .p r1

/-! ### What a call leaves of what was there -/
theorem below_of {C : Nat → Nat → Prop} {m : Nat → Prop} {w w' : World} (h : Frm C m w w') (hC : ∀ b o, ¬ C b o) (hm : ∀ b, ¬ m b) : Below w.heap.size w w' := by
  refine ⟨h.os, h.tape, h.output, h.size, fun k hk => ?_⟩
  have := h.obj k hk
  rw [Array.getElem?_eq_getElem hk] at this ⊢
  cases ho : w.heap[k] with
  | cells c e f =>
    rw [ho] at this
    cases hx : w'.heap[k]? with
    | none => rw [hx] at this; simp [ObjKept] at this
    | some o =>
      rw [hx] at this
      cases o with
      | cells c' e' f' =>
        obtain ⟨h1, h2, h3, h4⟩ := this
        subst h1; subst h2
        have : c' = c := Array.ext_getElem? fun i => by rw [h4 i (hC k i)]
        rw [this]
      | _ => simp [ObjKept] at this
  | map es c =>
    rw [ho] at this
    cases hx : w'.heap[k]? with
    | none => rw [hx] at this; simp [ObjKept] at this
    | some o =>
      rw [hx] at this
      cases o with
      | map es' c' =>
        rcases this with h1 | ⟨h1, h2⟩
        · exact absurd h1 (hm k)
        · rw [h1, h2]
      | _ => simp [ObjKept] at this
  | _ =>
    rw [ho] at this
    cases hx : w'.heap[k]? with
    | none => rw [hx] at this; simp [ObjKept] at this
    | some o => rw [hx] at this; cases o <;> simp [ObjKept] at this <;> simp_all

end Go.D
end
/- From what D answers to what the program answers in any world. -/
section
set_option linter.unusedVariables false
set_option linter.unusedSimpArgs false
set_option maxRecDepth 100000
namespace Go.D
open Go.ChangeShapes Go.WideShapes Go.ChangeAt Go.RowKit

theorem mixed_ok : PP.follows .mixedOrders = true := by kernel_rfl
theorem seqs_ok : ∀ g f kind, (pol g).seq f = some kind → SeqOk PP f kind := by
  intro g f kind h
  have h1 : (pol g).seq = fun _ => none := by
    unfold pol
    split <;> rfl
  rw [h1] at h
  exact absurd h (by simp)

/-- What D answers at the empty store, the program answers in any world. -/
theorem calls_of {f : FuncId} {args : List DV} {σ' : Store} {b : Bool} (h : CC 0 f args [] = some (.p (.bool b), σ')) {W : World} {vs : Array Value} (hv : Vals (fun _ _ => none) (memOf W) args vs) :
    Calls PP f vs W fun e W' => e = .returned (.bool b) ∧ Below W.heap.size W W' := by
  obtain ⟨k, hk⟩ := lim_some h
  have hs : SRel [] (fun _ _ => none) (memOf W) W := srel_bare fun b o v h => h
  obtain ⟨_, hc⟩ := callK_ok mixed_ok seqs_ok k _ _ _ _ _ _ (hk k (Nat.le_refl _)) (Nat.zero_le _) _ _ _ _ hs hv
  have hw := callsIn_wide.1 (hc Fence.wide 0 Free.wide)
  refine hw.mono ?_
  rintro e W' ⟨v', rfl, L', M', hp, hr⟩
  refine ⟨by rw [bool_of hr], below_of hp.frm ?_ ?_⟩
  · rintro b o ⟨r, row, l, _, ⟨h, _⟩, _⟩
    exact absurd h (by simp)
  · rintro b ⟨r, es, l, _, ⟨h, _⟩, _⟩
    exact absurd h (by simp)

theorem own_ok : ownKnob PP.godebug = none := by kernel_rfl
theorem laidOut_ok : laidOutB PP = true := by kernel_rfl
theorem ul4 : PP.underlying 4 = some .bool := by kernel_rfl

/-- The awake call. -/
def Awake : Prop := ∀ σ, pureV CC 10 [] σ = some (.p (.bool true))

end Go.D
end
/- Equations of functions 13, 53, 103, 104, 105, 99, 18, 27, 62, 63, 64, 3, printed by gen.py. -/
section
set_option linter.unusedVariables false
set_option maxRecDepth 10000
namespace Go.D
open _root_.Go.D.Code (fstC sndC)
open _root_.Go.D.Ann (left right)
noncomputable def c13_0 : Code := bodyOf Go.Proofs.Try.f13
noncomputable def a13_0 : Ann := (pol 13).ann
noncomputable def F13 (G : GuardT) (lo : Nat) (x0 x1 x2 : DV) (σ : Store) : Option (DV × Store) :=
 codeF G PP (pol 13) CC lo c13_0 a13_0 [x0, x1, x2, ud, ud, ud, ud, ud, ud, ud, ud, ud, ud, ud, ud, ud, ud, ud, ud, ud, ud, ud, ud, ud, ud, ud, ud, ud, ud, ud, ud, ud, ud, ud, ud, ud, ud, ud] σ (finR PP Go.Proofs.Try.f13.results.toList)
theorem F13_eq (G : GuardT) (lo : Nat) (x0 x1 x2 : DV) (σ : Store) : F13 G lo x0 x1 x2 σ =
 (boxV x0).bind fun z3 =>
 (zeroOf PP 33).bind fun z6 =>
 (load PP 25 (DV.ptr (List.length σ) 0) ((σ ++ [Row.mix z3]) ++ [Row.mix z6])).bind fun x11 =>
 (pureFn CC (DV.fn 29 []) [x11] ((σ ++ [Row.mix z3]) ++ [Row.mix z6])).bind fun x12 =>
 (pureFn CC (DV.fn 33 []) [x1] ((σ ++ [Row.mix z3]) ++ [Row.mix z6])).bind fun x14 =>
 (pureFn CC (DV.fn 33 []) [x2] ((σ ++ [Row.mix z3]) ++ [Row.mix z6])).bind fun x16 =>
 (buildSlice PP none 160 3 [(0, x12), (1, x14), (2, x16)] ((σ ++ [Row.mix z3]) ++ [Row.mix z6])).bind fun r17_1 =>
 (pureFn CC (DV.fn 52 []) [r17_1.1] r17_1.2).bind fun x18 =>
 (binOp PP .neq 34 x18 (DV.p (PV.int IntKind.i64 (0)))).bind fun x20 =>
 condK x20
 (
 (build PP 33 []).bind fun x21 =>
 (store PP lo 33 (DV.ptr (List.length (σ ++ [Row.mix z3])) 0) x21 r17_1.2).bind fun σ2 =>
 (cellV PP 33 (DV.ptr (List.length (σ ++ [Row.mix z3])) 0) σ2).bind fun v0 =>
 some ((DV.tuple [v0, x18]), σ2)
 )
 (
 (load PP 25 (DV.ptr (List.length σ) 0) r17_1.2).bind fun x24 =>
 (pureFn CC (DV.fn 53 []) [x24, x1, x2] r17_1.2).bind fun x27 =>
 (extractV x27 0).bind fun x28 =>
 (extractV x27 1).bind fun x29 =>
 (zeroOf PP 33).bind fun z9 =>
 (store PP lo 33 (DV.ptr (List.length r17_1.2) 0) x28 (r17_1.2 ++ [Row.mix z9])).bind fun σ3 =>
 (fieldAddr PP 33 (DV.ptr (List.length r17_1.2) 0) 1).bind fun x30 =>
 (load PP 31 x30 σ3).bind fun x31 =>
 (len PP 31 x31 σ3).bind fun x32 =>
 (binOp PP .gtr 3 x32 (DV.p (PV.int IntKind.i64 (60)))).bind fun x33 =>
 condK x33
 (
 (build PP 33 []).bind fun x34 =>
 (store PP lo 33 (DV.ptr (List.length (σ ++ [Row.mix z3])) 0) x34 σ3).bind fun σ4 =>
 (cellV PP 33 (DV.ptr (List.length (σ ++ [Row.mix z3])) 0) σ4).bind fun v0 =>
 some ((DV.tuple [v0, (DV.p (PV.int IntKind.i64 (2)))]), σ4)
 )
 (
 (load PP 33 (DV.ptr (List.length r17_1.2) 0) σ3).bind fun x35 =>
 (pureFn CC (DV.fn 54 []) [x29, (DV.p (PV.int IntKind.i64 (25)))] σ3).bind fun x37 =>
 (store PP lo 33 (DV.ptr (List.length (σ ++ [Row.mix z3])) 0) x35 σ3).bind fun σ5 =>
 (cellV PP 33 (DV.ptr (List.length (σ ++ [Row.mix z3])) 0) σ5).bind fun v0 =>
 some ((DV.tuple [v0, x37]), σ5)
 )
 ) := by kernel_rfl
theorem F13_call {lo : Nat} {x0 x1 x2 : DV} {σ : Store} {r : DV × Store} (h : F13 guardT lo x0 x1 x2 σ = some r) : CC lo 13 [x0, x1, x2] σ = some r :=
 callL_run Go.Proofs.Try.func13 (by decide +kernel) rfl (by decide +kernel) h
noncomputable def c53_0 : Code := bodyOf Go.Proofs.Try.f53
noncomputable def a53_0 : Ann := (pol 53).ann
noncomputable def a53_7 : Ann := right (left (right (right a53_0)))
noncomputable def a53_8 : Ann := left a53_7
noncomputable def c53_9 : Code := fstC (fstC (sndC (fstC (sndC (sndC c53_0)))))
noncomputable def c53_21 : Code := sndC (sndC (sndC c53_0))
noncomputable def a53_21 : Ann := right (right (right a53_0))
noncomputable def a53_36 : Ann := right (left (right (right (right a53_21))))
noncomputable def a53_37 : Ann := left a53_36
noncomputable def c53_38 : Code := fstC (fstC (sndC (fstC (sndC (sndC (sndC c53_21))))))
noncomputable def c53_50 : Code := sndC (sndC (sndC (sndC c53_21)))
noncomputable def a53_50 : Ann := right (right (right (right a53_21)))
noncomputable def f53_L0 (G : GuardT) (lo : Nat) (x3 x4 x5 x6 x8 x15 x16 x17 : DV) (σ : Store) : Option (DV × Store) :=
 codeF G PP (pol 53) CC lo (.loop c53_9) a53_8 [ud, ud, ud, x3, x4, x5, x6, ud, x8, ud, ud, ud, ud, ud, ud, x15, x16, x17, ud, ud, ud, ud, ud, ud, ud, ud, ud, ud, ud, ud, ud, ud, ud, ud, ud, ud, ud, ud, ud, ud, ud, ud, ud, ud, ud, ud, ud, ud, ud, ud, ud, ud, ud, ud, ud, ud, ud, ud, ud, ud, ud, ud, ud, ud, ud, ud, ud, ud, ud, ud, ud, ud, ud, ud, ud, ud, ud, ud] σ
 (blockC 0 a53_7 (seqC G PP (pol 53) CC lo c53_21 a53_21 (finR PP Go.Proofs.Try.f53.results.toList)))
noncomputable def f53_L1 (G : GuardT) (lo : Nat) (x3 x6 x11 x12 x13 : DV) (σ : Store) : Option (DV × Store) :=
 codeF G PP (pol 53) CC lo (.loop c53_38) a53_37 [ud, ud, ud, x3, ud, ud, x6, ud, ud, ud, ud, x11, x12, x13, ud, ud, ud, ud, ud, ud, ud, ud, ud, ud, ud, ud, ud, ud, ud, ud, ud, ud, ud, ud, ud, ud, ud, ud, ud, ud, ud, ud, ud, ud, ud, ud, ud, ud, ud, ud, ud, ud, ud, ud, ud, ud, ud, ud, ud, ud, ud, ud, ud, ud, ud, ud, ud, ud, ud, ud, ud, ud, ud, ud, ud, ud, ud, ud] σ
 (blockC 2 a53_36 (seqC G PP (pol 53) CC lo c53_50 a53_50 (finR PP Go.Proofs.Try.f53.results.toList)))
noncomputable def F53 (G : GuardT) (lo : Nat) (x0 x1 x2 : DV) (σ : Store) : Option (DV × Store) :=
 codeF G PP (pol 53) CC lo c53_0 a53_0 [x0, x1, x2, ud, ud, ud, ud, ud, ud, ud, ud, ud, ud, ud, ud, ud, ud, ud, ud, ud, ud, ud, ud, ud, ud, ud, ud, ud, ud, ud, ud, ud, ud, ud, ud, ud, ud, ud, ud, ud, ud, ud, ud, ud, ud, ud, ud, ud, ud, ud, ud, ud, ud, ud, ud, ud, ud, ud, ud, ud, ud, ud, ud, ud, ud, ud, ud, ud, ud, ud, ud, ud, ud, ud, ud, ud, ud, ud] σ (finR PP Go.Proofs.Try.f53.results.toList)
theorem f53_L0_eq (G : GuardT) (hG : GuardOk G) (lo : Nat) (x3 x4 x5 x6 x8 x15 x16 x17 : DV) (σ : Store) : f53_L0 G lo x3 x4 x5 x6 x8 x15 x16 x17 σ =
 (binOp PP .lss 3 x17 x16).bind fun x18 =>
 condK x18
 (
 (indexAddr PP 22 x15 x17).bind fun x19 =>
 (load PP 3 x19 σ).bind fun x20 =>
 (build PP 163 [(0, x20)]).bind fun x23 =>
 (buildSlice PP none 22 1 [(0, x20)] σ).bind fun r25_1 =>
 (build PP 165 [(0, x23), (1, r25_1.1)]).bind fun x26 =>
 (buildSlice PP none 161 1 [(0, x26)] r25_1.2).bind fun r27_2 =>
 (append PP lo false 161 161 x8 r27_2.1 r27_2.2).bind fun r28_3 =>
 (binOp PP .add 3 x17 (DV.p (PV.int IntKind.i64 (1)))).bind fun x29 =>
 f53_L0 G lo x3 x4 x5 x6 r28_3.1 x15 x16 x29 r28_3.2
 )
 (
 (pureFn CC (DV.fn 103 []) [x8, (DV.fn 104 [x3, x5, x4])] σ).bind fun x32 =>
 (binOp PP .eql 22 x32 (DV.p PV.nilsl)).bind fun x34 =>
 condK x34
 (
 (build PP 33 []).bind fun x35 =>
 (store PP lo 33 x6 x35 σ).bind fun σ4 =>
 (cellV PP 33 x6 σ4).bind fun v0 =>
 some ((DV.tuple [v0, (DV.p (PV.bool false))]), σ4)
 )
 (
 (sliceOp PP 22 x32 none (some (DV.p (PV.int IntKind.i64 (1)))) (some (DV.p (PV.int IntKind.i64 (1))))).bind fun x37 =>
 (build PP 33 [(0, x37)]).bind fun x38 =>
 (zeroOf PP 33).bind fun z12 =>
 (store PP lo 33 (DV.ptr (List.length σ) 0) x38 (σ ++ [Row.mix z12])).bind fun σ5 =>
 f53_L1 G lo x3 x6 x32 (DV.ptr (List.length σ) 0) (DV.p (PV.int IntKind.i64 (1))) σ5
 )
 ) := (loopF_eq G hG).trans (by kernel_rfl)
theorem f53_L1_eq (G : GuardT) (hG : GuardOk G) (lo : Nat) (x3 x6 x11 x12 x13 : DV) (σ : Store) : f53_L1 G lo x3 x6 x11 x12 x13 σ =
 (len PP 22 x11 σ).bind fun x41 =>
 (binOp PP .lss 3 x13 x41).bind fun x42 =>
 condK x42
 (
 (fieldAddr PP 33 x12 1).bind fun x45 =>
 (load PP 31 x45 σ).bind fun x46 =>
 (indexAddr PP 22 x11 x13).bind fun x49 =>
 (load PP 3 x49 σ).bind fun x50 =>
 (fieldAddr PP 25 x3 2).bind fun x51 =>
 (load PP 22 x51 σ).bind fun x52 =>
 (fieldAddr PP 33 x12 0).bind fun x53 =>
 (load PP 22 x53 σ).bind fun x54 =>
 (fieldAddr PP 33 x12 0).bind fun x55 =>
 (load PP 22 x55 σ).bind fun x56 =>
 (len PP 22 x56 σ).bind fun x57 =>
 (binOp PP .sub 3 x57 (DV.p (PV.int IntKind.i64 (1)))).bind fun x58 =>
 (indexAddr PP 22 x54 x58).bind fun x59 =>
 (load PP 3 x59 σ).bind fun x60 =>
 (indexAddr PP 22 x52 x60).bind fun x61 =>
 (load PP 3 x61 σ).bind fun x62 =>
 (build PP 98 [(0, x50), (1, x62)]).bind fun x63 =>
 (buildSlice PP none 31 1 [(0, x63)] σ).bind fun r64_6 =>
 (append PP lo false 31 31 x46 r64_6.1 r64_6.2).bind fun r65_7 =>
 (fieldAddr PP 33 x12 1).bind fun x66 =>
 (store PP lo 31 x66 r65_7.1 r65_7.2).bind fun σ8 =>
 (fieldAddr PP 33 x12 0).bind fun x67 =>
 (load PP 22 x67 σ8).bind fun x68 =>
 (binOp PP .add 3 x13 (DV.p (PV.int IntKind.i64 (1)))).bind fun x71 =>
 (indexAddr PP 22 x11 x71).bind fun x72 =>
 (load PP 3 x72 σ8).bind fun x73 =>
 (buildSlice PP none 22 1 [(0, x73)] σ8).bind fun r74_9 =>
 (append PP lo false 22 22 x68 r74_9.1 r74_9.2).bind fun r75_10 =>
 (fieldAddr PP 33 x12 0).bind fun x76 =>
 (store PP lo 22 x76 r75_10.1 r75_10.2).bind fun σ11 =>
 (binOp PP .add 3 x13 (DV.p (PV.int IntKind.i64 (2)))).bind fun x44 =>
 f53_L1 G lo x3 x6 x11 x12 x44 σ11
 )
 (
 (load PP 33 x12 σ).bind fun x77 =>
 (store PP lo 33 x6 x77 σ).bind fun σ12 =>
 (cellV PP 33 x6 σ12).bind fun v0 =>
 some ((DV.tuple [v0, (DV.p (PV.bool true))]), σ12)
 ) := (loopF_eq G hG).trans (by kernel_rfl)
theorem F53_eq (G : GuardT) (lo : Nat) (x0 x1 x2 : DV) (σ : Store) : F53 G lo x0 x1 x2 σ =
 (boxV x0).bind fun z3 =>
 (boxV x1).bind fun z4 =>
 (boxV x2).bind fun z5 =>
 (zeroOf PP 33).bind fun z6 =>
 (fieldAddr PP 25 (DV.ptr (List.length σ) 0) 1).bind fun x14 =>
 (load PP 22 x14 ((((σ ++ [Row.mix z3]) ++ [Row.mix z4]) ++ [Row.mix z5]) ++ [Row.mix z6])).bind fun x15 =>
 (len PP 22 x15 ((((σ ++ [Row.mix z3]) ++ [Row.mix z4]) ++ [Row.mix z5]) ++ [Row.mix z6])).bind fun x16 =>
 f53_L0 G lo (DV.ptr (List.length σ) 0) (DV.ptr (List.length (σ ++ [Row.mix z3])) 0) (DV.ptr (List.length ((σ ++ [Row.mix z3]) ++ [Row.mix z4])) 0) (DV.ptr (List.length (((σ ++ [Row.mix z3]) ++ [Row.mix z4]) ++ [Row.mix z5])) 0) (DV.p PV.nilsl) x15 x16 (DV.p (PV.int IntKind.i64 (0))) ((((σ ++ [Row.mix z3]) ++ [Row.mix z4]) ++ [Row.mix z5]) ++ [Row.mix z6]) := by kernel_rfl
theorem F53_call {lo : Nat} {x0 x1 x2 : DV} {σ : Store} {r : DV × Store} (h : F53 guardT lo x0 x1 x2 σ = some r) : CC lo 53 [x0, x1, x2] σ = some r :=
 callL_run Go.Proofs.Try.func53 (by decide +kernel) rfl (by decide +kernel) h
noncomputable def c103_0 : Code := bodyOf Go.Proofs.Try.f103
noncomputable def a103_0 : Ann := (pol 103).ann
noncomputable def a103_7 : Ann := right (left (right (right a103_0)))
noncomputable def a103_8 : Ann := left a103_7
noncomputable def c103_9 : Code := fstC (fstC (sndC (fstC (sndC (sndC c103_0)))))
noncomputable def c103_21 : Code := sndC (sndC (sndC c103_0))
noncomputable def a103_21 : Ann := right (right (right a103_0))
noncomputable def a103_22 : Ann := left a103_21
noncomputable def a103_23 : Ann := left a103_22
noncomputable def c103_24 : Code := fstC (fstC (fstC c103_21))
noncomputable def a103_30 : Ann := right (left a103_23)
noncomputable def a103_37 : Ann := right (right (right (left a103_30)))
noncomputable def a103_38 : Ann := left a103_37
noncomputable def c103_39 : Code := fstC (fstC (sndC (sndC (sndC (fstC (sndC c103_24))))))
noncomputable def c103_59 : Code := sndC c103_21
noncomputable def a103_59 : Ann := right a103_21
noncomputable def f103_L0 (G : GuardT) (lo : Nat) (x1 x5 x15 x16 x17 : DV) (σ : Store) : Option (DV × Store) :=
 codeF G PP (pol 103) CC lo (.loop c103_9) a103_8 [ud, x1, ud, ud, ud, x5, ud, ud, ud, ud, ud, ud, ud, ud, ud, x15, x16, x17, ud, ud, ud, ud, ud, ud, ud, ud, ud, ud, ud, ud, ud, ud, ud, ud, ud, ud, ud, ud, ud, ud, ud, ud, ud, ud, ud, ud, ud, ud, ud, ud, ud, ud, ud, ud, ud] σ
 (blockC 0 a103_7 (seqC G PP (pol 103) CC lo c103_21 a103_21 (finR PP Go.Proofs.Try.f103.results.toList)))
noncomputable def f103_L1 (G : GuardT) (lo : Nat) (x1 x5 : DV) (σ : Store) : Option (DV × Store) :=
 codeF G PP (pol 103) CC lo (.loop c103_24) a103_23 [ud, x1, ud, ud, ud, x5, ud, ud, ud, ud, ud, ud, ud, ud, ud, ud, ud, ud, ud, ud, ud, ud, ud, ud, ud, ud, ud, ud, ud, ud, ud, ud, ud, ud, ud, ud, ud, ud, ud, ud, ud, ud, ud, ud, ud, ud, ud, ud, ud, ud, ud, ud, ud, ud, ud] σ
 (blockC 2 a103_22 (seqC G PP (pol 103) CC lo c103_59 a103_59 (finR PP Go.Proofs.Try.f103.results.toList)))
noncomputable def f103_L2 (G : GuardT) (lo : Nat) (x1 x5 x41 x42 x43 : DV) (σ : Store) : Option (DV × Store) :=
 codeF G PP (pol 103) CC lo (.loop c103_39) a103_38 [ud, x1, ud, ud, ud, x5, ud, ud, ud, ud, ud, ud, ud, ud, ud, ud, ud, ud, ud, ud, ud, ud, ud, ud, ud, ud, ud, ud, ud, ud, ud, ud, ud, ud, ud, ud, ud, ud, ud, ud, ud, x41, x42, x43, ud, ud, ud, ud, ud, ud, ud, ud, ud, ud, ud] σ
 (blockC 4 a103_37 (blockC 3 a103_30 (loopC G PP (pol 103) CC lo c103_24 a103_23 (blockC 2 a103_22 (seqC G PP (pol 103) CC lo c103_59 a103_59 (finR PP Go.Proofs.Try.f103.results.toList))))))
noncomputable def F103 (G : GuardT) (lo : Nat) (x0 x1 : DV) (σ : Store) : Option (DV × Store) :=
 codeF G PP (pol 103) CC lo c103_0 a103_0 [x0, x1, ud, ud, ud, ud, ud, ud, ud, ud, ud, ud, ud, ud, ud, ud, ud, ud, ud, ud, ud, ud, ud, ud, ud, ud, ud, ud, ud, ud, ud, ud, ud, ud, ud, ud, ud, ud, ud, ud, ud, ud, ud, ud, ud, ud, ud, ud, ud, ud, ud, ud, ud, ud, ud] σ (finR PP Go.Proofs.Try.f103.results.toList)
theorem f103_L0_eq (G : GuardT) (hG : GuardOk G) (lo : Nat) (x1 x5 x15 x16 x17 : DV) (σ : Store) : f103_L0 G lo x1 x5 x15 x16 x17 σ =
 (binOp PP .lss 3 x17 x16).bind fun x18 =>
 condK x18
 (
 (indexAddr PP 161 x15 x17).bind fun x19 =>
 (load PP 165 x19 σ).bind fun x20 =>
 (zeroOf PP 165).bind fun z7 =>
 (store PP lo 165 (DV.ptr (List.length σ) 0) x20 (σ ++ [Row.mix z7])).bind fun σ1 =>
 (fieldAddr PP 165 (DV.ptr (List.length σ) 0) 0).bind fun x22 =>
 (load PP 163 x22 σ1).bind fun x23 =>
 (fieldAddr PP 165 (DV.ptr (List.length σ) 0) 1).bind fun x24 =>
 (load PP 22 x24 σ1).bind fun x25 =>
 (plainFn CC lo (DV.fn 105 []) [x5, x23, x25] σ1).bind fun r26_2 =>
 (binOp PP .add 3 x17 (DV.p (PV.int IntKind.i64 (1)))).bind fun x27 =>
 f103_L0 G lo x1 x5 x15 x16 x27 r26_2.2
 )
 (
 f103_L1 G lo x1 x5 σ
 ) := (loopF_eq G hG).trans (by kernel_rfl)
theorem f103_L1_eq (G : GuardT) (hG : GuardOk G) (lo : Nat) (x1 x5 : DV) (σ : Store) : f103_L1 G lo x1 x5 σ =
 (nilCheckV x5).bind fun x29 =>
 (fieldAddr PP 199 x29 1).bind fun x30 =>
 (load PP 161 x30 σ).bind fun x31 =>
 (len PP 161 x31 σ).bind fun x32 =>
 (binOp PP .gtr 3 x32 (DV.p (PV.int IntKind.i64 (0)))).bind fun x33 =>
 condK x33
 (
 (nilCheckV x5).bind fun x35 =>
 (fieldAddr PP 199 x35 1).bind fun x36 =>
 (load PP 161 x36 σ).bind fun x37 =>
 (nilCheckV x5).bind fun x39 =>
 (fieldAddr PP 199 x39 1).bind fun x40 =>
 (store PP lo 161 x40 (DV.p PV.nilsl) σ).bind fun σ3 =>
 (len PP 161 x37 σ3).bind fun x42 =>
 f103_L2 G lo x1 x5 x37 x42 (DV.p (PV.int IntKind.i64 (0))) σ3
 )
 (
 some ((DV.p PV.nilsl), σ)
 ) := (loopF_eq G hG).trans (by kernel_rfl)
theorem f103_L2_eq (G : GuardT) (hG : GuardOk G) (lo : Nat) (x1 x5 x41 x42 x43 : DV) (σ : Store) : f103_L2 G lo x1 x5 x41 x42 x43 σ =
 (binOp PP .lss 3 x43 x42).bind fun x44 =>
 condK x44
 (
 (indexAddr PP 161 x41 x43).bind fun x45 =>
 (load PP 165 x45 σ).bind fun x46 =>
 (zeroOf PP 165).bind fun z10 =>
 (store PP lo 165 (DV.ptr (List.length σ) 0) x46 (σ ++ [Row.mix z10])).bind fun σ4 =>
 (load PP 165 (DV.ptr (List.length σ) 0) σ4).bind fun x49 =>
 (plainFn CC lo x1 [x5, x49] σ4).bind fun r50_5 =>
 (binOp PP .neq 22 r50_5.1 (DV.p PV.nilsl)).bind fun x52 =>
 condK x52
 (
 some (r50_5.1, r50_5.2)
 )
 (
 (binOp PP .add 3 x43 (DV.p (PV.int IntKind.i64 (1)))).bind fun x54 =>
 f103_L2 G lo x1 x5 x41 x42 x54 r50_5.2
 )
 )
 (
 f103_L1 G lo x1 x5 σ
 ) := (loopF_eq G hG).trans (by kernel_rfl)
theorem F103_eq (G : GuardT) (lo : Nat) (x0 x1 : DV) (σ : Store) : F103 G lo x0 x1 σ =
 (build PP 199 [(0, (DV.map (List.length σ)))]).bind fun x13 =>
 (boxV x13).bind fun z14 =>
 (len PP 161 x0 ((σ ++ [Row.map []]) ++ [Row.mix z14])).bind fun x16 =>
 f103_L0 G lo x1 (DV.ptr (List.length (σ ++ [Row.map []])) 0) x0 x16 (DV.p (PV.int IntKind.i64 (0))) ((σ ++ [Row.map []]) ++ [Row.mix z14]) := by kernel_rfl
theorem F103_call {lo : Nat} {x0 x1 : DV} {σ : Store} {r : DV × Store} (h : F103 guardT lo x0 x1 σ = some r) : CC lo 103 [x0, x1] σ = some r :=
 callL_run Go.Proofs.Try.func103 (by decide +kernel) rfl (by decide +kernel) h
noncomputable def c104_0 : Code := bodyOf Go.Proofs.Try.f104
noncomputable def a104_0 : Ann := (pol 104).ann
noncomputable def a104_5 : Ann := right (left (right a104_0))
noncomputable def a104_6 : Ann := left a104_5
noncomputable def c104_7 : Code := fstC (fstC (sndC (fstC (sndC c104_0))))
noncomputable def c104_44 : Code := sndC (sndC (sndC c104_7))
noncomputable def a104_44 : Ann := right (right (right (left a104_6)))
noncomputable def c104_45 : Code := sndC (sndC c104_0)
noncomputable def a104_45 : Ann := right (right a104_0)
noncomputable def f104_L0 (G : GuardT) (lo : Nat) (x0 x2 x3 x4 x6 x15 x16 x17 : DV) (σ : Store) : Option (DV × Store) :=
 codeF G PP (pol 104) CC lo (.loop c104_7) a104_6 [x0, ud, x2, x3, x4, ud, x6, ud, ud, ud, ud, ud, ud, ud, ud, x15, x16, x17, ud, ud, ud, ud, ud, ud, ud, ud, ud, ud, ud, ud, ud, ud, ud, ud, ud, ud, ud, ud, ud, ud, ud, ud, ud, ud, ud, ud, ud, ud, ud, ud, ud, ud, ud, ud, ud, ud, ud, ud, ud, ud, ud, ud, ud, ud, ud, ud, ud, ud, ud, ud, ud] σ
 (blockC 0 a104_5 (seqC G PP (pol 104) CC lo c104_45 a104_45 (finR PP Go.Proofs.Try.f104.results.toList)))
def f104_J0_fr (x0 x2 x3 x4 x6 x15 x16 x17 : DV) : Frame := [x0, ud, x2, x3, x4, ud, x6, ud, ud, ud, ud, ud, ud, ud, ud, x15, x16, x17, ud, ud, ud, ud, ud, ud, ud, ud, ud, ud, ud, ud, ud, ud, ud, ud, ud, ud, ud, ud, ud, ud, ud, ud, ud, ud, ud, ud, ud, ud, ud, ud, ud, ud, ud, ud, ud, ud, ud, ud, ud, ud, ud, ud, ud, ud, ud, ud, ud, ud, ud, ud, ud]
noncomputable def f104_J0 (G : GuardT) (lo : Nat) (x0 x2 x3 x4 x6 x15 x16 x17 : DV) (σ : Store) : Option (DV × Store) :=
 (seqC G PP (pol 104) CC lo c104_44 a104_44 (loopC G PP (pol 104) CC lo c104_7 a104_6 (blockC 0 a104_5 (seqC G PP (pol 104) CC lo c104_45 a104_45 (finR PP Go.Proofs.Try.f104.results.toList))))) .normal (f104_J0_fr x0 x2 x3 x4 x6 x15 x16 x17) σ
noncomputable def F104 (G : GuardT) (lo : Nat) (x0 x1 x2 x3 x4 : DV) (σ : Store) : Option (DV × Store) :=
 codeF G PP (pol 104) CC lo c104_0 a104_0 [x0, x1, x2, x3, x4, ud, ud, ud, ud, ud, ud, ud, ud, ud, ud, ud, ud, ud, ud, ud, ud, ud, ud, ud, ud, ud, ud, ud, ud, ud, ud, ud, ud, ud, ud, ud, ud, ud, ud, ud, ud, ud, ud, ud, ud, ud, ud, ud, ud, ud, ud, ud, ud, ud, ud, ud, ud, ud, ud, ud, ud, ud, ud, ud, ud, ud, ud, ud, ud, ud, ud] σ (finR PP Go.Proofs.Try.f104.results.toList)
theorem f104_L0_eq (G : GuardT) (hG : GuardOk G) (lo : Nat) (x0 x2 x3 x4 x6 x15 x16 x17 : DV) (σ : Store) : f104_L0 G lo x0 x2 x3 x4 x6 x15 x16 x17 σ =
 (binOp PP .lss 3 x17 x16).bind fun x18 =>
 condK x18
 (
 (indexAddr PP 23 x15 x17).bind fun x19 =>
 (load PP 106 x19 σ).bind fun x20 =>
 (zeroOf PP 106).bind fun z9 =>
 (store PP lo 106 (DV.ptr (List.length σ) 0) x20 (σ ++ [Row.mix z9])).bind fun σ1 =>
 (fieldAddr PP 106 (DV.ptr (List.length σ) 0) 0).bind fun x21 =>
 (load PP 3 x21 σ1).bind fun x22 =>
 (fieldAddr PP 165 x6 0).bind fun x23 =>
 (fieldAddr PP 163 x23 0).bind fun x24 =>
 (load PP 3 x24 σ1).bind fun x25 =>
 (binOp PP .neq 3 x22 x25).bind fun x26 =>
 condK x26
 (
 f104_J0 G lo x0 x2 x3 x4 x6 x15 x16 x17 σ1
 )
 (
 (fieldAddr PP 106 (DV.ptr (List.length σ) 0) 1).bind fun x27 =>
 (load PP 3 x27 σ1).bind fun x28 =>
 (fieldAddr PP 25 x2 2).bind fun x29 =>
 (load PP 22 x29 σ1).bind fun x30 =>
 (fieldAddr PP 106 (DV.ptr (List.length σ) 0) 0).bind fun x31 =>
 (load PP 3 x31 σ1).bind fun x32 =>
 (indexAddr PP 22 x30 x32).bind fun x33 =>
 (load PP 3 x33 σ1).bind fun x34 =>
 (build PP 98 [(0, x28), (1, x34)]).bind fun x35 =>
 (zeroOf PP 98).bind fun z10 =>
 (store PP lo 98 (DV.ptr (List.length σ1) 0) x35 (σ1 ++ [Row.mix z10])).bind fun σ2 =>
 (fieldAddr PP 165 x6 1).bind fun x36 =>
 (load PP 22 x36 σ2).bind fun x37 =>
 (plainFn CC (List.length σ2) (DV.fn 99 []) [x37] σ2).bind fun r38_3 =>
 (fieldAddr PP 106 (DV.ptr (List.length σ) 0) 1).bind fun x39 =>
 (load PP 3 x39 r38_3.2).bind fun x40 =>
 (fieldAddr PP 106 (DV.ptr (List.length σ) 0) 2).bind fun x41 =>
 (load PP 3 x41 r38_3.2).bind fun x42 =>
 (buildSlice PP none 22 2 [(0, x40), (1, x42)] r38_3.2).bind fun r43_4 =>
 (append PP lo false 22 22 r38_3.1 r43_4.1 r43_4.2).bind fun r44_5 =>
 (load PP 27 x3 r44_5.2).bind fun x45 =>
 (fieldAddr PP 165 x6 0).bind fun x46 =>
 (fieldAddr PP 163 x46 2).bind fun x47 =>
 (load PP 3 x47 r44_5.2).bind fun x48 =>
 (load PP 98 (DV.ptr (List.length σ1) 0) r44_5.2).bind fun x49 =>
 (pureFn CC (DV.fn 94 []) [x45, x48, x49] r44_5.2).bind fun x50 =>
 (binOp PP .eql 3 x50 (DV.p (PV.int IntKind.i64 (-1)))).bind fun x52 =>
 condK x52
 (
 some (r44_5.1, r44_5.2)
 )
 (
 (load PP 27 x4 r44_5.2).bind fun x54 =>
 (fieldAddr PP 165 x6 0).bind fun x55 =>
 (fieldAddr PP 163 x55 1).bind fun x56 =>
 (load PP 3 x56 r44_5.2).bind fun x57 =>
 (load PP 98 (DV.ptr (List.length σ1) 0) r44_5.2).bind fun x58 =>
 (pureFn CC (DV.fn 94 []) [x54, x57, x58] r44_5.2).bind fun x59 =>
 (binOp PP .neq 3 x59 (DV.p (PV.int IntKind.i64 (-1)))).bind fun x61 =>
 condK x61
 (
 (fieldAddr PP 106 (DV.ptr (List.length σ) 0) 2).bind fun x63 =>
 (load PP 3 x63 r44_5.2).bind fun x64 =>
 (build PP 163 [(0, x64), (1, x59), (2, x50)]).bind fun x67 =>
 (plainFn CC lo (DV.fn 105 []) [x0, x67, r44_5.1] r44_5.2).bind fun r69_6 =>
 f104_J0 G lo x0 x2 x3 x4 x6 x15 x16 x17 r69_6.2
 )
 (
 f104_J0 G lo x0 x2 x3 x4 x6 x15 x16 x17 r44_5.2
 )
 )
 )
 )
 (
 some ((DV.p PV.nilsl), σ)
 ) := (loopF_eq G hG).trans (by kernel_rfl)
theorem f104_J0_eq (G : GuardT) (lo : Nat) (x0 x2 x3 x4 x6 x15 x16 x17 : DV) (σ : Store) : f104_J0 G lo x0 x2 x3 x4 x6 x15 x16 x17 σ =
 (binOp PP .add 3 x17 (DV.p (PV.int IntKind.i64 (1)))).bind fun x70 =>
 f104_L0 G lo x0 x2 x3 x4 x6 x15 x16 x70 σ := by kernel_rfl
theorem F104_eq (G : GuardT) (lo : Nat) (x0 x1 x2 x3 x4 : DV) (σ : Store) : F104 G lo x0 x1 x2 x3 x4 σ =
 (boxV x1).bind fun z6 =>
 (fieldAddr PP 25 x2 3).bind fun x14 =>
 (load PP 23 x14 (σ ++ [Row.mix z6])).bind fun x15 =>
 (len PP 23 x15 (σ ++ [Row.mix z6])).bind fun x16 =>
 f104_L0 G lo x0 x2 x3 x4 (DV.ptr (List.length σ) 0) x15 x16 (DV.p (PV.int IntKind.i64 (0))) (σ ++ [Row.mix z6]) := by kernel_rfl
theorem F104_call {lo : Nat} {x0 x1 x2 x3 x4 : DV} {σ : Store} {r : DV × Store} (h : F104 guardT lo x0 x1 x2 x3 x4 σ = some r) : CC lo 104 [x0, x1, x2, x3, x4] σ = some r :=
 callL_run Go.Proofs.Try.func104 (by decide +kernel) rfl (by decide +kernel) h
noncomputable def c105_0 : Code := bodyOf Go.Proofs.Try.f105
noncomputable def a105_0 : Ann := (pol 105).ann
noncomputable def F105 (G : GuardT) (lo : Nat) (x0 x1 x2 : DV) (σ : Store) : Option (DV × Store) :=
 codeF G PP (pol 105) CC lo c105_0 a105_0 [x0, x1, x2, ud, ud, ud, ud, ud, ud, ud, ud, ud, ud, ud, ud, ud, ud, ud, ud, ud, ud, ud, ud, ud, ud, ud, ud, ud, ud, ud] σ (finR PP Go.Proofs.Try.f105.results.toList)
theorem F105_eq (G : GuardT) (lo : Nat) (x0 x1 x2 : DV) (σ : Store) : F105 G lo x0 x1 x2 σ =
 (boxV x1).bind fun z4 =>
 (nilCheckV x0).bind fun x7 =>
 (fieldAddr PP 199 x7 0).bind fun x8 =>
 (load PP 197 x8 (σ ++ [Row.mix z4])).bind fun x9 =>
 (load PP 163 (DV.ptr (List.length σ) 0) (σ ++ [Row.mix z4])).bind fun x10 =>
 (lookup PP 197 x9 x10 false (σ ++ [Row.mix z4])).bind fun x11 =>
 (unOp .not x11).bind fun x12 =>
 condK x12
 (
 (nilCheckV x0).bind fun x14 =>
 (fieldAddr PP 199 x14 0).bind fun x15 =>
 (load PP 197 x15 (σ ++ [Row.mix z4])).bind fun x16 =>
 (load PP 163 (DV.ptr (List.length σ) 0) (σ ++ [Row.mix z4])).bind fun x17 =>
 (mapUpdate PP lo 197 x16 x17 (DV.p (PV.bool true)) (σ ++ [Row.mix z4])).bind fun σ1 =>
 (nilCheckV x0).bind fun x20 =>
 (fieldAddr PP 199 x20 1).bind fun x21 =>
 (load PP 161 x21 σ1).bind fun x22 =>
 (load PP 163 (DV.ptr (List.length σ) 0) σ1).bind fun x23 =>
 (build PP 165 [(0, x23), (1, x2)]).bind fun x25 =>
 (buildSlice PP none 161 1 [(0, x25)] σ1).bind fun r26_2 =>
 (append PP lo false 161 161 x22 r26_2.1 r26_2.2).bind fun r27_3 =>
 (nilCheckV x0).bind fun x28 =>
 (fieldAddr PP 199 x28 1).bind fun x29 =>
 (store PP lo 161 x29 r27_3.1 r27_3.2).bind fun σ4 =>
 some ((DV.tuple []), σ4)
 )
 (
 some ((DV.tuple []), (σ ++ [Row.mix z4]))
 ) := by kernel_rfl
theorem F105_call {lo : Nat} {x0 x1 x2 : DV} {σ : Store} {r : DV × Store} (h : F105 guardT lo x0 x1 x2 σ = some r) : CC lo 105 [x0, x1, x2] σ = some r :=
 callL_run Go.Proofs.Try.func105 (by decide +kernel) rfl (by decide +kernel) h
noncomputable def c99_0 : Code := bodyOf Go.Proofs.Try.f99
noncomputable def a99_0 : Ann := (pol 99).ann
noncomputable def F99 (G : GuardT) (lo : Nat) (x0 : DV) (σ : Store) : Option (DV × Store) :=
 codeF G PP (pol 99) CC lo c99_0 a99_0 [x0, ud, ud, ud, ud, ud, ud, ud] σ (finR PP Go.Proofs.Try.f99.results.toList)
theorem F99_eq (G : GuardT) (lo : Nat) (x0 : DV) (σ : Store) : F99 G lo x0 σ =
 (binOp PP .eql 22 x0 (DV.p PV.nilsl)).bind fun x4 =>
 condK x4
 (
 some ((DV.p PV.nilsl), σ)
 )
 (
 (buildSlice PP none 22 0 [] σ).bind fun r5_1 =>
 (append PP lo false 22 22 r5_1.1 x0 r5_1.2).bind fun r7_2 =>
 some (r7_2.1, r7_2.2)
 ) := by kernel_rfl
theorem F99_call {lo : Nat} {x0 : DV} {σ : Store} {r : DV × Store} (h : F99 guardT lo x0 σ = some r) : CC lo 99 [x0] σ = some r :=
 callL_run Go.Proofs.Try.func99 (by decide +kernel) rfl (by decide +kernel) h
noncomputable def c18_0 : Code := bodyOf Go.Proofs.Try.f18
noncomputable def a18_0 : Ann := (pol 18).ann
noncomputable def F18 (G : GuardT) (lo : Nat) (x0 x1 : DV) (σ : Store) : Option (DV × Store) :=
 codeF G PP (pol 18) CC lo c18_0 a18_0 [x0, x1, ud, ud, ud, ud, ud, ud, ud, ud, ud, ud, ud, ud, ud, ud, ud] σ (finR PP Go.Proofs.Try.f18.results.toList)
theorem F18_eq (G : GuardT) (lo : Nat) (x0 x1 : DV) (σ : Store) : F18 G lo x0 x1 σ =
 (boxV x0).bind fun z2 =>
 (boxV x1).bind fun z3 =>
 (fieldAddr PP 33 (DV.ptr (List.length σ) 0) 0).bind fun x5 =>
 (load PP 22 x5 ((σ ++ [Row.mix z2]) ++ [Row.mix z3])).bind fun x6 =>
 (fieldAddr PP 33 (DV.ptr (List.length (σ ++ [Row.mix z2])) 0) 0).bind fun x7 =>
 (load PP 22 x7 ((σ ++ [Row.mix z2]) ++ [Row.mix z3])).bind fun x8 =>
 (pureFn CC (DV.fn 61 []) [x6, x8] ((σ ++ [Row.mix z2]) ++ [Row.mix z3])).bind fun x9 =>
 G _ x9 true ((fieldAddr PP 33 (DV.ptr (List.length σ) 0) 1).bind fun v => some (v, ((σ ++ [Row.mix z2]) ++ [Row.mix z3]))) ((σ ++ [Row.mix z2]) ++ [Row.mix z3]) fun x11 σ1 =>
 G _ x9 true ((load PP 31 x11 σ1).bind fun v => some (v, σ1)) σ1 fun x12 σ2 =>
 G _ x9 true ((fieldAddr PP 33 (DV.ptr (List.length (σ ++ [Row.mix z2])) 0) 1).bind fun v => some (v, σ2)) σ2 fun x13 σ3 =>
 G _ x9 true ((load PP 31 x13 σ3).bind fun v => some (v, σ3)) σ3 fun x14 σ4 =>
 G _ x9 true ((pureFn CC (DV.fn 27 []) [x12, x14] σ4).bind fun v => some (v, σ4)) σ4 fun x15 σ5 =>
 (pickV x9 x15 (DV.p (PV.bool false))).bind fun x16 =>
 some (x16, σ5) := by kernel_rfl
theorem F18_call {lo : Nat} {x0 x1 : DV} {σ : Store} {r : DV × Store} (h : F18 guardT lo x0 x1 σ = some r) : CC lo 18 [x0, x1] σ = some r :=
 callL_run Go.Proofs.Try.func18 (by decide +kernel) rfl (by decide +kernel) h
noncomputable def c27_0 : Code := bodyOf Go.Proofs.Try.f27
noncomputable def a27_0 : Ann := (pol 27).ann
noncomputable def a27_13 : Ann := right (left (right (right a27_0)))
noncomputable def a27_14 : Ann := left a27_13
noncomputable def c27_15 : Code := fstC (fstC (sndC (fstC (sndC (sndC c27_0)))))
noncomputable def c27_31 : Code := sndC (sndC (sndC c27_0))
noncomputable def a27_31 : Ann := right (right (right a27_0))
noncomputable def f27_L0 (G : GuardT) (lo : Nat) (x0 x1 x5 : DV) (σ : Store) : Option (DV × Store) :=
 codeF G PP (pol 27) CC lo (.loop c27_15) a27_14 [x0, x1, ud, ud, ud, x5, ud, ud, ud, ud, ud, ud, ud, ud, ud, ud, ud, ud, ud, ud, ud, ud, ud, ud, ud, ud] σ
 (blockC 0 a27_13 (seqC G PP (pol 27) CC lo c27_31 a27_31 (finR PP Go.Proofs.Try.f27.results.toList)))
noncomputable def F27 (G : GuardT) (lo : Nat) (x0 x1 : DV) (σ : Store) : Option (DV × Store) :=
 codeF G PP (pol 27) CC lo c27_0 a27_0 [x0, x1, ud, ud, ud, ud, ud, ud, ud, ud, ud, ud, ud, ud, ud, ud, ud, ud, ud, ud, ud, ud, ud, ud, ud, ud] σ (finR PP Go.Proofs.Try.f27.results.toList)
theorem f27_L0_eq (G : GuardT) (hG : GuardOk G) (lo : Nat) (x0 x1 x5 : DV) (σ : Store) : f27_L0 G lo x0 x1 x5 σ =
 (len PP 31 x0 σ).bind fun x13 =>
 (binOp PP .lss 3 x5 x13).bind fun x14 =>
 condK x14
 (
 (indexAddr PP 31 x0 x5).bind fun x19 =>
 (load PP 98 x19 σ).bind fun x20 =>
 (indexAddr PP 31 x1 x5).bind fun x23 =>
 (load PP 98 x23 σ).bind fun x24 =>
 (binOp PP .neq 98 x20 x24).bind fun x25 =>
 condK x25
 (
 some ((DV.p (PV.bool false)), σ)
 )
 (
 (binOp PP .add 3 x5 (DV.p (PV.int IntKind.i64 (1)))).bind fun x16 =>
 f27_L0 G lo x0 x1 x16 σ
 )
 )
 (
 some ((DV.p (PV.bool true)), σ)
 ) := (loopF_eq G hG).trans (by kernel_rfl)
theorem F27_eq (G : GuardT) (lo : Nat) (x0 x1 : DV) (σ : Store) : F27 G lo x0 x1 σ =
 (len PP 31 x0 σ).bind fun x7 =>
 (len PP 31 x1 σ).bind fun x9 =>
 (binOp PP .neq 3 x7 x9).bind fun x10 =>
 condK x10
 (
 some ((DV.p (PV.bool false)), σ)
 )
 (
 f27_L0 G lo x0 x1 (DV.p (PV.int IntKind.i64 (0))) σ
 ) := by kernel_rfl
theorem F27_call {lo : Nat} {x0 x1 : DV} {σ : Store} {r : DV × Store} (h : F27 guardT lo x0 x1 σ = some r) : CC lo 27 [x0, x1] σ = some r :=
 callL_run Go.Proofs.Try.func27 (by decide +kernel) rfl (by decide +kernel) h
noncomputable def c62_0 : Code := bodyOf Go.Proofs.Try.f62
noncomputable def a62_0 : Ann := (pol 62).ann
noncomputable def F62 (G : GuardT) (lo : Nat) (x0 : DV) (σ : Store) : Option (DV × Store) :=
 codeF G PP (pol 62) CC lo c62_0 a62_0 [x0, ud, ud, ud, ud, ud, ud, ud, ud, ud, ud, ud, ud] σ (finR PP Go.Proofs.Try.f62.results.toList)
theorem F62_eq (G : GuardT) (lo : Nat) (x0 : DV) (σ : Store) : F62 G lo x0 σ =
 (boxV x0).bind fun z1 =>
 (fieldAddr PP 112 (DV.ptr (List.length σ) 0) 0).bind fun x3 =>
 (fieldAddr PP 33 x3 0).bind fun x4 =>
 (load PP 22 x4 (σ ++ [Row.mix z1])).bind fun x5 =>
 (fieldAddr PP 112 (DV.ptr (List.length σ) 0) 0).bind fun x6 =>
 (fieldAddr PP 33 x6 0).bind fun x7 =>
 (load PP 22 x7 (σ ++ [Row.mix z1])).bind fun x8 =>
 (len PP 22 x8 (σ ++ [Row.mix z1])).bind fun x9 =>
 (binOp PP .sub 3 x9 (DV.p (PV.int IntKind.i64 (1)))).bind fun x10 =>
 (indexAddr PP 22 x5 x10).bind fun x11 =>
 (load PP 3 x11 (σ ++ [Row.mix z1])).bind fun x12 =>
 some (x12, (σ ++ [Row.mix z1])) := by kernel_rfl
theorem F62_call {lo : Nat} {x0 : DV} {σ : Store} {r : DV × Store} (h : F62 guardT lo x0 σ = some r) : CC lo 62 [x0] σ = some r :=
 callL_run Go.Proofs.Try.func62 (by decide +kernel) rfl (by decide +kernel) h
noncomputable def c63_0 : Code := bodyOf Go.Proofs.Try.f63
noncomputable def a63_0 : Ann := (pol 63).ann
noncomputable def F63 (G : GuardT) (lo : Nat) (x0 x1 x2 : DV) (σ : Store) : Option (DV × Store) :=
 codeF G PP (pol 63) CC lo c63_0 a63_0 [x0, x1, x2, ud, ud, ud, ud, ud, ud, ud, ud, ud, ud, ud, ud, ud, ud, ud, ud, ud, ud, ud, ud, ud, ud, ud, ud, ud, ud, ud, ud, ud] σ (finR PP Go.Proofs.Try.f63.results.toList)
theorem F63_eq (G : GuardT) (lo : Nat) (x0 x1 x2 : DV) (σ : Store) : F63 G lo x0 x1 x2 σ =
 (boxV x0).bind fun z3 =>
 (boxV x1).bind fun z4 =>
 (boxV x2).bind fun z5 =>
 (zeroOf PP 33).bind fun z6 =>
 (load PP 33 (DV.ptr (List.length (σ ++ [Row.mix z3])) 0) ((((σ ++ [Row.mix z3]) ++ [Row.mix z4]) ++ [Row.mix z5]) ++ [Row.mix z6])).bind fun x8 =>
 (plainFn CC lo (DV.fn 31 []) [x8] ((((σ ++ [Row.mix z3]) ++ [Row.mix z4]) ++ [Row.mix z5]) ++ [Row.mix z6])).bind fun r9_1 =>
 (zeroOf PP 33).bind fun z7 =>
 (store PP lo 33 (DV.ptr (List.length r9_1.2) 0) r9_1.1 (r9_1.2 ++ [Row.mix z7])).bind fun σ2 =>
 (fieldAddr PP 33 (DV.ptr (List.length r9_1.2) 0) 0).bind fun x10 =>
 (load PP 22 x10 σ2).bind fun x11 =>
 (fieldAddr PP 106 (DV.ptr (List.length ((σ ++ [Row.mix z3]) ++ [Row.mix z4])) 0) 2).bind fun x12 =>
 (load PP 3 x12 σ2).bind fun x13 =>
 (buildSlice PP none 22 1 [(0, x13)] σ2).bind fun r14_3 =>
 (append PP lo false 22 22 x11 r14_3.1 r14_3.2).bind fun r15_4 =>
 (fieldAddr PP 33 (DV.ptr (List.length r9_1.2) 0) 0).bind fun x16 =>
 (store PP lo 22 x16 r15_4.1 r15_4.2).bind fun σ5 =>
 (fieldAddr PP 33 (DV.ptr (List.length r9_1.2) 0) 1).bind fun x17 =>
 (load PP 31 x17 σ5).bind fun x18 =>
 (fieldAddr PP 106 (DV.ptr (List.length ((σ ++ [Row.mix z3]) ++ [Row.mix z4])) 0) 1).bind fun x19 =>
 (load PP 3 x19 σ5).bind fun x20 =>
 (fieldAddr PP 25 (DV.ptr (List.length σ) 0) 2).bind fun x21 =>
 (load PP 22 x21 σ5).bind fun x22 =>
 (fieldAddr PP 106 (DV.ptr (List.length ((σ ++ [Row.mix z3]) ++ [Row.mix z4])) 0) 0).bind fun x23 =>
 (load PP 3 x23 σ5).bind fun x24 =>
 (indexAddr PP 22 x22 x24).bind fun x25 =>
 (load PP 3 x25 σ5).bind fun x26 =>
 (build PP 98 [(0, x20), (1, x26)]).bind fun x27 =>
 (buildSlice PP none 31 1 [(0, x27)] σ5).bind fun r28_6 =>
 (append PP lo false 31 31 x18 r28_6.1 r28_6.2).bind fun r29_7 =>
 (fieldAddr PP 33 (DV.ptr (List.length r9_1.2) 0) 1).bind fun x30 =>
 (store PP lo 31 x30 r29_7.1 r29_7.2).bind fun σ8 =>
 (load PP 33 (DV.ptr (List.length r9_1.2) 0) σ8).bind fun x31 =>
 (store PP lo 33 (DV.ptr (List.length (((σ ++ [Row.mix z3]) ++ [Row.mix z4]) ++ [Row.mix z5])) 0) x31 σ8).bind fun σ9 =>
 (cellV PP 33 (DV.ptr (List.length (((σ ++ [Row.mix z3]) ++ [Row.mix z4]) ++ [Row.mix z5])) 0) σ9).bind fun v0 =>
 some (v0, σ9) := by kernel_rfl
theorem F63_call {lo : Nat} {x0 x1 x2 : DV} {σ : Store} {r : DV × Store} (h : F63 guardT lo x0 x1 x2 σ = some r) : CC lo 63 [x0, x1, x2] σ = some r :=
 callL_run Go.Proofs.Try.func63 (by decide +kernel) rfl (by decide +kernel) h
noncomputable def c64_0 : Code := bodyOf Go.Proofs.Try.f64
noncomputable def a64_0 : Ann := (pol 64).ann
noncomputable def a64_5 : Ann := right (left (right a64_0))
noncomputable def a64_6 : Ann := left a64_5
noncomputable def c64_7 : Code := fstC (fstC (sndC (fstC (sndC c64_0))))
noncomputable def c64_23 : Code := sndC (sndC c64_0)
noncomputable def a64_23 : Ann := right (right a64_0)
noncomputable def f64_L0 (G : GuardT) (lo : Nat) (x0 x3 x5 : DV) (σ : Store) : Option (DV × Store) :=
 codeF G PP (pol 64) CC lo (.loop c64_7) a64_6 [x0, ud, ud, x3, ud, x5, ud, ud, ud, ud, ud, ud, ud, ud, ud, ud, ud, ud, ud, ud, ud, ud, ud, ud, ud, ud, ud, ud, ud, ud, ud, ud, ud, ud, ud, ud, ud, ud, ud, ud] σ
 (blockC 0 a64_5 (seqC G PP (pol 64) CC lo c64_23 a64_23 (finR PP Go.Proofs.Try.f64.results.toList)))
noncomputable def F64 (G : GuardT) (lo : Nat) (x0 x1 : DV) (σ : Store) : Option (DV × Store) :=
 codeF G PP (pol 64) CC lo c64_0 a64_0 [x0, x1, ud, ud, ud, ud, ud, ud, ud, ud, ud, ud, ud, ud, ud, ud, ud, ud, ud, ud, ud, ud, ud, ud, ud, ud, ud, ud, ud, ud, ud, ud, ud, ud, ud, ud, ud, ud, ud, ud] σ (finR PP Go.Proofs.Try.f64.results.toList)
theorem f64_L0_eq (G : GuardT) (hG : GuardOk G) (lo : Nat) (x0 x3 x5 : DV) (σ : Store) : f64_L0 G lo x0 x3 x5 σ =
 (len PP 110 x0 σ).bind fun x8 =>
 (binOp PP .lss 3 x5 x8).bind fun x9 =>
 condK x9
 (
 (indexAddr PP 110 x0 x5).bind fun x14 =>
 (load PP 112 x14 σ).bind fun x15 =>
 (pureFn CC (DV.fn 62 []) [x15] σ).bind fun x16 =>
 (load PP 112 x3 σ).bind fun x17 =>
 (pureFn CC (DV.fn 62 []) [x17] σ).bind fun x18 =>
 (binOp PP .eql 3 x16 x18).bind fun x19 =>
 G _ x19 true (some (x0, σ)) σ fun x21 σ1 =>
 G _ x19 true (some (x5, σ1)) σ1 fun x22 σ2 =>
 G _ x19 true ((indexAddr PP 110 x21 x22).bind fun v => some (v, σ2)) σ2 fun x23 σ3 =>
 G _ x19 true ((fieldAddr PP 112 x23 1).bind fun v => some (v, σ3)) σ3 fun x24 σ4 =>
 G _ x19 true ((load PP 3 x24 σ4).bind fun v => some (v, σ4)) σ4 fun x25 σ5 =>
 G _ x19 true ((fieldAddr PP 112 x3 1).bind fun v => some (v, σ5)) σ5 fun x26 σ6 =>
 G _ x19 true ((load PP 3 x26 σ6).bind fun v => some (v, σ6)) σ6 fun x27 σ7 =>
 G _ x19 true ((binOp PP .eql 3 x25 x27).bind fun v => some (v, σ7)) σ7 fun x28 σ8 =>
 (pickV x19 x28 (DV.p (PV.bool false))).bind fun x29 =>
 G _ x29 true (some (x0, σ8)) σ8 fun x31 σ9 =>
 G _ x29 true (some (x5, σ9)) σ9 fun x32 σ10 =>
 G _ x29 true ((indexAddr PP 110 x31 x32).bind fun v => some (v, σ10)) σ10 fun x33 σ11 =>
 G _ x29 true ((fieldAddr PP 112 x33 2).bind fun v => some (v, σ11)) σ11 fun x34 σ12 =>
 G _ x29 true ((load PP 3 x34 σ12).bind fun v => some (v, σ12)) σ12 fun x35 σ13 =>
 G _ x29 true ((fieldAddr PP 112 x3 2).bind fun v => some (v, σ13)) σ13 fun x36 σ14 =>
 G _ x29 true ((load PP 3 x36 σ14).bind fun v => some (v, σ14)) σ14 fun x37 σ15 =>
 G _ x29 true ((binOp PP .eql 3 x35 x37).bind fun v => some (v, σ15)) σ15 fun x38 σ16 =>
 (pickV x29 x38 (DV.p (PV.bool false))).bind fun x39 =>
 condK x39
 (
 some ((DV.p (PV.bool true)), σ16)
 )
 (
 (binOp PP .add 3 x5 (DV.p (PV.int IntKind.i64 (1)))).bind fun x11 =>
 f64_L0 G lo x0 x3 x11 σ16
 )
 )
 (
 some ((DV.p (PV.bool false)), σ)
 ) := (loopF_eq G hG).trans (by kernel_rfl)
theorem F64_eq (G : GuardT) (lo : Nat) (x0 x1 : DV) (σ : Store) : F64 G lo x0 x1 σ =
 (boxV x1).bind fun z3 =>
 f64_L0 G lo x0 (DV.ptr (List.length σ) 0) (DV.p (PV.int IntKind.i64 (0))) (σ ++ [Row.mix z3]) := by kernel_rfl
theorem F64_call {lo : Nat} {x0 x1 : DV} {σ : Store} {r : DV × Store} (h : F64 guardT lo x0 x1 σ = some r) : CC lo 64 [x0, x1] σ = some r :=
 callL_run Go.Proofs.Try.func64 (by decide +kernel) rfl (by decide +kernel) h
noncomputable def c3_0 : Code := bodyOf Go.Proofs.Try.f3
noncomputable def a3_0 : Ann := (pol 3).ann
noncomputable def c3_28 : Code := sndC (sndC (sndC (sndC (sndC (sndC c3_0)))))
noncomputable def a3_28 : Ann := right (right (right (right (right (right a3_0)))))
noncomputable def c3_34 : Code := sndC c3_28
noncomputable def a3_34 : Ann := right a3_28
def f3_J0_fr (x0 x1 x2 x3 x6 x7 x8 x9 x12 x13 x14 x15 x16 x17 x18 x19 x20 x21 x22 x23 x24 x25 x26 x27 x28 x29 x30 x31 x32 x33 x34 x35 x36 x37 x38 x39 x40 x41 x42 : DV) : Frame := [x0, x1, x2, x3, ud, ud, x6, x7, x8, x9, ud, ud, x12, x13, x14, x15, x16, x17, x18, x19, x20, x21, x22, x23, x24, x25, x26, x27, x28, x29, x30, x31, x32, x33, x34, x35, x36, x37, x38, x39, x40, x41, x42, ud, ud, ud, ud, ud, ud, ud, ud, ud, ud, ud, ud, ud, ud, ud, ud, ud, ud, ud, ud, ud, ud, ud, ud, ud, ud, ud, ud, ud, ud, ud, ud, ud, ud, ud, ud, ud, ud, ud, ud, ud, ud, ud, ud, ud, ud, ud, ud]
noncomputable def f3_J0 (G : GuardT) (lo : Nat) (x0 x1 x2 x3 x6 x7 x8 x9 x12 x13 x14 x15 x16 x17 x18 x19 x20 x21 x22 x23 x24 x25 x26 x27 x28 x29 x30 x31 x32 x33 x34 x35 x36 x37 x38 x39 x40 x41 x42 : DV) (σ : Store) : Option (DV × Store) :=
 (seqC G PP (pol 3) CC lo c3_28 a3_28 (finR PP Go.Proofs.Try.f3.results.toList)) .normal (f3_J0_fr x0 x1 x2 x3 x6 x7 x8 x9 x12 x13 x14 x15 x16 x17 x18 x19 x20 x21 x22 x23 x24 x25 x26 x27 x28 x29 x30 x31 x32 x33 x34 x35 x36 x37 x38 x39 x40 x41 x42) σ
def f3_J1_fr (x0 x1 x2 x3 x6 x7 x8 x9 x12 x13 x14 x15 x16 x17 x18 x19 x20 x21 x22 x23 x24 x25 x26 x27 x28 x29 x30 x31 x32 x33 x34 x35 x36 x37 x38 x39 x40 x41 x42 x43 x44 x45 x46 : DV) : Frame := [x0, x1, x2, x3, ud, ud, x6, x7, x8, x9, ud, ud, x12, x13, x14, x15, x16, x17, x18, x19, x20, x21, x22, x23, x24, x25, x26, x27, x28, x29, x30, x31, x32, x33, x34, x35, x36, x37, x38, x39, x40, x41, x42, x43, x44, x45, x46, ud, ud, ud, ud, ud, ud, ud, ud, ud, ud, ud, ud, ud, ud, ud, ud, ud, ud, ud, ud, ud, ud, ud, ud, ud, ud, ud, ud, ud, ud, ud, ud, ud, ud, ud, ud, ud, ud, ud, ud, ud, ud, ud, ud]
noncomputable def f3_J1 (G : GuardT) (lo : Nat) (x0 x1 x2 x3 x6 x7 x8 x9 x12 x13 x14 x15 x16 x17 x18 x19 x20 x21 x22 x23 x24 x25 x26 x27 x28 x29 x30 x31 x32 x33 x34 x35 x36 x37 x38 x39 x40 x41 x42 x43 x44 x45 x46 : DV) (σ : Store) : Option (DV × Store) :=
 (seqC G PP (pol 3) CC lo c3_34 a3_34 (finR PP Go.Proofs.Try.f3.results.toList)) .normal (f3_J1_fr x0 x1 x2 x3 x6 x7 x8 x9 x12 x13 x14 x15 x16 x17 x18 x19 x20 x21 x22 x23 x24 x25 x26 x27 x28 x29 x30 x31 x32 x33 x34 x35 x36 x37 x38 x39 x40 x41 x42 x43 x44 x45 x46) σ
noncomputable def F3 (G : GuardT) (lo : Nat) (x0 x1 x2 : DV) (σ : Store) : Option (DV × Store) :=
 codeF G PP (pol 3) CC lo c3_0 a3_0 [x0, x1, x2, ud, ud, ud, ud, ud, ud, ud, ud, ud, ud, ud, ud, ud, ud, ud, ud, ud, ud, ud, ud, ud, ud, ud, ud, ud, ud, ud, ud, ud, ud, ud, ud, ud, ud, ud, ud, ud, ud, ud, ud, ud, ud, ud, ud, ud, ud, ud, ud, ud, ud, ud, ud, ud, ud, ud, ud, ud, ud, ud, ud, ud, ud, ud, ud, ud, ud, ud, ud, ud, ud, ud, ud, ud, ud, ud, ud, ud, ud, ud, ud, ud, ud, ud, ud, ud, ud, ud, ud] σ (finR PP Go.Proofs.Try.f3.results.toList)
theorem f3_J0_eq (G : GuardT) (lo : Nat) (x0 x1 x2 x3 x6 x7 x8 x9 x12 x13 x14 x15 x16 x17 x18 x19 x20 x21 x22 x23 x24 x25 x26 x27 x28 x29 x30 x31 x32 x33 x34 x35 x36 x37 x38 x39 x40 x41 x42 : DV) (σ : Store) : f3_J0 G lo x0 x1 x2 x3 x6 x7 x8 x9 x12 x13 x14 x15 x16 x17 x18 x19 x20 x21 x22 x23 x24 x25 x26 x27 x28 x29 x30 x31 x32 x33 x34 x35 x36 x37 x38 x39 x40 x41 x42 σ =
 (binOp PP .eql 3 x9 (DV.p (PV.int IntKind.i64 (0)))).bind fun x44 =>
 condK x44
 (
 (pureFn CC (DV.fn 17 []) [x2] σ).bind fun x46 =>
 f3_J1 G lo x0 x1 x2 x3 x6 x7 x8 x46 x12 x13 x14 x15 x16 x17 x18 x19 x20 x21 x22 x23 x24 x25 x26 x27 x28 x29 x30 x31 x32 x33 x34 x35 x36 x37 x38 x39 x40 x41 x42 x9 x44 x2 x46 σ
 )
 (
 f3_J1 G lo x0 x1 x2 x3 x6 x7 x8 x9 x12 x13 x14 x15 x16 x17 x18 x19 x20 x21 x22 x23 x24 x25 x26 x27 x28 x29 x30 x31 x32 x33 x34 x35 x36 x37 x38 x39 x40 x41 x42 x9 x44 ud ud σ
 ) := by kernel_rfl
theorem f3_J1_eq (G : GuardT) (lo : Nat) (x0 x1 x2 x3 x6 x7 x8 x9 x12 x13 x14 x15 x16 x17 x18 x19 x20 x21 x22 x23 x24 x25 x26 x27 x28 x29 x30 x31 x32 x33 x34 x35 x36 x37 x38 x39 x40 x41 x42 x43 x44 x45 x46 : DV) (σ : Store) : f3_J1 G lo x0 x1 x2 x3 x6 x7 x8 x9 x12 x13 x14 x15 x16 x17 x18 x19 x20 x21 x22 x23 x24 x25 x26 x27 x28 x29 x30 x31 x32 x33 x34 x35 x36 x37 x38 x39 x40 x41 x42 x43 x44 x45 x46 σ =
 (binOp PP .neq 3 x9 (DV.p (PV.int IntKind.i64 (0)))).bind fun x48 =>
 condK x48
 (
 (binOp PP .eql 3 x8 x9).bind fun x51 =>
 G _ x51 true ((load PP 33 x7 σ).bind fun v => some (v, σ)) σ fun x53 σ8 =>
 G _ x51 true ((build PP 33 []).bind fun v => some (v, σ8)) σ8 fun x54 σ9 =>
 G _ x51 true ((pureFn CC (DV.fn 18 []) [x53, x54] σ9).bind fun v => some (v, σ9)) σ9 fun x55 σ10 =>
 (pickV x51 x55 (DV.p (PV.bool false))).bind fun x56 =>
 some (x56, σ10)
 )
 (
 (load PP 25 x3 σ).bind fun x58 =>
 (pureFn CC (DV.fn 19 []) [x58, x1, x2] σ).bind fun x61 =>
 (extractV x61 0).bind fun x62 =>
 (extractV x61 1).bind fun x63 =>
 (zeroOf PP 33).bind fun z10 =>
 (store PP lo 33 (DV.ptr (List.length σ) 0) x62 (σ ++ [Row.mix z10])).bind fun σ11 =>
 (unOp .not x63).bind fun x65 =>
 condK x65
 (
 (binOp PP .eql 34 x8 (DV.p (PV.int IntKind.i64 (25)))).bind fun x67 =>
 G _ x67 true ((load PP 33 x7 σ11).bind fun v => some (v, σ11)) σ11 fun x69 σ12 =>
 G _ x67 true ((build PP 33 []).bind fun v => some (v, σ12)) σ12 fun x70 σ13 =>
 G _ x67 true ((pureFn CC (DV.fn 18 []) [x69, x70] σ13).bind fun v => some (v, σ13)) σ13 fun x71 σ14 =>
 (pickV x67 x71 (DV.p (PV.bool false))).bind fun x72 =>
 some (x72, σ14)
 )
 (
 (fieldAddr PP 33 (DV.ptr (List.length σ) 0) 1).bind fun x73 =>
 (load PP 31 x73 σ11).bind fun x74 =>
 (len PP 31 x74 σ11).bind fun x75 =>
 (binOp PP .gtr 3 x75 (DV.p (PV.int IntKind.i64 (60)))).bind fun x76 =>
 condK x76
 (
 (binOp PP .eql 34 x8 (DV.p (PV.int IntKind.i64 (2)))).bind fun x78 =>
 G _ x78 true ((load PP 33 x7 σ11).bind fun v => some (v, σ11)) σ11 fun x80 σ15 =>
 G _ x78 true ((build PP 33 []).bind fun v => some (v, σ15)) σ15 fun x81 σ16 =>
 G _ x78 true ((pureFn CC (DV.fn 18 []) [x80, x81] σ16).bind fun v => some (v, σ16)) σ16 fun x82 σ17 =>
 (pickV x78 x82 (DV.p (PV.bool false))).bind fun x83 =>
 some (x83, σ17)
 )
 (
 (binOp PP .eql 34 x8 (DV.p (PV.int IntKind.i64 (0)))).bind fun x85 =>
 G _ x85 true ((load PP 33 x7 σ11).bind fun v => some (v, σ11)) σ11 fun x87 σ18 =>
 G _ x85 true ((load PP 33 (DV.ptr (List.length σ) 0) σ18).bind fun v => some (v, σ18)) σ18 fun x88 σ19 =>
 G _ x85 true ((pureFn CC (DV.fn 18 []) [x87, x88] σ19).bind fun v => some (v, σ19)) σ19 fun x89 σ20 =>
 (pickV x85 x89 (DV.p (PV.bool false))).bind fun x90 =>
 some (x90, σ20)
 )
 )
 ) := by kernel_rfl
theorem F3_eq (G : GuardT) (lo : Nat) (x0 x1 x2 : DV) (σ : Store) : F3 G lo x0 x1 x2 σ =
 (boxV x0).bind fun z3 =>
 (pureFn CC (DV.fn 10 []) [] (σ ++ [Row.mix z3])).bind fun x12 =>
 (unOp .not x12).bind fun x13 =>
 condK x13
 (
 some ((DV.p (PV.bool false)), (σ ++ [Row.mix z3]))
 )
 (
 (load PP 25 (DV.ptr (List.length σ) 0) (σ ++ [Row.mix z3])).bind fun x14 =>
 (pureFn CC (DV.fn 11 []) [x14] (σ ++ [Row.mix z3])).bind fun x15 =>
 (unOp .not x15).bind fun x16 =>
 G _ x16 false (some (x1, (σ ++ [Row.mix z3]))) (σ ++ [Row.mix z3]) fun x18 σ1 =>
 G _ x16 false ((pureFn CC (DV.fn 12 []) [x18] σ1).bind fun v => some (v, σ1)) σ1 fun x19 σ2 =>
 G _ x16 false ((unOp .not x19).bind fun v => some (v, σ2)) σ2 fun x20 σ3 =>
 (pickV x16 (DV.p (PV.bool true)) x20).bind fun x21 =>
 G _ x21 false (some (x2, σ3)) σ3 fun x23 σ4 =>
 G _ x21 false ((pureFn CC (DV.fn 12 []) [x23] σ4).bind fun v => some (v, σ4)) σ4 fun x24 σ5 =>
 G _ x21 false ((unOp .not x24).bind fun v => some (v, σ5)) σ5 fun x25 σ6 =>
 (pickV x21 (DV.p (PV.bool true)) x25).bind fun x26 =>
 condK x26
 (
 some ((DV.p (PV.bool true)), σ6)
 )
 (
 (load PP 25 (DV.ptr (List.length σ) 0) σ6).bind fun x28 =>
 (pureFn CC (DV.fn 14 []) [x28] σ6).bind fun x29 =>
 (pureFn CC (DV.fn 15 []) [x1] σ6).bind fun x31 =>
 (pureFn CC (DV.fn 15 []) [x2] σ6).bind fun x33 =>
 (pureFn CC (DV.fn 13 []) [x29, x31, x33] σ6).bind fun x34 =>
 (extractV x34 0).bind fun x35 =>
 (extractV x34 1).bind fun x36 =>
 (zeroOf PP 33).bind fun z7 =>
 (store PP lo 33 (DV.ptr (List.length σ6) 0) x35 (σ6 ++ [Row.mix z7])).bind fun σ7 =>
 (load PP 25 (DV.ptr (List.length σ) 0) σ7).bind fun x37 =>
 (pureFn CC (DV.fn 16 []) [x37] σ7).bind fun x38 =>
 (binOp PP .eql 3 x38 (DV.p (PV.int IntKind.i64 (0)))).bind fun x40 =>
 condK x40
 (
 (pureFn CC (DV.fn 17 []) [x1] σ7).bind fun x42 =>
 f3_J0 G lo x0 x1 x2 (DV.ptr (List.length σ) 0) (DV.p (PV.bool false)) (DV.ptr (List.length σ6) 0) x36 x42 x12 x13 x14 x15 x16 x16 x18 x19 x20 x21 x21 x23 x24 x25 x26 x34 x28 x29 x1 x31 x2 x33 x34 x35 x36 x37 x38 x38 x40 x1 x42 σ7
 )
 (
 f3_J0 G lo x0 x1 x2 (DV.ptr (List.length σ) 0) (DV.p (PV.bool false)) (DV.ptr (List.length σ6) 0) x36 x38 x12 x13 x14 x15 x16 x16 x18 x19 x20 x21 x21 x23 x24 x25 x26 x34 x28 x29 x1 x31 x2 x33 x34 x35 x36 x37 x38 x38 x40 ud ud σ7
 )
 )
 ) := by kernel_rfl
theorem F3_call {lo : Nat} {x0 x1 x2 : DV} {σ : Store} {r : DV × Store} (h : F3 guardT lo x0 x1 x2 σ = some r) : CC lo 3 [x0, x1, x2] σ = some r :=
 callL_run Go.Proofs.Try.func3 (by decide +kernel) rfl (by decide +kernel) h
end Go.D
end
/- Lists side by side, rows of lists, clones: turned from the texts of chapter 21. -/
section
set_option linter.unusedVariables false
set_option linter.unusedSimpArgs false
namespace Go.D
def rowOf : DV → Option Nat
  | .osl r _ _ _ _ => some r
  | _ => none
def Apart (x y : DV) : Prop := ∀ r, rowOf x = some r → rowOf y = some r → False
def Fresh (σ : Store) (x x' : DV) : Prop := ∀ r, rowOf x' = some r → rowOf x = some r ∨ r = σ.length
theorem Apart.symm {x y : DV} (h : Apart x y) : Apart y x := fun r a b => h r b a
theorem Apart.nil (y : DV) : Apart (.p .nilsl) y := fun r a _ => by simp [rowOf] at a
theorem Out.row_lt {σ : Store} {lo sz n : Nat} {cs : List PV} {x : DV} (ho : Out σ lo sz n cs x) {r : Nat} (h : rowOf x = some r) : r < σ.length := by
  rcases ho.2 with ⟨_, rfl⟩ | ⟨_, r', ver, rfl, h3, _⟩
  · simp [rowOf] at h
  · have : r' = r := by simpa [rowOf] using h
    rw [← this]; exact get_lt h3
theorem Apart.fresh {σ : Store} {lo sz n : Nat} {cs : List PV} {x x' y : DV} (h : Apart x y) (hf : Fresh σ x x') (hy : Out σ lo sz n cs y) : Apart x' y := by
  intro r a b
  rcases hf r a with h1 | h1
  · exact h r h1 b
  · have := hy.row_lt b
    omega
theorem Out.other {σ σ' : Store} {lo sz n : Nat} {cs : List PV} {x y : DV} (ho : Out σ lo sz n cs y) (h : Others σ σ' x) (ha : Apart x y) : Out σ' lo sz n cs y := by
  refine ⟨ho.1, ?_⟩
  rcases ho.2 with h1 | ⟨h1, r, ver, rfl, h3, h4⟩
  · exact .inl h1
  · refine .inr ⟨h1, r, ver, rfl, h r _ h3 ?_, h4⟩
    rintro r' ver' sz' n' cs' rfl e
    exact ha r (by rw [e]; rfl) rfl

theorem Out.pushF {σ : Store} {t e lo sz b n : Nat} {z : List DV} {cs vs : List PV} {x : DV} (hs : srcType PP t = true) (hu : PP.underlying t = some (.slice e)) (h1 : size? PP e = some sz) (h2 : bytes? PP e = some b) (h3 : zeroOf PP e = some z)
    (h4 : z.length = sz) (hz : 0 < sz) (hb : 0 < b) (hb2 : b ≤ 1000) (hv : vs.length = sz) (ho : Out σ lo sz n cs x) (hn : n ≤ 10000000) (hlo : lo ≤ σ.length) :
    ∃ x' σ', append PP lo false t t x (.p (.sl true 1 vs)) σ = some (x', σ') ∧ Out σ' lo sz (n + 1) (cs ++ vs) x' ∧ Others σ σ' x ∧ Fresh σ x x' := by
  have hsrc : source σ sz (.p (.sl true 1 vs)) = some (1, vs.map DV.p) := by simp [source, hv]
  have hz0 : ¬ (z.length ≠ sz ∨ sz = 0) := by omega
  obtain ⟨hc, ho⟩ := ho
  rcases ho with ⟨rfl, rfl⟩ | ⟨hn0, r, ver, rfl, hr, hl⟩
  · refine ⟨.osl σ.length 0 sz 1 vs, σ ++ [.tok 0], ?_, ⟨by simp [hc, hv], .inr ⟨by simp, σ.length, 0, ?_, get_snoc, hlo⟩⟩, ?_, ?_⟩
    · have : b ≤ 140737488355328 := by omega
      simp only [append, hs, hu, h1, h2, h3, hz0, hsrc, appNil]
      simp [this, hb, pures_map, h4, hz, Nat.ne_of_gt hz]
    · have : cs = [] := List.length_eq_zero_iff.1 (by simpa using hc)
      rw [this]; simp
    · intro i row hi _
      exact get_old hi
    · intro r h; right; simpa [rowOf] using h.symm
  · refine ⟨.osl r (ver + 1) sz (n + 1) (cs ++ vs), σ.set r (.tok (ver + 1)), ?_, ⟨by simp [hc, hv, Nat.add_mul], .inr ⟨by simp, r, ver + 1, rfl, ?_, hl⟩⟩, ?_, ?_⟩
    · have e1 : (n + 1) * b ≤ 140737488355328 := Nat.le_trans (Nat.mul_le_mul (show n + 1 ≤ 10000001 by omega) hb2) (by decide)
      have e2 : n + 1 ≤ 140737488355328 := by omega
      simp only [append, hs, hu, h1, h2, h3, hz0, hsrc, appTok]
      simp [e1, e2, hb, hc, hl, hr, pures_map, h4, Nat.ne_of_gt hz]
    · rw [List.getElem?_set_self (get_lt hr)]
    · intro i row hi hne
      rw [List.getElem?_set_ne (fun e => hne _ _ _ _ _ rfl e.symm)]
      exact hi
    · intro r' h; left; exact h
theorem dups_one {α : Type} (x : α) : ∀ n, dups [x] n = List.replicate n x
  | 0 => rfl
  | n + 1 => by simp [dups, dups_one x n, List.replicate_succ]
theorem eq22_nn : binOp PP .eql 22 (.p .nilsl) (.p .nilsl) = some (.p (.bool true)) := Eq.trans (by kernel_rfl) rfl
theorem eq22_sl (ex : Bool) (n : Nat) (cs : List PV) : binOp PP .eql 22 (.p (.sl ex n cs)) (.p .nilsl) = some (.p (.bool false)) := Eq.trans (by kernel_rfl) rfl
theorem eq22_osl (r ver sz n : Nat) (cs : List PV) : binOp PP .eql 22 (.osl r ver sz n cs) (.p .nilsl) = some (.p (.bool false)) := Eq.trans (by kernel_rfl) rfl
theorem mk51 {n : Nat} (h : n ≤ 1000) (σ : Store) : makeSlice PP true 48 (.p (pI (n : Nat))) (.p (pI (n : Nat))) σ = some (.rsl σ.length 1 0 n, σ ++ [.mix (List.replicate n (.p .nilsl))]) := by
  have h1 : (n : Int) ≤ 140737488355328 := by omega
  have h2 : 24 * (n : Int) ≤ 140737488355328 := by omega
  simp [makeSlice, u48, s22, bytes22, zero22, h1, h2, newRow, dups_one]
theorem idx48_r {R off n i : Nat} (h : i < n) : indexAddr PP 48 (.rsl R 1 off n) (.p (pI (i : Nat))) = some (.ptr R (off + i)) := by
  have h2 : (0 : Int) ≤ (i : Int) ∧ (i : Int) < (n : Nat) := by omega
  simp [indexAddr, u48, s22, h2, h]
theorem st22m {σ : Store} {r t : Nat} {O : List DV} {v : DV} (h : σ[r]? = some (.mix O)) (ht : t < O.length) (hv : v.one = true) (hc : v.cells = [v]) : store PP 0 22 (.ptr r t) v σ = some (σ.set r (.mix (O.set t v))) := by
  have h1 : t + 1 ≤ O.length := ht
  have h2 : splice O t [v] = O.set t v := by
    unfold splice
    rw [List.set_eq_take_append_cons_drop]
    simp [ht]
  simp [store, s22, hc, storeN, h, hv, h1, h2]
def PC (l : List Int) (v : DV) : Prop := l ≠ [] ∧ (v = .p (.sl true l.length (eInts l)) ∨ ∃ r ver, v = .osl r ver 1 l.length (eInts l))
theorem PC.eq {l : List Int} {v : DV} (h : PC l v) : binOp PP .eql 22 v (.p .nilsl) = some (.p (.bool false)) := by
  rcases h.2 with rfl | ⟨r, ver, rfl⟩
  · exact eq22_sl _ _ _
  · exact eq22_osl _ _ _ _ _
theorem PC.thaw {l : List Int} {v : DV} (h : PC l v) (d : Nat) (σ : Store) : thawP 0 σ d v = some (eSl (some l)) := by
  rcases h.2 with rfl | ⟨r, ver, rfl⟩ <;> cases d <;> simp [thawP, loosen, loosens_ints, eSl]
theorem PC.source {l : List Int} {v : DV} (h : PC l v) (σ : Store) : Go.D.source σ 1 v = some (l.length, (eInts l).map DV.p) := by
  rcases h.2 with rfl | ⟨r, ver, rfl⟩ <;> simp [Go.D.source, ints_length]
/-- Clone of a path: a list of one's own. -/
theorem S99 {l : List Int} {v : DV} (h : PC l v) (hl : l.length ≤ 1000000) (lo : Nat) (σ : Store) (hlo : lo ≤ σ.length) :
    plainFn CC lo (DV.fn 99 []) [v] σ = some (.osl σ.length 0 1 l.length (eInts l), σ ++ [.tok 0]) := by
  show CC lo 99 ([v] ++ []) σ = _
  rw [List.append_nil]
  refine F99_call ?_
  rw [F99_eq]
  have hne : ¬ l.length = 0 := fun e => h.1 (List.length_eq_zero_iff.1 e)
  have h1 : append PP lo false 22 22 (.p (.sl true 0 [])) v σ = some (.osl σ.length 0 1 l.length (eInts l), σ ++ [.tok 0]) := by
    have e1 : l.length * 8 ≤ 140737488355328 := by omega
    have e2 : l.length ≤ 140737488355328 := by omega
    simp only [append, src22, u22, s3, bytes3, zero3, h.source, appLit]
    simp [hne, e1, e2, pures_map]
  simp only [h.eq, obind, condK_false, bs22_0, h1]

end Go.D
end
/- Watches: errors, copies, what follows a pair. -/
section
set_option linter.unusedVariables false
set_option linter.unusedSimpArgs false
namespace Go.D

abbrev OW := Option (List (Option (List OI)))
def eWt : OW → PV
  | none => .nilsl
  | some l => .sl false l.length (l.map eLs)
theorem u27 : PP.underlying 27 = some (.slice 48) := Eq.trans (by kernel_rfl) rfl
theorem s48 : size? PP 48 = some 1 := Eq.trans (by kernel_rfl) rfl
theorem s27 : size? PP 27 = some 1 := Eq.trans (by kernel_rfl) rfl
theorem bytes48 : bytes? PP 48 = some 24 := Eq.trans (by kernel_rfl) rfl
theorem zero48 : zeroOf PP 48 = some [.p .nilsl] := Eq.trans (by kernel_rfl) rfl
theorem zero27 : zeroOf PP 27 = some [.p .nilsl] := Eq.trans (by kernel_rfl) rfl
theorem src27 : srcType PP 27 = true := Eq.trans (by kernel_rfl) rfl
theorem load48 (x : DV) (σ : Store) : load PP 48 x σ = load1 x σ := Eq.trans (by kernel_rfl) rfl
theorem load27 (x : DV) (σ : Store) : load PP 27 x σ = load1 x σ := Eq.trans (by kernel_rfl) rfl
theorem bs27_1 (v : PV) (σ : Store) : buildSlice PP none 27 1 [(0, .p v)] σ = some (.p (.sl true 1 [v]), σ) := Eq.trans (by kernel_rfl) rfl
theorem len27 (o : OW) (σ : Store) : len PP 27 (.p (eWt o)) σ = some (.p (.int .i64 ((L o).length : Nat))) := by cases o <;> simp [len, u27, eWt]
theorem idx27 {o : OW} {i : Nat} (h : i < (L o).length) : indexAddr PP 27 (.p (eWt o)) (.p (.int .i64 (i : Nat))) = some (.pptr ((L o).map eLs) i) := by
  cases o with
  | none => simp at h
  | some l =>
    have h2 : (0 : Int) ≤ (i : Int) ∧ (i : Int) < (l.length : Nat) := by simp at h; omega
    simp [indexAddr, u27, s48, eWt, h2]
theorem load1_wt {l : List (Option (List OI))} {i : Nat} (h : i < l.length) (σ : Store) : load1 (.pptr (l.map eLs) i) σ = some (.p (eLs (l.getD i none))) :=
  load1_pptr (by simp [h, List.getD_eq_getElem?_getD]) σ
theorem loosens_wt (l : List (Option (List OI))) : loosens (l.map eLs) = l.map eLs := by
  induction l with
  | nil => rfl
  | cons a l ih => simp only [List.map_cons, loosens, loosen_ls, ih]
theorem loosen_wt (o : OW) : loosen (eWt o) = eWt o := by
  cases o <;> simp [eWt, loosen, loosens_wt]
theorem wt_view (o : OW) : view (.p (eWt o)) = .p (eWt o) := by simp [view, viewCell, loosen_wt]
theorem box_wt (o : OW) : boxV (.p (eWt o)) = some [.p (eWt o)] := rfl
theorem Out.push27 {σ : Store} {lo n : Nat} {cs : List PV} {v : PV} {x : DV} (ho : Out σ lo 1 n cs x) (hn : n ≤ 1000000) (hlo : lo ≤ σ.length) :
    ∃ x' σ', append PP lo false 27 27 x (.p (.sl true 1 [v])) σ = some (x', σ') ∧ Out σ' lo 1 (n + 1) (cs ++ [v]) x' ∧ Others σ σ' x ∧ σ.length ≤ σ'.length :=
  Out.push src27 u27 s48 bytes48 zero48 rfl (by decide) (by decide) (by decide) rfl ho hn hlo

/-! ### What a watch says -/
abbrev W3 := List (List (List Int))
def wl (w : OW) : W3 := (L w).map fun r => (L r).map L
def rowsA (w : OW) (s : Nat) : Option (List OI) := (L w).getD s none
def rowA (w : OW) (s i : Nat) : OI := (L (rowsA w s)).getD i none
def cell3 (l : W3) (s i o : Nat) : Int := ((l.getD s []).getD i []).getD o 0
theorem wl_len (w : OW) : (wl w).length = (L w).length := by simp [wl]
theorem wl_rows (w : OW) (s : Nat) : (wl w).getD s [] = (L (rowsA w s)).map L := by
  unfold wl rowsA
  rw [List.getD_eq_getElem?_getD, List.getElem?_map, List.getD_eq_getElem?_getD]
  cases (L w)[s]? <;> rfl
theorem wl_row (w : OW) (s i : Nat) : ((wl w).getD s []).getD i [] = L (rowA w s i) := by
  rw [wl_rows]
  unfold rowA
  rw [List.getD_eq_getElem?_getD, List.getElem?_map, List.getD_eq_getElem?_getD]
  cases (L (rowsA w s))[i]? <;> rfl
theorem wl_cell (w : OW) (s i o : Nat) : cell3 (wl w) s i o = (L (rowA w s i)).getD o 0 := by rw [cell3, wl_row]

/-! ### Bounds -/
def rowsSm (o : Option (List OI)) : Bool := decide ((L o).length ≤ 5) && (L o).all fun r => decide ((L r).length ≤ 5)
def smallW (w : OW) : Bool := decide ((L w).length ≤ 8) && (L w).all rowsSm
structure WSm (w : OW) : Prop where
  n : (L w).length ≤ 8
  r : ∀ s, (L (rowsA w s)).length ≤ 5
  c : ∀ s i, (L (rowA w s i)).length ≤ 5
theorem wsm_of {w : OW} (h : smallW w = true) : WSm w := by
  simp only [smallW, Bool.and_eq_true, decide_eq_true_eq, List.all_eq_true] at h
  have hr : ∀ s, rowsSm (rowsA w s) = true := by
    intro s
    unfold rowsA
    by_cases e : s < (L w).length
    · rw [getD_at none e]; exact h.2 _ (List.getElem_mem e)
    · rw [List.getD_eq_getElem?_getD, List.getElem?_eq_none (by omega)]; rfl
  refine ⟨h.1, fun s => ?_, fun s i => ?_⟩
  · have := hr s
    simp only [rowsSm, Bool.and_eq_true, decide_eq_true_eq] at this
    exact this.1
  · have := hr s
    simp only [rowsSm, Bool.and_eq_true, decide_eq_true_eq, List.all_eq_true] at this
    unfold rowA
    by_cases e : i < (L (rowsA w s)).length
    · rw [getD_at none e]; exact this.2 _ (List.getElem_mem e)
    · rw [List.getD_eq_getElem?_getD, List.getElem?_eq_none (by omega)]; exact Nat.zero_le _
theorem L12_1 {w : OW} {σ : Store} {s lo : Nat} (hs : s < (L w).length) (hs8 : s ≤ 8) (hr : (L (rowsA w s)).length ≤ 5) :
    ∀ (k i : Nat), (L (rowsA w s)).length - i = k → i ≤ (L (rowsA w s)).length → f12_L1 guardT lo (.p (eWt w)) (.p (pI (s : Nat))) (.p (pI (i : Nat))) σ =
      if ((L (rowsA w s)).drop i).all (fun r => decide ((L r).length ≤ 5)) = true then f12_L0 guardT lo (.p (eWt w)) (.p (pI (s + 1 : Nat))) σ else some (.p (.bool false), σ)
  | 0, i, hk, hi => by
    have : ¬ (i : Int) < ((L (rowsA w s)).length : Nat) := by omega
    have e : (L w).getD s none = rowsA w s := rfl
    rw [f12_L1_eq guardT rfl, List.drop_eq_nil_of_le (by omega)]
    simp only [idx27 hs, len27, load48, load22, load3, len48, len22, load1_wt hs, e, b_lss, b_eql, b_neq, b_leq, b_geq, b_gtr, guard_tt, guard_ff, guard_tf, guard_ft, guard_sk, obind, omap, pickV_true, pickV_false, condK_true, condK_false, decide_true, decide_false, Bool.not_true, Bool.not_false, not_bool, this, List.all_nil, if_true, b_add, wrap_succ (show s ≤ 1000000 by omega)]
  | k + 1, i, hk, hi => by
    have h : i < (L (rowsA w s)).length := by omega
    have h' : (i : Int) < ((L (rowsA w s)).length : Nat) := by omega
    have e : (L w).getD s none = rowsA w s := rfl
    have ih := L12_1 (σ := σ) (lo := lo) hs hs8 hr k (i + 1) (by omega) (by omega)
    have eg : decide (((L ((L (rowsA w s)).getD i none)).length : Int) > 5) = !decide ((L ((L (rowsA w s)).getD i none)).length ≤ 5) := by rw [← decide_not, decide_eq_decide]; omega
    rw [f12_L1_eq guardT rfl, drop_cons h, List.all_cons, ← getD_at none h]
    cases h5 : decide ((L ((L (rowsA w s)).getD i none)).length ≤ 5) <;>
      simp only [idx27 hs, len27, load48, load22, load3, len48, len22, load1_wt hs, e, b_lss, b_eql, b_neq, b_leq, b_geq, b_gtr, guard_tt, guard_ff, guard_tf, guard_ft, guard_sk, obind, omap, pickV_true, pickV_false, condK_true, condK_false, decide_true, decide_false, Bool.not_true, Bool.not_false, not_bool, h', idx48 h, load1_ls h, eg, h5, Bool.true_and, Bool.false_and, Bool.false_eq_true, if_false, b_add, wrap_succ (show i ≤ 1000000 by omega), ih]
theorem L12_0 {w : OW} {σ : Store} {lo : Nat} (hw : (L w).length ≤ 8) :
    ∀ (k i : Nat), (L w).length - i = k → i ≤ (L w).length → f12_L0 guardT lo (.p (eWt w)) (.p (pI (i : Nat))) σ = some (.p (.bool (((L w).drop i).all rowsSm)), σ)
  | 0, i, hk, hi => by
    have : ¬ (i : Int) < ((L w).length : Nat) := by omega
    rw [f12_L0_eq guardT rfl, List.drop_eq_nil_of_le (by omega)]
    simp only [len27, load48, load22, load3, len48, len22, b_lss, b_eql, b_neq, b_leq, b_geq, b_gtr, guard_tt, guard_ff, guard_tf, guard_ft, guard_sk, obind, omap, pickV_true, pickV_false, condK_true, condK_false, decide_true, decide_false, Bool.not_true, Bool.not_false, not_bool, this, List.all_nil]
  | k + 1, i, hk, hi => by
    have h : i < (L w).length := by omega
    have h' : (i : Int) < ((L w).length : Nat) := by omega
    have e : (L w).getD i none = rowsA w i := rfl
    have ih := L12_0 (σ := σ) (lo := lo) hw k (i + 1) (by omega) (by omega)
    have eg : decide (((L (rowsA w i)).length : Int) > 5) = !decide ((L (rowsA w i)).length ≤ 5) := by rw [← decide_not, decide_eq_decide]; omega
    rw [f12_L0_eq guardT rfl, drop_cons h, List.all_cons, ← getD_at none h, e, rowsSm]
    cases h5 : decide ((L (rowsA w i)).length ≤ 5) with
    | false => simp only [len27, load48, load22, load3, len48, len22, idx27 h, load1_wt h, e, b_lss, b_eql, b_neq, b_leq, b_geq, b_gtr, guard_tt, guard_ff, guard_tf, guard_ft, guard_sk, obind, omap, pickV_true, pickV_false, condK_true, condK_false, decide_true, decide_false, Bool.not_true, Bool.not_false, not_bool, h', eg, h5, Bool.false_and]
    | true =>
      have h1 := L12_1 (σ := σ) (lo := lo) h (by omega) (of_decide_eq_true h5) _ 0 (Nat.sub_zero _) (Nat.zero_le _)
      rw [List.drop_zero, ih] at h1
      simp only [len27, load48, load22, load3, len48, len22, idx27 h, load1_wt h, e, b_lss, b_eql, b_neq, b_leq, b_geq, b_gtr, guard_tt, guard_ff, guard_tf, guard_ft, guard_sk, obind, omap, pickV_true, pickV_false, condK_true, condK_false, decide_true, decide_false, Bool.not_true, Bool.not_false, not_bool, h', eg, h5, Bool.true_and]
      refine h1.trans ?_
      cases (L (rowsA w i)).all fun r => decide ((L r).length ≤ 5) <;> simp
theorem S12 {w : OW} {σ : Store} : pureV CC 12 [.p (eWt w)] σ = some (.p (.bool (smallW w))) := by
  refine pureV_any (by simp [wt_view]) fun lo σ0 hs => ⟨_, σ0, F12_call (r := (.p (.bool (smallW w)), σ0)) ?_, rfl⟩
  have eg : decide (((L w).length : Int) > 8) = !decide ((L w).length ≤ 8) := by rw [← decide_not, decide_eq_decide]; omega
  rw [F12_eq, smallW]
  by_cases h : (L w).length ≤ 8
  · have := L12_0 (σ := σ0) (lo := lo) h _ 0 (Nat.sub_zero _) (Nat.zero_le _)
    rw [List.drop_zero] at this
    simp only [len27, load48, load22, load3, len48, len22, b_lss, b_eql, b_neq, b_leq, b_geq, b_gtr, guard_tt, guard_ff, guard_tf, guard_ft, guard_sk, obind, omap, pickV_true, pickV_false, condK_true, condK_false, decide_true, decide_false, Bool.not_true, Bool.not_false, not_bool, eg, h, Bool.true_and]
    exact this
  · simp only [len27, load48, load22, load3, len48, len22, b_lss, b_eql, b_neq, b_leq, b_geq, b_gtr, guard_tt, guard_ff, guard_tf, guard_ft, guard_sk, obind, omap, pickV_true, pickV_false, condK_true, condK_false, decide_true, decide_false, Bool.not_true, Bool.not_false, not_bool, eg, h, Bool.false_and]

/-! ### What is wrong with a watch -/
def inW (n : Nat) (v : Int) : Bool := inR v (-1) (pred (n : Nat))
def stE (l : W3) (s : Nat) : Int :=
  if (decide ((l.getD s []).length = 3) && (l.getD s []).all fun r => decide (r.length = 3)) = true then if ((l.getD s []).all fun r => r.all (inW l.length)) = true then 0 else 3 else 6
def wchE (l : W3) : Int := if l.length = 0 then 1 else if l.length ≤ 6 then firstE (stE l) 0 l.length else 2

theorem L17_3 {w : OW} {σ : Store} {s i lo : Nat} (hw : WSm w) (hs : s < (L w).length) (hi : i < (L (rowsA w s)).length) :
    ∀ (k o : Nat), (L (rowA w s i)).length - o = k → o ≤ (L (rowA w s i)).length → f17_L3 guardT lo (.p (eWt w)) (.p (pI (s : Nat))) (.p (pI (i : Nat))) (.p (pI (o : Nat))) σ =
      if ((L (rowA w s i)).drop o).all (inW (wl w).length) = true then f17_L2 guardT lo (.p (eWt w)) (.p (pI (s : Nat))) (.p (pI (i + 1 : Nat))) σ else some (.p (pI 3), σ)
  | 0, o, hk, ho => by
    have h5 := hw.r s
    have : ¬ (o : Int) < ((L (rowA w s i)).length : Nat) := by omega
    have e : (L w).getD s none = rowsA w s := rfl
    have e2 : (L (rowsA w s)).getD i none = rowA w s i := rfl
    rw [f17_L3_eq guardT rfl, List.drop_eq_nil_of_le (by omega)]
    simp only [idx27 hs, len27, load48, load22, load3, len48, len22, load1_wt hs, e, idx48 hi, load1_ls hi, e2, b_lss, b_eql, b_neq, b_leq, b_geq, b_gtr, guard_tt, guard_ff, guard_tf, guard_ft, guard_sk, obind, omap, pickV_true, pickV_false, condK_true, condK_false, decide_true, decide_false, Bool.not_true, Bool.not_false, not_bool, this, List.all_nil, if_true, b_add, wrap_succ (show i ≤ 1000000 by omega)]
  | k + 1, o, hk, ho => by
    have h5 := hw.c s i
    have h : o < (L (rowA w s i)).length := by omega
    have h' : (o : Int) < ((L (rowA w s i)).length : Nat) := by omega
    have e : (L w).getD s none = rowsA w s := rfl
    have e2 : (L (rowsA w s)).getD i none = rowA w s i := rfl
    have ih := L17_3 (σ := σ) (lo := lo) hw hs hi k (o + 1) (by omega) (by omega)
    have eb : inR (L (rowA w s i))[o] (-1) (IntKind.wrap .i64 (((L w).length : Nat) - 1)) = inW (wl w).length (L (rowA w s i))[o] := by rw [inW, wl_len]
    rw [f17_L3_eq guardT rfl, drop_cons h, List.all_cons]
    cases hb : inW (wl w).length (L (rowA w s i))[o] <;>
      simp only [idx27 hs, len27, load48, load22, load3, len48, len22, load1_wt hs, e, idx48 hi, load1_ls hi, e2, b_lss, b_eql, b_neq, b_leq, b_geq, b_gtr, guard_tt, guard_ff, guard_tf, guard_ft, guard_sk, obind, omap, pickV_true, pickV_false, condK_true, condK_false, decide_true, decide_false, Bool.not_true, Bool.not_false, not_bool, h', idx22 h, load1_ints h, b_sub, shift_ptr, shift_pptr, Nat.zero_add, Nat.add_zero, pureFn_fn, List.append_nil, List.singleton_append, List.cons_append, List.nil_append, S57, eb, hb, Bool.true_and, Bool.false_and, Bool.false_eq_true, if_false, b_add, wrap_succ (show o ≤ 1000000 by omega), ih]
theorem L17_2 {w : OW} {σ : Store} {s lo : Nat} (hw : WSm w) (hs : s < (L w).length) :
    ∀ (k i : Nat), (L (rowsA w s)).length - i = k → i ≤ (L (rowsA w s)).length → f17_L2 guardT lo (.p (eWt w)) (.p (pI (s : Nat))) (.p (pI (i : Nat))) σ =
      if (((wl w).getD s []).drop i).all (fun r => r.all (inW (wl w).length)) = true then f17_L0 guardT lo (.p (eWt w)) (.p (pI (s + 1 : Nat))) σ else some (.p (pI 3), σ)
  | 0, i, hk, hi => by
    have h5 := hw.n
    have : ¬ (i : Int) < ((L (rowsA w s)).length : Nat) := by omega
    have e : (L w).getD s none = rowsA w s := rfl
    rw [f17_L2_eq guardT rfl, List.drop_eq_nil_of_le (by rw [wl_rows, List.length_map]; omega)]
    simp only [idx27 hs, len27, load48, load22, load3, len48, len22, load1_wt hs, e, b_lss, b_eql, b_neq, b_leq, b_geq, b_gtr, guard_tt, guard_ff, guard_tf, guard_ft, guard_sk, obind, omap, pickV_true, pickV_false, condK_true, condK_false, decide_true, decide_false, Bool.not_true, Bool.not_false, not_bool, this, List.all_nil, if_true, b_add, wrap_succ (show s ≤ 1000000 by omega)]
  | k + 1, i, hk, hi => by
    have h : i < (L (rowsA w s)).length := by omega
    have h' : (i : Int) < ((L (rowsA w s)).length : Nat) := by omega
    have hm : i < ((wl w).getD s []).length := by rw [wl_rows, List.length_map]; exact h
    have e : (L w).getD s none = rowsA w s := rfl
    have ih := L17_2 (σ := σ) (lo := lo) hw hs k (i + 1) (by omega) (by omega)
    have h3 := L17_3 (σ := σ) (lo := lo) hw hs h _ 0 (Nat.sub_zero _) (Nat.zero_le _)
    rw [List.drop_zero] at h3
    rw [f17_L2_eq guardT rfl, drop_cons hm, List.all_cons, ← getD_at [] hm, wl_row]
    simp only [idx27 hs, len27, load48, load22, load3, len48, len22, load1_wt hs, e, b_lss, b_eql, b_neq, b_leq, b_geq, b_gtr, guard_tt, guard_ff, guard_tf, guard_ft, guard_sk, obind, omap, pickV_true, pickV_false, condK_true, condK_false, decide_true, decide_false, Bool.not_true, Bool.not_false, not_bool, h']
    refine h3.trans ?_
    cases (L (rowA w s i)).all (inW (wl w).length) with
    | true => simp only [if_true, Bool.true_and]; exact ih
    | false => simp only [Bool.false_and, Bool.false_eq_true, if_false]
theorem L17_1 {w : OW} {σ : Store} {s lo : Nat} (hw : WSm w) (hs : s < (L w).length) :
    ∀ (k i : Nat), (L (rowsA w s)).length - i = k → i ≤ (L (rowsA w s)).length → f17_L1 guardT lo (.p (eWt w)) (.p (pI (s : Nat))) (.p (pI (i : Nat))) σ =
      if (((wl w).getD s []).drop i).all (fun r => decide (r.length = 3)) = true then f17_L2 guardT lo (.p (eWt w)) (.p (pI (s : Nat))) (.p (pI (0 : Nat))) σ else some (.p (pI 6), σ)
  | 0, i, hk, hi => by
    have : ¬ (i : Int) < ((L (rowsA w s)).length : Nat) := by omega
    have e : (L w).getD s none = rowsA w s := rfl
    rw [f17_L1_eq guardT rfl, List.drop_eq_nil_of_le (by rw [wl_rows, List.length_map]; omega)]
    simp only [idx27 hs, len27, load48, load22, load3, len48, len22, load1_wt hs, e, b_lss, b_eql, b_neq, b_leq, b_geq, b_gtr, guard_tt, guard_ff, guard_tf, guard_ft, guard_sk, obind, omap, pickV_true, pickV_false, condK_true, condK_false, decide_true, decide_false, Bool.not_true, Bool.not_false, not_bool, this, List.all_nil, if_true]
    rfl
  | k + 1, i, hk, hi => by
    have h5 := hw.r s
    have h : i < (L (rowsA w s)).length := by omega
    have h' : (i : Int) < ((L (rowsA w s)).length : Nat) := by omega
    have hm : i < ((wl w).getD s []).length := by rw [wl_rows, List.length_map]; exact h
    have e : (L w).getD s none = rowsA w s := rfl
    have e2 : (L (rowsA w s)).getD i none = rowA w s i := rfl
    have ih := L17_1 (σ := σ) (lo := lo) hw hs k (i + 1) (by omega) (by omega)
    have eg : decide (((L (rowA w s i)).length : Int) = 3) = decide ((L (rowA w s i)).length = 3) := by rw [decide_eq_decide]; omega
    rw [f17_L1_eq guardT rfl, drop_cons hm, List.all_cons, ← getD_at [] hm, wl_row]
    cases h3 : decide ((L (rowA w s i)).length = 3) <;>
      simp only [idx27 hs, len27, load48, load22, load3, len48, len22, load1_wt hs, e, b_lss, b_eql, b_neq, b_leq, b_geq, b_gtr, guard_tt, guard_ff, guard_tf, guard_ft, guard_sk, obind, omap, pickV_true, pickV_false, condK_true, condK_false, decide_true, decide_false, Bool.not_true, Bool.not_false, not_bool, h', idx48 h, load1_ls h, e2, eg, h3, Bool.true_and, Bool.false_and, Bool.false_eq_true, if_false, b_add, wrap_succ (show i ≤ 1000000 by omega), ih]
theorem L17_0 {w : OW} {σ : Store} {lo : Nat} (hw : WSm w) :
    ∀ (k s : Nat), (L w).length - s = k → s ≤ (L w).length → f17_L0 guardT lo (.p (eWt w)) (.p (pI (s : Nat))) σ = some (.p (pI (firstE (stE (wl w)) s k)), σ)
  | 0, s, hk, hs => by
    have : ¬ (s : Int) < ((L w).length : Nat) := by omega
    rw [f17_L0_eq guardT rfl]
    simp only [len27, load48, load22, load3, len48, len22, b_lss, b_eql, b_neq, b_leq, b_geq, b_gtr, guard_tt, guard_ff, guard_tf, guard_ft, guard_sk, obind, omap, pickV_true, pickV_false, condK_true, condK_false, decide_true, decide_false, Bool.not_true, Bool.not_false, not_bool, this, firstE]
  | k + 1, s, hk, hs => by
    have h : s < (L w).length := by omega
    have h' : (s : Int) < ((L w).length : Nat) := by omega
    have e : (L w).getD s none = rowsA w s := rfl
    have ih := L17_0 (σ := σ) (lo := lo) hw k (s + 1) (by omega) (by omega)
    have h1 := L17_1 (σ := σ) (lo := lo) hw h _ 0 (Nat.sub_zero _) (Nat.zero_le _)
    have h2 := L17_2 (σ := σ) (lo := lo) hw h _ 0 (Nat.sub_zero _) (Nat.zero_le _)
    rw [List.drop_zero] at h1 h2
    rw [ih] at h2
    rw [h2] at h1
    have eg : decide (((L (rowsA w s)).length : Int) = 3) = decide (((wl w).getD s []).length = 3) := by rw [decide_eq_decide, wl_rows, List.length_map]; omega
    have hfe : firstE (stE (wl w)) s (k + 1) = if stE (wl w) s = 0 then firstE (stE (wl w)) (s + 1) k else stE (wl w) s := rfl
    rw [f17_L0_eq guardT rfl, hfe, stE]
    cases h3 : decide (((wl w).getD s []).length = 3) with
    | false => simp only [idx27 h, len27, load48, load22, load3, len48, len22, load1_wt h, e, b_lss, b_eql, b_neq, b_leq, b_geq, b_gtr, guard_tt, guard_ff, guard_tf, guard_ft, guard_sk, obind, omap, pickV_true, pickV_false, condK_true, condK_false, decide_true, decide_false, Bool.not_true, Bool.not_false, not_bool, h', eg, h3, Bool.false_and, Bool.false_eq_true, if_false, Int.reduceEq]
    | true =>
      simp only [idx27 h, len27, load48, load22, load3, len48, len22, load1_wt h, e, b_lss, b_eql, b_neq, b_leq, b_geq, b_gtr, guard_tt, guard_ff, guard_tf, guard_ft, guard_sk, obind, omap, pickV_true, pickV_false, condK_true, condK_false, decide_true, decide_false, Bool.not_true, Bool.not_false, not_bool, h', eg, h3, Bool.true_and]
      refine h1.trans ?_
      cases ((wl w).getD s []).all (fun r => decide (r.length = 3)) <;> cases ((wl w).getD s []).all (fun r => r.all (inW (wl w).length)) <;> simp
theorem S17 {w : OW} {σ : Store} (hw : WSm w) : pureV CC 17 [.p (eWt w)] σ = some (.p (pI (wchE (wl w)))) := by
  refine pureV_any (by simp [wt_view]) fun lo σ0 hs => ⟨_, σ0, F17_call (r := (.p (pI (wchE (wl w))), σ0)) ?_, rfl⟩
  have := L17_0 (σ := σ0) (lo := lo) hw _ 0 (Nat.sub_zero _) (Nat.zero_le _)
  have e1 : decide (((L w).length : Int) = 0) = decide ((wl w).length = 0) := by rw [decide_eq_decide, wl_len]; omega
  have e2 : decide (((L w).length : Int) > 6) = !decide ((wl w).length ≤ 6) := by rw [← decide_not, decide_eq_decide, wl_len]; omega
  rw [F17_eq, wchE]
  by_cases h1 : (wl w).length = 0
  · simp only [len27, load48, load22, load3, len48, len22, b_lss, b_eql, b_neq, b_leq, b_geq, b_gtr, guard_tt, guard_ff, guard_tf, guard_ft, guard_sk, obind, omap, pickV_true, pickV_false, condK_true, condK_false, decide_true, decide_false, Bool.not_true, Bool.not_false, not_bool, e1, h1, if_true]
  · by_cases h2 : (wl w).length ≤ 6
    · simp only [len27, load48, load22, load3, len48, len22, b_lss, b_eql, b_neq, b_leq, b_geq, b_gtr, guard_tt, guard_ff, guard_tf, guard_ft, guard_sk, obind, omap, pickV_true, pickV_false, condK_true, condK_false, decide_true, decide_false, Bool.not_true, Bool.not_false, not_bool, e1, e2, h1, h2, if_true, if_false]
      rw [wl_len]
      exact this
    · simp only [len27, load48, load22, load3, len48, len22, b_lss, b_eql, b_neq, b_leq, b_geq, b_gtr, guard_tt, guard_ff, guard_tf, guard_ft, guard_sk, obind, omap, pickV_true, pickV_false, condK_true, condK_false, decide_true, decide_false, Bool.not_true, Bool.not_false, not_bool, e1, e2, h1, h2, if_false]

/-! ### The program's -/
theorem L121 {o : Option (List OI)} {f : FuncId} {caps : List DV} {σ : Store} {lo : Nat} {q : OI → Bool} (hl : (L o).length ≤ 1000) (hq : ∀ v ∈ L o, pureV CC f (.p (eSl v) :: caps) σ = some (.p (.bool (q v)))) :
    ∀ (k i : Nat), (L o).length - i = k → i ≤ (L o).length → f121_L0 guardT lo (.p (eLs o)) (.fn f caps) (.p (pI ((L o).length : Nat))) (.p (pI (i : Nat))) σ = some (.p (pI (idxFrom q ((L o).drop i) i)), σ)
  | 0, i, hk, hi => by
    have : ¬ (i : Int) < ((L o).length : Nat) := by omega
    rw [f121_L0_eq guardT rfl, List.drop_eq_nil_of_le (by omega)]
    simp only [b_lss, b_eql, b_neq, b_leq, b_geq, b_gtr, guard_tt, guard_ff, guard_tf, guard_ft, guard_sk, obind, omap, pickV_true, pickV_false, condK_true, condK_false, decide_true, decide_false, Bool.not_true, Bool.not_false, not_bool, this, idxFrom]
  | k + 1, i, hk, hi => by
    have h : i < (L o).length := by omega
    have h' : (i : Int) < ((L o).length : Nat) := by omega
    have ih := L121 (lo := lo) hl hq k (i + 1) (by omega) (by omega)
    rw [f121_L0_eq guardT rfl, drop_cons h, idxFrom]
    simp only [b_lss, b_eql, b_neq, b_leq, b_geq, b_gtr, guard_tt, guard_ff, guard_tf, guard_ft, guard_sk, obind, omap, pickV_true, pickV_false, condK_true, condK_false, decide_true, decide_false, Bool.not_true, Bool.not_false, not_bool, h', idx48 h, load22, load1_ls h, shift_ptr, shift_pptr, Nat.zero_add, Nat.add_zero, pureFn_fn, List.append_nil, List.singleton_append, List.cons_append, List.nil_append, getD_at none h, hq _ (List.getElem_mem h)]
    cases q (L o)[i] with
    | true => simp only [guard_tt, guard_ff, guard_tf, guard_ft, guard_sk, obind, omap, pickV_true, pickV_false, condK_true, condK_false, decide_true, decide_false, Bool.not_true, Bool.not_false, not_bool, if_true]
    | false => simp only [guard_tt, guard_ff, guard_tf, guard_ft, guard_sk, obind, omap, pickV_true, pickV_false, condK_true, condK_false, decide_true, decide_false, Bool.not_true, Bool.not_false, not_bool, Bool.false_eq_true, if_false, b_add, wrap_succ (show i ≤ 1000000 by omega)]; exact ih
theorem S90 {o : Option (List OI)} {f : FuncId} {caps : List DV} {σ : Store} {q : OI → Bool} (hl : (L o).length ≤ 1000) (hq : ∀ σ0, AtSt caps σ σ0 → ∀ v ∈ L o, pureV CC f (.p (eSl v) :: caps) σ0 = some (.p (.bool (q v)))) :
    pureV CC 90 [.p (eLs o), .fn f caps] σ = some (.p (.bool ((L o).any q))) := by
  have h121 : ∀ σ, (∀ σ0, AtSt caps σ σ0 → ∀ v ∈ L o, pureV CC f (.p (eSl v) :: caps) σ0 = some (.p (.bool (q v)))) → pureV CC 121 [.p (eLs o), .fn f caps] σ = some (.p (pI (idxFrom q (L o) 0))) := by
    intro σ hq
    refine pureV_any (by simp [ls_view, fn_view]) fun lo σ0 hs => ⟨_, σ0, F121_call (r := (.p (pI (idxFrom q (L o) 0)), σ0)) ?_, rfl⟩
    have hat : AtSt caps σ σ0 := by
      rcases hs with ⟨h1, _, h3⟩ | ⟨h1, _, _⟩
      · exact .inl ⟨h1, by simpa [rowFree] using (by simpa [rowFree] using h3 : _ ∧ _).2⟩
      · exact .inr h1
    rw [F121_eq]
    simp only [len48, obind]
    have := L121 (lo := lo) hl (hq σ0 hat) _ 0 rfl (Nat.zero_le _)
    simpa using this
  refine pureV_any (by simp [ls_view, fn_view]) fun lo σ0 hs => ⟨_, σ0, F90_call (r := (.p (.bool ((L o).any q)), σ0)) ?_, rfl⟩
  have hat : ∀ σ1, AtSt caps σ0 σ1 → AtSt caps σ σ1 := by
    intro σ1 h
    rcases hs with ⟨h1, _, h3⟩ | ⟨h1, _, _⟩
    · rcases h with h | h
      · exact .inl h
      · exact .inl ⟨h.trans h1, by simpa [rowFree] using (by simpa [rowFree] using h3 : _ ∧ _).2⟩
    · rw [← h1]; exact h
  rw [F90_eq]
  simp only [shift_ptr, shift_pptr, Nat.zero_add, Nat.add_zero, pureFn_fn, List.append_nil, List.singleton_append, List.cons_append, List.nil_append, h121 σ0 fun σ1 h => hq σ1 (hat σ1 h), obind, b_geq, idxFrom_ge]
theorem S91 (o : OI) (σ : Store) : pureV CC 91 [.p (eSl o)] σ = some (.p (.bool (!decide ((L o).length = 3)))) := by
  refine pureV_any (by simp [sl_view]) fun lo σ0 hs => ⟨_, σ0, F91_call (r := (.p (.bool (!decide ((L o).length = 3))), σ0)) ?_, rfl⟩
  have e : decide (((L o).length : Int) = 3) = decide ((L o).length = 3) := by rw [decide_eq_decide]; omega
  rw [F91_eq]
  simp only [len22, obind, b_neq, e]
theorem S92 {w : OW} {σ : Store} {r : Nat} {v : Int} (h : σ[r]? = some (.mix [.p (eWt w)])) : pureV CC 92 [.p (pI v), .ptr r 0] σ = some (.p (.bool (!inW (wl w).length v))) := by
  refine pureV_rows rfl rfl (F92_call (r := (.p (.bool (!inW (wl w).length v)), σ)) ?_) rfl
  rw [F92_eq]
  simp only [load27, load1_ptr (off := 0) h rfl, len27, guard_tt, guard_ff, guard_tf, guard_ft, guard_sk, obind, omap, pickV_true, pickV_false, condK_true, condK_false, decide_true, decide_false, Bool.not_true, Bool.not_false, not_bool, b_sub, shift_ptr, shift_pptr, Nat.zero_add, Nat.add_zero, pureFn_fn, List.append_nil, List.singleton_append, List.cons_append, List.nil_append, S79, inW, wl_len]
theorem load104 (x : DV) (σ : Store) : load PP 104 x σ = load1 x σ := Eq.trans (by kernel_rfl) rfl
theorem zero104 : zeroOf PP 104 = some [.p .nilfn] := Eq.trans (by kernel_rfl) rfl
theorem s104 : size? PP 104 = some 1 := Eq.trans (by kernel_rfl) rfl
theorem S93 {w : OW} {σ : Store} {q r : Nat} {o : OI} (hl : (L o).length ≤ 1000) (hq : σ[q]? = some (.mix [.fn 92 [.ptr r 0]])) (h : σ[r]? = some (.mix [.p (eWt w)])) : pureV CC 93 [.p (eSl o), .ptr q 0] σ = some (.p (.bool ((L o).any fun v => !inW (wl w).length v))) := by
  refine pureV_rows (by simp [sl_view]; rfl) rfl (F93_call (r := (.p (.bool ((L o).any fun v => !inW (wl w).length v)), σ)) ?_) rfl
  rw [F93_eq]
  have h80 : pureV CC 80 [.p (eSl o), .fn 92 [.ptr r 0]] σ = some (.p (.bool ((L o).any fun v => !inW (wl w).length v))) := by
    refine S80' hl fun σ1 hat v hv => ?_
    rcases hat with ⟨_, hf⟩ | rfl
    · exact absurd hf (by simp [rowFree1])
    · exact S92 h
  simp only [load104, load1_ptr (off := 0) hq rfl, guard_tt, guard_ff, guard_tf, guard_ft, guard_sk, obind, omap, pickV_true, pickV_false, condK_true, condK_false, decide_true, decide_false, Bool.not_true, Bool.not_false, not_bool, shift_ptr, shift_pptr, Nat.zero_add, Nat.add_zero, pureFn_fn, List.append_nil, List.singleton_append, List.cons_append, List.nil_append, h80]
theorem store104 (σ : Store) (f : FuncId) (caps : List DV) (lo : Nat) (hlo : lo ≤ σ.length) : store PP lo 104 (.ptr σ.length 0) (.fn f caps) (σ ++ [.mix [.p .nilfn]]) = some (σ ++ [.mix [.fn f caps]]) := by
  simp [store, s104, DV.cells, storeN, hlo, DV.one, splice]
theorem all_any_not {α : Type} (q : α → Bool) : ∀ l : List α, (!l.any fun v => !q v) = l.all q
  | [] => rfl
  | a :: l => by simp only [List.any_cons, List.all_cons, Bool.not_or, Bool.not_not, all_any_not q l]
theorem any_not_all {α : Type} (q : α → Bool) (l : List α) : (l.any fun v => !q v) = !l.all q := by rw [← all_any_not, Bool.not_not]
theorem L33 {w : OW} {r lo : Nat} (hw : WSm w) :
    ∀ (k s : Nat) (σ : Store), σ[r]? = some (.mix [.p (eWt w)]) → lo ≤ σ.length → (L w).length - s = k → s ≤ (L w).length → ∃ σ', f33_L0 guardT lo (.ptr r 0) (.p (eWt w)) (.p (pI ((L w).length : Nat))) (.p (pI (s : Nat))) σ = some (.p (pI (firstE (stE (wl w)) s k)), σ')
  | 0, s, σ, h0, hlo, hk, hs => by
    have : ¬ (s : Int) < ((L w).length : Nat) := by omega
    refine ⟨σ, ?_⟩
    rw [f33_L0_eq guardT rfl]
    simp only [b_lss, b_eql, b_neq, b_leq, b_geq, b_gtr, guard_tt, guard_ff, guard_tf, guard_ft, guard_sk, obind, omap, pickV_true, pickV_false, condK_true, condK_false, decide_true, decide_false, Bool.not_true, Bool.not_false, not_bool, this, firstE]
  | k + 1, s, σ, h0, hlo, hk, hs => by
    have h8 := hw.n
    have h5 := hw.r s
    have h : s < (L w).length := by omega
    have h' : (s : Int) < ((L w).length : Nat) := by omega
    have e : (L w).getD s none = rowsA w s := rfl
    have g0 : (σ ++ [Row.mix [.fn 92 [.ptr r 0]]])[r]? = some (.mix [.p (eWt w)]) := get_old h0
    have g1 : (σ ++ [Row.mix [.fn 92 [.ptr r 0]]])[σ.length]? = some (.mix [.fn 92 [.ptr r 0]]) := get_snoc
    obtain ⟨σ', ih⟩ := L33 (r := r) (lo := lo) hw k (s + 1) (σ ++ [.mix [.fn 92 [.ptr r 0]]]) g0 (by simp; omega) (by omega) (by omega)
    have h90 : pureV CC 90 [.p (eLs (rowsA w s)), .fn 91 []] σ = some (.p (.bool ((L (rowsA w s)).any fun r => !decide ((L r).length = 3)))) := S90 (by omega) fun σ0 _ v _ => S91 v σ0
    have hc5 : ∀ v ∈ L (rowsA w s), (L v).length ≤ 1000 := by
      intro v hv
      obtain ⟨i, hi, rfl⟩ := List.getElem_of_mem hv
      have := hw.c s i
      unfold rowA at this
      rw [getD_at none hi] at this
      omega
    have h90b : pureV CC 90 [.p (eLs (rowsA w s)), .fn 93 [.ptr σ.length 0]] (σ ++ [.mix [.fn 92 [.ptr r 0]]]) = some (.p (.bool ((L (rowsA w s)).any fun r => !(L r).all (inW (wl w).length)))) := by
      refine S90 (by omega) fun σ1 hat v hv => ?_
      rcases hat with ⟨_, hf⟩ | rfl
      · exact absurd hf (by simp [rowFree1])
      · rw [S93 (hc5 v hv) g1 g0, any_not_all]
    have m1 : ((wl w).getD s []).length = (L (rowsA w s)).length := by rw [wl_rows, List.length_map]
    have m2 : (((wl w).getD s []).all fun r => decide (r.length = 3)) = (L (rowsA w s)).all fun r => decide ((L r).length = 3) := by rw [wl_rows, List.all_map]; rfl
    have m3 : (((wl w).getD s []).all fun r => r.all (inW (wl w).length)) = (L (rowsA w s)).all fun r => (L r).all (inW (wl w).length) := by rw [wl_rows, List.all_map]; rfl
    have eg : decide (((L (rowsA w s)).length : Int) = 3) = decide ((L (rowsA w s)).length = 3) := by rw [decide_eq_decide]; omega
    have hfe : firstE (stE (wl w)) s (k + 1) = if stE (wl w) s = 0 then firstE (stE (wl w)) (s + 1) k else stE (wl w) s := rfl
    rw [f33_L0_eq guardT rfl, hfe, stE, m1, m2, m3]
    cases a1 : decide ((L (rowsA w s)).length = 3) <;> cases a2 : (L (rowsA w s)).all (fun r => decide ((L r).length = 3)) <;> cases a3 : (L (rowsA w s)).all (fun r => (L r).all (inW (wl w).length)) <;>
      simp only [b_lss, b_eql, b_neq, b_leq, b_geq, b_gtr, guard_tt, guard_ff, guard_tf, guard_ft, guard_sk, obind, omap, pickV_true, pickV_false, condK_true, condK_false, decide_true, decide_false, Bool.not_true, Bool.not_false, not_bool, h', idx27 h, len27, load48, load22, load3, len48, len22, load1_wt h, e, eg, a1, shift_ptr, shift_pptr, Nat.zero_add, Nat.add_zero, pureFn_fn, List.append_nil, List.singleton_append, List.cons_append, List.nil_append, h90, any_not_all, a2, zero104, store104 σ 92 [.ptr r 0] lo hlo, h90b, a3, S54, bs160_2, either2, orL, Bool.true_and, Bool.and_true, Bool.false_and, Bool.false_eq_true, if_true, if_false, Int.reduceEq, reduceIte, b_add, wrap_succ (show s ≤ 1000000 by omega), ih] <;> exact ⟨_, rfl⟩
theorem S33 {w : OW} {σ : Store} (hw : WSm w) : pureV CC 33 [.p (eWt w)] σ = some (.p (pI (wchE (wl w)))) := by
  refine pureV_any (by simp [wt_view]) fun lo σ0 hs => ?_
  have hlo : lo ≤ σ0.length := by rcases hs with ⟨rfl, rfl, _⟩ | ⟨_, rfl, _⟩ <;> simp_all
  have g0 : (σ0 ++ [Row.mix [.p (eWt w)]])[σ0.length]? = some (.mix [.p (eWt w)]) := get_snoc
  obtain ⟨σ', hL⟩ := L33 (lo := lo) hw _ 0 (σ0 ++ [.mix [.p (eWt w)]]) g0 (by simp; omega) (Nat.sub_zero _) (Nat.zero_le _)
  have e1 : decide (((L w).length : Int) > 0) = !decide ((wl w).length = 0) := by rw [← decide_not, decide_eq_decide, wl_len]; omega
  have e2 : decide (((L w).length : Int) ≤ 6) = decide ((wl w).length ≤ 6) := by rw [decide_eq_decide, wl_len]; omega
  have key : ∃ σ', F33 guardT lo (.p (eWt w)) σ0 = some (.p (pI (wchE (wl w))), σ') := by
    rw [F33_eq, wchE]
    by_cases h1 : (wl w).length = 0
    · exact ⟨_, by simp only [box_wt, load27, load1_ptr (off := 0) g0 rfl, len27, load48, load22, load3, len48, len22, b_lss, b_eql, b_neq, b_leq, b_geq, b_gtr, guard_tt, guard_ff, guard_tf, guard_ft, guard_sk, obind, omap, pickV_true, pickV_false, condK_true, condK_false, decide_true, decide_false, Bool.not_true, Bool.not_false, not_bool, shift_ptr, shift_pptr, Nat.zero_add, Nat.add_zero, pureFn_fn, List.append_nil, List.singleton_append, List.cons_append, List.nil_append, e1, e2, h1, S54, bs160_2, either2, orL, Bool.false_eq_true, if_true, if_false, Int.reduceEq, reduceIte, Nat.zero_le]; rfl⟩
    · by_cases h2 : (wl w).length ≤ 6
      · refine ⟨σ', ?_⟩
        simp only [box_wt, load27, load1_ptr (off := 0) g0 rfl, len27, load48, load22, load3, len48, len22, b_lss, b_eql, b_neq, b_leq, b_geq, b_gtr, guard_tt, guard_ff, guard_tf, guard_ft, guard_sk, obind, omap, pickV_true, pickV_false, condK_true, condK_false, decide_true, decide_false, Bool.not_true, Bool.not_false, not_bool, shift_ptr, shift_pptr, Nat.zero_add, Nat.add_zero, pureFn_fn, List.append_nil, List.singleton_append, List.cons_append, List.nil_append, e1, e2, h1, h2, S54, bs160_2, either2, orL, Bool.false_eq_true, if_true, if_false, Int.reduceEq, reduceIte]
        rw [wl_len]
        exact hL
      · exact ⟨_, by simp only [box_wt, load27, load1_ptr (off := 0) g0 rfl, len27, load48, load22, load3, len48, len22, b_lss, b_eql, b_neq, b_leq, b_geq, b_gtr, guard_tt, guard_ff, guard_tf, guard_ft, guard_sk, obind, omap, pickV_true, pickV_false, condK_true, condK_false, decide_true, decide_false, Bool.not_true, Bool.not_false, not_bool, shift_ptr, shift_pptr, Nat.zero_add, Nat.add_zero, pureFn_fn, List.append_nil, List.singleton_append, List.cons_append, List.nil_append, e1, e2, h1, h2, S54, bs160_2, either2, orL, Bool.false_eq_true, if_true, if_false, Int.reduceEq, reduceIte]; rfl⟩
  obtain ⟨σ', h⟩ := key
  exact ⟨_, σ', F33_call h, rfl⟩
end Go.D
end
/- Watches: copies, comparisons, what breaks them. -/
section
set_option linter.unusedVariables false
set_option linter.unusedSimpArgs false
namespace Go.D

/-! ### Right watches -/
structure WOk (l : W3) (n : Nat) : Prop where
  len : l.length = n
  n1 : 1 ≤ n
  n6 : n ≤ 6
  rows : ∀ s, s < n → (l.getD s []).length = 3
  row : ∀ s i, s < n → i < 3 → ((l.getD s []).getD i []).length = 3
  cell : ∀ s i o, s < n → i < 3 → o < 3 → -1 ≤ cell3 l s i o ∧ cell3 l s i o < n
theorem wok_of {l : W3} (h : wchE l = 0) : WOk l l.length := by
  unfold wchE at h
  split at h
  · exact absurd h (by decide)
  · rename_i h1
    split at h
    · rename_i h6
      have hz := firstE_zero _ _ h
      have hst : ∀ s, s < l.length → (l.getD s []).length = 3 ∧ (∀ r ∈ l.getD s [], r.length = 3) ∧ ∀ r ∈ l.getD s [], ∀ v ∈ r, inW l.length v = true := by
        intro s hs
        have := hz s (Nat.zero_le _) (by omega)
        unfold stE at this
        split at this
        · rename_i h3
          split at this
          · rename_i h4
            simp only [Bool.and_eq_true, decide_eq_true_eq, List.all_eq_true] at h3 h4
            exact ⟨h3.1, h3.2, h4⟩
          · exact absurd this (by decide)
        · exact absurd this (by decide)
      have pn : pred (l.length : Nat) = (l.length : Nat) - 1 := wrap_ok (by omega) (by omega)
      refine ⟨rfl, by omega, h6, fun s hs => (hst s hs).1, fun s i hs hi => ?_, fun s i o hs hi ho => ?_⟩
      · have hl : i < (l.getD s []).length := by rw [(hst s hs).1]; exact hi
        rw [getD_at [] hl]
        exact (hst s hs).2.1 _ (List.getElem_mem hl)
      · have hl : i < (l.getD s []).length := by rw [(hst s hs).1]; exact hi
        have hr := (hst s hs).2.1 _ (List.getElem_mem hl)
        have ho2 : o < ((l.getD s [])[i]).length := by omega
        have := (hst s hs).2.2 _ (List.getElem_mem hl) _ (List.getElem_mem ho2)
        rw [cell3, getD_at [] hl, getD_at 0 ho2]
        simp only [inW, inR, pn, Bool.and_eq_true, decide_eq_true_eq] at this
        omega
    · exact absurd h (by decide)

/-! ### Copies -/
def ownW (w : OW) : OW := if L w = [] then none else some ((L w).map ownLs)
theorem L_ownW (w : OW) : L (ownW w) = (L w).map ownLs := by
  unfold ownW
  split
  · rename_i h; rw [h]; rfl
  · rfl
theorem wl_own (w : OW) : wl (ownW w) = wl w := by
  unfold wl
  rw [L_ownW, List.map_map]
  refine List.map_congr_left fun r _ => ?_
  show (L (ownLs r)).map L = _
  rw [L_own, List.map_map]
  exact List.map_congr_left fun x _ => rfl
theorem wsm_wl {w : OW} : WSm w ↔ (wl w).length ≤ 8 ∧ ∀ s, ((wl w).getD s []).length ≤ 5 ∧ ∀ i, (((wl w).getD s []).getD i []).length ≤ 5 := by
  constructor
  · intro h
    exact ⟨by rw [wl_len]; exact h.n, fun s => ⟨by rw [wl_rows, List.length_map]; exact h.r s, fun i => by rw [wl_row]; exact h.c s i⟩⟩
  · rintro ⟨h1, h2⟩
    refine ⟨by rw [wl_len] at h1; exact h1, fun s => ?_, fun s i => ?_⟩
    · have := (h2 s).1; rw [wl_rows, List.length_map] at this; exact this
    · have := (h2 s).2 i; rw [wl_row] at this; exact this
theorem wsm_own {w : OW} (h : WSm w) : WSm (ownW w) := by rw [wsm_wl, wl_own, ← wsm_wl]; exact h
theorem L15 {w : OW} {lo : Nat} (hw : WSm w) :
    ∀ (k i : Nat) (x : DV) (σ : Store), (L w).length - i = k → i ≤ (L w).length → lo ≤ σ.length → Out σ lo 1 i (((L w).take i).map fun r => eLs (ownLs r)) x →
      ∃ x' σ', f15_L0 guardT lo (.p (eWt w)) x (.p (pI (i : Nat))) σ = some (x', σ') ∧ Out σ' lo 1 (L w).length ((L w).map fun r => eLs (ownLs r)) x'
  | 0, i, x, σ, hk, hi, hlo, ho => by
    have hn : ¬ (i : Int) < ((L w).length : Nat) := by omega
    have : i = (L w).length := by omega
    rw [this, List.take_length] at ho
    refine ⟨x, σ, ?_, ho⟩
    rw [f15_L0_eq guardT rfl]
    simp only [len27, load48, load22, load3, len48, len22, b_lss, b_eql, b_neq, b_leq, b_geq, b_gtr, guard_tt, guard_ff, guard_tf, guard_ft, guard_sk, obind, omap, pickV_true, pickV_false, condK_true, condK_false, decide_true, decide_false, Bool.not_true, Bool.not_false, not_bool, hn]
  | k + 1, i, x, σ, hk, hi, hlo, ho => by
    have h8 := hw.n
    have h5 := hw.r i
    have h : i < (L w).length := by omega
    have h' : (i : Int) < ((L w).length : Nat) := by omega
    have e : (L w).getD i none = rowsA w i := rfl
    have hc5 : ∀ v ∈ L (rowsA w i), (L v).length ≤ 1000 := by
      intro v hv
      obtain ⟨j, hj, rfl⟩ := List.getElem_of_mem hv
      have := hw.c i j
      unfold rowA at this
      rw [getD_at none hj] at this
      omega
    obtain ⟨x', σ', h1, h2, h3, h4⟩ := ho.push27 (v := eLs (ownLs (rowsA w i))) (by omega) hlo
    rw [f15_L0_eq guardT rfl]
    simp only [len27, load48, load22, load3, len48, len22, b_lss, b_eql, b_neq, b_leq, b_geq, b_gtr, guard_tt, guard_ff, guard_tf, guard_ft, guard_sk, obind, omap, pickV_true, pickV_false, condK_true, condK_false, decide_true, decide_false, Bool.not_true, Bool.not_false, not_bool, h', idx27 h, load1_wt h, e, shift_ptr, shift_pptr, Nat.zero_add, Nat.add_zero, pureFn_fn, List.append_nil, List.singleton_append, List.cons_append, List.nil_append, S56 (show (L (rowsA w i)).length ≤ 1000 by omega) hc5, bs27_1, h1, b_add, wrap_succ (show i ≤ 1000000 by omega)]
    refine L15 hw k (i + 1) x' σ' (by omega) (by omega) (by omega) ?_
    have e2 : ((L w).take (i + 1)).map (fun r => eLs (ownLs r)) = ((L w).take i).map (fun r => eLs (ownLs r)) ++ [eLs (ownLs (rowsA w i))] := by
      rw [List.take_succ_eq_append_getElem h, List.map_append, ← getD_at none h]; rfl
    rw [e2]
    exact h2
theorem S15 {w : OW} {σ : Store} (hw : WSm w) : pureV CC 15 [.p (eWt w)] σ = some (.p (eWt (ownW w))) := by
  refine pureV_any (by simp [wt_view]) fun lo σ0 hs => ?_
  have hlo : lo ≤ σ0.length := by rcases hs with ⟨rfl, rfl, _⟩ | ⟨_, rfl, _⟩ <;> simp_all
  obtain ⟨x', σ', h1, h2⟩ := L15 (lo := lo) hw _ 0 (.p .nilsl) σ0 rfl (Nat.zero_le _) hlo (by simpa using Out.zero)
  refine ⟨x', σ', F15_call ?_, ?_⟩
  · rw [F15_eq]; exact h1
  · rw [h2.twAll]
    unfold ownW
    by_cases e : L w = []
    · simp [e, eWt]
    · have e2 : ¬ (L w).length = 0 := fun h => e (List.length_eq_zero_iff.1 h)
      have e3 : (L w).map (fun r => eLs (ownLs r)) = ((L w).map ownLs).map eLs := by simp
      simp only [e, e2, if_false, eWt, e3, loosens_wt, List.length_map]

/-! ### Behind a pair -/
theorem idx27i {w : OW} {s : Int} (h0 : 0 ≤ s) (h : s.toNat < (L w).length) : indexAddr PP 27 (.p (eWt w)) (.p (.int .i64 s)) = some (.pptr ((L w).map eLs) s.toNat) := by
  have := idx27 (o := w) h
  rwa [Int.toNat_of_nonneg h0] at this
theorem idx48i {o : Option (List OI)} {s : Int} (h0 : 0 ≤ s) (h : s.toNat < (L o).length) : indexAddr PP 48 (.p (eLs o)) (.p (.int .i64 s)) = some (.pptr ((L o).map eSl) s.toNat) := by
  have := idx48 (o := o) h
  rwa [Int.toNat_of_nonneg h0] at this
theorem idx22i {o : OI} {s : Int} (h0 : 0 ≤ s) (h : s.toNat < (L o).length) : indexAddr PP 22 (.p (eSl o)) (.p (.int .i64 s)) = some (.pptr (eInts (L o)) s.toNat) := by
  have := idx22 (o := o) h
  rwa [Int.toNat_of_nonneg h0] at this
theorem ltr_iff {v : Int} : ltr v = true ↔ 0 ≤ v ∧ v ≤ 2 := by simp [ltr, inR]
/-- Where all indices stand. -/
theorem wok_idx {w : OW} {n : Nat} (hw : WOk (wl w) n) {s i o : Nat} (hs : s < n) (hi : i < 3) (ho : o < 3) : s < (L w).length ∧ i < (L (rowsA w s)).length ∧ o < (L (rowA w s i)).length := by
  refine ⟨by rw [← wl_len, hw.len]; exact hs, ?_, ?_⟩
  · have := hw.rows s hs; rw [wl_rows, List.length_map] at this; omega
  · have := hw.row s i hs hi; rw [wl_row] at this; omega
def nextW (l : W3) (s : Int) (p : Pr) : Int := cell3 l s.toNat p.i.toNat p.o.toNat
theorem S94 {w : OW} {n : Nat} {s : Int} {p : Pr} {σ : Store} (hw : WOk (wl w) n) (hs : 0 ≤ s ∧ s < n) (hp : badP p = false) : pureV CC 94 [.p (eWt w), .p (pI s), .agg (prD p)] σ = some (.p (pI (nextW (wl w) s p))) := by
  have hb : (0 ≤ p.i ∧ p.i ≤ 2) ∧ (0 ≤ p.o ∧ p.o ≤ 2) := by
    simp only [badP, Bool.or_eq_false_iff, Bool.not_eq_false'] at hp
    exact ⟨ltr_iff.1 hp.1, ltr_iff.1 hp.2⟩
  obtain ⟨q1, q2, q3⟩ := wok_idx hw (s := s.toNat) (i := p.i.toNat) (o := p.o.toNat) (by omega) (by omega) (by omega)
  have e1 : (L w).getD s.toNat none = rowsA w s.toNat := rfl
  have e2 : (L (rowsA w s.toNat)).getD p.i.toNat none = rowA w s.toNat p.i.toNat := rfl
  refine pureV_any (by simp [wt_view]; exact ⟨rfl, rfl⟩) fun lo σ0 hs0 => ⟨_, σ0 ++ [.mix (prD p)], F94_call (r := (.p (pI (nextW (wl w) s p)), σ0 ++ [.mix (prD p)])) ?_, rfl⟩
  have g0 : (σ0 ++ [Row.mix (prD p)])[σ0.length]? = some (.mix (prD p)) := get_snoc
  rw [F94_eq, nextW, wl_cell]
  simp only [box_pr, guard_tt, guard_ff, guard_tf, guard_ft, guard_sk, obind, omap, pickV_true, pickV_false, condK_true, condK_false, decide_true, decide_false, Bool.not_true, Bool.not_false, not_bool, idx27i hs.1 q1, len27, load48, load22, load3, len48, len22, load1_wt q1, e1, fa98_0, fa98_1, shift_ptr, shift_pptr, Nat.zero_add, Nat.add_zero, pureFn_fn, List.append_nil, List.singleton_append, List.cons_append, List.nil_append, load1_ptr (off := 0) (g0) rfl, load1_ptr (off := 1) (g0) rfl, idx48i hb.1.1 q2, load1_ls q2, e2, idx22i hb.2.1 q3, load1_getD q3]

/-! ### By which pair a watch is broken -/
def brkFrom (l : W3) (ps : List Pr) (at0 : Int) : Nat → Nat → Int
  | _, 0 => -1
  | i, k + 1 => if nextW l at0 (ps.getD i default) = -1 then (i : Int) else brkFrom l ps (nextW l at0 (ps.getD i default)) (i + 1) k
def brk (l : W3) (ps : List Pr) : Int := brkFrom l ps 0 0 ps.length
theorem next_rng {l : W3} {n : Nat} (hw : WOk l n) {s : Int} {p : Pr} (hs : 0 ≤ s ∧ s < n) (hp : badP p = false) (h : nextW l s p ≠ -1) : 0 ≤ nextW l s p ∧ nextW l s p < n := by
  have hb : (0 ≤ p.i ∧ p.i ≤ 2) ∧ (0 ≤ p.o ∧ p.o ≤ 2) := by
    simp only [badP, Bool.or_eq_false_iff, Bool.not_eq_false'] at hp
    exact ⟨ltr_iff.1 hp.1, ltr_iff.1 hp.2⟩
  have := hw.cell s.toNat p.i.toNat p.o.toNat (by omega) (by omega) (by omega)
  unfold nextW at *
  omega
theorem brk_ge (l : W3) (ps : List Pr) : ∀ k i a, brkFrom l ps a i k = -1 ∨ ((i : Int) ≤ brkFrom l ps a i k ∧ brkFrom l ps a i k < (i + k : Nat))
  | 0, i, a => .inl rfl
  | k + 1, i, a => by
    unfold brkFrom
    split
    · right; omega
    · rcases brk_ge l ps k (i + 1) (nextW l a (ps.getD i default)) with h | h
      · exact .inl h
      · right; omega
theorem L34 {w : OW} {o : OP} {n lo : Nat} (hw : WOk (wl w) n) (hl : (L o).length ≤ 1000) (hb : (L o).any badP = false) :
    ∀ (k i : Nat) (a : Int) (σ : Store), 0 ≤ a ∧ a < n → lo ≤ σ.length → (L o).length - i = k → i ≤ (L o).length → ∃ σ', f34_L0 guardT lo (.p (eWt w)) (.p (pI a)) (.p (ePs o)) (.p (pI ((L o).length : Nat))) (.p (pI (i : Nat))) σ =
      some (tup2 (if brkFrom (wl w) (L o) a i k = -1 then (0, 25) else (brkFrom (wl w) (L o) a i k, 0)), σ')
  | 0, i, a, σ, ha, hlo, hk, hi => by
    have : ¬ (i : Int) < ((L o).length : Nat) := by omega
    refine ⟨σ, ?_⟩
    rw [f34_L0_eq guardT rfl]
    simp only [b_lss, b_eql, b_neq, b_leq, b_geq, b_gtr, guard_tt, guard_ff, guard_tf, guard_ft, guard_sk, obind, omap, pickV_true, pickV_false, condK_true, condK_false, decide_true, decide_false, Bool.not_true, Bool.not_false, not_bool, this, brkFrom, if_true, tup2]
  | k + 1, i, a, σ, ha, hlo, hk, hi => by
    have h : i < (L o).length := by omega
    have h' : (i : Int) < ((L o).length : Nat) := by omega
    have hp : badP ((L o).getD i default) = false := by
      rw [getD_at default h]
      have := List.any_eq_false.1 hb _ (List.getElem_mem h)
      simpa using this
    generalize hq : (L o).getD i default = q at *
    have s1 : store PP lo 98 (.ptr σ.length 0) (.agg (prD q)) (σ ++ [.mix [.p (pI 0), .p (pI 0)]]) = some (σ ++ [.mix (prD q)]) := by
      have hs : splice ([.p (pI 0), .p (pI 0)] : List DV) 0 (prD q) = prD q := rfl
      simp [store, s98, DV.cells, storeN, prD, hlo]
      exact ⟨⟨rfl, rfl⟩, by simpa [prD] using hs⟩
    have gq : loadN (σ ++ [Row.mix (prD q)]) 2 (.ptr σ.length 0) = some (prD q) := loadN_ptr get_snoc rfl (by simp [prD])
    have hd := load98_D h (σ)
    rw [hq] at hd
    rw [f34_L0_eq guardT rfl, brkFrom, hq]
    simp only [b_lss, b_eql, b_neq, b_leq, b_geq, b_gtr, guard_tt, guard_ff, guard_tf, guard_ft, guard_sk, obind, omap, pickV_true, pickV_false, condK_true, condK_false, decide_true, decide_false, Bool.not_true, Bool.not_false, not_bool, h', idx31 h, load98, hd, zero98, s1, gq, shift_ptr, shift_pptr, Nat.zero_add, Nat.add_zero, pureFn_fn, List.append_nil, List.singleton_append, List.cons_append, List.nil_append, S94 hw ha hp]
    by_cases hn : nextW (wl w) a q = -1
    · have hi1 : ¬ (i : Int) = -1 := by omega
      exact ⟨_, by simp only [hn, hi1, guard_tt, guard_ff, guard_tf, guard_ft, guard_sk, obind, omap, pickV_true, pickV_false, condK_true, condK_false, decide_true, decide_false, Bool.not_true, Bool.not_false, not_bool, if_true, if_false, tup2]; rfl⟩
    · obtain ⟨σ', ih⟩ := L34 (lo := lo) hw hl hb k (i + 1) (nextW (wl w) a q) (σ ++ [.mix (prD q)]) (next_rng hw ha hp hn) (by simp; omega) (by omega) (by omega)
      exact ⟨σ', by simp only [hn, guard_tt, guard_ff, guard_tf, guard_ft, guard_sk, obind, omap, pickV_true, pickV_false, condK_true, condK_false, decide_true, decide_false, Bool.not_true, Bool.not_false, not_bool, if_false, b_add, wrap_succ (show i ≤ 1000000 by omega)]; exact ih⟩
/-- What BrokenAt answers. -/
def brkRes (l : W3) (ps : List Pr) : Int × Int := if wchE l = 0 then if prsE ps = 0 then if brk l ps = -1 then (0, 25) else (brk l ps, 0) else (0, prsE ps) else (0, wchE l)
theorem prsE_zero {l : List Pr} (h : prsE l = 0) : l.any badP = false ∧ l.length ≤ 60 := by
  unfold prsE at h
  split at h
  · rename_i h1
    refine ⟨?_, h1⟩
    cases e : l.any badP with
    | false => rfl
    | true => rw [e] at h; exact absurd h (by decide)
  · exact absurd h (by decide)
theorem S34 {w : OW} {o : OP} {σ : Store} (hw : WSm w) (hl : (L o).length ≤ 1000) : pureV CC 34 [.p (eWt w), .p (ePs o)] σ = some (tup2 (brkRes (wl w) (L o))) := by
  refine pureV_any (by simp [wt_view, ps_view]) fun lo σ0 hs => ?_
  have hlo : lo ≤ σ0.length := by rcases hs with ⟨rfl, rfl, _⟩ | ⟨_, rfl, _⟩ <;> simp_all
  have key : ∃ σ', F34 guardT lo (.p (eWt w)) (.p (ePs o)) σ0 = some (tup2 (brkRes (wl w) (L o)), σ') := by
    rw [F34_eq, brkRes]
    by_cases h1 : wchE (wl w) = 0
    · have hok := wok_of h1
      by_cases h2 : prsE (L o) = 0
      · obtain ⟨σ', hL⟩ := L34 (lo := lo) hok hl (prsE_zero h2).1 _ 0 0 σ0 ⟨by omega, by have := hok.n1; omega⟩ hlo (Nat.sub_zero _) (Nat.zero_le _)
        refine ⟨σ', ?_⟩
        simp only [shift_ptr, shift_pptr, Nat.zero_add, Nat.add_zero, pureFn_fn, List.append_nil, List.singleton_append, List.cons_append, List.nil_append, S33 hw, S85 hl, h1, h2, guard_tt, guard_ff, guard_tf, guard_ft, guard_sk, obind, omap, pickV_true, pickV_false, condK_true, condK_false, decide_true, decide_false, Bool.not_true, Bool.not_false, not_bool, bs160_2, either2, orL, if_true, b_neq, len31]
        exact hL
      · exact ⟨_, by simp only [shift_ptr, shift_pptr, Nat.zero_add, Nat.add_zero, pureFn_fn, List.append_nil, List.singleton_append, List.cons_append, List.nil_append, S33 hw, S85 hl, h1, h2, guard_tt, guard_ff, guard_tf, guard_ft, guard_sk, obind, omap, pickV_true, pickV_false, condK_true, condK_false, decide_true, decide_false, Bool.not_true, Bool.not_false, not_bool, bs160_2, either2, orL, if_true, if_false, b_neq]; rfl⟩
    · exact ⟨_, by simp only [shift_ptr, shift_pptr, Nat.zero_add, Nat.add_zero, pureFn_fn, List.append_nil, List.singleton_append, List.cons_append, List.nil_append, S33 hw, S85 hl, h1, guard_tt, guard_ff, guard_tf, guard_ft, guard_sk, obind, omap, pickV_true, pickV_false, condK_true, condK_false, decide_true, decide_false, Bool.not_true, Bool.not_false, not_bool, bs160_2, either2, orL, if_false, b_neq]; rfl⟩
  obtain ⟨σ', h⟩ := key
  exact ⟨_, σ', F34_call h, rfl⟩
theorem L41 {w : OW} {o : OP} {n lo : Nat} {σ : Store} (hw : WOk (wl w) n) (hl : (L o).length ≤ 1000) (hb : (L o).any badP = false) :
    ∀ (k i : Nat) (a : Int), 0 ≤ a ∧ a < n → (L o).length - i = k → i ≤ (L o).length → f41_L0 guardT lo (.p (eWt w)) (.p (ePs o)) (.p (pI a)) (.p (pI (i : Nat))) σ = some (.p (pI (brkFrom (wl w) (L o) a i k)), σ)
  | 0, i, a, ha, hk, hi => by
    have : ¬ (i : Int) < ((L o).length : Nat) := by omega
    rw [f41_L0_eq guardT rfl]
    simp only [len31, b_lss, b_eql, b_neq, b_leq, b_geq, b_gtr, guard_tt, guard_ff, guard_tf, guard_ft, guard_sk, obind, omap, pickV_true, pickV_false, condK_true, condK_false, decide_true, decide_false, Bool.not_true, Bool.not_false, not_bool, this, brkFrom]
  | k + 1, i, a, ha, hk, hi => by
    have h : i < (L o).length := by omega
    have h' : (i : Int) < ((L o).length : Nat) := by omega
    have hp : badP ((L o).getD i default) = false := by
      rw [getD_at default h]
      have := List.any_eq_false.1 hb _ (List.getElem_mem h)
      simpa using this
    have l0 := load1_pr0 h σ
    have l1 := load1_pr1 h σ
    generalize hq : (L o).getD i default = q at *
    have hbb : (0 ≤ q.i ∧ q.i ≤ 2) ∧ (0 ≤ q.o ∧ q.o ≤ 2) := by
      have hp2 := hp
      simp only [badP, Bool.or_eq_false_iff, Bool.not_eq_false'] at hp2
      exact ⟨ltr_iff.1 hp2.1, ltr_iff.1 hp2.2⟩
    obtain ⟨q1, q2, q3⟩ := wok_idx hw (s := a.toNat) (i := q.i.toNat) (o := q.o.toNat) (by omega) (by omega) (by omega)
    have e1 : (L w).getD a.toNat none = rowsA w a.toNat := rfl
    have e2 : (L (rowsA w a.toNat)).getD q.i.toNat none = rowA w a.toNat q.i.toNat := rfl
    have e3 : (L (rowA w a.toNat q.i.toNat)).getD q.o.toNat 0 = nextW (wl w) a q := by rw [nextW, wl_cell]
    rw [f41_L0_eq guardT rfl, brkFrom, hq]
    simp only [len31, b_lss, b_eql, b_neq, b_leq, b_geq, b_gtr, guard_tt, guard_ff, guard_tf, guard_ft, guard_sk, obind, omap, pickV_true, pickV_false, condK_true, condK_false, decide_true, decide_false, Bool.not_true, Bool.not_false, not_bool, h', idx27i ha.1 q1, len27, load48, load22, load3, len48, len22, load1_wt q1, e1, idx31 h, fa98_0, fa98_1, shift_ptr, shift_pptr, Nat.zero_add, Nat.add_zero, pureFn_fn, List.append_nil, List.singleton_append, List.cons_append, List.nil_append, l0, l1, idx48i hbb.1.1 q2, load1_ls q2, e2, idx22i hbb.2.1 q3, load1_getD q3, e3]
    by_cases hn : nextW (wl w) a q = -1
    · simp only [hn, guard_tt, guard_ff, guard_tf, guard_ft, guard_sk, obind, omap, pickV_true, pickV_false, condK_true, condK_false, decide_true, decide_false, Bool.not_true, Bool.not_false, not_bool, if_true]
    · have ih := L41 (σ := σ) (lo := lo) hw hl hb k (i + 1) (nextW (wl w) a q) (next_rng hw ha hp hn) (by omega) (by omega)
      simp only [hn, guard_tt, guard_ff, guard_tf, guard_ft, guard_sk, obind, omap, pickV_true, pickV_false, condK_true, condK_false, decide_true, decide_false, Bool.not_true, Bool.not_false, not_bool, if_false, b_add, wrap_succ (show i ≤ 1000000 by omega), ih]
theorem S41 {w : OW} {o : OP} {n : Nat} {σ : Store} (hw : WOk (wl w) n) (hl : (L o).length ≤ 1000) (hb : (L o).any badP = false) : pureV CC 41 [.p (eWt w), .p (ePs o)] σ = some (.p (pI (brk (wl w) (L o)))) := by
  refine pureV_any (by simp [wt_view, ps_view]) fun lo σ0 hs => ⟨_, σ0, F41_call (r := (.p (pI (brk (wl w) (L o))), σ0)) ?_, rfl⟩
  rw [F41_eq]
  exact L41 (lo := lo) hw hl hb _ 0 0 ⟨by omega, by have := hw.n1; omega⟩ (Nat.sub_zero _) (Nat.zero_le _)

/-! ### Equal lists -/
theorem L23 {a b : Option (List OI)} {σ : Store} {lo : Nat} (h0 : (L a).map L = (L b).map L) (hl : (L a).length ≤ 1000) (hx : ∀ x ∈ L a, (L x).length ≤ 1000) :
    ∀ (k i : Nat), (L a).length - i = k → i ≤ (L a).length → f23_L0 guardT lo (.p (eLs a)) (.p (eLs b)) (.p (pI (i : Nat))) σ = some (.p (.bool true), σ)
  | 0, i, hk, hi => by
    have : ¬ (i : Int) < ((L a).length : Nat) := by omega
    rw [f23_L0_eq guardT rfl]
    simp only [len48, b_lss, b_eql, b_neq, b_leq, b_geq, b_gtr, guard_tt, guard_ff, guard_tf, guard_ft, guard_sk, obind, omap, pickV_true, pickV_false, condK_true, condK_false, decide_true, decide_false, Bool.not_true, Bool.not_false, not_bool, this]
  | k + 1, i, hk, hi => by
    have hlen : (L a).length = (L b).length := by have := congrArg List.length h0; simpa using this
    have h : i < (L a).length := by omega
    have hb : i < (L b).length := by omega
    have h' : (i : Int) < ((L a).length : Nat) := by omega
    have e : L ((L a).getD i none) = L ((L b).getD i none) := by
      have h2 : ((L a).map L).getD i [] = ((L b).map L).getD i [] := by rw [h0]
      rw [getD_at [] (by simpa using h), getD_at [] (by simpa using hb)] at h2
      rw [getD_at none h, getD_at none hb]
      simpa using h2
    have ih := L23 (σ := σ) (lo := lo) h0 hl hx k (i + 1) (by omega) (by omega)
    have hx1 : (L ((L a).getD i none)).length ≤ 1000 := by rw [getD_at none h]; exact hx _ (List.getElem_mem h)
    rw [f23_L0_eq guardT rfl]
    simp only [len48, b_lss, b_eql, b_neq, b_leq, b_geq, b_gtr, guard_tt, guard_ff, guard_tf, guard_ft, guard_sk, obind, omap, pickV_true, pickV_false, condK_true, condK_false, decide_true, decide_false, Bool.not_true, Bool.not_false, not_bool, h', idx48 h, idx48 hb, load22, load1_ls h, load1_ls hb, shift_ptr, shift_pptr, Nat.zero_add, Nat.add_zero, pureFn_fn, List.append_nil, List.singleton_append, List.cons_append, List.nil_append, S61 e hx1, b_add, wrap_succ (show i ≤ 1000000 by omega), ih]
theorem S23 {a b : Option (List OI)} {σ : Store} (h0 : (L a).map L = (L b).map L) (hl : (L a).length ≤ 1000) (hx : ∀ x ∈ L a, (L x).length ≤ 1000) : pureV CC 23 [.p (eLs a), .p (eLs b)] σ = some (.p (.bool true)) := by
  have hlen : (L a).length = (L b).length := by have := congrArg List.length h0; simpa using this
  refine pureV_any (by simp [ls_view]) fun lo σ0 hs => ⟨_, σ0, F23_call (r := (.p (.bool true), σ0)) ?_, rfl⟩
  rw [F23_eq]
  have := L23 (lo := lo) (σ := σ0) h0 hl hx _ 0 (Nat.sub_zero _) (Nat.zero_le _)
  simp only [len48, b_lss, b_eql, b_neq, b_leq, b_geq, b_gtr, guard_tt, guard_ff, guard_tf, guard_ft, guard_sk, obind, omap, pickV_true, pickV_false, condK_true, condK_false, decide_true, decide_false, Bool.not_true, Bool.not_false, not_bool, hlen]
  exact this
theorem L37 {a b : OW} {σ : Store} {lo : Nat} (h0 : wl a = wl b) (ha : WSm a) :
    ∀ (k i : Nat), (L a).length - i = k → i ≤ (L a).length → f37_L0 guardT lo (.p (eWt a)) (.p (eWt b)) (.p (pI (i : Nat))) σ = some (.p (.bool true), σ)
  | 0, i, hk, hi => by
    have : ¬ (i : Int) < ((L a).length : Nat) := by omega
    rw [f37_L0_eq guardT rfl]
    simp only [len27, b_lss, b_eql, b_neq, b_leq, b_geq, b_gtr, guard_tt, guard_ff, guard_tf, guard_ft, guard_sk, obind, omap, pickV_true, pickV_false, condK_true, condK_false, decide_true, decide_false, Bool.not_true, Bool.not_false, not_bool, this]
  | k + 1, i, hk, hi => by
    have h8 := ha.n
    have h5 := ha.r i
    have hlen : (L a).length = (L b).length := by rw [← wl_len, h0, wl_len]
    have h : i < (L a).length := by omega
    have hb : i < (L b).length := by omega
    have h' : (i : Int) < ((L a).length : Nat) := by omega
    have e : (L (rowsA a i)).map L = (L (rowsA b i)).map L := by rw [← wl_rows, h0, wl_rows]
    have ea : (L a).getD i none = rowsA a i := rfl
    have eb : (L b).getD i none = rowsA b i := rfl
    have hc5 : ∀ v ∈ L (rowsA a i), (L v).length ≤ 1000 := by
      intro v hv
      obtain ⟨j, hj, rfl⟩ := List.getElem_of_mem hv
      have := ha.c i j
      unfold rowA at this
      rw [getD_at none hj] at this
      omega
    have ih := L37 (σ := σ) (lo := lo) h0 ha k (i + 1) (by omega) (by omega)
    rw [f37_L0_eq guardT rfl]
    simp only [len27, b_lss, b_eql, b_neq, b_leq, b_geq, b_gtr, guard_tt, guard_ff, guard_tf, guard_ft, guard_sk, obind, omap, pickV_true, pickV_false, condK_true, condK_false, decide_true, decide_false, Bool.not_true, Bool.not_false, not_bool, h', idx27 h, idx27 hb, load48, load1_wt h, load1_wt hb, ea, eb, shift_ptr, shift_pptr, Nat.zero_add, Nat.add_zero, pureFn_fn, List.append_nil, List.singleton_append, List.cons_append, List.nil_append, S23 e (show (L (rowsA a i)).length ≤ 1000 by omega) hc5, b_add, wrap_succ (show i ≤ 1000000 by omega), ih]
theorem S37 {a b : OW} {σ : Store} (h0 : wl a = wl b) (ha : WSm a) : pureV CC 37 [.p (eWt a), .p (eWt b)] σ = some (.p (.bool true)) := by
  have hlen : (L a).length = (L b).length := by rw [← wl_len, h0, wl_len]
  refine pureV_any (by simp [wt_view]) fun lo σ0 hs => ⟨_, σ0, F37_call (r := (.p (.bool true), σ0)) ?_, rfl⟩
  rw [F37_eq]
  have := L37 (lo := lo) (σ := σ0) h0 ha _ 0 (Nat.sub_zero _) (Nat.zero_le _)
  simp only [len27, b_lss, b_eql, b_neq, b_leq, b_geq, b_gtr, guard_tt, guard_ff, guard_tf, guard_ft, guard_sk, obind, omap, pickV_true, pickV_false, condK_true, condK_false, decide_true, decide_false, Bool.not_true, Bool.not_false, not_bool, hlen]
  exact this

/-! ### Turned pairs -/
def swapP (p : Pr) : Pr := ⟨p.o, p.i⟩
def swapO (o : OP) : OP := if L o = [] then none else some ((L o).map swapP)
theorem L_swap (o : OP) : L (swapO o) = (L o).map swapP := by
  unfold swapO
  split
  · rename_i h; rw [h]; rfl
  · rfl
theorem prs_append (a b : List Pr) : ePrs (a ++ b) = ePrs a ++ ePrs b := by
  induction a with
  | nil => rfl
  | cons x l ih => simp [ePrs, ih]
theorem bs31_1 (p : Pr) (σ : Store) : buildSlice PP none 31 1 [(0, .agg (prD p))] σ = some (.p (.sl true 1 (ePrs [p])), σ) := Eq.trans (by kernel_rfl) rfl
theorem Out.push31 {σ : Store} {lo n : Nat} {cs : List PV} {p : Pr} {x : DV} (ho : Out σ lo 2 n cs x) (hn : n ≤ 1000000) (hlo : lo ≤ σ.length) :
    ∃ x' σ', append PP lo false 31 31 x (.p (.sl true 1 (ePrs [p]))) σ = some (x', σ') ∧ Out σ' lo 2 (n + 1) (cs ++ ePrs [p]) x' ∧ Others σ σ' x ∧ σ.length ≤ σ'.length :=
  Out.push src31 u31 s98 bytes98 zero98 rfl (by decide) (by decide) (by decide) rfl ho hn hlo
theorem L40 {o : OP} {lo : Nat} (hl : (L o).length ≤ 1000) :
    ∀ (k i : Nat) (x : DV) (σ : Store), (L o).length - i = k → i ≤ (L o).length → lo ≤ σ.length → Out σ lo 2 i (ePrs (((L o).take i).map swapP)) x →
      ∃ x' σ', f40_L0 guardT lo (.p (ePs o)) x (.p (pI (i : Nat))) σ = some (x', σ') ∧ Out σ' lo 2 (L o).length (ePrs ((L o).map swapP)) x'
  | 0, i, x, σ, hk, hi, hlo, ho => by
    have hn : ¬ (i : Int) < ((L o).length : Nat) := by omega
    have : i = (L o).length := by omega
    rw [this, List.take_length] at ho
    refine ⟨x, σ, ?_, ho⟩
    rw [f40_L0_eq guardT rfl]
    simp only [len31, b_lss, b_eql, b_neq, b_leq, b_geq, b_gtr, guard_tt, guard_ff, guard_tf, guard_ft, guard_sk, obind, omap, pickV_true, pickV_false, condK_true, condK_false, decide_true, decide_false, Bool.not_true, Bool.not_false, not_bool, hn]
  | k + 1, i, x, σ, hk, hi, hlo, ho => by
    have h : i < (L o).length := by omega
    have h' : (i : Int) < ((L o).length : Nat) := by omega
    obtain ⟨x', σ', h1, h2, h3, h4⟩ := ho.push31 (p := swapP ((L o).getD i default)) (by omega) hlo
    have hb : build PP 98 [(0, .p (pI ((L o).getD i default).o)), (1, .p (pI ((L o).getD i default).i))] = some (.agg (prD (swapP ((L o).getD i default)))) := bld98 _ _
    rw [f40_L0_eq guardT rfl]
    simp only [len31, b_lss, b_eql, b_neq, b_leq, b_geq, b_gtr, guard_tt, guard_ff, guard_tf, guard_ft, guard_sk, obind, omap, pickV_true, pickV_false, condK_true, condK_false, decide_true, decide_false, Bool.not_true, Bool.not_false, not_bool, h', idx31 h, fa98_0, fa98_1, load3, shift_ptr, shift_pptr, Nat.zero_add, Nat.add_zero, pureFn_fn, List.append_nil, List.singleton_append, List.cons_append, List.nil_append, load1_pr0 h, load1_pr1 h, hb, bs31_1, h1, b_add, wrap_succ (show i ≤ 1000000 by omega)]
    refine L40 hl k (i + 1) x' σ' (by omega) (by omega) (by omega) ?_
    rw [List.take_succ_eq_append_getElem h, List.map_append, prs_append, ← getD_at default h]
    exact h2
theorem S40 {o : OP} {σ : Store} (hl : (L o).length ≤ 1000) : pureV CC 40 [.p (ePs o)] σ = some (.p (ePs (swapO o))) := by
  refine pureV_any (by simp [ps_view]) fun lo σ0 hs => ?_
  have hlo : lo ≤ σ0.length := by rcases hs with ⟨rfl, rfl, _⟩ | ⟨_, rfl, _⟩ <;> simp_all
  obtain ⟨x', σ', h1, h2⟩ := L40 (lo := lo) hl _ 0 (.p .nilsl) σ0 rfl (Nat.zero_le _) hlo (by simpa [ePrs] using Out.zero)
  refine ⟨x', σ', F40_call ?_, ?_⟩
  · rw [F40_eq]; exact h1
  · rw [h2.twAll]
    unfold swapO
    by_cases e : L o = []
    · simp [e, ePs]
    · have e2 : ¬ (L o).length = 0 := fun h => e (List.length_eq_zero_iff.1 h)
      simp only [e, e2, if_false, ePs, loosens_prs, List.length_map]
end Go.D
end
/- The turned watch. -/
section
set_option linter.unusedVariables false
set_option linter.unusedSimpArgs false
namespace Go.D

/-! ### What is turned -/
def tRow (l : W3) (s i : Nat) : List Int := [cell3 l s 0 i, cell3 l s 1 i, cell3 l s 2 i]
def tRows (l : W3) (s : Nat) : Option (List OI) := some [some (tRow l s 0), some (tRow l s 1), some (tRow l s 2)]
def turnW (l : W3) : OW := some ((List.range l.length).map (tRows l))
def turn3 (l : W3) : W3 := (List.range l.length).map fun s => [tRow l s 0, tRow l s 1, tRow l s 2]
theorem wl_turn (l : W3) : wl (turnW l) = turn3 l := by
  simp only [wl, turnW, Option.getD_some, List.map_map, turn3]
  exact List.map_congr_left fun s _ => rfl
theorem turn3_len (l : W3) : (turn3 l).length = l.length := by simp [turn3]
theorem turn3_at {l : W3} {s : Nat} (h : s < l.length) : (turn3 l).getD s [] = [tRow l s 0, tRow l s 1, tRow l s 2] := by
  rw [getD_at [] (by rw [turn3_len]; exact h)]
  simp [turn3]
theorem turn3_cell {l : W3} {s i o : Nat} (h : s < l.length) (hi : i < 3) (ho : o < 3) : cell3 (turn3 l) s i o = cell3 l s o i := by
  rw [cell3, turn3_at h]
  match i, o, hi, ho with
  | 0, 0, _, _ => rfl
  | 0, 1, _, _ => rfl
  | 0, 2, _, _ => rfl
  | 1, 0, _, _ => rfl
  | 1, 1, _, _ => rfl
  | 1, 2, _, _ => rfl
  | 2, 0, _, _ => rfl
  | 2, 1, _, _ => rfl
  | 2, 2, _, _ => rfl
theorem turn3_row {l : W3} {s i : Nat} (h : s < l.length) (hi : i < 3) : (((turn3 l).getD s []).getD i []).length = 3 := by
  rw [turn3_at h]
  match i, hi with
  | 0, _ => rfl
  | 1, _ => rfl
  | 2, _ => rfl
theorem turn3_ok {l : W3} {n : Nat} (h : WOk l n) : WOk (turn3 l) n := by
  have hl := h.len
  refine ⟨by rw [turn3_len, hl], h.n1, h.n6, fun s hs => ?_, fun s i hs hi => turn3_row (by omega) hi, fun s i o hs hi ho => ?_⟩
  · rw [turn3_at (by omega)]; rfl
  · rw [turn3_cell (by omega) hi ho]; exact h.cell s o i hs ho hi
theorem firstE_of {q : Nat → Int} : ∀ (k i : Nat), (∀ j, i ≤ j → j < i + k → q j = 0) → firstE q i k = 0
  | 0, i, _ => rfl
  | k + 1, i, h => by
    unfold firstE
    rw [if_pos (h i (Nat.le_refl _) (by omega))]
    exact firstE_of k (i + 1) fun j h1 h2 => h j (by omega) (by omega)
theorem wch_of {l : W3} (h : WOk l l.length) : wchE l = 0 := by
  have h1 := h.n1
  unfold wchE
  rw [if_neg (by omega), if_pos h.n6]
  refine firstE_of _ _ fun s _ hs => ?_
  have hs : s < l.length := by omega
  have pn : pred (l.length : Nat) = (l.length : Nat) - 1 := wrap_ok (by omega) (by have := h.n6; omega)
  have hr := h.rows s hs
  unfold stE
  rw [if_pos, if_pos]
  · rw [List.all_eq_true]
    intro r hr2
    rw [List.all_eq_true]
    intro v hv
    obtain ⟨i, hi, rfl⟩ := List.getElem_of_mem hr2
    obtain ⟨o, ho, rfl⟩ := List.getElem_of_mem hv
    have hrow := h.row s i hs (by omega)
    rw [getD_at [] hi] at hrow
    have := h.cell s i o hs (by omega) (by omega)
    rw [cell3, getD_at [] hi, getD_at 0 ho] at this
    simp only [inW, inR, pn, Bool.and_eq_true, decide_eq_true_eq]
    omega
  · simp only [Bool.and_eq_true, decide_eq_true_eq, List.all_eq_true]
    refine ⟨hr, fun r hr2 => ?_⟩
    obtain ⟨i, hi, rfl⟩ := List.getElem_of_mem hr2
    have hrow := h.row s i hs (by omega)
    rwa [getD_at [] hi] at hrow
theorem list3 {α : Type} (d : α) {l : List α} (h : l.length = 3) : l = [l.getD 0 d, l.getD 1 d, l.getD 2 d] := by
  match l, h with
  | [a, b, c], _ => rfl
theorem wok_eq {l : W3} (h : WOk l l.length) : l = (List.range l.length).map fun s => [[cell3 l s 0 0, cell3 l s 0 1, cell3 l s 0 2], [cell3 l s 1 0, cell3 l s 1 1, cell3 l s 1 2], [cell3 l s 2 0, cell3 l s 2 1, cell3 l s 2 2]] := by
  refine List.ext_getElem (by simp) fun s h1 h2 => ?_
  rw [List.getElem_map, List.getElem_range]
  have e := list3 [] (h.rows s h1)
  have e0 := list3 0 (h.row s 0 h1 (by omega))
  have e1 := list3 0 (h.row s 1 h1 (by omega))
  have e2 := list3 0 (h.row s 2 h1 (by omega))
  rw [← getD_at [] h1]
  refine e.trans ?_
  refine congr (congrArg _ (e0.trans rfl)) (congr (congrArg _ (e1.trans rfl)) (congr (congrArg _ (e2.trans rfl)) rfl))
theorem turn3_twice {l : W3} (h : WOk l l.length) : turn3 (turn3 l) = l := by
  refine Eq.trans ?_ (wok_eq h).symm
  rw [turn3, turn3_len]
  refine List.map_congr_left fun s hs => ?_
  have hs : s < l.length := List.mem_range.1 hs
  simp only [tRow, turn3_cell hs (show 0 < 3 by decide) (show 0 < 3 by decide), turn3_cell hs (show 0 < 3 by decide) (show 1 < 3 by decide), turn3_cell hs (show 0 < 3 by decide) (show 2 < 3 by decide), turn3_cell hs (show 1 < 3 by decide) (show 0 < 3 by decide), turn3_cell hs (show 1 < 3 by decide) (show 1 < 3 by decide), turn3_cell hs (show 1 < 3 by decide) (show 2 < 3 by decide), turn3_cell hs (show 2 < 3 by decide) (show 0 < 3 by decide), turn3_cell hs (show 2 < 3 by decide) (show 1 < 3 by decide), turn3_cell hs (show 2 < 3 by decide) (show 2 < 3 by decide)]
theorem wsm_ok {w : OW} (h : WOk (wl w) (wl w).length) : WSm w := by
  have h6 := h.n6
  refine wsm_wl.2 ⟨by omega, fun s => ?_⟩
  by_cases hs : s < (wl w).length
  · refine ⟨by rw [h.rows s hs]; omega, fun i => ?_⟩
    by_cases hi : i < 3
    · rw [h.row s i hs hi]; omega
    · have := h.rows s hs
      rw [List.getD_eq_getElem?_getD, List.getElem?_eq_none (by omega)]; exact Nat.zero_le _
  · rw [List.getD_eq_getElem?_getD, List.getElem?_eq_none (by omega)]
    exact ⟨Nat.zero_le _, fun i => by simp⟩

/-! ### The reference's -/
theorem Out.push22F {σ : Store} {lo n : Nat} {cs : List PV} {v : PV} {x : DV} (ho : Out σ lo 1 n cs x) (hn : n ≤ 1000000) (hlo : lo ≤ σ.length) :
    ∃ x' σ', append PP lo false 22 22 x (.p (.sl true 1 [v])) σ = some (x', σ') ∧ Out σ' lo 1 (n + 1) (cs ++ [v]) x' ∧ Others σ σ' x ∧ Fresh σ x x' :=
  Out.pushF src22 u22 s3 bytes3 zero3 rfl (by decide) (by decide) (by decide) rfl ho (by omega) hlo
theorem Out.push48F {σ : Store} {lo n : Nat} {cs : List PV} {v : PV} {x : DV} (ho : Out σ lo 1 n cs x) (hn : n ≤ 1000000) (hlo : lo ≤ σ.length) :
    ∃ x' σ', append PP lo false 48 48 x (.p (.sl true 1 [v])) σ = some (x', σ') ∧ Out σ' lo 1 (n + 1) (cs ++ [v]) x' ∧ Others σ σ' x ∧ Fresh σ x x' :=
  Out.pushF src48 u48 s22 bytes22 zero22 rfl (by decide) (by decide) (by decide) rfl ho (by omega) hlo
theorem Out.push27F {σ : Store} {lo n : Nat} {cs : List PV} {v : PV} {x : DV} (ho : Out σ lo 1 n cs x) (hn : n ≤ 1000000) (hlo : lo ≤ σ.length) :
    ∃ x' σ', append PP lo false 27 27 x (.p (.sl true 1 [v])) σ = some (x', σ') ∧ Out σ' lo 1 (n + 1) (cs ++ [v]) x' ∧ Others σ σ' x ∧ Fresh σ x x' :=
  Out.pushF src27 u27 s48 bytes48 zero48 rfl (by decide) (by decide) (by decide) rfl ho (by omega) hlo
theorem Out.snoc {σ : Store} {lo sz n : Nat} {cs : List PV} {x : DV} {r : Row} (ho : Out σ lo sz n cs x) : Out (σ ++ [r]) lo sz n cs x := by
  refine ⟨ho.1, ?_⟩
  rcases ho.2 with h | ⟨h1, q, ver, h2, h3, h4⟩
  · exact .inl h
  · exact .inr ⟨h1, q, ver, h2, get_old h3, h4⟩
theorem app22_0 (σ : Store) (lo : Nat) (v : Int) : append PP lo false 22 22 (.p .nilsl) (.p (.sl true 1 [pI v])) σ = some (.osl σ.length 0 1 1 (eInts [v]), σ ++ [.tok 0]) := by
  simp [append, src22, u22, s3, bytes3, zero3, source, appNil, pures, DV.pure?, eInts]
theorem app22_t {σ : Store} {lo r ver n : Nat} {l : List Int} (v : Int) (h : σ[r]? = some (.tok ver)) (hr : lo ≤ r) (hn : l.length = n) (hn2 : n ≤ 1000) :
    append PP lo false 22 22 (.osl r ver 1 n (eInts l)) (.p (.sl true 1 [pI v])) σ = some (.osl r (ver + 1) 1 (n + 1) (eInts (l ++ [v])), σ.set r (.tok (ver + 1))) := by
  have h1 : (n + 1) * 8 ≤ 140737488355328 := by omega
  have h2 : n + 1 ≤ 140737488355328 := by omega
  simp [append, src22, u22, s3, bytes3, zero3, source, appTok, pures, DV.pure?, h, hr, h1, h2, hn, eInts]
theorem set_snoc (σ : Store) (r x : Row) : (σ ++ [r]).set σ.length x = σ ++ [x] := by simp
theorem app22_1 (σ : Store) {lo ver n : Nat} (hlo : lo ≤ σ.length) (v : Int) {l : List Int} (hn : l.length = n) (hn2 : n ≤ 1000) :
    append PP lo false 22 22 (.osl σ.length ver 1 n (eInts l)) (.p (.sl true 1 [pI v])) (σ ++ [.tok ver]) = some (.osl σ.length (ver + 1) 1 (n + 1) (eInts (l ++ [v])), σ ++ [.tok (ver + 1)]) := by
  rw [app22_t v get_snoc hlo hn hn2, set_snoc]
theorem bs48_o (r ver sz n : Nat) (cs : List PV) (σ : Store) : buildSlice PP none 48 1 [(0, .osl r ver sz n cs)] σ = some (.p (.sl true 1 [.sl false n cs]), σ) := Eq.trans (by kernel_rfl) rfl
theorem bs27_o (r ver sz n : Nat) (cs : List PV) (σ : Store) : buildSlice PP none 27 1 [(0, .osl r ver sz n cs)] σ = some (.p (.sl true 1 [.sl false n cs]), σ) := Eq.trans (by kernel_rfl) rfl
theorem Out.osl {σ : Store} {lo sz n : Nat} {cs : List PV} {x : DV} (ho : Out σ lo sz n cs x) (hn : n ≠ 0) : ∃ r ver, x = .osl r ver sz n cs := by
  rcases ho.2 with ⟨h, _⟩ | ⟨h1, q, ver, h2, h3, h4⟩
  · exact absurd h hn
  · exact ⟨q, ver, h2⟩

section
variable {w : OW} (hw : WOk (wl w) (wl w).length) {s : Nat} (hs : s < (wl w).length)
include hw hs
omit hw in
theorem w_s : s < (L w).length := by rw [← wl_len]; exact hs
theorem w_i {i : Nat} (hi : i < 3) : i < (L (rowsA w s)).length := by have := hw.rows s hs; rw [wl_rows, List.length_map] at this; omega
theorem w_o {i o : Nat} (hi : i < 3) (ho : o < 3) : o < (L (rowA w s i)).length := by have := hw.row s i hs hi; rw [wl_row] at this; omega
/-- One cell read. -/
theorem L38_2 {i : Nat} (hi : i < 3) (x3 x5 : DV) (σ : Store) :
    f38_L2 guardT 0 (.p (eWt w)) x3 (.p (pI (s : Nat))) x5 (.p (pI (i : Nat))) (.p .nilsl) (.p (pI (0 : Nat))) σ =
      (append PP 0 false 48 48 x5 (.p (.sl true 1 [.sl false 3 (eInts (tRow (wl w) s i))])) (σ ++ [.tok 2])).bind fun r => f38_L1 guardT 0 (.p (eWt w)) x3 (.p (pI (s : Nat))) r.1 (.p (pI (i + 1 : Nat))) r.2 := by
  have h0 := w_s hs
  have e : (L w).getD s none = rowsA w s := rfl
  have c : ∀ k, (L (rowsA w s)).getD k none = rowA w s k := fun k => rfl
  have l0 : ((0 : Nat) : Int) < 3 := by decide
  have l1 : ((0 + 1 : Nat) : Int) < 3 := by decide
  have l2 : ((1 + 1 : Nat) : Int) < 3 := by decide
  have l3 : ¬ ((2 + 1 : Nat) : Int) < 3 := by decide
  have n1 := app22_1 σ (lo := 0) (ver := 0) (n := 1) (Nat.zero_le _) (cell3 (wl w) s 1 i) (l := [cell3 (wl w) s 0 i]) rfl (by decide)
  have n2 := app22_1 σ (lo := 0) (ver := 1) (n := 2) (Nat.zero_le _) (cell3 (wl w) s 2 i) (l := [cell3 (wl w) s 0 i, cell3 (wl w) s 1 i]) rfl (by decide)
  simp only [List.cons_append, List.nil_append, Nat.reduceAdd] at n1 n2
  rw [f38_L2_eq guardT rfl]
  simp only [b_lss, b_eql, b_neq, b_leq, b_geq, b_gtr, l0, guard_tt, guard_ff, guard_tf, guard_ft, guard_sk, obind, omap, pickV_true, pickV_false, condK_true, condK_false, decide_true, decide_false, Bool.not_true, Bool.not_false, not_bool, idx27 h0, len27, load48, load22, load3, len48, len22, load1_wt h0, e, idx48 (w_i hw hs (show 0 < 3 by decide)), load1_ls (w_i hw hs (show 0 < 3 by decide)), c, idx22 (w_o hw hs (show 0 < 3 by decide) hi), load1_getD (w_o hw hs (show 0 < 3 by decide) hi), ← wl_cell, bs22_1, app22_0, b_add, wrap_succ (show 0 ≤ 1000000 by decide)]
  rw [f38_L2_eq guardT rfl]
  simp only [b_lss, b_eql, b_neq, b_leq, b_geq, b_gtr, l1, guard_tt, guard_ff, guard_tf, guard_ft, guard_sk, obind, omap, pickV_true, pickV_false, condK_true, condK_false, decide_true, decide_false, Bool.not_true, Bool.not_false, not_bool, idx27 h0, len27, load48, load22, load3, len48, len22, load1_wt h0, e, idx48 (w_i hw hs (show 0 + 1 < 3 by decide)), load1_ls (w_i hw hs (show 0 + 1 < 3 by decide)), c, idx22 (w_o hw hs (show 0 + 1 < 3 by decide) hi), load1_getD (w_o hw hs (show 0 + 1 < 3 by decide) hi), ← wl_cell, bs22_1, Nat.zero_add, n1, b_add, wrap_succ (show 1 ≤ 1000000 by decide)]
  rw [f38_L2_eq guardT rfl]
  simp only [b_lss, b_eql, b_neq, b_leq, b_geq, b_gtr, l2, guard_tt, guard_ff, guard_tf, guard_ft, guard_sk, obind, omap, pickV_true, pickV_false, condK_true, condK_false, decide_true, decide_false, Bool.not_true, Bool.not_false, not_bool, idx27 h0, len27, load48, load22, load3, len48, len22, load1_wt h0, e, idx48 (w_i hw hs (show 1 + 1 < 3 by decide)), load1_ls (w_i hw hs (show 1 + 1 < 3 by decide)), c, idx22 (w_o hw hs (show 1 + 1 < 3 by decide) hi), load1_getD (w_o hw hs (show 1 + 1 < 3 by decide) hi), ← wl_cell, bs22_1, Nat.reduceAdd, n2, b_add, wrap_succ (show 2 ≤ 1000000 by decide)]
  rw [f38_L2_eq guardT rfl]
  simp only [b_lss, b_eql, b_neq, b_leq, b_geq, b_gtr, show ¬ ((3 : Nat) : Int) < 3 by decide, guard_tt, guard_ff, guard_tf, guard_ft, guard_sk, obind, omap, pickV_true, pickV_false, condK_true, condK_false, decide_true, decide_false, Bool.not_true, Bool.not_false, not_bool, bs48_o, b_add, wrap_succ (show i ≤ 1000000 by omega), tRow]
/-- One state. -/
theorem L38_1 {n : Nat} {x3 : DV} {cs : List PV} {σ : Store} (hn : n ≤ 1000) (ho : Out σ 0 1 n cs x3) :
    ∃ x' σ', f38_L1 guardT 0 (.p (eWt w)) x3 (.p (pI (s : Nat))) (.p .nilsl) (.p (pI (0 : Nat))) σ = f38_L0 guardT 0 (.p (eWt w)) x' (.p (pI (s + 1 : Nat))) σ' ∧ Out σ' 0 1 (n + 1) (cs ++ [eLs (tRows (wl w) s)]) x' := by
  have h6 := hw.n6
  obtain ⟨a1, σ1, e1, o1, t1, f1⟩ := (Out.zero (σ := σ ++ [.tok 2]) (lo := 0)).push48F (v := .sl false 3 (eInts (tRow (wl w) s 0))) (by decide) (Nat.zero_le _)
  have p1 : Out σ1 0 1 n cs x3 := ho.snoc.other t1 (Apart.nil _)
  have q1 : Apart a1 x3 := (Apart.nil x3).fresh f1 ho.snoc
  obtain ⟨a2, σ2, e2, o2, t2, f2⟩ := (o1.snoc (r := .tok 2)).push48F (v := .sl false 3 (eInts (tRow (wl w) s 1))) (by decide) (Nat.zero_le _)
  have p2 : Out σ2 0 1 n cs x3 := p1.snoc.other t2 q1
  have q2 : Apart a2 x3 := q1.fresh f2 p1.snoc
  obtain ⟨a3, σ3, e3, o3, t3, f3⟩ := (o2.snoc (r := .tok 2)).push48F (v := .sl false 3 (eInts (tRow (wl w) s 2))) (by decide) (Nat.zero_le _)
  have p3 : Out σ3 0 1 n cs x3 := p2.snoc.other t3 q2
  obtain ⟨r, ver, rfl⟩ := o3.osl (by decide)
  obtain ⟨a4, σ4, e4, o4, t4, f4⟩ := p3.push27F (v := eLs (tRows (wl w) s)) (by omega) (Nat.zero_le _)
  refine ⟨a4, σ4, ?_, o4⟩
  rw [f38_L1_eq guardT rfl]
  simp only [b_lss, b_eql, b_neq, b_leq, b_geq, b_gtr, show ((0 : Nat) : Int) < 3 by decide, guard_tt, guard_ff, guard_tf, guard_ft, guard_sk, obind, omap, pickV_true, pickV_false, condK_true, condK_false, decide_true, decide_false, Bool.not_true, Bool.not_false, not_bool]
  rw [show (DV.p (PV.int IntKind.i64 0)) = (.p (pI ((0 : Nat) : Int))) from rfl, L38_2 hw hs (show 0 < 3 by decide)]
  simp only [e1, guard_tt, guard_ff, guard_tf, guard_ft, guard_sk, obind, omap, pickV_true, pickV_false, condK_true, condK_false, decide_true, decide_false, Bool.not_true, Bool.not_false, not_bool]
  rw [f38_L1_eq guardT rfl]
  simp only [b_lss, b_eql, b_neq, b_leq, b_geq, b_gtr, show ((0 + 1 : Nat) : Int) < 3 by decide, guard_tt, guard_ff, guard_tf, guard_ft, guard_sk, obind, omap, pickV_true, pickV_false, condK_true, condK_false, decide_true, decide_false, Bool.not_true, Bool.not_false, not_bool]
  rw [show (DV.p (PV.int IntKind.i64 0)) = (.p (pI ((0 : Nat) : Int))) from rfl, L38_2 hw hs (show 0 + 1 < 3 by decide)]
  simp only [e2, Nat.zero_add, guard_tt, guard_ff, guard_tf, guard_ft, guard_sk, obind, omap, pickV_true, pickV_false, condK_true, condK_false, decide_true, decide_false, Bool.not_true, Bool.not_false, not_bool]
  rw [f38_L1_eq guardT rfl]
  simp only [b_lss, b_eql, b_neq, b_leq, b_geq, b_gtr, show ((1 + 1 : Nat) : Int) < 3 by decide, guard_tt, guard_ff, guard_tf, guard_ft, guard_sk, obind, omap, pickV_true, pickV_false, condK_true, condK_false, decide_true, decide_false, Bool.not_true, Bool.not_false, not_bool]
  rw [show (DV.p (PV.int IntKind.i64 0)) = (.p (pI ((0 : Nat) : Int))) from rfl, L38_2 hw hs (show 1 + 1 < 3 by decide)]
  simp only [Nat.reduceAdd, e3, guard_tt, guard_ff, guard_tf, guard_ft, guard_sk, obind, omap, pickV_true, pickV_false, condK_true, condK_false, decide_true, decide_false, Bool.not_true, Bool.not_false, not_bool]
  rw [f38_L1_eq guardT rfl]
  simp only [b_lss, b_eql, b_neq, b_leq, b_geq, b_gtr, show ¬ ((3 : Nat) : Int) < 3 by decide, guard_tt, guard_ff, guard_tf, guard_ft, guard_sk, obind, omap, pickV_true, pickV_false, condK_true, condK_false, decide_true, decide_false, Bool.not_true, Bool.not_false, not_bool, bs27_o]
  have e5 : [PV.sl false 3 ([] ++ [PV.sl false 3 (eInts (tRow (wl w) s 0))] ++ [PV.sl false 3 (eInts (tRow (wl w) s 1))] ++ [PV.sl false 3 (eInts (tRow (wl w) s 2))])] = [eLs (tRows (wl w) s)] := rfl
  rw [e5, e4]
  simp only [guard_tt, guard_ff, guard_tf, guard_ft, guard_sk, obind, omap, pickV_true, pickV_false, condK_true, condK_false, decide_true, decide_false, Bool.not_true, Bool.not_false, not_bool, b_add, wrap_succ (show s ≤ 1000000 by omega)]
end
theorem L38_0 {w : OW} (hw : WOk (wl w) (wl w).length) : ∀ (k s : Nat) (x : DV) (σ : Store), (wl w).length - s = k → s ≤ (wl w).length → Out σ 0 1 s ((List.range s).map fun s => eLs (tRows (wl w) s)) x →
    ∃ x' σ', f38_L0 guardT 0 (.p (eWt w)) x (.p (pI (s : Nat))) σ = some (x', σ') ∧ Out σ' 0 1 (wl w).length ((List.range (wl w).length).map fun s => eLs (tRows (wl w) s)) x'
  | 0, s, x, σ, hk, hs, ho => by
    have : s = (wl w).length := by omega
    subst this
    have hn : ¬ (((wl w).length : Nat) : Int) < ((L w).length : Nat) := by rw [wl_len]; omega
    refine ⟨x, σ, ?_, ho⟩
    rw [f38_L0_eq guardT rfl]
    simp only [len27, load48, load22, load3, len48, len22, b_lss, b_eql, b_neq, b_leq, b_geq, b_gtr, guard_tt, guard_ff, guard_tf, guard_ft, guard_sk, obind, omap, pickV_true, pickV_false, condK_true, condK_false, decide_true, decide_false, Bool.not_true, Bool.not_false, not_bool, hn]
  | k + 1, s, x, σ, hk, hs, ho => by
    have h6 := hw.n6
    have h : s < (wl w).length := by omega
    have h' : (s : Int) < ((L w).length : Nat) := by rw [← wl_len]; omega
    obtain ⟨x', σ', e1, o1⟩ := L38_1 hw h (by omega) ho
    rw [f38_L0_eq guardT rfl]
    simp only [len27, load48, load22, load3, len48, len22, b_lss, b_eql, b_neq, b_leq, b_geq, b_gtr, guard_tt, guard_ff, guard_tf, guard_ft, guard_sk, obind, omap, pickV_true, pickV_false, condK_true, condK_false, decide_true, decide_false, Bool.not_true, Bool.not_false, not_bool, h']
    rw [show (DV.p (PV.int IntKind.i64 0)) = (.p (pI ((0 : Nat) : Int))) from rfl, e1]
    refine L38_0 hw k (s + 1) x' σ' (by omega) (by omega) ?_
    rw [List.range_succ, List.map_append]
    exact o1
theorem S38 {w : OW} {σ : Store} (hw : WOk (wl w) (wl w).length) : pureV CC 38 [.p (eWt w)] σ = some (.p (eWt (turnW (wl w)))) := by
  obtain ⟨x', σ', h1, h2⟩ := L38_0 hw _ 0 (.p .nilsl) [] (Nat.sub_zero _) (Nat.zero_le _) (by simpa using Out.zero)
  refine pureV_free (by simp [wt_view]) rfl (F38_call (r := (x', σ')) ?_) ?_
  · rw [F38_eq]; exact h1
  · have hn : ¬ (wl w).length = 0 := by have := hw.n1; omega
    have e3 : ((List.range (wl w).length).map fun s => eLs (tRows (wl w) s)) = ((List.range (wl w).length).map (tRows (wl w))).map eLs := by simp
    rw [h2.twAll, if_neg hn, e3, loosens_wt]
    simp [turnW, eWt]
end Go.D
end
