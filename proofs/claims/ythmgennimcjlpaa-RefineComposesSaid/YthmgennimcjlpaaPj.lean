/- RefineComposes: for every pair, every mapping and every third graph the law answers true and leaves its arguments as they were: the given statement, without conditions. -/
import Derived.Test.YthmgennimcjlpaaPc
import Derived.Test.YthmgennimcjlpaaPi
import Derived.Test.YthmgennimcjlpaaPh
/- Equations of functions 21, 84, 92, 55, 23, 52, 20, 4, printed by gen.py. -/
section
set_option linter.unusedVariables false
set_option maxRecDepth 10000
namespace Go.D
open _root_.Go.D.Code (fstC sndC)
open _root_.Go.D.Ann (left right)
noncomputable def c21_0 : Code := bodyOf Go.Proofs.Try.f21
noncomputable def a21_0 : Ann := (pol 21).ann
noncomputable def a21_13 : Ann := right (left (right (right a21_0)))
noncomputable def a21_14 : Ann := left a21_13
noncomputable def c21_15 : Code := fstC (fstC (sndC (fstC (sndC (sndC c21_0)))))
noncomputable def c21_31 : Code := sndC (sndC (sndC c21_0))
noncomputable def a21_31 : Ann := right (right (right a21_0))
noncomputable def f21_L0 (G : GuardT) (lo : Nat) (x1 x2 x5 : DV) (σ : Store) : Option (DV × Store) :=
 codeF G PP (pol 21) CC lo (.loop c21_15) a21_14 [ud, x1, x2, ud, ud, x5, ud, ud, ud, ud, ud, ud, ud, ud, ud, ud, ud, ud, ud, ud, ud, ud, ud, ud, ud, ud, ud, ud] σ
 (blockC 0 a21_13 (seqC G PP (pol 21) CC lo c21_31 a21_31 (finR PP Go.Proofs.Try.f21.results.toList)))
noncomputable def F21 (G : GuardT) (lo : Nat) (x0 x1 : DV) (σ : Store) : Option (DV × Store) :=
 codeF G PP (pol 21) CC lo c21_0 a21_0 [x0, x1, ud, ud, ud, ud, ud, ud, ud, ud, ud, ud, ud, ud, ud, ud, ud, ud, ud, ud, ud, ud, ud, ud, ud, ud, ud, ud] σ (finR PP Go.Proofs.Try.f21.results.toList)
theorem f21_L0_eq (G : GuardT) (hG : GuardOk G) (lo : Nat) (x1 x2 x5 : DV) (σ : Store) : f21_L0 G lo x1 x2 x5 σ =
 (len PP 22 x1 σ).bind fun x14 =>
 (binOp PP .lss 3 x5 x14).bind fun x15 =>
 condK x15
 (
 (indexAddr PP 22 x1 x5).bind fun x20 =>
 (load PP 3 x20 σ).bind fun x21 =>
 (fieldAddr PP 27 x2 1).bind fun x22 =>
 (fieldAddr PP 25 x22 0).bind fun x23 =>
 (load PP 3 x23 σ).bind fun x24 =>
 (binOp PP .sub 3 x24 (DV.p (PV.int IntKind.i64 (1)))).bind fun x25 =>
 (pureFn CC (DV.fn 22 []) [x21, (DV.p (PV.int IntKind.i64 (0))), x25] σ).bind fun x26 =>
 (unOp .not x26).bind fun x27 =>
 condK x27
 (
 some ((DV.p (PV.int IntKind.i64 (3))), σ)
 )
 (
 (binOp PP .add 3 x5 (DV.p (PV.int IntKind.i64 (1)))).bind fun x17 =>
 f21_L0 G lo x1 x2 x17 σ
 )
 )
 (
 some ((DV.p (PV.int IntKind.i64 (0))), σ)
 ) := (loopF_eq G hG).trans (by kernel_rfl)
theorem F21_eq (G : GuardT) (lo : Nat) (x0 x1 : DV) (σ : Store) : F21 G lo x0 x1 σ =
 (boxV x0).bind fun z2 =>
 (len PP 22 x1 (σ ++ [Row.mix z2])).bind fun x7 =>
 (fieldAddr PP 27 (DV.ptr (List.length σ) 0) 0).bind fun x8 =>
 (fieldAddr PP 25 x8 0).bind fun x9 =>
 (load PP 3 x9 (σ ++ [Row.mix z2])).bind fun x10 =>
 (binOp PP .neq 3 x7 x10).bind fun x11 =>
 condK x11
 (
 some ((DV.p (PV.int IntKind.i64 (6))), (σ ++ [Row.mix z2]))
 )
 (
 f21_L0 G lo x1 (DV.ptr (List.length σ) 0) (DV.p (PV.int IntKind.i64 (0))) (σ ++ [Row.mix z2])
 ) := by kernel_rfl
theorem F21_call {lo : Nat} {x0 x1 : DV} {σ : Store} {r : DV × Store} (h : F21 guardT lo x0 x1 σ = some r) : CC lo 21 [x0, x1] σ = some r :=
 callL_run Go.Proofs.Try.func21 (by decide +kernel) rfl (by decide +kernel) h
noncomputable def c84_0 : Code := bodyOf Go.Proofs.Try.f84
noncomputable def a84_0 : Ann := (pol 84).ann
noncomputable def F84 (G : GuardT) (lo : Nat) (x0 x1 : DV) (σ : Store) : Option (DV × Store) :=
 codeF G PP (pol 84) CC lo c84_0 a84_0 [x0, x1, ud, ud, ud, ud, ud, ud, ud, ud, ud, ud, ud, ud, ud, ud, ud, ud] σ (finR PP Go.Proofs.Try.f84.results.toList)
theorem F84_eq (G : GuardT) (lo : Nat) (x0 x1 : DV) (σ : Store) : F84 G lo x0 x1 σ =
 (boxV x0).bind fun z2 =>
 (len PP 22 x1 (σ ++ [Row.mix z2])).bind fun x7 =>
 (fieldAddr PP 27 (DV.ptr (List.length σ) 0) 0).bind fun x8 =>
 (fieldAddr PP 25 x8 0).bind fun x9 =>
 (load PP 3 x9 (σ ++ [Row.mix z2])).bind fun x10 =>
 (binOp PP .neq 3 x7 x10).bind fun x11 =>
 condK x11
 (
 some ((DV.p (PV.int IntKind.i64 (6))), (σ ++ [Row.mix z2]))
 )
 (
 (pureFn CC (DV.fn 51 []) [x1, (DV.fn 92 [(DV.ptr (List.length σ) 0)])] (σ ++ [Row.mix z2])).bind fun x15 =>
 (unOp .not x15).bind fun x16 =>
 (pureFn CC (DV.fn 56 []) [x16, (DV.p (PV.int IntKind.i64 (3)))] (σ ++ [Row.mix z2])).bind fun x17 =>
 some (x17, (σ ++ [Row.mix z2]))
 ) := by kernel_rfl
theorem F84_call {lo : Nat} {x0 x1 : DV} {σ : Store} {r : DV × Store} (h : F84 guardT lo x0 x1 σ = some r) : CC lo 84 [x0, x1] σ = some r :=
 callL_run Go.Proofs.Try.func84 (by decide +kernel) rfl (by decide +kernel) h
noncomputable def c92_0 : Code := bodyOf Go.Proofs.Try.f92
noncomputable def a92_0 : Ann := (pol 92).ann
noncomputable def F92 (G : GuardT) (lo : Nat) (x0 x1 : DV) (σ : Store) : Option (DV × Store) :=
 codeF G PP (pol 92) CC lo c92_0 a92_0 [x0, x1, ud, ud, ud, ud, ud, ud, ud, ud, ud] σ (finR PP Go.Proofs.Try.f92.results.toList)
theorem F92_eq (G : GuardT) (lo : Nat) (x0 x1 : DV) (σ : Store) : F92 G lo x0 x1 σ =
 (fieldAddr PP 27 x1 1).bind fun x5 =>
 (fieldAddr PP 25 x5 0).bind fun x6 =>
 (load PP 3 x6 σ).bind fun x7 =>
 (binOp PP .sub 3 x7 (DV.p (PV.int IntKind.i64 (1)))).bind fun x8 =>
 (pureFn CC (DV.fn 53 []) [x0, (DV.p (PV.int IntKind.i64 (0))), x8] σ).bind fun x9 =>
 (unOp .not x9).bind fun x10 =>
 some (x10, σ) := by kernel_rfl
theorem F92_call {lo : Nat} {x0 x1 : DV} {σ : Store} {r : DV × Store} (h : F92 guardT lo x0 x1 σ = some r) : CC lo 92 [x0, x1] σ = some r :=
 callL_run Go.Proofs.Try.func92 (by decide +kernel) rfl (by decide +kernel) h
noncomputable def c55_0 : Code := bodyOf Go.Proofs.Try.f55
noncomputable def a55_0 : Ann := (pol 55).ann
noncomputable def F55 (G : GuardT) (lo : Nat) (x0 x1 : DV) (σ : Store) : Option (DV × Store) :=
 codeF G PP (pol 55) CC lo c55_0 a55_0 [x0, x1, ud, ud, ud, ud, ud, ud, ud, ud, ud, ud, ud, ud] σ (finR PP Go.Proofs.Try.f55.results.toList)
theorem F55_eq (G : GuardT) (lo : Nat) (x0 x1 : DV) (σ : Store) : F55 G lo x0 x1 σ =
 (boxV x0).bind fun z2 =>
 (load PP 27 (DV.ptr (List.length σ) 0) (σ ++ [Row.mix z2])).bind fun x6 =>
 (pureFn CC (DV.fn 41 []) [x6] (σ ++ [Row.mix z2])).bind fun x7 =>
 (binOp PP .neq 30 x7 (DV.p (PV.int IntKind.i64 (0)))).bind fun x9 =>
 condK x9
 (
 some (x7, (σ ++ [Row.mix z2]))
 )
 (
 (load PP 27 (DV.ptr (List.length σ) 0) (σ ++ [Row.mix z2])).bind fun x11 =>
 (pureFn CC (DV.fn 84 []) [x11, x1] (σ ++ [Row.mix z2])).bind fun x13 =>
 some (x13, (σ ++ [Row.mix z2]))
 ) := by kernel_rfl
theorem F55_call {lo : Nat} {x0 x1 : DV} {σ : Store} {r : DV × Store} (h : F55 guardT lo x0 x1 σ = some r) : CC lo 55 [x0, x1] σ = some r :=
 callL_run Go.Proofs.Try.func55 (by decide +kernel) rfl (by decide +kernel) h
noncomputable def c23_0 : Code := bodyOf Go.Proofs.Try.f23
noncomputable def a23_0 : Ann := (pol 23).ann
noncomputable def a23_19 : Ann := right (left (right (right (right (right a23_0)))))
noncomputable def a23_20 : Ann := left a23_19
noncomputable def c23_21 : Code := fstC (fstC (sndC (fstC (sndC (sndC (sndC (sndC c23_0)))))))
noncomputable def c23_39 : Code := sndC (sndC (sndC (sndC (sndC c23_0))))
noncomputable def a23_39 : Ann := right (right (right (right (right a23_0))))
noncomputable def a23_42 : Ann := right (left a23_39)
noncomputable def a23_43 : Ann := left a23_42
noncomputable def c23_44 : Code := fstC (fstC (sndC (fstC c23_39)))
noncomputable def c23_62 : Code := sndC c23_39
noncomputable def a23_62 : Ann := right a23_39
noncomputable def a23_65 : Ann := right (left a23_62)
noncomputable def a23_66 : Ann := left a23_65
noncomputable def c23_67 : Code := fstC (fstC (sndC (fstC c23_62)))
noncomputable def c23_85 : Code := sndC c23_62
noncomputable def a23_85 : Ann := right a23_62
noncomputable def f23_L0 (G : GuardT) (lo : Nat) (x1 x2 x4 x7 x8 x26 x27 x28 : DV) (σ : Store) : Option (DV × Store) :=
 codeF G PP (pol 23) CC lo (.loop c23_21) a23_20 [ud, x1, x2, ud, x4, ud, ud, x7, x8, ud, ud, ud, ud, ud, ud, ud, ud, ud, ud, ud, ud, ud, ud, ud, ud, ud, x26, x27, x28, ud, ud, ud, ud, ud, ud, ud, ud, ud, ud, ud, ud, ud, ud, ud, ud, ud, ud, ud, ud, ud, ud, ud, ud, ud, ud, ud, ud, ud, ud, ud, ud, ud, ud, ud, ud, ud, ud, ud, ud, ud, ud, ud, ud, ud, ud, ud, ud, ud, ud, ud, ud, ud, ud, ud, ud, ud, ud, ud, ud, ud, ud, ud, ud, ud, ud, ud, ud, ud, ud, ud, ud, ud, ud, ud, ud, ud, ud, ud, ud, ud, ud, ud, ud, ud, ud, ud, ud, ud] σ
 (blockC 0 a23_19 (seqC G PP (pol 23) CC lo c23_39 a23_39 (finR PP Go.Proofs.Try.f23.results.toList)))
noncomputable def f23_L1 (G : GuardT) (lo : Nat) (x1 x2 x4 x7 x8 x57 x58 x59 : DV) (σ : Store) : Option (DV × Store) :=
 codeF G PP (pol 23) CC lo (.loop c23_44) a23_43 [ud, x1, x2, ud, x4, ud, ud, x7, x8, ud, ud, ud, ud, ud, ud, ud, ud, ud, ud, ud, ud, ud, ud, ud, ud, ud, ud, ud, ud, ud, ud, ud, ud, ud, ud, ud, ud, ud, ud, ud, ud, ud, ud, ud, ud, ud, ud, ud, ud, ud, ud, ud, ud, ud, ud, ud, ud, x57, x58, x59, ud, ud, ud, ud, ud, ud, ud, ud, ud, ud, ud, ud, ud, ud, ud, ud, ud, ud, ud, ud, ud, ud, ud, ud, ud, ud, ud, ud, ud, ud, ud, ud, ud, ud, ud, ud, ud, ud, ud, ud, ud, ud, ud, ud, ud, ud, ud, ud, ud, ud, ud, ud, ud, ud, ud, ud, ud, ud] σ
 (blockC 2 a23_42 (seqC G PP (pol 23) CC lo c23_62 a23_62 (finR PP Go.Proofs.Try.f23.results.toList)))
noncomputable def f23_L2 (G : GuardT) (lo : Nat) (x1 x4 x7 x8 x81 x82 x83 : DV) (σ : Store) : Option (DV × Store) :=
 codeF G PP (pol 23) CC lo (.loop c23_67) a23_66 [ud, x1, ud, ud, x4, ud, ud, x7, x8, ud, ud, ud, ud, ud, ud, ud, ud, ud, ud, ud, ud, ud, ud, ud, ud, ud, ud, ud, ud, ud, ud, ud, ud, ud, ud, ud, ud, ud, ud, ud, ud, ud, ud, ud, ud, ud, ud, ud, ud, ud, ud, ud, ud, ud, ud, ud, ud, ud, ud, ud, ud, ud, ud, ud, ud, ud, ud, ud, ud, ud, ud, ud, ud, ud, ud, ud, ud, ud, ud, ud, ud, x81, x82, x83, ud, ud, ud, ud, ud, ud, ud, ud, ud, ud, ud, ud, ud, ud, ud, ud, ud, ud, ud, ud, ud, ud, ud, ud, ud, ud, ud, ud, ud, ud, ud, ud, ud, ud] σ
 (blockC 4 a23_65 (seqC G PP (pol 23) CC lo c23_85 a23_85 (finR PP Go.Proofs.Try.f23.results.toList)))
noncomputable def F23 (G : GuardT) (lo : Nat) (x0 x1 : DV) (σ : Store) : Option (DV × Store) :=
 codeF G PP (pol 23) CC lo c23_0 a23_0 [x0, x1, ud, ud, ud, ud, ud, ud, ud, ud, ud, ud, ud, ud, ud, ud, ud, ud, ud, ud, ud, ud, ud, ud, ud, ud, ud, ud, ud, ud, ud, ud, ud, ud, ud, ud, ud, ud, ud, ud, ud, ud, ud, ud, ud, ud, ud, ud, ud, ud, ud, ud, ud, ud, ud, ud, ud, ud, ud, ud, ud, ud, ud, ud, ud, ud, ud, ud, ud, ud, ud, ud, ud, ud, ud, ud, ud, ud, ud, ud, ud, ud, ud, ud, ud, ud, ud, ud, ud, ud, ud, ud, ud, ud, ud, ud, ud, ud, ud, ud, ud, ud, ud, ud, ud, ud, ud, ud, ud, ud, ud, ud, ud, ud, ud, ud, ud, ud] σ (finR PP Go.Proofs.Try.f23.results.toList)
theorem f23_L0_eq (G : GuardT) (hG : GuardOk G) (lo : Nat) (x1 x2 x4 x7 x8 x26 x27 x28 : DV) (σ : Store) : f23_L0 G lo x1 x2 x4 x7 x8 x26 x27 x28 σ =
 (binOp PP .lss 3 x28 x27).bind fun x29 =>
 condK x29
 (
 (indexAddr PP 51 x26 x28).bind fun x31 =>
 (load PP 22 x31 σ).bind fun x32 =>
 (binOp PP .neq 22 x32 (DV.p PV.nilsl)).bind fun x34 =>
 G _ x34 true ((fieldAddr PP 27 x2 2).bind fun v => some (v, σ)) σ fun x36 σ2 =>
 G _ x34 true ((load PP 22 x36 σ2).bind fun v => some (v, σ2)) σ2 fun x37 σ3 =>
 G _ x34 true (some (x28, σ3)) σ3 fun x38 σ4 =>
 G _ x34 true ((indexAddr PP 22 x37 x38).bind fun v => some (v, σ4)) σ4 fun x39 σ5 =>
 G _ x34 true ((load PP 3 x39 σ5).bind fun v => some (v, σ5)) σ5 fun x40 σ6 =>
 G _ x34 true ((fieldAddr PP 27 x2 3).bind fun v => some (v, σ6)) σ6 fun x41 σ7 =>
 G _ x34 true ((load PP 22 x41 σ7).bind fun v => some (v, σ7)) σ7 fun x42 σ8 =>
 G _ x34 true (some (x1, σ8)) σ8 fun x43 σ9 =>
 G _ x34 true (some (x28, σ9)) σ9 fun x44 σ10 =>
 G _ x34 true ((indexAddr PP 22 x43 x44).bind fun v => some (v, σ10)) σ10 fun x45 σ11 =>
 G _ x34 true ((load PP 3 x45 σ11).bind fun v => some (v, σ11)) σ11 fun x46 σ12 =>
 G _ x34 true ((indexAddr PP 22 x42 x46).bind fun v => some (v, σ12)) σ12 fun x47 σ13 =>
 G _ x34 true ((load PP 3 x47 σ13).bind fun v => some (v, σ13)) σ13 fun x48 σ14 =>
 G _ x34 true ((binOp PP .neq 3 x40 x48).bind fun v => some (v, σ14)) σ14 fun x49 σ15 =>
 (pickV x34 x49 (DV.p (PV.bool false))).bind fun x50 =>
 condK x50
 (
 (build PP 47 [(0, (DV.p (PV.int IntKind.i64 (0)))), (1, x28), (2, x32)]).bind fun x53 =>
 (store PP lo 47 x4 x53 σ15).bind fun σ16 =>
 (cellV PP 47 x4 σ16).bind fun v0 =>
 some ((DV.tuple [v0, (DV.p (PV.int IntKind.i64 (31)))]), σ16)
 )
 (
 (binOp PP .add 3 x28 (DV.p (PV.int IntKind.i64 (1)))).bind fun x54 =>
 f23_L0 G lo x1 x2 x4 x7 x8 x26 x27 x54 σ15
 )
 )
 (
 (fieldAddr PP 27 x2 0).bind fun x55 =>
 (fieldAddr PP 25 x55 1).bind fun x56 =>
 (load PP 22 x56 σ).bind fun x57 =>
 (len PP 22 x57 σ).bind fun x58 =>
 f23_L1 G lo x1 x2 x4 x7 x8 x57 x58 (DV.p (PV.int IntKind.i64 (0))) σ
 ) := (loopF_eq G hG).trans (by kernel_rfl)
theorem f23_L1_eq (G : GuardT) (hG : GuardOk G) (lo : Nat) (x1 x2 x4 x7 x8 x57 x58 x59 : DV) (σ : Store) : f23_L1 G lo x1 x2 x4 x7 x8 x57 x58 x59 σ =
 (binOp PP .lss 3 x59 x58).bind fun x60 =>
 condK x60
 (
 (indexAddr PP 22 x57 x59).bind fun x61 =>
 (load PP 3 x61 σ).bind fun x62 =>
 (fieldAddr PP 27 x2 1).bind fun x63 =>
 (fieldAddr PP 25 x63 1).bind fun x64 =>
 (load PP 22 x64 σ).bind fun x65 =>
 (indexAddr PP 22 x1 x62).bind fun x68 =>
 (load PP 3 x68 σ).bind fun x69 =>
 (pureFn CC (DV.fn 46 []) [x65, x69] σ).bind fun x70 =>
 (unOp .not x70).bind fun x71 =>
 condK x71
 (
 (indexAddr PP 51 x8 x62).bind fun x75 =>
 (load PP 22 x75 σ).bind fun x76 =>
 (build PP 47 [(0, (DV.p (PV.int IntKind.i64 (1)))), (1, x62), (2, x76)]).bind fun x77 =>
 (store PP lo 47 x4 x77 σ).bind fun σ17 =>
 (cellV PP 47 x4 σ17).bind fun v0 =>
 some ((DV.tuple [v0, (DV.p (PV.int IntKind.i64 (31)))]), σ17)
 )
 (
 (binOp PP .add 3 x59 (DV.p (PV.int IntKind.i64 (1)))).bind fun x78 =>
 f23_L1 G lo x1 x2 x4 x7 x8 x57 x58 x78 σ
 )
 )
 (
 (fieldAddr PP 27 x2 0).bind fun x79 =>
 (fieldAddr PP 25 x79 2).bind fun x80 =>
 (load PP 23 x80 σ).bind fun x81 =>
 (len PP 23 x81 σ).bind fun x82 =>
 f23_L2 G lo x1 x4 x7 x8 x81 x82 (DV.p (PV.int IntKind.i64 (0))) σ
 ) := (loopF_eq G hG).trans (by kernel_rfl)
theorem f23_L2_eq (G : GuardT) (hG : GuardOk G) (lo : Nat) (x1 x4 x7 x8 x81 x82 x83 : DV) (σ : Store) : f23_L2 G lo x1 x4 x7 x8 x81 x82 x83 σ =
 (binOp PP .lss 3 x83 x82).bind fun x84 =>
 condK x84
 (
 (indexAddr PP 23 x81 x83).bind fun x86 =>
 (load PP 100 x86 σ).bind fun x87 =>
 (zeroOf PP 100).bind fun z14 =>
 (store PP lo 100 (DV.ptr (List.length σ) 0) x87 (σ ++ [Row.mix z14])).bind fun σ18 =>
 (fieldAddr PP 100 (DV.ptr (List.length σ) 0) 0).bind fun x89 =>
 (load PP 3 x89 σ18).bind fun x90 =>
 (indexAddr PP 51 x8 x90).bind fun x91 =>
 (load PP 22 x91 σ18).bind fun x92 =>
 (binOp PP .neq 22 x92 (DV.p PV.nilsl)).bind fun x93 =>
 G _ x93 true (some (x7, σ18)) σ18 fun x95 σ19 =>
 G _ x93 true (some (x1, σ19)) σ19 fun x96 σ20 =>
 G _ x93 true ((fieldAddr PP 100 (DV.ptr (List.length σ) 0) 0).bind fun v => some (v, σ20)) σ20 fun x97 σ21 =>
 G _ x93 true ((load PP 3 x97 σ21).bind fun v => some (v, σ21)) σ21 fun x98 σ22 =>
 G _ x93 true ((indexAddr PP 22 x96 x98).bind fun v => some (v, σ22)) σ22 fun x99 σ23 =>
 G _ x93 true ((load PP 3 x99 σ23).bind fun v => some (v, σ23)) σ23 fun x100 σ24 =>
 G _ x93 true (some (x1, σ24)) σ24 fun x101 σ25 =>
 G _ x93 true ((fieldAddr PP 100 (DV.ptr (List.length σ) 0) 1).bind fun v => some (v, σ25)) σ25 fun x102 σ26 =>
 G _ x93 true ((load PP 3 x102 σ26).bind fun v => some (v, σ26)) σ26 fun x103 σ27 =>
 G _ x93 true ((indexAddr PP 22 x101 x103).bind fun v => some (v, σ27)) σ27 fun x104 σ28 =>
 G _ x93 true ((load PP 3 x104 σ28).bind fun v => some (v, σ28)) σ28 fun x105 σ29 =>
 G _ x93 true ((pureFn CC (DV.fn 45 []) [x95, x100, x105] σ29).bind fun v => some (v, σ29)) σ29 fun x106 σ30 =>
 G _ x93 true ((unOp .not x106).bind fun v => some (v, σ30)) σ30 fun x107 σ31 =>
 (pickV x93 x107 (DV.p (PV.bool false))).bind fun x108 =>
 condK x108
 (
 (fieldAddr PP 100 (DV.ptr (List.length σ) 0) 0).bind fun x111 =>
 (load PP 3 x111 σ31).bind fun x112 =>
 (indexAddr PP 51 x8 x112).bind fun x113 =>
 (load PP 22 x113 σ31).bind fun x114 =>
 (build PP 47 [(0, (DV.p (PV.int IntKind.i64 (2)))), (1, x83), (2, x114)]).bind fun x115 =>
 (store PP lo 47 x4 x115 σ31).bind fun σ32 =>
 (cellV PP 47 x4 σ32).bind fun v0 =>
 some ((DV.tuple [v0, (DV.p (PV.int IntKind.i64 (31)))]), σ32)
 )
 (
 (binOp PP .add 3 x83 (DV.p (PV.int IntKind.i64 (1)))).bind fun x116 =>
 f23_L2 G lo x1 x4 x7 x8 x81 x82 x116 σ31
 )
 )
 (
 (build PP 47 []).bind fun x117 =>
 (store PP lo 47 x4 x117 σ).bind fun σ33 =>
 (cellV PP 47 x4 σ33).bind fun v0 =>
 some ((DV.tuple [v0, (DV.p (PV.int IntKind.i64 (0)))]), σ33)
 ) := (loopF_eq G hG).trans (by kernel_rfl)
theorem F23_eq (G : GuardT) (lo : Nat) (x0 x1 : DV) (σ : Store) : F23 G lo x0 x1 σ =
 (boxV x0).bind fun z2 =>
 (zeroOf PP 47).bind fun z4 =>
 (load PP 27 (DV.ptr (List.length σ) 0) ((σ ++ [Row.mix z2]) ++ [Row.mix z4])).bind fun x15 =>
 (pureFn CC (DV.fn 55 []) [x15, x1] ((σ ++ [Row.mix z2]) ++ [Row.mix z4])).bind fun x17 =>
 (binOp PP .neq 30 x17 (DV.p (PV.int IntKind.i64 (0)))).bind fun x19 =>
 condK x19
 (
 (build PP 47 []).bind fun x20 =>
 (store PP lo 47 (DV.ptr (List.length (σ ++ [Row.mix z2])) 0) x20 ((σ ++ [Row.mix z2]) ++ [Row.mix z4])).bind fun σ1 =>
 (cellV PP 47 (DV.ptr (List.length (σ ++ [Row.mix z2])) 0) σ1).bind fun v0 =>
 some ((DV.tuple [v0, x17]), σ1)
 )
 (
 (load PP 27 (DV.ptr (List.length σ) 0) ((σ ++ [Row.mix z2]) ++ [Row.mix z4])).bind fun x22 =>
 (pureFn CC (DV.fn 43 []) [x22] ((σ ++ [Row.mix z2]) ++ [Row.mix z4])).bind fun x23 =>
 (pureFn CC (DV.fn 57 []) [x23] ((σ ++ [Row.mix z2]) ++ [Row.mix z4])).bind fun x25 =>
 (len PP 51 x25 ((σ ++ [Row.mix z2]) ++ [Row.mix z4])).bind fun x27 =>
 f23_L0 G lo x1 (DV.ptr (List.length σ) 0) (DV.ptr (List.length (σ ++ [Row.mix z2])) 0) x23 x25 x25 x27 (DV.p (PV.int IntKind.i64 (0))) ((σ ++ [Row.mix z2]) ++ [Row.mix z4])
 ) := by kernel_rfl
theorem F23_call {lo : Nat} {x0 x1 : DV} {σ : Store} {r : DV × Store} (h : F23 guardT lo x0 x1 σ = some r) : CC lo 23 [x0, x1] σ = some r :=
 callL_run Go.Proofs.Try.func23 (by decide +kernel) rfl (by decide +kernel) h
noncomputable def c52_0 : Code := bodyOf Go.Proofs.Try.f52
noncomputable def a52_0 : Ann := (pol 52).ann
noncomputable def F52 (G : GuardT) (lo : Nat) (x0 : DV) (σ : Store) : Option (DV × Store) :=
 codeF G PP (pol 52) CC lo c52_0 a52_0 [x0, ud, ud, ud, ud, ud] σ (finR PP Go.Proofs.Try.f52.results.toList)
theorem F52_eq (G : GuardT) (lo : Nat) (x0 : DV) (σ : Store) : F52 G lo x0 σ =
 (pureFn CC (DV.fn 53 []) [x0, (DV.p (PV.int IntKind.i64 (0))), (DV.p (PV.int IntKind.i64 (399)))] σ).bind fun x4 =>
 (unOp .not x4).bind fun x5 =>
 some (x5, σ) := by kernel_rfl
theorem F52_call {lo : Nat} {x0 : DV} {σ : Store} {r : DV × Store} (h : F52 guardT lo x0 σ = some r) : CC lo 52 [x0] σ = some r :=
 callL_run Go.Proofs.Try.func52 (by decide +kernel) rfl (by decide +kernel) h
noncomputable def c20_0 : Code := bodyOf Go.Proofs.Try.f20
noncomputable def a20_0 : Ann := (pol 20).ann
noncomputable def a20_19 : Ann := right (left (right (right (right (right a20_0)))))
noncomputable def a20_20 : Ann := left a20_19
noncomputable def c20_21 : Code := fstC (fstC (sndC (fstC (sndC (sndC (sndC (sndC c20_0)))))))
noncomputable def c20_33 : Code := sndC (sndC (sndC (sndC (sndC c20_0))))
noncomputable def a20_33 : Ann := right (right (right (right (right a20_0))))
noncomputable def f20_L0 (G : GuardT) (lo : Nat) (x2 x10 x33 x34 x35 : DV) (σ : Store) : Option (DV × Store) :=
 codeF G PP (pol 20) CC lo (.loop c20_21) a20_20 [ud, ud, x2, ud, ud, ud, ud, ud, ud, ud, x10, ud, ud, ud, ud, ud, ud, ud, ud, ud, ud, ud, ud, ud, ud, ud, ud, ud, ud, ud, ud, ud, ud, x33, x34, x35, ud, ud, ud, ud, ud, ud, ud, ud, ud, ud, ud, ud] σ
 (blockC 0 a20_19 (seqC G PP (pol 20) CC lo c20_33 a20_33 (finR PP Go.Proofs.Try.f20.results.toList)))
noncomputable def F20 (G : GuardT) (lo : Nat) (x0 x1 x2 : DV) (σ : Store) : Option (DV × Store) :=
 codeF G PP (pol 20) CC lo c20_0 a20_0 [x0, x1, x2, ud, ud, ud, ud, ud, ud, ud, ud, ud, ud, ud, ud, ud, ud, ud, ud, ud, ud, ud, ud, ud, ud, ud, ud, ud, ud, ud, ud, ud, ud, ud, ud, ud, ud, ud, ud, ud, ud, ud, ud, ud, ud, ud, ud, ud] σ (finR PP Go.Proofs.Try.f20.results.toList)
theorem f20_L0_eq (G : GuardT) (hG : GuardOk G) (lo : Nat) (x2 x10 x33 x34 x35 : DV) (σ : Store) : f20_L0 G lo x2 x10 x33 x34 x35 σ =
 (binOp PP .lss 3 x35 x34).bind fun x36 =>
 condK x36
 (
 (indexAddr PP 22 x33 x35).bind fun x37 =>
 (load PP 3 x37 σ).bind fun x38 =>
 (indexAddr PP 22 x2 x38).bind fun x42 =>
 (load PP 3 x42 σ).bind fun x43 =>
 (buildSlice PP none 22 1 [(0, x43)] σ).bind fun r44_2 =>
 (append PP lo false 22 22 x10 r44_2.1 r44_2.2).bind fun r45_3 =>
 (binOp PP .add 3 x35 (DV.p (PV.int IntKind.i64 (1)))).bind fun x46 =>
 f20_L0 G lo x2 r45_3.1 x33 x34 x46 r45_3.2
 )
 (
 some ((DV.tuple [x10, (DV.p (PV.int IntKind.i64 (0)))]), σ)
 ) := (loopF_eq G hG).trans (by kernel_rfl)
theorem F20_eq (G : GuardT) (lo : Nat) (x0 x1 x2 : DV) (σ : Store) : F20 G lo x0 x1 x2 σ =
 (boxV x0).bind fun z3 =>
 (pureFn CC (DV.fn 51 []) [x2, (DV.fn 52 [])] (σ ++ [Row.mix z3])).bind fun x14 =>
 (load PP 27 (DV.ptr (List.length σ) 0) (σ ++ [Row.mix z3])).bind fun x15 =>
 (pureFn CC (DV.fn 55 []) [x15, x1] (σ ++ [Row.mix z3])).bind fun x17 =>
 (len PP 22 x2 (σ ++ [Row.mix z3])).bind fun x19 =>
 (fieldAddr PP 27 (DV.ptr (List.length σ) 0) 1).bind fun x20 =>
 (fieldAddr PP 25 x20 0).bind fun x21 =>
 (load PP 3 x21 (σ ++ [Row.mix z3])).bind fun x22 =>
 (binOp PP .eql 3 x19 x22).bind fun x23 =>
 (pureFn CC (DV.fn 56 []) [x23, (DV.p (PV.int IntKind.i64 (6)))] (σ ++ [Row.mix z3])).bind fun x24 =>
 (unOp .not x14).bind fun x26 =>
 (pureFn CC (DV.fn 56 []) [x26, (DV.p (PV.int IntKind.i64 (3)))] (σ ++ [Row.mix z3])).bind fun x27 =>
 (buildSlice PP none 122 3 [(0, x17), (1, x24), (2, x27)] (σ ++ [Row.mix z3])).bind fun r28_1 =>
 (pureFn CC (DV.fn 54 []) [r28_1.1] r28_1.2).bind fun x29 =>
 (binOp PP .neq 30 x29 (DV.p (PV.int IntKind.i64 (0)))).bind fun x31 =>
 condK x31
 (
 some ((DV.tuple [(DV.p PV.nilsl), x29]), r28_1.2)
 )
 (
 (len PP 22 x1 r28_1.2).bind fun x34 =>
 f20_L0 G lo x2 (DV.p PV.nilsl) x1 x34 (DV.p (PV.int IntKind.i64 (0))) r28_1.2
 ) := by kernel_rfl
theorem F20_call {lo : Nat} {x0 x1 x2 : DV} {σ : Store} {r : DV × Store} (h : F20 guardT lo x0 x1 x2 σ = some r) : CC lo 20 [x0, x1, x2] σ = some r :=
 callL_run Go.Proofs.Try.func20 (by decide +kernel) rfl (by decide +kernel) h
noncomputable def c4_0 : Code := bodyOf Go.Proofs.Try.f4
noncomputable def a4_0 : Ann := (pol 4).ann
noncomputable def c4_30 : Code := sndC (sndC (sndC (sndC (sndC (sndC (sndC c4_0))))))
noncomputable def a4_30 : Ann := right (right (right (right (right (right (right a4_0))))))
noncomputable def c4_36 : Code := sndC c4_30
noncomputable def a4_36 : Ann := right a4_30
noncomputable def a4_39 : Ann := right (left a4_36)
noncomputable def a4_40 : Ann := left a4_39
noncomputable def c4_41 : Code := fstC (fstC (sndC (fstC c4_36)))
noncomputable def a4_48 : Ann := left (right (left a4_40))
noncomputable def c4_54 : Code := sndC (sndC c4_41)
noncomputable def a4_54 : Ann := right (right (left a4_40))
noncomputable def c4_55 : Code := sndC c4_36
noncomputable def a4_55 : Ann := right a4_36
noncomputable def a4_74 : Ann := right (left (right (right a4_55)))
noncomputable def a4_75 : Ann := left a4_74
noncomputable def c4_76 : Code := fstC (fstC (sndC (fstC (sndC (sndC c4_55)))))
noncomputable def c4_92 : Code := sndC (sndC (sndC c4_55))
noncomputable def a4_92 : Ann := right (right (right a4_55))
def f4_J0_fr (x0 x1 x2 x3 x5 x6 x7 x8 x9 x10 x21 x22 x23 x24 x25 x26 x27 x28 x29 x30 x31 x32 x33 x34 x35 x36 x37 x38 x39 x40 x41 x42 x43 x44 x45 x46 x47 x48 x49 x50 x51 x52 x53 x54 x55 x56 x57 x58 x59 x60 x61 x62 x63 x64 x65 x66 : DV) : Frame := [x0, x1, x2, x3, ud, x5, x6, x7, x8, x9, x10, ud, ud, ud, ud, ud, ud, ud, ud, ud, ud, x21, x22, x23, x24, x25, x26, x27, x28, x29, x30, x31, x32, x33, x34, x35, x36, x37, x38, x39, x40, x41, x42, x43, x44, x45, x46, x47, x48, x49, x50, x51, x52, x53, x54, x55, x56, x57, x58, x59, x60, x61, x62, x63, x64, x65, x66, ud, ud, ud, ud, ud, ud, ud, ud, ud, ud, ud, ud, ud, ud, ud, ud, ud, ud, ud, ud, ud, ud, ud, ud, ud, ud, ud, ud, ud, ud, ud, ud, ud, ud, ud, ud, ud, ud, ud, ud, ud, ud, ud, ud, ud, ud, ud, ud, ud, ud, ud, ud, ud, ud, ud, ud, ud, ud, ud, ud, ud, ud, ud, ud, ud, ud, ud, ud, ud, ud, ud, ud, ud, ud, ud, ud, ud, ud, ud, ud, ud, ud, ud, ud, ud, ud, ud, ud, ud, ud, ud, ud, ud, ud, ud, ud, ud, ud, ud, ud, ud, ud, ud, ud, ud, ud, ud, ud, ud, ud, ud, ud, ud, ud, ud, ud, ud, ud, ud, ud, ud, ud, ud, ud, ud, ud, ud, ud]
noncomputable def f4_J0 (G : GuardT) (lo : Nat) (x0 x1 x2 x3 x5 x6 x7 x8 x9 x10 x21 x22 x23 x24 x25 x26 x27 x28 x29 x30 x31 x32 x33 x34 x35 x36 x37 x38 x39 x40 x41 x42 x43 x44 x45 x46 x47 x48 x49 x50 x51 x52 x53 x54 x55 x56 x57 x58 x59 x60 x61 x62 x63 x64 x65 x66 : DV) (σ : Store) : Option (DV × Store) :=
 (seqC G PP (pol 4) CC lo c4_30 a4_30 (finR PP Go.Proofs.Try.f4.results.toList)) .normal (f4_J0_fr x0 x1 x2 x3 x5 x6 x7 x8 x9 x10 x21 x22 x23 x24 x25 x26 x27 x28 x29 x30 x31 x32 x33 x34 x35 x36 x37 x38 x39 x40 x41 x42 x43 x44 x45 x46 x47 x48 x49 x50 x51 x52 x53 x54 x55 x56 x57 x58 x59 x60 x61 x62 x63 x64 x65 x66) σ
def f4_J1_fr (x0 x1 x2 x3 x5 x6 x7 x8 x9 x10 x21 x22 x23 x24 x25 x26 x27 x28 x29 x30 x31 x32 x33 x34 x35 x36 x37 x38 x39 x40 x41 x42 x43 x44 x45 x46 x47 x48 x49 x50 x51 x52 x53 x54 x55 x56 x57 x58 x59 x60 x61 x62 x63 x64 x65 x66 x67 x68 x69 x70 x71 x72 x73 x74 x75 x76 : DV) : Frame := [x0, x1, x2, x3, ud, x5, x6, x7, x8, x9, x10, ud, ud, ud, ud, ud, ud, ud, ud, ud, ud, x21, x22, x23, x24, x25, x26, x27, x28, x29, x30, x31, x32, x33, x34, x35, x36, x37, x38, x39, x40, x41, x42, x43, x44, x45, x46, x47, x48, x49, x50, x51, x52, x53, x54, x55, x56, x57, x58, x59, x60, x61, x62, x63, x64, x65, x66, x67, x68, x69, x70, x71, x72, x73, x74, x75, x76, ud, ud, ud, ud, ud, ud, ud, ud, ud, ud, ud, ud, ud, ud, ud, ud, ud, ud, ud, ud, ud, ud, ud, ud, ud, ud, ud, ud, ud, ud, ud, ud, ud, ud, ud, ud, ud, ud, ud, ud, ud, ud, ud, ud, ud, ud, ud, ud, ud, ud, ud, ud, ud, ud, ud, ud, ud, ud, ud, ud, ud, ud, ud, ud, ud, ud, ud, ud, ud, ud, ud, ud, ud, ud, ud, ud, ud, ud, ud, ud, ud, ud, ud, ud, ud, ud, ud, ud, ud, ud, ud, ud, ud, ud, ud, ud, ud, ud, ud, ud, ud, ud, ud, ud, ud, ud, ud, ud, ud, ud, ud, ud, ud, ud, ud, ud, ud, ud]
noncomputable def f4_J1 (G : GuardT) (lo : Nat) (x0 x1 x2 x3 x5 x6 x7 x8 x9 x10 x21 x22 x23 x24 x25 x26 x27 x28 x29 x30 x31 x32 x33 x34 x35 x36 x37 x38 x39 x40 x41 x42 x43 x44 x45 x46 x47 x48 x49 x50 x51 x52 x53 x54 x55 x56 x57 x58 x59 x60 x61 x62 x63 x64 x65 x66 x67 x68 x69 x70 x71 x72 x73 x74 x75 x76 : DV) (σ : Store) : Option (DV × Store) :=
 (seqC G PP (pol 4) CC lo c4_36 a4_36 (finR PP Go.Proofs.Try.f4.results.toList)) .normal (f4_J1_fr x0 x1 x2 x3 x5 x6 x7 x8 x9 x10 x21 x22 x23 x24 x25 x26 x27 x28 x29 x30 x31 x32 x33 x34 x35 x36 x37 x38 x39 x40 x41 x42 x43 x44 x45 x46 x47 x48 x49 x50 x51 x52 x53 x54 x55 x56 x57 x58 x59 x60 x61 x62 x63 x64 x65 x66 x67 x68 x69 x70 x71 x72 x73 x74 x75 x76) σ
noncomputable def f4_L0 (G : GuardT) (lo : Nat) (x1 x3 x5 x7 x8 x9 x10 x11 : DV) (σ : Store) : Option (DV × Store) :=
 codeF G PP (pol 4) CC lo (.loop c4_41) a4_40 [ud, x1, ud, x3, ud, x5, ud, x7, x8, x9, x10, x11, ud, ud, ud, ud, ud, ud, ud, ud, ud, ud, ud, ud, ud, ud, ud, ud, ud, ud, ud, ud, ud, ud, ud, ud, ud, ud, ud, ud, ud, ud, ud, ud, ud, ud, ud, ud, ud, ud, ud, ud, ud, ud, ud, ud, ud, ud, ud, ud, ud, ud, ud, ud, ud, ud, ud, ud, ud, ud, ud, ud, ud, ud, ud, ud, ud, ud, ud, ud, ud, ud, ud, ud, ud, ud, ud, ud, ud, ud, ud, ud, ud, ud, ud, ud, ud, ud, ud, ud, ud, ud, ud, ud, ud, ud, ud, ud, ud, ud, ud, ud, ud, ud, ud, ud, ud, ud, ud, ud, ud, ud, ud, ud, ud, ud, ud, ud, ud, ud, ud, ud, ud, ud, ud, ud, ud, ud, ud, ud, ud, ud, ud, ud, ud, ud, ud, ud, ud, ud, ud, ud, ud, ud, ud, ud, ud, ud, ud, ud, ud, ud, ud, ud, ud, ud, ud, ud, ud, ud, ud, ud, ud, ud, ud, ud, ud, ud, ud, ud, ud, ud, ud, ud, ud, ud, ud, ud, ud, ud, ud, ud, ud, ud, ud] σ
 (blockC 0 a4_39 (seqC G PP (pol 4) CC lo c4_55 a4_55 (finR PP Go.Proofs.Try.f4.results.toList)))
def f4_J2_fr (x1 x3 x5 x7 x8 x9 x10 x11 x77 x78 x79 x80 x81 x82 x83 x84 x87 x88 x89 x90 x91 x92 : DV) : Frame := [ud, x1, ud, x3, ud, x5, ud, x7, x8, x9, x10, x11, ud, ud, ud, ud, ud, ud, ud, ud, ud, ud, ud, ud, ud, ud, ud, ud, ud, ud, ud, ud, ud, ud, ud, ud, ud, ud, ud, ud, ud, ud, ud, ud, ud, ud, ud, ud, ud, ud, ud, ud, ud, ud, ud, ud, ud, ud, ud, ud, ud, ud, ud, ud, ud, ud, ud, ud, ud, ud, ud, ud, ud, ud, ud, ud, ud, x77, x78, x79, x80, x81, x82, x83, x84, ud, ud, x87, x88, x89, x90, x91, x92, ud, ud, ud, ud, ud, ud, ud, ud, ud, ud, ud, ud, ud, ud, ud, ud, ud, ud, ud, ud, ud, ud, ud, ud, ud, ud, ud, ud, ud, ud, ud, ud, ud, ud, ud, ud, ud, ud, ud, ud, ud, ud, ud, ud, ud, ud, ud, ud, ud, ud, ud, ud, ud, ud, ud, ud, ud, ud, ud, ud, ud, ud, ud, ud, ud, ud, ud, ud, ud, ud, ud, ud, ud, ud, ud, ud, ud, ud, ud, ud, ud, ud, ud, ud, ud, ud, ud, ud, ud, ud, ud, ud, ud, ud, ud, ud, ud, ud, ud, ud, ud, ud]
noncomputable def f4_J2 (G : GuardT) (lo : Nat) (x1 x3 x5 x7 x8 x9 x10 x11 x77 x78 x79 x80 x81 x82 x83 x84 x87 x88 x89 x90 x91 x92 : DV) (σ : Store) : Option (DV × Store) :=
 (blockC 1 a4_48 (seqC G PP (pol 4) CC lo c4_54 a4_54 (loopC G PP (pol 4) CC lo c4_41 a4_40 (blockC 0 a4_39 (seqC G PP (pol 4) CC lo c4_55 a4_55 (finR PP Go.Proofs.Try.f4.results.toList)))))) .normal (f4_J2_fr x1 x3 x5 x7 x8 x9 x10 x11 x77 x78 x79 x80 x81 x82 x83 x84 x87 x88 x89 x90 x91 x92) σ
noncomputable def f4_L1 (G : GuardT) (lo : Nat) (x1 x3 x5 x7 x8 x12 : DV) (σ : Store) : Option (DV × Store) :=
 codeF G PP (pol 4) CC lo (.loop c4_76) a4_75 [ud, x1, ud, x3, ud, x5, ud, x7, x8, ud, ud, ud, x12, ud, ud, ud, ud, ud, ud, ud, ud, ud, ud, ud, ud, ud, ud, ud, ud, ud, ud, ud, ud, ud, ud, ud, ud, ud, ud, ud, ud, ud, ud, ud, ud, ud, ud, ud, ud, ud, ud, ud, ud, ud, ud, ud, ud, ud, ud, ud, ud, ud, ud, ud, ud, ud, ud, ud, ud, ud, ud, ud, ud, ud, ud, ud, ud, ud, ud, ud, ud, ud, ud, ud, ud, ud, ud, ud, ud, ud, ud, ud, ud, ud, ud, ud, ud, ud, ud, ud, ud, ud, ud, ud, ud, ud, ud, ud, ud, ud, ud, ud, ud, ud, ud, ud, ud, ud, ud, ud, ud, ud, ud, ud, ud, ud, ud, ud, ud, ud, ud, ud, ud, ud, ud, ud, ud, ud, ud, ud, ud, ud, ud, ud, ud, ud, ud, ud, ud, ud, ud, ud, ud, ud, ud, ud, ud, ud, ud, ud, ud, ud, ud, ud, ud, ud, ud, ud, ud, ud, ud, ud, ud, ud, ud, ud, ud, ud, ud, ud, ud, ud, ud, ud, ud, ud, ud, ud, ud, ud, ud, ud, ud, ud, ud] σ
 (blockC 2 a4_74 (seqC G PP (pol 4) CC lo c4_92 a4_92 (finR PP Go.Proofs.Try.f4.results.toList)))
noncomputable def F4 (G : GuardT) (lo : Nat) (x0 x1 x2 : DV) (σ : Store) : Option (DV × Store) :=
 codeF G PP (pol 4) CC lo c4_0 a4_0 [x0, x1, x2, ud, ud, ud, ud, ud, ud, ud, ud, ud, ud, ud, ud, ud, ud, ud, ud, ud, ud, ud, ud, ud, ud, ud, ud, ud, ud, ud, ud, ud, ud, ud, ud, ud, ud, ud, ud, ud, ud, ud, ud, ud, ud, ud, ud, ud, ud, ud, ud, ud, ud, ud, ud, ud, ud, ud, ud, ud, ud, ud, ud, ud, ud, ud, ud, ud, ud, ud, ud, ud, ud, ud, ud, ud, ud, ud, ud, ud, ud, ud, ud, ud, ud, ud, ud, ud, ud, ud, ud, ud, ud, ud, ud, ud, ud, ud, ud, ud, ud, ud, ud, ud, ud, ud, ud, ud, ud, ud, ud, ud, ud, ud, ud, ud, ud, ud, ud, ud, ud, ud, ud, ud, ud, ud, ud, ud, ud, ud, ud, ud, ud, ud, ud, ud, ud, ud, ud, ud, ud, ud, ud, ud, ud, ud, ud, ud, ud, ud, ud, ud, ud, ud, ud, ud, ud, ud, ud, ud, ud, ud, ud, ud, ud, ud, ud, ud, ud, ud, ud, ud, ud, ud, ud, ud, ud, ud, ud, ud, ud, ud, ud, ud, ud, ud, ud, ud, ud, ud, ud, ud, ud, ud, ud] σ (finR PP Go.Proofs.Try.f4.results.toList)
theorem f4_J0_eq (G : GuardT) (lo : Nat) (x0 x1 x2 x3 x5 x6 x7 x8 x9 x10 x21 x22 x23 x24 x25 x26 x27 x28 x29 x30 x31 x32 x33 x34 x35 x36 x37 x38 x39 x40 x41 x42 x43 x44 x45 x46 x47 x48 x49 x50 x51 x52 x53 x54 x55 x56 x57 x58 x59 x60 x61 x62 x63 x64 x65 x66 : DV) (σ : Store) : f4_J0 G lo x0 x1 x2 x3 x5 x6 x7 x8 x9 x10 x21 x22 x23 x24 x25 x26 x27 x28 x29 x30 x31 x32 x33 x34 x35 x36 x37 x38 x39 x40 x41 x42 x43 x44 x45 x46 x47 x48 x49 x50 x51 x52 x53 x54 x55 x56 x57 x58 x59 x60 x61 x62 x63 x64 x65 x66 σ =
 (binOp PP .eql 3 x10 (DV.p (PV.int IntKind.i64 (0)))).bind fun x68 =>
 G _ x68 true (some (x7, σ)) σ fun x70 σ15 =>
 G _ x68 true ((len PP 22 x70 σ15).bind fun v => some (v, σ15)) σ15 fun x71 σ16 =>
 G _ x68 true ((fieldAddr PP 27 x3 1).bind fun v => some (v, σ16)) σ16 fun x72 σ17 =>
 G _ x68 true ((fieldAddr PP 25 x72 0).bind fun v => some (v, σ17)) σ17 fun x73 σ18 =>
 G _ x68 true ((load PP 3 x73 σ18).bind fun v => some (v, σ18)) σ18 fun x74 σ19 =>
 G _ x68 true ((binOp PP .neq 3 x71 x74).bind fun v => some (v, σ19)) σ19 fun x75 σ20 =>
 (pickV x68 x75 (DV.p (PV.bool false))).bind fun x76 =>
 condK x76
 (
 f4_J1 G lo x0 x1 x2 x3 x5 x6 x7 x8 x9 (DV.p (PV.int IntKind.i64 (6))) x21 x22 x23 x24 x25 x26 x27 x28 x29 x30 x31 x32 x33 x34 x35 x36 x37 x38 x39 x40 x41 x42 x43 x44 x45 x46 x47 x48 x49 x50 x51 x52 x53 x54 x55 x56 x57 x58 x59 x60 x61 x62 x63 x64 x65 x66 x10 x68 x68 x70 x71 x72 x73 x74 x75 x76 σ20
 )
 (
 f4_J1 G lo x0 x1 x2 x3 x5 x6 x7 x8 x9 x10 x21 x22 x23 x24 x25 x26 x27 x28 x29 x30 x31 x32 x33 x34 x35 x36 x37 x38 x39 x40 x41 x42 x43 x44 x45 x46 x47 x48 x49 x50 x51 x52 x53 x54 x55 x56 x57 x58 x59 x60 x61 x62 x63 x64 x65 x66 x10 x68 x68 x70 x71 x72 x73 x74 x75 x76 σ20
 ) := by kernel_rfl
theorem f4_J1_eq (G : GuardT) (lo : Nat) (x0 x1 x2 x3 x5 x6 x7 x8 x9 x10 x21 x22 x23 x24 x25 x26 x27 x28 x29 x30 x31 x32 x33 x34 x35 x36 x37 x38 x39 x40 x41 x42 x43 x44 x45 x46 x47 x48 x49 x50 x51 x52 x53 x54 x55 x56 x57 x58 x59 x60 x61 x62 x63 x64 x65 x66 x67 x68 x69 x70 x71 x72 x73 x74 x75 x76 : DV) (σ : Store) : f4_J1 G lo x0 x1 x2 x3 x5 x6 x7 x8 x9 x10 x21 x22 x23 x24 x25 x26 x27 x28 x29 x30 x31 x32 x33 x34 x35 x36 x37 x38 x39 x40 x41 x42 x43 x44 x45 x46 x47 x48 x49 x50 x51 x52 x53 x54 x55 x56 x57 x58 x59 x60 x61 x62 x63 x64 x65 x66 x67 x68 x69 x70 x71 x72 x73 x74 x75 x76 σ =
 f4_L0 G lo x1 x3 x5 x7 x8 x9 x10 (DV.p (PV.int IntKind.i64 (0))) σ := by kernel_rfl
theorem f4_L0_eq (G : GuardT) (hG : GuardOk G) (lo : Nat) (x1 x3 x5 x7 x8 x9 x10 x11 : DV) (σ : Store) : f4_L0 G lo x1 x3 x5 x7 x8 x9 x10 x11 σ =
 (len PP 22 x7 σ).bind fun x79 =>
 (binOp PP .lss 3 x11 x79).bind fun x80 =>
 G _ x80 true (some (x10, σ)) σ fun x82 σ21 =>
 G _ x80 true ((binOp PP .eql 3 x82 (DV.p (PV.int IntKind.i64 (0)))).bind fun v => some (v, σ21)) σ21 fun x83 σ22 =>
 (pickV x80 x83 (DV.p (PV.bool false))).bind fun x84 =>
 condK x84
 (
 (indexAddr PP 22 x7 x11).bind fun x89 =>
 (load PP 3 x89 σ22).bind fun x90 =>
 (pureFn CC (DV.fn 22 []) [x90, (DV.p (PV.int IntKind.i64 (0))), (DV.p (PV.int IntKind.i64 (399)))] σ22).bind fun x91 =>
 (unOp .not x91).bind fun x92 =>
 condK x92
 (
 f4_J2 G lo x1 x3 x5 x7 x8 x9 (DV.p (PV.int IntKind.i64 (3))) x11 x11 x7 x79 x80 x80 x82 x83 x84 x7 x11 x89 x90 x91 x92 σ22
 )
 (
 f4_J2 G lo x1 x3 x5 x7 x8 x9 x10 x11 x11 x7 x79 x80 x80 x82 x83 x84 x7 x11 x89 x90 x91 x92 σ22
 )
 )
 (
 (binOp PP .neq 3 x10 (DV.p (PV.int IntKind.i64 (0)))).bind fun x94 =>
 condK x94
 (
 (binOp PP .eql 3 x9 x10).bind fun x97 =>
 G _ x97 true (some (x8, σ22)) σ22 fun x99 σ23 =>
 G _ x97 true ((len PP 22 x99 σ23).bind fun v => some (v, σ23)) σ23 fun x100 σ24 =>
 G _ x97 true ((binOp PP .eql 3 x100 (DV.p (PV.int IntKind.i64 (0)))).bind fun v => some (v, σ24)) σ24 fun x101 σ25 =>
 (pickV x97 x101 (DV.p (PV.bool false))).bind fun x102 =>
 some (x102, σ25)
 )
 (
 (binOp PP .neq 30 x9 (DV.p (PV.int IntKind.i64 (0)))).bind fun x104 =>
 G _ x104 false (some (x8, σ22)) σ22 fun x106 σ26 =>
 G _ x104 false ((len PP 22 x106 σ26).bind fun v => some (v, σ26)) σ26 fun x107 σ27 =>
 G _ x104 false (some (x1, σ27)) σ27 fun x108 σ28 =>
 G _ x104 false ((len PP 22 x108 σ28).bind fun v => some (v, σ28)) σ28 fun x109 σ29 =>
 G _ x104 false ((binOp PP .neq 3 x107 x109).bind fun v => some (v, σ29)) σ29 fun x110 σ30 =>
 (pickV x104 (DV.p (PV.bool true)) x110).bind fun x111 =>
 condK x111
 (
 some ((DV.p (PV.bool false)), σ30)
 )
 (
 f4_L1 G lo x1 x3 x5 x7 x8 (DV.p (PV.int IntKind.i64 (0))) σ30
 )
 )
 ) := (loopF_eq G hG).trans (by kernel_rfl)
theorem f4_J2_eq (G : GuardT) (lo : Nat) (x1 x3 x5 x7 x8 x9 x10 x11 x77 x78 x79 x80 x81 x82 x83 x84 x87 x88 x89 x90 x91 x92 : DV) (σ : Store) : f4_J2 G lo x1 x3 x5 x7 x8 x9 x10 x11 x77 x78 x79 x80 x81 x82 x83 x84 x87 x88 x89 x90 x91 x92 σ =
 (binOp PP .add 3 x11 (DV.p (PV.int IntKind.i64 (1)))).bind fun x86 =>
 f4_L0 G lo x1 x3 x5 x7 x8 x9 x10 x86 σ := by kernel_rfl
theorem f4_L1_eq (G : GuardT) (hG : GuardOk G) (lo : Nat) (x1 x3 x5 x7 x8 x12 : DV) (σ : Store) : f4_L1 G lo x1 x3 x5 x7 x8 x12 σ =
 (len PP 22 x1 σ).bind fun x114 =>
 (binOp PP .lss 3 x12 x114).bind fun x115 =>
 condK x115
 (
 (indexAddr PP 22 x8 x12).bind fun x120 =>
 (load PP 3 x120 σ).bind fun x121 =>
 (indexAddr PP 22 x1 x12).bind fun x125 =>
 (load PP 3 x125 σ).bind fun x126 =>
 (indexAddr PP 22 x7 x126).bind fun x127 =>
 (load PP 3 x127 σ).bind fun x128 =>
 (binOp PP .neq 3 x121 x128).bind fun x129 =>
 condK x129
 (
 some ((DV.p (PV.bool false)), σ)
 )
 (
 (binOp PP .add 3 x12 (DV.p (PV.int IntKind.i64 (1)))).bind fun x117 =>
 f4_L1 G lo x1 x3 x5 x7 x8 x117 σ
 )
 )
 (
 (fieldAddr PP 27 x3 1).bind fun x130 =>
 (load PP 25 x130 σ).bind fun x131 =>
 (fieldAddr PP 42 x5 0).bind fun x132 =>
 (load PP 25 x132 σ).bind fun x133 =>
 (fieldAddr PP 27 x3 3).bind fun x134 =>
 (load PP 22 x134 σ).bind fun x135 =>
 (fieldAddr PP 42 x5 1).bind fun x136 =>
 (load PP 22 x136 σ).bind fun x137 =>
 (build PP 27 [(0, x131), (1, x133), (2, x135), (3, x137)]).bind fun x138 =>
 (zeroOf PP 27).bind fun z13 =>
 (store PP lo 27 (DV.ptr (List.length σ) 0) x138 (σ ++ [Row.mix z13])).bind fun σ31 =>
 (fieldAddr PP 27 x3 0).bind fun x139 =>
 (load PP 25 x139 σ31).bind fun x140 =>
 (fieldAddr PP 42 x5 0).bind fun x141 =>
 (load PP 25 x141 σ31).bind fun x142 =>
 (fieldAddr PP 27 x3 2).bind fun x143 =>
 (load PP 22 x143 σ31).bind fun x144 =>
 (fieldAddr PP 42 x5 1).bind fun x145 =>
 (load PP 22 x145 σ31).bind fun x146 =>
 (build PP 27 [(0, x140), (1, x142), (2, x144), (3, x146)]).bind fun x147 =>
 (zeroOf PP 27).bind fun z14 =>
 (store PP lo 27 (DV.ptr (List.length σ31) 0) x147 (σ31 ++ [Row.mix z14])).bind fun σ32 =>
 (load PP 27 (DV.ptr (List.length σ) 0) σ32).bind fun x148 =>
 (pureFn CC (DV.fn 15 []) [x148] σ32).bind fun x149 =>
 (binOp PP .neq 3 x149 (DV.p (PV.int IntKind.i64 (0)))).bind fun x150 =>
 G _ x150 false ((load PP 27 (DV.ptr (List.length σ) 0) σ32).bind fun v => some (v, σ32)) σ32 fun x152 σ33 =>
 G _ x150 false (some (x7, σ33)) σ33 fun x153 σ34 =>
 G _ x150 false ((pureFn CC (DV.fn 21 []) [x152, x153] σ34).bind fun v => some (v, σ34)) σ34 fun x154 σ35 =>
 G _ x150 false ((binOp PP .neq 3 x154 (DV.p (PV.int IntKind.i64 (0)))).bind fun v => some (v, σ35)) σ35 fun x155 σ36 =>
 (pickV x150 (DV.p (PV.bool true)) x155).bind fun x156 =>
 condK x156
 (
 some ((DV.p (PV.bool true)), σ36)
 )
 (
 (load PP 27 x3 σ36).bind fun x158 =>
 (pureFn CC (DV.fn 13 []) [x158] σ36).bind fun x159 =>
 (pureFn CC (DV.fn 14 []) [x1] σ36).bind fun x161 =>
 (pureFn CC (DV.fn 23 []) [x159, x161] σ36).bind fun x162 =>
 (extractV x162 0).bind fun x163 =>
 (extractV x162 1).bind fun x164 =>
 (zeroOf PP 47).bind fun z15 =>
 (store PP lo 47 (DV.ptr (List.length σ36) 0) x163 (σ36 ++ [Row.mix z15])).bind fun σ37 =>
 (load PP 27 (DV.ptr (List.length σ) 0) σ37).bind fun x166 =>
 (pureFn CC (DV.fn 13 []) [x166] σ37).bind fun x167 =>
 (pureFn CC (DV.fn 14 []) [x7] σ37).bind fun x169 =>
 (pureFn CC (DV.fn 23 []) [x167, x169] σ37).bind fun x170 =>
 (extractV x170 0).bind fun x171 =>
 (extractV x170 1).bind fun x172 =>
 (zeroOf PP 47).bind fun z17 =>
 (store PP lo 47 (DV.ptr (List.length σ37) 0) x171 (σ37 ++ [Row.mix z17])).bind fun σ38 =>
 (binOp PP .neq 30 x164 (DV.p (PV.int IntKind.i64 (0)))).bind fun x174 =>
 G _ x174 false (some (x172, σ38)) σ38 fun x176 σ39 =>
 G _ x174 false ((binOp PP .neq 30 x176 (DV.p (PV.int IntKind.i64 (0)))).bind fun v => some (v, σ39)) σ39 fun x177 σ40 =>
 (pickV x174 (DV.p (PV.bool true)) x177).bind fun x178 =>
 condK x178
 (
 (binOp PP .eql 30 x164 (DV.p (PV.int IntKind.i64 (31)))).bind fun x180 =>
 G _ x180 false (some (x172, σ40)) σ40 fun x182 σ41 =>
 G _ x180 false ((binOp PP .eql 30 x182 (DV.p (PV.int IntKind.i64 (31)))).bind fun v => some (v, σ41)) σ41 fun x183 σ42 =>
 (pickV x180 (DV.p (PV.bool true)) x183).bind fun x184 =>
 some (x184, σ42)
 )
 (
 (load PP 27 (DV.ptr (List.length σ31) 0) σ40).bind fun x186 =>
 (pureFn CC (DV.fn 13 []) [x186] σ40).bind fun x187 =>
 (pureFn CC (DV.fn 14 []) [x8] σ40).bind fun x189 =>
 (pureFn CC (DV.fn 23 []) [x187, x189] σ40).bind fun x190 =>
 (extractV x190 0).bind fun x191 =>
 (extractV x190 1).bind fun x192 =>
 (zeroOf PP 47).bind fun z19 =>
 (store PP lo 47 (DV.ptr (List.length σ40) 0) x191 (σ40 ++ [Row.mix z19])).bind fun σ43 =>
 (binOp PP .eql 30 x192 (DV.p (PV.int IntKind.i64 (0)))).bind fun x194 =>
 some (x194, σ43)
 )
 )
 ) := (loopF_eq G hG).trans (by kernel_rfl)
theorem F4_eq (G : GuardT) (lo : Nat) (x0 x1 x2 : DV) (σ : Store) : F4 G lo x0 x1 x2 σ =
 (boxV x0).bind fun z3 =>
 (boxV x2).bind fun z5 =>
 (pureFn CC (DV.fn 10 []) [] ((σ ++ [Row.mix z3]) ++ [Row.mix z5])).bind fun x21 =>
 (unOp .not x21).bind fun x22 =>
 condK x22
 (
 some ((DV.p (PV.bool false)), ((σ ++ [Row.mix z3]) ++ [Row.mix z5]))
 )
 (
 (fieldAddr PP 42 (DV.ptr (List.length (σ ++ [Row.mix z3])) 0) 2).bind fun x23 =>
 (load PP 22 x23 ((σ ++ [Row.mix z3]) ++ [Row.mix z5])).bind fun x24 =>
 (load PP 27 (DV.ptr (List.length σ) 0) ((σ ++ [Row.mix z3]) ++ [Row.mix z5])).bind fun x25 =>
 (pureFn CC (DV.fn 11 []) [x25] ((σ ++ [Row.mix z3]) ++ [Row.mix z5])).bind fun x26 =>
 (unOp .not x26).bind fun x27 =>
 G _ x27 false (some (x1, ((σ ++ [Row.mix z3]) ++ [Row.mix z5]))) ((σ ++ [Row.mix z3]) ++ [Row.mix z5]) fun x29 σ1 =>
 G _ x27 false ((len PP 22 x29 σ1).bind fun v => some (v, σ1)) σ1 fun x30 σ2 =>
 G _ x27 false ((binOp PP .gtr 3 x30 (DV.p (PV.int IntKind.i64 (45)))).bind fun v => some (v, σ2)) σ2 fun x31 σ3 =>
 (pickV x27 (DV.p (PV.bool true)) x31).bind fun x32 =>
 G _ x32 false (some (x24, σ3)) σ3 fun x34 σ4 =>
 G _ x32 false ((len PP 22 x34 σ4).bind fun v => some (v, σ4)) σ4 fun x35 σ5 =>
 G _ x32 false ((binOp PP .gtr 3 x35 (DV.p (PV.int IntKind.i64 (45)))).bind fun v => some (v, σ5)) σ5 fun x36 σ6 =>
 (pickV x32 (DV.p (PV.bool true)) x36).bind fun x37 =>
 G _ x37 false ((fieldAddr PP 42 (DV.ptr (List.length (σ ++ [Row.mix z3])) 0) 0).bind fun v => some (v, σ6)) σ6 fun x39 σ7 =>
 G _ x37 false ((load PP 25 x39 σ7).bind fun v => some (v, σ7)) σ7 fun x40 σ8 =>
 G _ x37 false ((pureFn CC (DV.fn 19 []) [x40] σ8).bind fun v => some (v, σ8)) σ8 fun x41 σ9 =>
 G _ x37 false ((unOp .not x41).bind fun v => some (v, σ9)) σ9 fun x42 σ10 =>
 (pickV x37 (DV.p (PV.bool true)) x42).bind fun x43 =>
 G _ x43 false ((fieldAddr PP 42 (DV.ptr (List.length (σ ++ [Row.mix z3])) 0) 1).bind fun v => some (v, σ10)) σ10 fun x45 σ11 =>
 G _ x43 false ((load PP 22 x45 σ11).bind fun v => some (v, σ11)) σ11 fun x46 σ12 =>
 G _ x43 false ((len PP 22 x46 σ12).bind fun v => some (v, σ12)) σ12 fun x47 σ13 =>
 G _ x43 false ((binOp PP .gtr 3 x47 (DV.p (PV.int IntKind.i64 (45)))).bind fun v => some (v, σ13)) σ13 fun x48 σ14 =>
 (pickV x43 (DV.p (PV.bool true)) x48).bind fun x49 =>
 condK x49
 (
 some ((DV.p (PV.bool true)), σ14)
 )
 (
 (load PP 27 (DV.ptr (List.length σ) 0) σ14).bind fun x51 =>
 (pureFn CC (DV.fn 13 []) [x51] σ14).bind fun x52 =>
 (pureFn CC (DV.fn 14 []) [x1] σ14).bind fun x54 =>
 (pureFn CC (DV.fn 14 []) [x24] σ14).bind fun x56 =>
 (pureFn CC (DV.fn 20 []) [x52, x54, x56] σ14).bind fun x57 =>
 (extractV x57 0).bind fun x58 =>
 (extractV x57 1).bind fun x59 =>
 (load PP 27 (DV.ptr (List.length σ) 0) σ14).bind fun x60 =>
 (pureFn CC (DV.fn 15 []) [x60] σ14).bind fun x61 =>
 (binOp PP .eql 3 x61 (DV.p (PV.int IntKind.i64 (0)))).bind fun x63 =>
 condK x63
 (
 (load PP 27 (DV.ptr (List.length σ) 0) σ14).bind fun x64 =>
 (pureFn CC (DV.fn 21 []) [x64, x1] σ14).bind fun x66 =>
 f4_J0 G lo x0 x1 x2 (DV.ptr (List.length σ) 0) (DV.ptr (List.length (σ ++ [Row.mix z3])) 0) (DV.p (PV.bool false)) x24 x58 x59 x66 x21 x22 x23 x24 x25 x26 x27 x27 x29 x30 x31 x32 x32 x34 x35 x36 x37 x37 x39 x40 x41 x42 x43 x43 x45 x46 x47 x48 x49 x57 x51 x52 x1 x54 x24 x56 x57 x58 x59 x60 x61 x61 x63 x64 x1 x66 σ14
 )
 (
 f4_J0 G lo x0 x1 x2 (DV.ptr (List.length σ) 0) (DV.ptr (List.length (σ ++ [Row.mix z3])) 0) (DV.p (PV.bool false)) x24 x58 x59 x61 x21 x22 x23 x24 x25 x26 x27 x27 x29 x30 x31 x32 x32 x34 x35 x36 x37 x37 x39 x40 x41 x42 x43 x43 x45 x46 x47 x48 x49 x57 x51 x52 x1 x54 x24 x56 x57 x58 x59 x60 x61 x61 x63 ud ud ud σ14
 )
 )
 ) := by kernel_rfl
theorem F4_call {lo : Nat} {x0 x1 x2 : DV} {σ : Store} {r : DV × Store} (h : F4 guardT lo x0 x1 x2 σ = some r) : CC lo 4 [x0, x1, x2] σ = some r :=
 callL_run Go.Proofs.Try.func4 (by decide +kernel) rfl (by decide +kernel) h
end Go.D
end
/- CheckMapping. -/
section
set_option linter.unusedVariables false
set_option linter.unusedSimpArgs false
namespace Go.D

theorem neq22_nn : binOp PP .neq 22 (.p .nilsl) (.p .nilsl) = some (.p (.bool false)) := Eq.trans (by kernel_rfl) rfl
theorem neq22_sl (ex : Bool) (n : Nat) (cs : List PV) : binOp PP .neq 22 (.p (.sl ex n cs)) (.p .nilsl) = some (.p (.bool true)) := Eq.trans (by kernel_rfl) rfl
theorem neq22_o (o : OI) : binOp PP .neq 22 (.p (eSl o)) (.p .nilsl) = some (.p (.bool o.isSome)) := by
  cases o with
  | none => exact neq22_nn
  | some l => exact neq22_sl _ _ _
theorem zro47 : zeroOf PP 47 = some [.p (pI 0), .p (pI 0), .p .nilsl] := Eq.trans (by kernel_rfl) rfl
theorem s47 : size? PP 47 = some 3 := Eq.trans (by kernel_rfl) rfl
theorem build47 (k a : Int) (c : PV) : build PP 47 [(0, .p (pI k)), (1, .p (pI a)), (2, .p c)] = some (.agg [.p (pI k), .p (pI a), .p c]) := Eq.trans (by kernel_rfl) rfl
theorem build47_0 : build PP 47 [] = some (.agg [.p (pI 0), .p (pI 0), .p .nilsl]) := Eq.trans (by kernel_rfl) rfl
theorem st47 {σ : Store} {r : Nat} {x y z : DV} (h : σ[r]? = some (.mix [x, y, z])) (a b c : PV) : store PP 0 47 (.ptr r 0) (.agg [.p a, .p b, .p c]) σ = some (σ.set r (.mix [.p a, .p b, .p c])) := by
  simp only [store, s47, DV.cells, storeN, h]
  simp [DV.one, splice]
theorem cell47 {σ : Store} {r : Nat} {x y z : DV} (h : σ[r]? = some (.mix [x, y, z])) : cellV PP 47 (.ptr r 0) σ = some (.agg [x, y, z]) := by
  have e : cellV PP 47 (.ptr r 0) σ = (loadN σ 3 (.ptr r 0)).map .agg := Eq.trans (by kernel_rfl) rfl
  rw [e, loadN_ptr (vs := [x, y, z]) h rfl (by simp)]
  rfl

/-! ### The form of a mapping -/
def badM (p : Pair) (z : Int) : Bool := !inR z 0 (pred p.up.n)
def formE (p : Pair) (l : List Int) : Int := if (l.length : Int) = p.lo.n then (bif l.any (badM p) then 3 else 0) else 6
def mapE (p : Pair) (l : List Int) : Int := if errP p = 0 then formE p l else errP p

section
variable {p : Pair} {n m : Nat} {o : Option (List Int)}

theorem S92 {σ : Store} {r : Nat} {z : Int} (h : σ[r]? = some (.mix (ePair p))) : pureV CC 92 [.p (pI z), .ptr r 0] σ = some (.p (.bool (badM p z))) := by
  refine pureV_rows rfl rfl (F92_call (r := (.p (.bool (badM p z)), σ)) ?_) rfl
  rw [F92_eq]
  simp only [fa27_1, fa25_0, shift_ptr, Nat.zero_add, Nat.add_zero, load3, pr_3 h, obind, b_sub, pureFn_fn, List.append_nil, S53, not_bool, badM]
theorem S84 {σ : Store} (hl : (L o).length ≤ 1000) : pureV CC 84 [.agg (ePair p), .p (eSl o)] σ = some (.p (pI (formE p (L o)))) := by
  refine pureV_any (by simp [pair_view, sl_view]) fun lo σ0 hs => ⟨.p (pI (formE p (L o))), σ0 ++ [.mix (ePair p)], F84_call ?_, rfl⟩
  have g0 : (σ0 ++ [Row.mix (ePair p)])[σ0.length]? = some (.mix (ePair p)) := get_snoc
  have hS : pureV CC 51 [.p (eSl o), .fn 92 [.ptr σ0.length 0]] (σ0 ++ [.mix (ePair p)]) = some (.p (.bool ((L o).any (badM p)))) := by
    refine S51' hl fun σ1 hat v hv => ?_
    rcases hat with ⟨_, hf⟩ | rfl
    · exact absurd hf (by simp [rowFree1])
    · exact S92 g0
  rw [F84_eq]
  simp only [box_pair, obind, len22, fa27_0, fa25_0, shift_ptr, Nat.zero_add, Nat.add_zero, load3, pr_0 g0, b_neq, formE]
  by_cases e : ((L o).length : Int) = p.lo.n
  · simp only [e, decide_true, Bool.not_true, condK_false, if_true, pureFn_fn, List.append_nil, hS, obind, not_bool, S56]
    cases (L o).any (badM p) <;> rfl
  · simp only [e, decide_false, Bool.not_false, condK_true, if_false]
theorem S55 {σ : Store} (hp : Small p) (hl : (L o).length ≤ 1000) : pureV CC 55 [.agg (ePair p), .p (eSl o)] σ = some (.p (pI (mapE p (L o)))) := by
  refine pureV_any (by simp [pair_view, sl_view]) fun lo σ0 hs => ⟨.p (pI (mapE p (L o))), σ0 ++ [.mix (ePair p)], F55_call ?_, rfl⟩
  have g0 : (σ0 ++ [Row.mix (ePair p)])[σ0.length]? = some (.mix (ePair p)) := get_snoc
  rw [F55_eq]
  simp only [box_pair, obind, load27, pr_all g0, omap, pureFn_fn, List.append_nil, S41 hp, b_neq, mapE]
  by_cases he : errP p = 0
  · simp only [he, decide_true, Bool.not_true, condK_false, S84 hl, obind, if_true]
  · simp only [he, decide_false, Bool.not_false, condK_true, if_false]

theorem L21 {σ : Store} {r lo : Nat} (h0 : σ[r]? = some (.mix (ePair p))) (hl : (L o).length ≤ 1000) :
    ∀ (k i : Nat), (L o).length - i = k → i ≤ (L o).length → f21_L0 guardT lo (.p (eSl o)) (.ptr r 0) (.p (pI (i : Nat))) σ = some (.p (pI (bif ((L o).drop i).any (badM p) then 3 else 0)), σ)
  | 0, i, hk, hi => by
    have : ¬ (i : Int) < ((L o).length : Nat) := by omega
    have hd : (L o).drop i = [] := List.drop_eq_nil_of_le (by omega)
    rw [f21_L0_eq guardT rfl, hd]
    simp only [len22, b_lss, obind, this, decide_false, condK_false]
    rfl
  | k + 1, i, hk, hi => by
    have h : i < (L o).length := by omega
    have h' : (i : Int) < ((L o).length : Nat) := by omega
    rw [f21_L0_eq guardT rfl, drop_cons h]
    simp only [len22, b_lss, obind, h', decide_true, condK_true, idx22 h, load3, load1_ints h, fa27_1, fa25_0, shift_ptr, Nat.zero_add, Nat.add_zero, pr_3 h0, b_sub, pureFn_fn, List.append_nil, S22, not_bool, List.any_cons]
    have hb : badM p (L o)[i] = !inR (L o)[i] 0 (pred p.up.n) := rfl
    rw [hb]
    cases e : inR (L o)[i] 0 (pred p.up.n) with
    | false => simp only [Bool.not_false, condK_true, Bool.true_or]; rfl
    | true =>
      simp only [Bool.not_true, condK_false, b_add, obind, wrap_succ (show i ≤ 1000000 by omega), Bool.false_or]
      exact L21 h0 hl k (i + 1) (by omega) (by omega)
theorem S21 {σ : Store} (hl : (L o).length ≤ 1000) : pureV CC 21 [.agg (ePair p), .p (eSl o)] σ = some (.p (pI (formE p (L o)))) := by
  refine pureV_any (by simp [pair_view, sl_view]) fun lo σ0 hs => ⟨.p (pI (formE p (L o))), σ0 ++ [.mix (ePair p)], F21_call ?_, rfl⟩
  have g0 : (σ0 ++ [Row.mix (ePair p)])[σ0.length]? = some (.mix (ePair p)) := get_snoc
  rw [F21_eq]
  simp only [box_pair, obind, len22, fa27_0, fa25_0, shift_ptr, Nat.zero_add, Nat.add_zero, load3, pr_0 g0, b_neq, formE]
  by_cases e : ((L o).length : Int) = p.lo.n
  · simp only [e, decide_true, Bool.not_true, condK_false, if_true]
    have := L21 (lo := lo) g0 hl _ 0 rfl (Nat.zero_le _)
    rw [List.drop_zero] at this
    exact this
  · simp only [e, decide_false, Bool.not_false, condK_true, if_false]

theorem reach_in (hp : Nice p n m) (hi : Inits p n m) {z : Int} (h : ReachG p.lo z) : 0 ≤ z ∧ z < m := by
  induction h with
  | init h => exact hi.lo _ h
  | @step e h he _ => have := hp.ls e he; omega

/-- A right mapping. -/
structure MapOk (n m : Nat) (l : List Int) : Prop where
  len : l.length = m
  rng : ∀ s, s < m → 0 ≤ l.getD s 0 ∧ l.getD s 0 < n
theorem mapOk_of (hp : Nice p n m) {l : List Int} (h : formE p l = 0) : MapOk n m l := by
  have pu : pred (n : Nat) = (n : Nat) - 1 := wrap_ok (by omega) (by have := hp.n2; omega)
  unfold formE at h
  split at h
  · rename_i e
    have hlen : l.length = m := by have := hp.ln; omega
    have hb : l.any (badM p) = false := by
      cases hx : l.any (badM p) with
      | false => rfl
      | true => rw [hx] at h; exact absurd h (by decide)
    refine ⟨hlen, fun s hs => ?_⟩
    have hs2 : s < l.length := by omega
    rw [getD_at _ hs2]
    have hnb : badM p l[s] = false := by
      cases hx : badM p l[s] with
      | false => rfl
      | true => rw [List.any_eq_true.2 ⟨_, List.getElem_mem hs2, hx⟩] at hb; exact absurd hb (by simp)
    simp only [badM, inR, hp.un, pu, Bool.not_eq_false', Bool.and_eq_true, decide_eq_true_eq] at hnb
    omega
  · omega

/-- What a refinement is. -/
structure Acc (p : Pair) (l : List Int) : Prop where
  lab : ∀ s, ReachG p.lo s → (L p.ll).getD s.toNat 0 = (L p.ul).getD (l.getD s.toNat 0).toNat 0
  init : ∀ s ∈ L p.lo.init, hasI (L p.up.init) (l.getD s.toNat 0) = true
  step : ∀ e ∈ L p.lo.edges, ReachG p.lo e.f → follows p.up (l.getD e.f.toNat 0) (l.getD e.t.toNat 0) = true

def tup3 (a b c : PV) (e : Int) : DV := .tuple [.agg [.p a, .p b, .p c], .p (pI e)]
/-- A result that tells a fault. -/
def Fault (p : Pair) (r : Option (DV × Store)) : Prop := ∃ a b c σ', r = some (tup3 a b c 31, σ') ∧ loosen c = c ∧ loosen a = a ∧ loosen b = b

theorem fault_fin {σ : Store} {x y z : DV} (h1 : σ[1]? = some (.mix [x, y, z])) (k a : Int) (o2 : OI) :
    Fault p ((build PP 47 [(0, .p (pI k)), (1, .p (pI a)), (2, .p (eSl o2))]).bind fun x53 => (store PP 0 47 (.ptr 1 0) x53 σ).bind fun σ16 => (cellV PP 47 (.ptr 1 0) σ16).bind fun v0 => some ((DV.tuple [v0, .p (pI 31)]), σ16)) := by
  refine ⟨pI k, pI a, eSl o2, σ.set 1 (.mix [.p (pI k), .p (pI a), .p (eSl o2)]), ?_, loosen_sl o2, rfl, rfl⟩
  rw [build47, obind, st47 h1, obind, cell47 (List.getElem?_set_self (get_lt h1))]
  rfl

theorem L23_2 (hp : Nice p n m) (hi : Inits p n m) (hm : MapOk n m (L o)) {P : List OI} (hP : P.length = m) (hPr : ∀ s, s < m → (P.getD s none ≠ none ↔ ReachG p.lo (s : Nat))) :
    ∀ (k i : Nat) (σ : Store) (x y z : DV), (L p.lo.edges).length - i = k → i ≤ (L p.lo.edges).length → σ[1]? = some (.mix [x, y, z]) →
      (Fault p (f23_L2 guardT 0 (.p (eSl o)) (.ptr 1 0) (.pptr (graphsV p n) 0) (.p (eLs (some P))) (.p (eEs p.lo.edges)) (.p (pI ((L p.lo.edges).length : Nat))) (.p (pI (i : Nat))) σ) ∧ ∃ e ∈ L p.lo.edges, ReachG p.lo e.f ∧ follows p.up ((L o).getD e.f.toNat 0) ((L o).getD e.t.toNat 0) = false) ∨
      (∃ σ', f23_L2 guardT 0 (.p (eSl o)) (.ptr 1 0) (.pptr (graphsV p n) 0) (.p (eLs (some P))) (.p (eEs p.lo.edges)) (.p (pI ((L p.lo.edges).length : Nat))) (.p (pI (i : Nat))) σ = some (tup3 (pI 0) (pI 0) .nilsl 0, σ')) ∧ ∀ j, (h : j < (L p.lo.edges).length) → i ≤ j → ReachG p.lo (L p.lo.edges)[j].f → follows p.up ((L o).getD (L p.lo.edges)[j].f.toNat 0) ((L o).getD (L p.lo.edges)[j].t.toNat 0) = true
  | 0, i, σ, x, y, z, hk, hil, h1 => by
    have : ¬ (i : Int) < ((L p.lo.edges).length : Nat) := by omega
    refine .inr ⟨⟨σ.set 1 (.mix [.p (pI 0), .p (pI 0), .p .nilsl]), ?_⟩, fun j h hj => absurd h (by omega)⟩
    rw [f23_L2_eq guardT rfl]
    simp only [b_lss, obind, this, decide_false, condK_false, build47_0, st47 h1, cell47 (List.getElem?_set_self (get_lt h1))]
    rfl
  | k + 1, i, σ, x, y, z, hk, hil, h1 => by
    have hlt : i < (L p.lo.edges).length := by omega
    have h' : (i : Int) < ((L p.lo.edges).length : Nat) := by omega
    have hle := hp.sm.le
    have w : IntKind.wrap .i64 ((i : Int) + 1) = ((i + 1 : Nat) : Int) := wrap_succ (by omega)
    obtain ⟨v1, v2, v3, v4⟩ := hp.ls _ (List.getElem_mem hlt)
    obtain ⟨s, hs⟩ : ∃ s : Nat, (L p.lo.edges)[i].f = (s : Nat) := ⟨_, (Int.toNat_of_nonneg v1).symm⟩
    obtain ⟨t, ht⟩ : ∃ t : Nat, (L p.lo.edges)[i].t = (t : Nat) := ⟨_, (Int.toNat_of_nonneg v3).symm⟩
    have hsm : s < m := by omega
    have htm : t < m := by omega
    have hsn := store_new100 σ (L p.lo.edges)[i] [.p (pI 0), .p (pI 0), .p (pI 0)] rfl
    have hx : (σ ++ [Row.mix (edgD (L p.lo.edges)[i])])[σ.length]? = some (.mix (edgD (L p.lo.edges)[i])) := get_snoc
    have h1' : (σ ++ [Row.mix (edgD (L p.lo.edges)[i])])[1]? = some (.mix [x, y, z]) := get_old h1
    have hl0 : load1 (.ptr σ.length 0) (σ ++ [Row.mix (edgD (L p.lo.edges)[i])]) = some (.p (pI (s : Nat))) := by rw [← hs]; exact load1_ptr hx rfl
    have hl1 : load1 (.ptr σ.length 1) (σ ++ [Row.mix (edgD (L p.lo.edges)[i])]) = some (.p (pI (t : Nat))) := by rw [← ht]; exact load1_ptr hx rfl
    have hPl : s < (L (some P)).length := by show s < P.length; omega
    have hPe : (L (some P)).getD s none = P.getD s none := rfl
    have hso : s < (L o).length := by rw [hm.len]; exact hsm
    have hto : t < (L o).length := by rw [hm.len]; exact htm
    obtain ⟨r1, r2⟩ := hm.rng s hsm
    obtain ⟨r3, r4⟩ := hm.rng t htm
    have es : (((L o).getD s 0).toNat : Int) = (L o).getD s 0 := by omega
    have et : (((L o).getD t 0).toNat : Int) = (L o).getD t 0 := by omega
    have hS : ∀ σ, pureV CC 45 [.pptr (graphsV p n) 0, .p (pI ((L o).getD s 0)), .p (pI ((L o).getD t 0))] σ = some (.p (.bool (follows p.up ((L o).getD s 0) ((L o).getD t 0)))) := by
      intro σ
      have := S45 (p := p) (n := n) (u := ((L o).getD s 0).toNat) (v := ((L o).getD t 0).toNat) (σ := σ) (by omega) (by omega)
      rwa [es, et] at this
    have hsn2 : ((s : Nat) : Int).toNat = s := Int.toNat_natCast s
    have htn2 : ((t : Nat) : Int).toNat = t := Int.toNat_natCast t
    have ih := L23_2 hp hi hm hP hPr k (i + 1) _ x y z (by omega) (by omega) h1'
    have hgo : ((P.getD s none).isSome = true → follows p.up ((L o).getD s 0) ((L o).getD t 0) = true) →
        f23_L2 guardT 0 (.p (eSl o)) (.ptr 1 0) (.pptr (graphsV p n) 0) (.p (eLs (some P))) (.p (eEs p.lo.edges)) (.p (pI ((L p.lo.edges).length : Nat))) (.p (pI (i : Nat))) σ =
        f23_L2 guardT 0 (.p (eSl o)) (.ptr 1 0) (.pptr (graphsV p n) 0) (.p (eLs (some P))) (.p (eEs p.lo.edges)) (.p (pI ((L p.lo.edges).length : Nat))) (.p (pI (i + 1 : Nat))) (σ ++ [Row.mix (edgD (L p.lo.edges)[i])]) := by
      intro hok
      rw [f23_L2_eq guardT rfl]
      cases e1 : (P.getD s none).isSome with
      | false => simp only [b_lss, obind, h', decide_true, condK_true, idx23 hlt, load100, load100_D hlt, getD_at _ hlt, zero100, hsn, fa100_0, fa100_1, shift_ptr, Nat.zero_add, load3, hl0, idx51 hPl, load22, load1_ls hPl, neq22_o, hPe, e1, guard_ft, guard_sk, pickV_false, condK_false, b_add, w]
      | true => simp only [b_lss, obind, h', decide_true, condK_true, idx23 hlt, load100, load100_D hlt, getD_at _ hlt, zero100, hsn, fa100_0, fa100_1, shift_ptr, Nat.zero_add, load3, hl0, hl1, idx51 hPl, load22, load1_ls hPl, neq22_o, hPe, e1, guard_tt, idx22 hso, idx22 hto, load1_getD hso, load1_getD hto, pureFn_fn, List.append_nil, hS, hok e1, not_bool, Bool.not_true, pickV_true, condK_false, b_add, w]
    have hreach : (P.getD s none).isSome = true ↔ ReachG p.lo (s : Nat) := by
      rw [← hPr s hsm, Option.isSome_iff_ne_none]
    by_cases hbad : (P.getD s none).isSome = true ∧ follows p.up ((L o).getD s 0) ((L o).getD t 0) = false
    · obtain ⟨e1, e2⟩ := hbad
      refine .inl ⟨?_, (L p.lo.edges)[i], List.getElem_mem hlt, by rw [hs]; exact hreach.1 e1, by rw [hs, ht, hsn2, htn2]; exact e2⟩
      rw [f23_L2_eq guardT rfl]
      simp only [b_lss, obind, h', decide_true, condK_true, idx23 hlt, load100, load100_D hlt, getD_at _ hlt, zero100, hsn, fa100_0, fa100_1, shift_ptr, Nat.zero_add, load3, hl0, hl1, idx51 hPl, load22, load1_ls hPl, neq22_o, hPe, e1, guard_tt, idx22 hso, idx22 hto, load1_getD hso, load1_getD hto, pureFn_fn, List.append_nil, hS, e2, not_bool, Bool.not_false, pickV_true]
      exact fault_fin h1' 2 (i : Nat) _
    · have hok : (P.getD s none).isSome = true → follows p.up ((L o).getD s 0) ((L o).getD t 0) = true := by
        intro e1
        cases e2 : follows p.up ((L o).getD s 0) ((L o).getD t 0) with
        | true => rfl
        | false => exact absurd ⟨e1, e2⟩ hbad
      rw [hgo hok]
      rcases ih with h2 | ⟨h2, h3⟩
      · exact .inl h2
      · refine .inr ⟨h2, fun j h hj hr => ?_⟩
        rcases Nat.eq_or_lt_of_le hj with e | e
        · subst e
          rw [hs, ht, hsn2, htn2]
          rw [hs] at hr
          exact hok (hreach.2 hr)
        · exact h3 j h e hr

theorem L23_1 (hp : Nice p n m) (hi : Inits p n m) (hm : MapOk n m (L o)) {P : List OI} (hP : P.length = m) {σ : Store} {x y z : DV} (h0 : σ[0]? = some (.mix (ePair p))) (h1 : σ[1]? = some (.mix [x, y, z])) :
    ∀ (k i : Nat), (L p.lo.init).length - i = k → i ≤ (L p.lo.init).length →
      (Fault p (f23_L1 guardT 0 (.p (eSl o)) (.ptr 0 0) (.ptr 1 0) (.pptr (graphsV p n) 0) (.p (eLs (some P))) (.p (eSl p.lo.init)) (.p (pI ((L p.lo.init).length : Nat))) (.p (pI (i : Nat))) σ) ∧ ∃ s ∈ L p.lo.init, hasI (L p.up.init) ((L o).getD s.toNat 0) = false) ∨
      (f23_L1 guardT 0 (.p (eSl o)) (.ptr 0 0) (.ptr 1 0) (.pptr (graphsV p n) 0) (.p (eLs (some P))) (.p (eSl p.lo.init)) (.p (pI ((L p.lo.init).length : Nat))) (.p (pI (i : Nat))) σ = f23_L2 guardT 0 (.p (eSl o)) (.ptr 1 0) (.pptr (graphsV p n) 0) (.p (eLs (some P))) (.p (eEs p.lo.edges)) (.p (pI ((L p.lo.edges).length : Nat))) (.p (pI (0 : Nat))) σ) ∧ ∀ j, (h : j < (L p.lo.init).length) → i ≤ j → hasI (L p.up.init) ((L o).getD (L p.lo.init)[j].toNat 0) = true
  | 0, i, hk, hil => by
    have : ¬ (i : Int) < ((L p.lo.init).length : Nat) := by omega
    refine .inr ⟨?_, fun j h hj => absurd h (by omega)⟩
    rw [f23_L1_eq guardT rfl]
    simp only [b_lss, obind, this, decide_false, condK_false, fa27_0, fa25_2, shift_ptr, Nat.zero_add, Nat.add_zero, load23, pr_2 h0, len23]
    rfl
  | k + 1, i, hk, hil => by
    have hlt : i < (L p.lo.init).length := by omega
    have h' : (i : Int) < ((L p.lo.init).length : Nat) := by omega
    have hli := hp.sm.li
    have hui := hp.sm.ui
    have w : IntKind.wrap .i64 ((i : Int) + 1) = ((i + 1 : Nat) : Int) := wrap_succ (by omega)
    obtain ⟨v1, v2⟩ := hi.lo _ (List.getElem_mem hlt)
    obtain ⟨s, hs⟩ : ∃ s : Nat, (L p.lo.init)[i] = (s : Nat) := ⟨_, (Int.toNat_of_nonneg v1).symm⟩
    have hsm : s < m := by omega
    have hPl : s < (L (some P)).length := by show s < P.length; omega
    have hso : s < (L o).length := by rw [hm.len]; exact hsm
    have hsn2 : ((s : Nat) : Int).toNat = s := Int.toNat_natCast s
    have ih := L23_1 hp hi hm hP (σ := σ) h0 h1 k (i + 1) (by omega) (by omega)
    rw [f23_L1_eq guardT rfl]
    simp only [b_lss, obind, h', decide_true, condK_true, idx22 hlt, load3, load1_ints hlt, hs, fa27_1, fa25_1, shift_ptr, Nat.zero_add, load22, pr_4 h0, idx22 hso, load1_getD hso, pureFn_fn, List.append_nil, S46 hui, not_bool]
    cases e : hasI (L p.up.init) ((L o).getD s 0) with
    | false =>
      refine .inl ⟨?_, (L p.lo.init)[i], List.getElem_mem hlt, by rw [hs, hsn2]; exact e⟩
      simp only [Bool.not_false, condK_true, idx51 hPl, obind, load1_ls hPl]
      exact fault_fin h1 1 (s : Nat) _
    | true =>
      simp only [Bool.not_true, condK_false, b_add, obind, w]
      rcases ih with h2 | ⟨h2, h3⟩
      · exact .inl h2
      · refine .inr ⟨h2, fun j h hj => ?_⟩
        rcases Nat.eq_or_lt_of_le hj with e2 | e2
        · subst e2
          rw [hs, hsn2]; exact e
        · exact h3 j h e2

theorem L23_0 (hp : Nice p n m) (hi : Inits p n m) (hm : MapOk n m (L o)) {P : List OI} (hP : P.length = m) (hPr : ∀ s, s < m → (P.getD s none ≠ none ↔ ReachG p.lo (s : Nat))) {σ : Store} {x y z : DV} (h0 : σ[0]? = some (.mix (ePair p))) (h1 : σ[1]? = some (.mix [x, y, z])) :
    ∀ (k i : Nat), m - i = k → i ≤ m →
      (Fault p (f23_L0 guardT 0 (.p (eSl o)) (.ptr 0 0) (.ptr 1 0) (.pptr (graphsV p n) 0) (.p (eLs (some P))) (.p (eLs (some P))) (.p (pI (m : Nat))) (.p (pI (i : Nat))) σ) ∧ ∃ s : Nat, s < m ∧ ReachG p.lo (s : Nat) ∧ (L p.ll).getD s 0 ≠ (L p.ul).getD ((L o).getD s 0).toNat 0) ∨
      (f23_L0 guardT 0 (.p (eSl o)) (.ptr 0 0) (.ptr 1 0) (.pptr (graphsV p n) 0) (.p (eLs (some P))) (.p (eLs (some P))) (.p (pI (m : Nat))) (.p (pI (i : Nat))) σ = f23_L1 guardT 0 (.p (eSl o)) (.ptr 0 0) (.ptr 1 0) (.pptr (graphsV p n) 0) (.p (eLs (some P))) (.p (eSl p.lo.init)) (.p (pI ((L p.lo.init).length : Nat))) (.p (pI (0 : Nat))) σ) ∧ ∀ s : Nat, i ≤ s → s < m → ReachG p.lo (s : Nat) → (L p.ll).getD s 0 = (L p.ul).getD ((L o).getD s 0).toNat 0
  | 0, i, hk, hil => by
    have : ¬ (i : Int) < (m : Nat) := by omega
    refine .inr ⟨?_, fun s h1 h2 _ => absurd h2 (by omega)⟩
    rw [f23_L0_eq guardT rfl]
    simp only [b_lss, obind, this, decide_false, condK_false, fa27_0, fa25_1, shift_ptr, Nat.zero_add, load22, pr_1 h0, len22]
    rfl
  | k + 1, i, hk, hil => by
    have hlt : i < m := by omega
    have h' : (i : Int) < (m : Nat) := by omega
    have hm2 := hp.m2
    have w : IntKind.wrap .i64 ((i : Int) + 1) = ((i + 1 : Nat) : Int) := wrap_succ (by omega)
    have hPl : i < (L (some P)).length := by show i < P.length; omega
    have hPe : (L (some P)).getD i none = P.getD i none := rfl
    have hso : i < (L o).length := by rw [hm.len]; exact hlt
    obtain ⟨r1, r2⟩ := hm.rng i hlt
    have i2 : indexAddr PP 22 (.p (eSl p.ul)) (.p (pI ((L o).getD i 0))) = some (.pptr (eInts (L p.ul)) ((L o).getD i 0).toNat) := idx22z r1 (by rw [hp.ul]; exact r2)
    have b1 : i < (L p.ll).length := by rw [hp.ll]; exact hlt
    have b2 : ((L o).getD i 0).toNat < (L p.ul).length := by rw [hp.ul]; omega
    have hreach : (P.getD i none).isSome = true ↔ ReachG p.lo (i : Nat) := by
      rw [← hPr i hlt, Option.isSome_iff_ne_none]
    have ih := L23_0 hp hi hm hP hPr (σ := σ) h0 h1 k (i + 1) (by omega) (by omega)
    rw [f23_L0_eq guardT rfl]
    simp only [b_lss, obind, h', decide_true, condK_true, idx51 hPl, load22, load1_ls hPl, neq22_o, hPe]
    cases e1 : (P.getD i none).isSome with
    | false =>
      simp only [guard_ft, guard_sk, obind, pickV_false, condK_false, b_add, w]
      rcases ih with h2 | ⟨h2, h3⟩
      · exact .inl h2
      · refine .inr ⟨h2, fun s a b hr => ?_⟩
        rcases Nat.eq_or_lt_of_le a with e2 | e2
        · subst e2
          rw [← hreach, e1] at hr
          exact absurd hr (by simp)
        · exact h3 s e2 b hr
    | true =>
      simp only [guard_tt, fa27_2, fa27_3, shift_ptr, Nat.zero_add, obind, pr_6 h0, pr_7 h0, idx22 b1, load3, load1_getD b1, idx22 hso, load1_getD hso, i2, load1_getD b2, b_neq, pickV_true]
      by_cases e2 : (L p.ll).getD i 0 = (L p.ul).getD ((L o).getD i 0).toNat 0
      · simp only [e2, decide_true, Bool.not_true, condK_false, b_add, obind, w]
        rcases ih with h2 | ⟨h2, h3⟩
        · exact .inl h2
        · refine .inr ⟨h2, fun s a b hr => ?_⟩
          rcases Nat.eq_or_lt_of_le a with e3 | e3
          · subst e3; exact e2
          · exact h3 s e3 b hr
      · refine .inl ⟨?_, i, hlt, hreach.1 e1, e2⟩
        simp only [e2, decide_false, Bool.not_false, condK_true]
        exact fault_fin h1 0 (i : Nat) _

/-- What CheckMapping answers: a fault of some kind, or none. -/
theorem S23_ok (hp : Nice p n m) (hi : Inits p n m) (he : mapE p (L o) = 0) (hsz : (L p.lo.init).length + m ≤ 8000) (hl : (L o).length ≤ 1000) :
    ∃ a b c e, (∀ σ, pureV CC 23 [.agg (ePair p), .p (eSl o)] σ = some (tup3 a b c e)) ∧ (e = 0 ∨ e = 31) ∧ (e = 0 ↔ Acc p (L o)) := by
  have hee : errP p = 0 := by
    unfold mapE at he
    split at he
    · assumption
    · exact he
  have hf : formE p (L o) = 0 := by unfold mapE at he; rw [if_pos hee] at he; exact he
  have hm := mapOk_of hp hf
  obtain ⟨P, hP, hPr, hS⟩ := S57 hp hi hsz
  have g0 : ([Row.mix (ePair p), Row.mix [.p (pI 0), .p (pI 0), .p .nilsl]] : Store)[0]? = some (.mix (ePair p)) := rfl
  have g1 : ([Row.mix (ePair p), Row.mix [.p (pI 0), .p (pI 0), .p .nilsl]] : Store)[1]? = some (.mix [.p (pI 0), .p (pI 0), .p .nilsl]) := rfl
  have hlen : ((L (some P)).length : Int) = (m : Nat) := by show ((P.length : Nat) : Int) = _; rw [hP]
  have hF : F23 guardT 0 (.agg (ePair p)) (.p (eSl o)) [] = f23_L0 guardT 0 (.p (eSl o)) (.ptr 0 0) (.ptr 1 0) (.pptr (graphsV p n) 0) (.p (eLs (some P))) (.p (eLs (some P))) (.p (pI (m : Nat))) (.p (pI (0 : Nat))) [Row.mix (ePair p), Row.mix [.p (pI 0), .p (pI 0), .p .nilsl]] := by
    rw [F23_eq]
    simp only [box_pair, obind, List.length_nil, List.nil_append, List.length_cons, List.cons_append, Nat.zero_add, zro47, load27, pr_all g0, omap, pureFn_fn, List.append_nil, S55 hp.sm hl, he, b_neq, decide_true, Bool.not_true, condK_false, S43 hp.sm hp.un hp.n2 hp.us, hS, len51, hlen]
    rfl
  have hfin : ∀ a b c e σ', f23_L0 guardT 0 (.p (eSl o)) (.ptr 0 0) (.ptr 1 0) (.pptr (graphsV p n) 0) (.p (eLs (some P))) (.p (eLs (some P))) (.p (pI (m : Nat))) (.p (pI (0 : Nat))) [Row.mix (ePair p), Row.mix [.p (pI 0), .p (pI 0), .p .nilsl]] = some (tup3 a b c e, σ') → loosen c = c → loosen a = a → loosen b = b →
      ∀ σ, pureV CC 23 [.agg (ePair p), .p (eSl o)] σ = some (tup3 a b c e) := by
    intro a b c e σ' h hc ha hb σ
    refine pureV_any (by simp [pair_view, sl_view]) fun lo σ0 hs => ?_
    rcases hs with ⟨rfl, rfl, _⟩ | ⟨_, _, h⟩
    case inr => exact absurd h (by simp [rowFree, rowFree1, ePair])
    refine ⟨_, σ', F23_call (by rw [hF]; exact h), ?_⟩
    simp [tup3, thawAll, thawPart, mapO, thaw, thaw1, thawP, ha, hb, hc, loosen]
  have hno : ∀ {r : Option (DV × Store)}, Fault p r → f23_L0 guardT 0 (.p (eSl o)) (.ptr 0 0) (.ptr 1 0) (.pptr (graphsV p n) 0) (.p (eLs (some P))) (.p (eLs (some P))) (.p (pI (m : Nat))) (.p (pI (0 : Nat))) [Row.mix (ePair p), Row.mix [.p (pI 0), .p (pI 0), .p .nilsl]] = r → ¬ Acc p (L o) →
      ∃ a b c e, (∀ σ, pureV CC 23 [.agg (ePair p), .p (eSl o)] σ = some (tup3 a b c e)) ∧ (e = 0 ∨ e = 31) ∧ (e = 0 ↔ Acc p (L o)) := by
    rintro r ⟨a, b, c, σ', h, hc, ha, hb⟩ hr hna
    exact ⟨a, b, c, 31, hfin a b c 31 σ' (hr.trans h) hc ha hb, .inr rfl, fun h => absurd h (by decide), fun h => absurd h hna⟩
  rcases L23_0 hp hi hm hP hPr g0 g1 _ 0 rfl (Nat.zero_le _) with ⟨h1, s, hs, hr, hne⟩ | ⟨h1, k1⟩
  · exact hno h1 rfl fun hA => hne (by have := hA.lab _ hr; simpa using this)
  · rcases L23_1 hp hi hm hP g0 g1 _ 0 rfl (Nat.zero_le _) with ⟨h2, s, hs, hne⟩ | ⟨h2, k2⟩
    · exact hno h2 h1 fun hA => by have := hA.init s hs; rw [hne] at this; exact absurd this (by simp)
    · rcases L23_2 hp hi hm hP hPr _ 0 _ _ _ _ rfl (Nat.zero_le _) g1 with ⟨h3, e, hee, hr, hne⟩ | ⟨⟨σ', h3⟩, k3⟩
      · exact hno h3 (h1.trans h2) fun hA => by have := hA.step e hee hr; rw [hne] at this; exact absurd this (by simp)
      · refine ⟨_, _, _, 0, hfin _ _ _ 0 σ' (h1.trans (h2.trans h3)) rfl rfl rfl, .inl rfl, fun _ => ⟨fun s hr => ?_, fun s hs => ?_, fun e hee hr => ?_⟩, fun _ => rfl⟩
        · obtain ⟨a1, a2⟩ := reach_in hp hi hr
          have es : ((s.toNat : Nat) : Int) = s := by omega
          exact k1 s.toNat (Nat.zero_le _) (by omega) (by rw [es]; exact hr)
        · obtain ⟨j, hj, rfl⟩ := List.getElem_of_mem hs
          exact k2 j hj (Nat.zero_le _)
        · obtain ⟨j, hj, rfl⟩ := List.getElem_of_mem hee
          exact k3 j hj (Nat.zero_le _) hr

theorem S23_bad {σ : Store} (hp : Small p) (he : mapE p (L o) ≠ 0) (hl : (L o).length ≤ 1000) : pureV CC 23 [.agg (ePair p), .p (eSl o)] σ = some (tup3 (pI 0) (pI 0) .nilsl (mapE p (L o))) := by
  refine pureV_any (by simp [pair_view, sl_view]) fun lo σ0 hs => ?_
  rcases hs with ⟨rfl, rfl, _⟩ | ⟨_, _, h⟩
  case inr => exact absurd h (by simp [rowFree, rowFree1, ePair])
  have g0 : ([Row.mix (ePair p), Row.mix [.p (pI 0), .p (pI 0), .p .nilsl]] : Store)[0]? = some (.mix (ePair p)) := rfl
  have g1 : ([Row.mix (ePair p), Row.mix [.p (pI 0), .p (pI 0), .p .nilsl]] : Store)[1]? = some (.mix [.p (pI 0), .p (pI 0), .p .nilsl]) := rfl
  refine ⟨tup3 (pI 0) (pI 0) .nilsl (mapE p (L o)), [Row.mix (ePair p), Row.mix [.p (pI 0), .p (pI 0), .p .nilsl]].set 1 (.mix [.p (pI 0), .p (pI 0), .p .nilsl]), F23_call ?_, rfl⟩
  rw [F23_eq]
  simp only [box_pair, obind, List.length_nil, List.nil_append, List.length_cons, List.cons_append, Nat.zero_add, zro47, load27, pr_all g0, omap, pureFn_fn, List.append_nil, S55 hp hl, b_neq, he, decide_false, Bool.not_false, condK_true, build47_0, st47 g1, cell47 (List.getElem?_set_self (get_lt g1))]
  rfl

end
end Go.D
end
/- RefineLeads: what is refined is simulated, and what is simulated leads. -/
section
set_option linter.unusedVariables false
set_option linter.unusedSimpArgs false
namespace Go.D

section
variable {p : Pair} {n m : Nat}

/-! ### What is refined is simulated -/
theorem acc_al (hp : Nice p n m) (hi : Inits p n m) {l : List Int} (hm : MapOk n m l) (hA : Acc p l) : ∀ k (s : Int), ReachG p.lo s → (s.toNat, (l.getD s.toNat 0).toNat) ∈ al p m n k
  | 0, s, h => by
    obtain ⟨a1, a2⟩ := reach_in hp hi h
    obtain ⟨r1, r2⟩ := hm.rng s.toNat (by omega)
    exact mem_pairsA.2 ⟨by show s.toNat < m; omega, by show (l.getD s.toNat 0).toNat < n; omega⟩
  | k + 1, s, h => by
    have ih := acc_al hp hi hm hA k
    obtain ⟨a1, a2⟩ := reach_in hp hi h
    obtain ⟨r1, r2⟩ := hm.rng s.toNat (by omega)
    refine List.mem_filter.2 ⟨ih s h, ?_⟩
    show keepP p (prs (al p m n k)) n ((s.toNat : Nat) : Int) (((l.getD s.toNat 0).toNat : Nat) : Int) = true
    have es : ((s.toNat : Nat) : Int) = s := by omega
    have eu : (((l.getD s.toNat 0).toNat : Nat) : Int) = l.getD s.toNat 0 := by omega
    rw [es, eu]
    unfold keepP
    rw [Bool.and_eq_true]
    refine ⟨?_, ?_⟩
    · unfold labOk
      rw [decide_eq_true_eq]
      exact hA.lab s h
    · rw [List.all_eq_true]
      intro e he
      unfold keepE
      by_cases hf : e.f = s
      · rw [decide_eq_true hf]
        have hre : ReachG p.lo e.f := by rw [hf]; exact h
        obtain ⟨v1, v2, v3, v4⟩ := hp.ls e he
        obtain ⟨r3, r4⟩ := hm.rng e.t.toNat (by omega)
        have hfo := hA.step e he hre
        rw [hf] at hfo
        have hin := ih e.t (.step hre he)
        have hh := hasP_iff.2 hin
        have et : ((e.t.toNat : Nat) : Int) = e.t := by omega
        have ev : (((l.getD e.t.toNat 0).toNat : Nat) : Int) = l.getD e.t.toNat 0 := by omega
        have hmt : matchP p (prs (al p m n k)) n e.t (l.getD s.toNat 0) = true := by
          unfold matchP
          rw [anyFrom_iff]
          refine ⟨(l.getD e.t.toNat 0).toNat, Nat.zero_le _, by omega, ?_⟩
          rw [et] at hh
          rw [hh, ev, hfo]
          rfl
        rw [hmt, Bool.or_true]
      · rw [decide_eq_false hf]; rfl
theorem simFrom_all {q : Int → Bool} : ∀ {l : List Int}, (∀ s ∈ l, q s = true) → simFrom q l = (true, 0)
  | [], _ => rfl
  | s :: l, h => by
    rw [simFrom_true (h s List.mem_cons_self)]
    exact simFrom_all fun a ha => h a (List.mem_cons_of_mem _ ha)
theorem simFrom_each {q : Int → Bool} : ∀ {l : List Int}, (simFrom q l).1 = true → ∀ s ∈ l, q s = true
  | [], _, s, hs => absurd hs (by simp)
  | a :: l, h, s, hs => by
    cases e : q a with
    | false => rw [simFrom_false e] at h; exact absurd h (by simp)
    | true =>
      rw [simFrom_true e] at h
      rcases List.mem_cons.1 hs with rfl | h2
      · exact e
      · exact simFrom_each h s h2
theorem acc_sim (hp : Nice p n m) (hi : Inits p n m) {l : List Int} (hm : MapOk n m l) (hA : Acc p l) : (simFrom (simB p m n) (L p.lo.init)).1 = true := by
  rw [simFrom_all]
  intro s hs
  have h := acc_al hp hi hm hA (m * n + 1) s (.init hs)
  have h2 : (s.toNat, (l.getD s.toNat 0).toNat) ∈ simL p m n := h
  rw [simL_rk hp] at h2
  have h3 : rkE p m n s.toNat (l.getD s.toNat 0).toNat = -1 := by simpa using (List.mem_filter.1 h2).2
  have hin := hA.init s hs
  unfold hasI at hin
  obtain ⟨u, hu, he⟩ := List.any_eq_true.1 hin
  have hue : l.getD s.toNat 0 = u := of_decide_eq_true he
  unfold simB
  refine List.any_eq_true.2 ⟨u, hu, ?_⟩
  rw [← hue]
  simpa using h3

/-! ### What is simulated leads -/
theorem sim_step (hp : Nice p n m) {s t u : Nat} (h : (s, u) ∈ simL p m n) (hf : follows p.lo (s : Nat) (t : Nat) = true) : ∃ v, v < n ∧ (t, v) ∈ simL p m n ∧ follows p.up (u : Nat) (v : Nat) = true := by
  obtain ⟨hs, hu⟩ := al_sub _ _ h
  unfold follows at hf
  rw [Bool.or_eq_true] at hf
  rcases hf with hf | hf
  · have : s = t := by have := of_decide_eq_true hf; omega
    subst this
    exact ⟨u, hu, h, by simp [follows]⟩
  · obtain ⟨e, he, hst⟩ := List.any_eq_true.1 hf
    have hk := List.filter_eq_self.1 (show (simL p m n).filter (fun q => keepP p (prs (simL p m n)) n (q.1 : Nat) (q.2 : Nat)) = simL p m n from al_stable hp (stable_mn hp)) _ h
    unfold keepP at hk
    rw [Bool.and_eq_true, List.all_eq_true] at hk
    have hke := hk.2 e he
    unfold keepE at hke
    simp only [stepB, Bool.and_eq_true, decide_eq_true_eq] at hst
    obtain ⟨h1, h2⟩ := hst
    have hd : decide (e.f = ((s, u).1 : Nat)) = true := by simpa using h1
    rw [hd] at hke
    have hmt : matchP p (prs (simL p m n)) n e.t ((s, u).2 : Nat) = true := by simpa using hke
    unfold matchP at hmt
    obtain ⟨v, _, hv, hc⟩ := (anyFrom_iff _ _ _).1 hmt
    rw [Bool.and_eq_true] at hc
    rw [h2] at hc
    exact ⟨v, by omega, hasP_iff.1 hc.2, hc.1⟩
theorem sim_lab (hp : Nice p n m) {s u : Nat} (h : (s, u) ∈ simL p m n) : (L p.ll).getD s 0 = (L p.ul).getD u 0 := by
  rw [simL_rk hp] at h
  have h3 : rkE p m n s u = -1 := by simpa using (List.mem_filter.1 h).2
  have := rk_lab h3
  unfold labOk at this
  simpa using this

/-- From what simulates a state of a path, the rest of the path has an upper one. -/
theorem good_of (hp : Nice p n m) {l : List Int} (hpos : 0 < l.length) (hr : ∀ i, i < l.length → 0 ≤ l.getD i 0 ∧ l.getD i 0 < m) (hf : ∀ i, i + 1 < l.length → follows p.lo (l.getD i 0) (l.getD (i + 1) 0) = true) :
    ∀ (k i : Nat), l.length - 1 - i = k → i < l.length → ∀ u, ((l.getD i 0).toNat, u) ∈ simL p m n → goodAt p l n i u = true
  | 0, i, hk, hi, u, h => by
    have : i = l.length - 1 := by omega
    subst this
    rw [good_last]
    unfold labB
    rw [decide_eq_true_eq]
    exact sim_lab hp h
  | k + 1, i, hk, hi, u, h => by
    have hi1 : i + 1 < l.length := by omega
    rw [good_step p l n i hi1, Bool.and_eq_true]
    obtain ⟨a1, a2⟩ := hr i hi
    obtain ⟨b1, b2⟩ := hr (i + 1) hi1
    refine ⟨?_, ?_⟩
    · have hfo := hf i hi1
      have e1 : (((l.getD i 0).toNat : Nat) : Int) = l.getD i 0 := by omega
      have e2 : (((l.getD (i + 1) 0).toNat : Nat) : Int) = l.getD (i + 1) 0 := by omega
      rw [← e1, ← e2] at hfo
      obtain ⟨v, hv, h1, h2⟩ := sim_step hp h hfo
      rw [anyFrom_iff]
      refine ⟨v, Nat.zero_le _, by omega, ?_⟩
      rw [h2, good_of hp hpos hr hf k (i + 1) (by omega) hi1 v h1]
      rfl
    · unfold labB
      rw [decide_eq_true_eq]
      exact sim_lab hp h

theorem firstFrom_some {q : Nat → Bool} : ∀ (d u : Nat), (∃ w, u ≤ w ∧ w < u + d ∧ q w = true) → ∃ w, firstFrom q u d = some w ∧ q w = true
  | 0, u, ⟨w, h1, h2, _⟩ => by omega
  | d + 1, u, ⟨w, h1, h2, h3⟩ => by
    unfold firstFrom
    by_cases e : q u = true
    · exact ⟨u, by rw [if_pos e], e⟩
    · rw [if_neg e]
      refine firstFrom_some d (u + 1) ⟨w, ?_, by omega, h3⟩
      rcases Nat.eq_or_lt_of_le h1 with e2 | e2
      · subst e2; exact absurd h3 e
      · exact e2

/-- The upper path is found. -/
theorem goUp_some (hp : Nice p n m) (hi : Inits p n m) {l : List Int} (hpos : 0 < l.length) (hinit : hasI (L p.lo.init) (l.getD 0 0) = true) (hr : ∀ i, i < l.length → 0 ≤ l.getD i 0 ∧ l.getD i 0 < m)
    (hf : ∀ i, i + 1 < l.length → follows p.lo (l.getD i 0) (l.getD (i + 1) 0) = true) (hsim : ∀ s ∈ L p.lo.init, simB p m n s = true) :
    ∀ (k i : Nat) (out : List Nat), l.length - i = k → i ≤ l.length → out.length = i → (i ≠ 0 → goodAt p l n (i - 1) (out.getD (i - 1) 0) = true) → ∃ r, goUp p l n k i out = some r
  | 0, i, out, hk, hil, ho, hg => ⟨out, rfl⟩
  | k + 1, i, out, hk, hil, ho, hg => by
    have hlt : i < l.length := by omega
    have hex : ∃ w, 0 ≤ w ∧ w < 0 + n ∧ pickB p l n i out w = true := by
      by_cases h0 : i = 0
      · subst h0
        unfold hasI at hinit
        obtain ⟨s, hs, he⟩ := List.any_eq_true.1 hinit
        have hse : l.getD 0 0 = s := of_decide_eq_true he
        have hsb := hsim s hs
        unfold simB at hsb
        obtain ⟨u, hu, hru⟩ := List.any_eq_true.1 hsb
        obtain ⟨u1, u2⟩ := hi.up u hu
        obtain ⟨s1, s2⟩ := hi.lo s hs
        have hmem : (s.toNat, u.toNat) ∈ simL p m n := by
          rw [simL_rk hp]
          exact List.mem_filter.2 ⟨mem_pairsA.2 ⟨by show s.toNat < m; omega, by show u.toNat < n; omega⟩, hru⟩
        rw [← hse] at hmem
        have hgood := good_of hp hpos hr hf _ 0 rfl hpos u.toNat hmem
        refine ⟨u.toNat, Nat.zero_le _, by omega, ?_⟩
        unfold pickB fitsB
        rw [hgood, if_pos rfl, Bool.true_and]
        unfold hasI
        refine List.any_eq_true.2 ⟨u, hu, ?_⟩
        rw [decide_eq_true_eq]
        omega
      · have hgp := hg h0
        obtain ⟨j, rfl⟩ : ∃ j, i = j + 1 := ⟨i - 1, by omega⟩
        rw [Nat.add_sub_cancel] at hgp
        rw [good_step p l n j hlt, Bool.and_eq_true, anyFrom_iff] at hgp
        obtain ⟨⟨v, _, hv, hc⟩, _⟩ := hgp
        rw [Bool.and_eq_true] at hc
        refine ⟨v, Nat.zero_le _, hv, ?_⟩
        unfold pickB fitsB
        rw [hc.2, if_neg h0, Nat.add_sub_cancel, hc.1]
        rfl
    obtain ⟨w, h1, h2⟩ := firstFrom_some n 0 hex
    unfold goUp
    rw [h1]
    refine goUp_some hp hi hpos hinit hr hf hsim k (i + 1) (out ++ [w]) (by omega) (by omega) (by simp [ho]) (fun _ => ?_)
    unfold pickB at h2
    rw [Bool.and_eq_true] at h2
    have e : (out ++ [w]).getD (i + 1 - 1) 0 = w := by
      rw [Nat.add_sub_cancel, List.getD_eq_getElem?_getD, List.getElem?_append_right (by omega), ho, Nat.sub_self]
      rfl
    rw [e, Nat.add_sub_cancel]
    exact h2.1

end
end Go.D
end
/- Equations of functions 6, printed by gen.py. -/
section
set_option linter.unusedVariables false
set_option maxRecDepth 10000
namespace Go.D
open _root_.Go.D.Code (fstC sndC)
open _root_.Go.D.Ann (left right)
noncomputable def c6_0 : Code := bodyOf Go.Proofs.Try.f6
noncomputable def a6_0 : Ann := (pol 6).ann
noncomputable def c6_42 : Code := sndC (sndC (sndC (sndC (sndC (sndC c6_0)))))
noncomputable def a6_42 : Ann := right (right (right (right (right (right a6_0)))))
def f6_J0_fr (x0 x1 x2 x3 x6 x7 x8 x9 x10 x11 x14 x15 x16 x17 x18 x19 x20 x21 x22 x23 x24 x25 x26 x27 x28 x29 x30 x31 x32 x33 x34 x35 x36 x37 x38 x39 x40 x41 x42 x43 x44 x45 x46 x47 x48 x49 x50 x51 x52 x53 x54 x55 x56 x57 x58 x59 x60 : DV) : Frame := [x0, x1, x2, x3, ud, ud, x6, x7, x8, x9, x10, x11, ud, ud, x14, x15, x16, x17, x18, x19, x20, x21, x22, x23, x24, x25, x26, x27, x28, x29, x30, x31, x32, x33, x34, x35, x36, x37, x38, x39, x40, x41, x42, x43, x44, x45, x46, x47, x48, x49, x50, x51, x52, x53, x54, x55, x56, x57, x58, x59, x60, ud, ud, ud, ud, ud, ud, ud, ud, ud, ud, ud, ud, ud, ud, ud, ud, ud, ud, ud, ud, ud, ud, ud, ud, ud]
noncomputable def f6_J0 (G : GuardT) (lo : Nat) (x0 x1 x2 x3 x6 x7 x8 x9 x10 x11 x14 x15 x16 x17 x18 x19 x20 x21 x22 x23 x24 x25 x26 x27 x28 x29 x30 x31 x32 x33 x34 x35 x36 x37 x38 x39 x40 x41 x42 x43 x44 x45 x46 x47 x48 x49 x50 x51 x52 x53 x54 x55 x56 x57 x58 x59 x60 : DV) (σ : Store) : Option (DV × Store) :=
 (seqC G PP (pol 6) CC lo c6_42 a6_42 (finR PP Go.Proofs.Try.f6.results.toList)) .normal (f6_J0_fr x0 x1 x2 x3 x6 x7 x8 x9 x10 x11 x14 x15 x16 x17 x18 x19 x20 x21 x22 x23 x24 x25 x26 x27 x28 x29 x30 x31 x32 x33 x34 x35 x36 x37 x38 x39 x40 x41 x42 x43 x44 x45 x46 x47 x48 x49 x50 x51 x52 x53 x54 x55 x56 x57 x58 x59 x60) σ
noncomputable def F6 (G : GuardT) (lo : Nat) (x0 x1 x2 : DV) (σ : Store) : Option (DV × Store) :=
 codeF G PP (pol 6) CC lo c6_0 a6_0 [x0, x1, x2, ud, ud, ud, ud, ud, ud, ud, ud, ud, ud, ud, ud, ud, ud, ud, ud, ud, ud, ud, ud, ud, ud, ud, ud, ud, ud, ud, ud, ud, ud, ud, ud, ud, ud, ud, ud, ud, ud, ud, ud, ud, ud, ud, ud, ud, ud, ud, ud, ud, ud, ud, ud, ud, ud, ud, ud, ud, ud, ud, ud, ud, ud, ud, ud, ud, ud, ud, ud, ud, ud, ud, ud, ud, ud, ud, ud, ud, ud, ud, ud, ud, ud, ud] σ (finR PP Go.Proofs.Try.f6.results.toList)
theorem f6_J0_eq (G : GuardT) (lo : Nat) (x0 x1 x2 x3 x6 x7 x8 x9 x10 x11 x14 x15 x16 x17 x18 x19 x20 x21 x22 x23 x24 x25 x26 x27 x28 x29 x30 x31 x32 x33 x34 x35 x36 x37 x38 x39 x40 x41 x42 x43 x44 x45 x46 x47 x48 x49 x50 x51 x52 x53 x54 x55 x56 x57 x58 x59 x60 : DV) (σ : Store) : f6_J0 G lo x0 x1 x2 x3 x6 x7 x8 x9 x10 x11 x14 x15 x16 x17 x18 x19 x20 x21 x22 x23 x24 x25 x26 x27 x28 x29 x30 x31 x32 x33 x34 x35 x36 x37 x38 x39 x40 x41 x42 x43 x44 x45 x46 x47 x48 x49 x50 x51 x52 x53 x54 x55 x56 x57 x58 x59 x60 σ =
 (unOp .not x7).bind fun x62 =>
 G _ x62 false ((load PP 27 x3 σ).bind fun v => some (v, σ)) σ fun x64 σ14 =>
 G _ x62 false (some (x2, σ14)) σ14 fun x65 σ15 =>
 G _ x62 false ((pureFn CC (DV.fn 16 []) [x64, x65] σ15).bind fun v => some (v, σ15)) σ15 fun x66 σ16 =>
 G _ x62 false ((binOp PP .neq 3 x66 (DV.p (PV.int IntKind.i64 (0)))).bind fun v => some (v, σ16)) σ16 fun x67 σ17 =>
 (pickV x62 (DV.p (PV.bool true)) x67).bind fun x68 =>
 condK x68
 (
 some ((DV.p (PV.bool true)), σ17)
 )
 (
 (load PP 27 x3 σ17).bind fun x70 =>
 (pureFn CC (DV.fn 13 []) [x70] σ17).bind fun x71 =>
 (pureFn CC (DV.fn 14 []) [x2] σ17).bind fun x73 =>
 (pureFn CC (DV.fn 12 []) [x71, x73] σ17).bind fun x74 =>
 (extractV x74 0).bind fun x75 =>
 (extractV x74 1).bind fun x76 =>
 (binOp PP .eql 30 x76 (DV.p (PV.int IntKind.i64 (0)))).bind fun x78 =>
 G _ x78 true (some (x75, σ17)) σ17 fun x80 σ18 =>
 G _ x78 true ((len PP 22 x80 σ18).bind fun v => some (v, σ18)) σ18 fun x81 σ19 =>
 G _ x78 true (some (x2, σ19)) σ19 fun x82 σ20 =>
 G _ x78 true ((len PP 22 x82 σ20).bind fun v => some (v, σ20)) σ20 fun x83 σ21 =>
 G _ x78 true ((binOp PP .eql 3 x81 x83).bind fun v => some (v, σ21)) σ21 fun x84 σ22 =>
 (pickV x78 x84 (DV.p (PV.bool false))).bind fun x85 =>
 some (x85, σ22)
 ) := by kernel_rfl
theorem F6_eq (G : GuardT) (lo : Nat) (x0 x1 x2 : DV) (σ : Store) : F6 G lo x0 x1 x2 σ =
 (boxV x0).bind fun z3 =>
 (pureFn CC (DV.fn 10 []) [] (σ ++ [Row.mix z3])).bind fun x14 =>
 (unOp .not x14).bind fun x15 =>
 condK x15
 (
 some ((DV.p (PV.bool false)), (σ ++ [Row.mix z3]))
 )
 (
 (load PP 27 (DV.ptr (List.length σ) 0) (σ ++ [Row.mix z3])).bind fun x16 =>
 (pureFn CC (DV.fn 11 []) [x16] (σ ++ [Row.mix z3])).bind fun x17 =>
 (unOp .not x17).bind fun x18 =>
 G _ x18 false (some (x2, (σ ++ [Row.mix z3]))) (σ ++ [Row.mix z3]) fun x20 σ1 =>
 G _ x18 false ((len PP 22 x20 σ1).bind fun v => some (v, σ1)) σ1 fun x21 σ2 =>
 G _ x18 false ((binOp PP .gtr 3 x21 (DV.p (PV.int IntKind.i64 (20)))).bind fun v => some (v, σ2)) σ2 fun x22 σ3 =>
 (pickV x18 (DV.p (PV.bool true)) x22).bind fun x23 =>
 G _ x23 false ((load PP 27 (DV.ptr (List.length σ) 0) σ3).bind fun v => some (v, σ3)) σ3 fun x25 σ4 =>
 G _ x23 false ((pureFn CC (DV.fn 15 []) [x25] σ4).bind fun v => some (v, σ4)) σ4 fun x26 σ5 =>
 G _ x23 false ((binOp PP .neq 3 x26 (DV.p (PV.int IntKind.i64 (0)))).bind fun v => some (v, σ5)) σ5 fun x27 σ6 =>
 (pickV x23 (DV.p (PV.bool true)) x27).bind fun x28 =>
 condK x28
 (
 some ((DV.p (PV.bool true)), σ6)
 )
 (
 (load PP 27 (DV.ptr (List.length σ) 0) σ6).bind fun x30 =>
 (pureFn CC (DV.fn 13 []) [x30] σ6).bind fun x31 =>
 (pureFn CC (DV.fn 25 []) [x31] σ6).bind fun x32 =>
 (extractV x32 0).bind fun x33 =>
 (extractV x32 1).bind fun x34 =>
 (extractV x32 2).bind fun x35 =>
 (binOp PP .neq 30 x35 (DV.p (PV.int IntKind.i64 (0)))).bind fun x37 =>
 condK x37
 (
 some ((DV.p (PV.bool false)), σ6)
 )
 (
 (len PP 22 x1 σ6).bind fun x39 =>
 (binOp PP .leq 3 x39 (DV.p (PV.int IntKind.i64 (45)))).bind fun x40 =>
 G _ x40 true ((load PP 27 (DV.ptr (List.length σ) 0) σ6).bind fun v => some (v, σ6)) σ6 fun x42 σ7 =>
 G _ x40 true (some (x1, σ7)) σ7 fun x43 σ8 =>
 G _ x40 true ((pureFn CC (DV.fn 21 []) [x42, x43] σ8).bind fun v => some (v, σ8)) σ8 fun x44 σ9 =>
 G _ x40 true ((binOp PP .eql 3 x44 (DV.p (PV.int IntKind.i64 (0)))).bind fun v => some (v, σ9)) σ9 fun x45 σ10 =>
 (pickV x40 x45 (DV.p (PV.bool false))).bind fun x46 =>
 condK x46
 (
 (load PP 27 (DV.ptr (List.length σ) 0) σ10).bind fun x48 =>
 (pureFn CC (DV.fn 13 []) [x48] σ10).bind fun x49 =>
 (pureFn CC (DV.fn 14 []) [x1] σ10).bind fun x51 =>
 (pureFn CC (DV.fn 23 []) [x49, x51] σ10).bind fun x52 =>
 (extractV x52 0).bind fun x53 =>
 (extractV x52 1).bind fun x54 =>
 (zeroOf PP 47).bind fun z10 =>
 (store PP lo 47 (DV.ptr (List.length σ10) 0) x53 (σ10 ++ [Row.mix z10])).bind fun σ11 =>
 (binOp PP .eql 30 x54 (DV.p (PV.int IntKind.i64 (0)))).bind fun x56 =>
 G _ x56 true (some (x33, σ11)) σ11 fun x58 σ12 =>
 G _ x56 true ((unOp .not x58).bind fun v => some (v, σ12)) σ12 fun x59 σ13 =>
 (pickV x56 x59 (DV.p (PV.bool false))).bind fun x60 =>
 condK x60
 (
 some ((DV.p (PV.bool false)), σ13)
 )
 (
 f6_J0 G lo x0 x1 x2 (DV.ptr (List.length σ) 0) (DV.p (PV.bool false)) x33 x34 x35 (DV.ptr (List.length σ10) 0) x54 x14 x15 x16 x17 x18 x18 x20 x21 x22 x23 x23 x25 x26 x27 x28 x32 x30 x31 x32 x33 x34 x35 x35 x37 x1 x39 x40 x40 x42 x43 x44 x45 x46 x52 x48 x49 x1 x51 x52 x53 x54 x54 x56 x56 x58 x59 x60 σ13
 )
 )
 (
 f6_J0 G lo x0 x1 x2 (DV.ptr (List.length σ) 0) (DV.p (PV.bool false)) x33 x34 x35 ud ud x14 x15 x16 x17 x18 x18 x20 x21 x22 x23 x23 x25 x26 x27 x28 x32 x30 x31 x32 x33 x34 x35 x35 x37 x1 x39 x40 x40 x42 x43 x44 x45 x46 ud ud ud ud ud ud ud ud ud ud ud ud ud ud σ10
 )
 )
 )
 ) := by kernel_rfl
theorem F6_call {lo : Nat} {x0 x1 x2 : DV} {σ : Store} {r : DV × Store} (h : F6 guardT lo x0 x1 x2 σ = some r) : CC lo 6 [x0, x1, x2] σ = some r :=
 callL_run Go.Proofs.Try.func6 (by decide +kernel) rfl (by decide +kernel) h
end Go.D
end
/- RefineLeads: what the law answers, if awake answers true. -/
section
set_option linter.unusedVariables false
set_option linter.unusedSimpArgs false
namespace Go.D

section
variable {p : Pair} {n m : Nat}

theorem path_facts (hp : Nice p n m) {l : List Int} (h : errPath p.lo l = 0) : 0 < l.length ∧ l.length ≤ 60 ∧ hasI (L p.lo.init) (l.getD 0 0) = true ∧ (∀ i, i < l.length → 0 ≤ l.getD i 0 ∧ l.getD i 0 < m) ∧ ∀ i, i + 1 < l.length → follows p.lo (l.getD i 0) (l.getD (i + 1) 0) = true := by
  have pl : pred (m : Nat) = (m : Nat) - 1 := wrap_ok (by omega) (by have := hp.m2; omega)
  unfold errPath at h
  split at h
  · omega
  · rename_i h0
    split at h
    · omega
    · rename_i h1
      have hb : l.any (badN p.lo) = false := by
        cases e : l.any (badN p.lo) with
        | false => rfl
        | true => rw [e] at h; exact absurd h (by simp)
      rw [hb] at h
      have hr : rightPath p.lo l = true := by
        cases e : rightPath p.lo l with
        | true => rfl
        | false => rw [e] at h; exact absurd h (by simp)
      unfold rightPath at hr
      rw [Bool.and_eq_true, allFrom_iff] at hr
      refine ⟨by omega, by omega, hr.1, fun i hi => ?_, fun i hi => hr.2 i (Nat.zero_le _) (by omega)⟩
      rw [getD_at _ hi]
      have hnb : badN p.lo l[i] = false := by
        cases e : badN p.lo l[i] with
        | false => rfl
        | true => rw [List.any_eq_true.2 ⟨_, List.getElem_mem hi, e⟩] at hb; exact absurd hb (by simp)
      simp only [badN, inR, hp.ln, pl, Bool.not_eq_false', Bool.and_eq_true, decide_eq_true_eq] at hnb
      omega

theorem reach_own {g : Gr} {s : Int} : ReachG (ownG g) s ↔ ReachG g s := by
  constructor
  · intro h
    induction h with
    | init h => exact .init h
    | step h he ih => exact .step ih he
  · intro h
    induction h with
    | init h => exact .init h
    | step h he ih => exact .step ih he
theorem acc_own {l : List Int} : Acc (ownP p) l ↔ Acc p l :=
  ⟨fun h => ⟨fun s hs => h.lab s (reach_own.2 hs), h.init, fun e he hr => h.step e he (reach_own.2 hr)⟩, fun h => ⟨fun s hs => h.lab s (reach_own.1 hs), h.init, fun e he hr => h.step e he (reach_own.1 hr)⟩⟩
theorem mapE_own (p : Pair) (l : List Int) : mapE (ownP p) l = mapE p l := rfl

theorem eql30 (a b : Int) : binOp PP .eql 30 (.p (.int .i64 a)) (.p (.int .i64 b)) = some (.p (.bool (decide (a = b)))) := b_eql PP 30 a b

theorem J6 {o2 : Option (List Int)} {b : Bool} {σ : Store} {x0 x1 x6 x8 x9 x10 x11 x14 x15 x16 x17 x18 x19 x20 x21 x22 x23 x24 x25 x26 x27 x28 x29 x30 x31 x32 x33 x34 x35 x36 x37 x38 x39 x40 x41 x42 x43 x44 x45 x46 x47 x48 x49 x50 x51 x52 x53 x54 x55 x56 x57 x58 x59 x60 : DV} (h0 : σ[0]? = some (.mix (ePair p))) (hp : Nice p n m) (hi : Inits p n m) (he : errP p = 0) (hl : (L o2).length ≤ 1000) (hn : p.up.n.toNat = n)
    (hb : b = true → ∀ s ∈ L p.lo.init, simB p m n s = true) :
    ∃ σ', f6_J0 guardT 0 x0 x1 (.p (eSl o2)) (.ptr 0 0) x6 (.p (.bool b)) x8 x9 x10 x11 x14 x15 x16 x17 x18 x19 x20 x21 x22 x23 x24 x25 x26 x27 x28 x29 x30 x31 x32 x33 x34 x35 x36 x37 x38 x39 x40 x41 x42 x43 x44 x45 x46 x47 x48 x49 x50 x51 x52 x53 x54 x55 x56 x57 x58 x59 x60 σ = some (.p (.bool true), σ') := by
  have hs := hp.sm
  rw [f6_J0_eq]
  cases b with
  | false => exact ⟨_, by simp only [not_bool, Bool.not_false, obind, guard_tf, guard_sk, pickV_true, condK_true]; rfl⟩
  | true =>
    by_cases hq : errPath p.lo (L o2) = 0
    · obtain ⟨f1, f2, f3, f4, f5⟩ := path_facts hp hq
      obtain ⟨r, hr⟩ := goUp_some hp hi f1 f3 f4 f5 (hb rfl) _ 0 [] rfl (Nat.zero_le _) rfl (fun h => absurd rfl h)
      have hup : upPath p (L o2) n = some r := hr
      have hlen := goUp_len _ _ _ _ hr
      have hres : resU p o2 = .tuple [.p (eSl (some (natsI r))), .p (pI 0)] := by
        unfold resU
        rw [if_pos he, if_pos hq, hn, hup]
        rfl
      have hll : ((L (some (natsI r))).length : Int) = ((L o2).length : Nat) := by
        show (((natsI r).length : Nat) : Int) = _
        rw [natsI_len]
        simp at hlen
        omega
      have hown : (L (some (L o2))).length ≤ 1000 := hl
      exact ⟨_, by simp only [not_bool, Bool.not_true, obind, guard_ff, load27, pr_all h0, omap, pureFn_fn, List.append_nil, S16 hl hs.li hs.le, hq, b_neq, decide_true, pickV_false, condK_false, S13 hs, S14 hl, S12 (small_own hs) hown, resU_own, hres, ex0, ex1, b_eql, guard_tt, len22, hll, pickV_true]; rfl⟩
    · exact ⟨_, by simp only [not_bool, Bool.not_true, obind, guard_ff, load27, pr_all h0, omap, pureFn_fn, List.append_nil, S16 hl hs.li hs.le, b_neq, hq, decide_false, Bool.not_false, pickV_false, condK_true]; rfl⟩

theorem law6 (hawake : ∀ σ, pureV CC 10 [] σ = some (.p (.bool true))) (p : Pair) (o1 o2 : Option (List Int)) : ∃ σ', F6 guardT 0 (.agg (ePair p)) (.p (eSl o1)) (.p (eSl o2)) [] = some (.p (.bool true), σ') := by
  have g0 : ([Row.mix (ePair p)] : Store)[0]? = some (.mix (ePair p)) := rfl
  rw [F6_eq]
  simp only [box_pair, obind, List.length_nil, List.nil_append, pureFn_fn, List.append_nil, hawake, not_bool, Bool.not_true, condK_false, load27, pr_all g0, omap, S11]
  cases hfew : fewP p with
  | false => exact ⟨_, by simp only [Bool.not_false, guard_tf, guard_sk, obind, pickV_true, condK_true]; rfl⟩
  | true =>
    have hp := small_of hfew
    by_cases hl : ((L o2).length : Int) > 20
    · exact ⟨_, by simp only [Bool.not_true, guard_ff, obind, len22, b_gtr, hl, decide_true, pickV_false, guard_tf, guard_sk, pickV_true, condK_true]; rfl⟩
    · by_cases he : errP p = 0
      · have hn := nice_of hp he
        have hi := inits_of he
        have heo : errP (ownP p) = 0 := he
        have hl2 : (L o2).length ≤ 1000 := by omega
        have hb : (simFrom (simB p p.lo.n.toNat p.up.n.toNat) (L p.lo.init)).1 = true → ∀ s ∈ L p.lo.init, simB p p.lo.n.toNat p.up.n.toNat s = true := simFrom_each
        have hio : L (ownP p).lo.init = L p.lo.init := rfl
        have hli := hp.li
        simp only [Bool.not_true, guard_ff, obind, len22, b_gtr, hl, decide_false, pickV_false, load27, pr_all g0, omap, pureFn_fn, List.append_nil, S15 hp, he, b_neq, decide_true, condK_false, S13 hp, S25_ok (nice_own hn) (inits_own hi) heo, simB_own, hio, resI, ex3_0, ex3_1, ex3_2, b_leq]
        by_cases h45 : ((L o1).length : Int) ≤ 45
        · have hl1 : (L o1).length ≤ 1000 := by omega
          simp only [h45, decide_true, guard_tt, obind, load27, pr_all g0, omap, pureFn_fn, List.append_nil, S21 hl1, b_eql, pickV_true]
          by_cases hf : formE p (L o1) = 0
          · have hme : mapE (ownP p) (L (some (L o1))) = 0 := by
              show mapE p (L o1) = 0
              unfold mapE
              rw [if_pos he]; exact hf
            have hm := mapOk_of hn hf
            obtain ⟨a, b, c, e, hS, h1, h2⟩ := S23_ok (nice_own hn) (inits_own hi) hme (by show (L p.lo.init).length + _ ≤ 8000; have := hn.m2; omega) (show (L (some (L o1))).length ≤ 1000 from hl1)
            have hz : ([Row.mix (ePair p)] ++ [Row.mix [.p (pI 0), .p (pI 0), .p .nilsl]] : Store)[([Row.mix (ePair p)] : Store).length]? = some (.mix [.p (pI 0), .p (pI 0), .p .nilsl]) := rfl
            have hst := st47 hz a b c
            have g1 : (([Row.mix (ePair p)] ++ [Row.mix [.p (pI 0), .p (pI 0), .p .nilsl]] : Store).set ([Row.mix (ePair p)] : Store).length (.mix [.p a, .p b, .p c]))[0]? = some (.mix (ePair p)) := rfl
            simp only [hf, decide_true, condK_true, load27, pr_all g0, omap, obind, pureFn_fn, List.append_nil, S13 hp, S14 hl1, hS, tup3, ex0, ex1, zro47, hst, b_eql]
            generalize hbs : (simFrom (simB p p.lo.n.toNat p.up.n.toNat) (L p.lo.init)).1 = bs at *
            rcases h1 with h1 | h1
            · have hA : Acc p (L o1) := acc_own.1 (h2.1 h1)
              have hsim := acc_sim hn hi hm hA
              rw [hbs] at hsim
              subst hsim
              simp only [h1, decide_true, guard_tt, obind, not_bool, Bool.not_true, pickV_true, condK_false]
              exact J6 g1 hn hi he hl2 rfl hb
            · have h31 : decide (e = 0) = false := by rw [h1]; decide
              simp only [h31, guard_ft, guard_sk, obind, pickV_false, condK_false]
              exact J6 g1 hn hi he hl2 rfl hb
          · simp only [hf, decide_false, condK_false]
            exact J6 g0 hn hi he hl2 rfl hb
        · simp only [h45, decide_false, guard_ft, guard_sk, obind, pickV_false, condK_false]
          exact J6 g0 hn hi he hl2 rfl hb
      · exact ⟨_, by simp only [Bool.not_true, guard_ff, obind, len22, b_gtr, hl, decide_false, pickV_false, load27, pr_all g0, omap, pureFn_fn, List.append_nil, S15 hp, b_neq, he, Bool.not_false, condK_true]; rfl⟩

theorem call6 (hawake : ∀ σ, pureV CC 10 [] σ = some (.p (.bool true))) (p : Pair) (o1 o2 : Option (List Int)) : ∃ σ', CC 0 6 [.agg (ePair p), .p (eSl o1), .p (eSl o2)] [] = some (.p (.bool true), σ') := by
  obtain ⟨σ', h⟩ := law6 hawake p o1 o2
  exact ⟨σ', F6_call h⟩

end
end Go.D
end
/- Composed mappings. -/
section
set_option linter.unusedVariables false
set_option linter.unusedSimpArgs false
namespace Go.D

/-! ### Composed -/
def badR (v : Int) : Bool := !inR v 0 399
theorem S52c (v : Int) (σ : Store) : pureV CC 52 [.p (pI v)] σ = some (.p (.bool (badR v))) := by
  refine pureV_free rfl rfl (F52_call (r := (.p (.bool (badR v)), [])) ?_) rfl
  rw [F52_eq]
  simp only [pureFn_fn, List.append_nil, S53, obind, not_bool, badR]

/-- The error of two mappings one after the other. -/
def compE (p : Pair) (m l : List Int) : Int := orL [mapE p m, if (l.length : Int) = p.up.n then 0 else 6, if l.any badR then 3 else 0]
def compL (m l : List Int) : List Int := m.map fun z => l.getD z.toNat 0
theorem compL_len (m l : List Int) : (compL m l).length = m.length := by simp [compL]
theorem compL_getD (m l : List Int) {i : Nat} (h : i < m.length) : (compL m l).getD i 0 = l.getD (m.getD i 0).toNat 0 := by
  rw [getD_at 0 h, getD_at 0 (by rw [compL_len]; exact h)]
  simp [compL]
def compO (m l : List Int) : OI := if m.length = 0 then none else some (compL m l)
theorem L_compO (m l : List Int) : L (compO m l) = compL m l := by
  unfold compO
  split
  · rename_i h
    rw [List.length_eq_zero_iff.1 h]; rfl
  · rfl
def resC (p : Pair) (m l : List Int) : DV := if compE p m l = 0 then .tuple [.p (eSl (compO m l)), .p (pI 0)] else .tuple [.p .nilsl, .p (pI (compE p m l))]
theorem bs122_3c (x y z : Int) (σ : Store) : buildSlice PP none 122 3 [(0, .p (pI x)), (1, .p (pI y)), (2, .p (pI z))] σ = some (.p (.sl true 3 (eInts [x, y, z])), σ) := Eq.trans (by kernel_rfl) rfl

theorem L20 {p : Pair} {o1 o2 : OI} {lo : Nat} (hl : (L o1).length ≤ 1000) (hr : ∀ z ∈ L o1, 0 ≤ z ∧ z < (L o2).length) :
    ∀ (k i : Nat) (x : DV) (σ : Store), (L o1).length - i = k → i ≤ (L o1).length → lo ≤ σ.length → Out σ lo 1 i (eInts ((compL (L o1) (L o2)).take i)) x →
      ∃ x' σ', f20_L0 guardT lo (.p (eSl o2)) x (.p (eSl o1)) (.p (pI ((L o1).length : Nat))) (.p (pI (i : Nat))) σ = some (.tuple [x', .p (pI 0)], σ') ∧ Out σ' lo 1 (L o1).length (eInts (compL (L o1) (L o2))) x'
  | 0, i, x, σ, hk, hi, hlo, ho => by
    have : i = (L o1).length := by omega
    subst this
    rw [List.take_of_length_le (by rw [compL_len]; exact Nat.le_refl _)] at ho
    refine ⟨x, σ, ?_, ho⟩
    have hn : ¬ (((L o1).length : Nat) : Int) < ((L o1).length : Nat) := by omega
    rw [f20_L0_eq guardT rfl]
    simp only [b_lss, obind, hn, decide_false, condK_false]
  | k + 1, i, x, σ, hk, hi, hlo, ho => by
    have h : i < (L o1).length := by omega
    have h' : (i : Int) < ((L o1).length : Nat) := by omega
    obtain ⟨r1, r2⟩ := hr _ (List.getElem_mem h)
    have hz : (L o1)[i].toNat < (L o2).length := by omega
    have ez : (((L o1)[i].toNat : Nat) : Int) = (L o1)[i] := by omega
    have hix : indexAddr PP 22 (.p (eSl o2)) (.p (.int .i64 (L o1)[i])) = some (.pptr (eInts (L o2)) (L o1)[i].toNat) := by
      have := idx22 (o := o2) hz
      rwa [ez] at this
    obtain ⟨x', σ', h1, h2, h3, h4⟩ := ho.push22 (v := pI ((L o2).getD (L o1)[i].toNat 0)) (by omega) hlo
    rw [f20_L0_eq guardT rfl]
    simp only [b_lss, obind, h', decide_true, condK_true, idx22 h, load3, load1_ints h, hix, load1_getD hz, bs22_1, h1, b_add, wrap_succ (show i ≤ 1000000 by omega)]
    refine L20 (p := p) hl hr k (i + 1) x' σ' (by omega) (by omega) (by omega) ?_
    have e : eInts ((compL (L o1) (L o2)).take (i + 1)) = eInts ((compL (L o1) (L o2)).take i) ++ [pI ((L o2).getD (L o1)[i].toNat 0)] := by
      have h2 : i < (compL (L o1) (L o2)).length := by rw [compL_len]; exact h
      rw [List.take_succ_eq_append_getElem h2]
      simp [eInts, compL]
    rw [e]
    exact h2

theorem mapE_zero {p : Pair} {l : List Int} (h : mapE p l = 0) : errP p = 0 ∧ formE p l = 0 := by
  unfold mapE at h
  split at h
  · exact ⟨‹_›, h⟩
  · exact absurd h ‹_›

theorem S20 {p : Pair} {o1 o2 : OI} {σ : Store} (hp : Small p) (hl1 : (L o1).length ≤ 1000) (hl2 : (L o2).length ≤ 1000) : pureV CC 20 [.agg (ePair p), .p (eSl o1), .p (eSl o2)] σ = some (resC p (L o1) (L o2)) := by
  refine pureV_any (by simp [pair_view, sl_view]) fun lo σ0 hs => ?_
  rcases hs with ⟨rfl, rfl, _⟩ | ⟨_, _, h⟩
  case inr => exact absurd h (by simp [rowFree, rowFree1, ePair])
  have g0 : ([Row.mix (ePair p)] : Store)[0]? = some (.mix (ePair p)) := rfl
  have hb : ∀ σ, pureV CC 51 [.p (eSl o2), .fn 52 []] σ = some (.p (.bool ((L o2).any badR))) := fun σ => S51 hl2 fun σ0 _ v => S52c v σ0
  have hc : (if decide (((L o2).length : Int) = p.up.n) = true then (0 : Int) else 6) = if ((L o2).length : Int) = p.up.n then 0 else 6 := by
    by_cases h : ((L o2).length : Int) = p.up.n <;> simp [h]
  have hd : (if (!(L o2).any badR) = true then (0 : Int) else 3) = if (L o2).any badR then 3 else 0 := by
    cases (L o2).any badR <;> rfl
  have hF : F20 guardT 0 (.agg (ePair p)) (.p (eSl o1)) (.p (eSl o2)) [] =
      condK (.p (.bool (!decide (compE p (L o1) (L o2) = 0)))) (some (.tuple [.p .nilsl, .p (pI (compE p (L o1) (L o2)))], [Row.mix (ePair p)]))
        (f20_L0 guardT 0 (.p (eSl o2)) (.p .nilsl) (.p (eSl o1)) (.p (pI ((L o1).length : Nat))) (.p (pI (0 : Nat))) [Row.mix (ePair p)]) := by
    rw [F20_eq]
    simp only [box_pair, obind, List.length_nil, List.nil_append, load27, pr_all g0, omap, pureFn_fn, List.append_nil, List.cons_append, hb, S55 hp hl1, len22, fa27_1, fa25_0, shift_ptr, Nat.zero_add, Nat.add_zero, load3, pr_3 g0, b_eql, S56, not_bool, hc, hd, bs122_3c, S54t (l := [mapE p (L o1), if ((L o2).length : Int) = p.up.n then 0 else 6, if (L o2).any badR then 3 else 0]) (n := 3) rfl (by simp), b_neq]
    rfl
  unfold resC
  by_cases he : compE p (L o1) (L o2) = 0
  · have hm := mapE_zero (orL_zero he _ (by simp) : mapE p (L o1) = 0)
    have hn := nice_of hp hm.1
    have hmo := mapOk_of hn hm.2
    have h6 : (if ((L o2).length : Int) = p.up.n then (0 : Int) else 6) = 0 := orL_zero he _ (by simp)
    have h6' : ((L o2).length : Int) = p.up.n := by
      split at h6
      · assumption
      · exact absurd h6 (by decide)
    have hr : ∀ z ∈ L o1, 0 ≤ z ∧ z < (L o2).length := by
      intro z hz
      obtain ⟨j, hj, rfl⟩ := List.getElem_of_mem hz
      have := hmo.rng j (by rw [← hmo.len]; exact hj)
      rw [getD_at 0 hj] at this
      omega
    obtain ⟨x', σ', h1, h2⟩ := L20 (p := p) (lo := 0) hl1 hr _ 0 (.p .nilsl) [Row.mix (ePair p)] rfl (Nat.zero_le _) (Nat.zero_le _) (by simpa [eInts] using Out.zero)
    refine ⟨.tuple [x', .p (pI 0)], σ', F20_call ?_, ?_⟩
    · rw [hF, he]
      simp only [decide_true, Bool.not_true, condK_false]
      exact h1
    · have ht := h2.tw 0
      rw [loosens_ints] at ht
      have e2 : (if (L o1).length = 0 then PV.nilsl else .sl false (L o1).length (eInts (compL (L o1) (L o2)))) = eSl (compO (L o1) (L o2)) := by
        unfold compO
        split
        · rfl
        · simp [eSl, compL_len]
      rw [e2] at ht
      rw [if_pos he]
      rcases h2.2 with ⟨q1, rfl⟩ | ⟨q1, r, ver, rfl, _, _⟩
      · simp [compO, q1, eSl, thawAll, thawPart, mapO, thaw, thaw1, thawP, loosen]
      · simp [compO, q1, eSl, thawAll, thawPart, mapO, thaw, thaw1, thawP, loosen, loosens_ints, compL_len]
  · refine ⟨.tuple [.p .nilsl, .p (pI (compE p (L o1) (L o2)))], [Row.mix (ePair p)], F20_call ?_, ?_⟩
    · rw [hF]
      simp only [he, decide_false, Bool.not_false, condK_true]
    · rw [if_neg he]; rfl

/-! ### Two refinements are one -/
theorem hasI_mem {l : List Int} {v : Int} (h : hasI l v = true) : v ∈ l := by
  obtain ⟨a, ha, he⟩ := List.any_eq_true.1 h
  rw [of_decide_eq_true he]; exact ha
theorem hasI_of {l : List Int} {v : Int} (h : v ∈ l) : hasI l v = true := List.any_eq_true.2 ⟨v, h, by simp⟩
theorem follows_cases {g : Gr} {s t : Int} (h : follows g s t = true) : s = t ∨ ∃ e ∈ L g.edges, e.f = s ∧ e.t = t := by
  unfold follows at h
  rw [Bool.or_eq_true] at h
  rcases h with h | h
  · exact .inl (of_decide_eq_true h)
  · obtain ⟨e, he, hst⟩ := List.any_eq_true.1 h
    simp only [stepB, Bool.and_eq_true, decide_eq_true_eq] at hst
    exact .inr ⟨e, he, hst⟩
theorem follows_refl (g : Gr) (s : Int) : follows g s s = true := by simp [follows]
theorem reach_map {p : Pair} {l : List Int} (hA : Acc p l) {s : Int} (h : ReachG p.lo s) : ReachG p.up (l.getD s.toNat 0) := by
  induction h with
  | init h => exact .init (hasI_mem (hA.init _ h))
  | @step e h he ih =>
    rcases follows_cases (hA.step e he h) with e1 | ⟨e2, h2, h3, h4⟩
    · rw [← e1]; exact ih
    · rw [← h4]
      rw [← h3] at ih
      exact .step ih h2

def aboveP (p : Pair) (g : Gr) (lb : OI) : Pair := ⟨p.up, g, p.ul, lb⟩
def wholeP (p : Pair) (g : Gr) (lb : OI) : Pair := ⟨p.lo, g, p.ll, lb⟩
theorem acc_comp {p : Pair} {g : Gr} {lb : OI} {n m : Nat} (hp : Nice p n m) (hi : Inits p n m) {l k : List Int} (hm : l.length = m) (hA : Acc p l) (hB : Acc (aboveP p g lb) k) : Acc (wholeP p g lb) (compL l k) := by
  have hx : ∀ s, ReachG p.lo s → s.toNat < l.length := fun s h => by have := reach_in hp hi h; omega
  refine ⟨fun s hs => ?_, fun s hs => ?_, fun e he hr => ?_⟩
  · have hs' : ReachG p.lo s := hs
    rw [compL_getD _ _ (hx s hs')]
    exact (hA.lab s hs').trans (hB.lab _ (reach_map hA hs'))
  · have hs' : s ∈ L p.lo.init := hs
    rw [compL_getD _ _ (hx s (.init hs'))]
    exact hB.init _ (hasI_mem (hA.init s hs'))
  · have he' : e ∈ L p.lo.edges := he
    have hr' : ReachG p.lo e.f := hr
    rw [compL_getD _ _ (hx _ hr'), compL_getD _ _ (hx _ (.step hr' he'))]
    rcases follows_cases (hA.step e he' hr') with e1 | ⟨e2, h2, h3, h4⟩
    · rw [e1]; exact follows_refl _ _
    · have := hB.step e2 h2 (by rw [h3]; exact reach_map hA hr')
      rw [h3, h4] at this
      exact this

theorem orL4 {a b c d : Int} : orL [a, b, c, d] = 0 ↔ a = 0 ∧ b = 0 ∧ c = 0 ∧ d = 0 := by
  constructor
  · intro h
    exact ⟨orL_zero h _ (by simp), orL_zero h _ (by simp), orL_zero h _ (by simp), orL_zero h _ (by simp)⟩
  · rintro ⟨rfl, rfl, rfl, rfl⟩; rfl
theorem iteB {b : Bool} {k : Int} (hk : k ≠ 0) : (if b = true then (0 : Int) else k) = 0 ↔ b = true := by
  cases b <;> simp [hk]
theorem err_whole {p : Pair} {g : Gr} {lb : OI} (h1 : errP p = 0) (h2 : errP (aboveP p g lb) = 0) : errP (wholeP p g lb) = 0 := by
  unfold errP at *
  rw [orL4] at *
  unfold e1P e2P e3P e4P at *
  simp only [iteB (show (5 : Int) ≠ 0 by decide), iteB (show (2 : Int) ≠ 0 by decide), iteB (show (6 : Int) ≠ 0 by decide), iteB (show (3 : Int) ≠ 0 by decide)] at *
  simp only [Bool.and_eq_true, aboveP, wholeP] at *
  exact ⟨⟨h1.1.1, h2.1.2⟩, ⟨h1.2.1.1, h2.2.1.2⟩, ⟨h1.2.2.1.1, h2.2.2.1.2⟩, ⟨h1.2.2.2.1, h2.2.2.2.2⟩⟩
theorem form_any {p : Pair} {l : List Int} (h : formE p l = 0) : (l.length : Int) = p.lo.n ∧ l.any (badM p) = false := by
  unfold formE at h
  split at h
  · refine ⟨‹_›, ?_⟩
    cases e : l.any (badM p) with
    | false => rfl
    | true => rw [e] at h; exact absurd h (by decide)
  · exact absurd h (by decide)
theorem form_whole {p : Pair} {g : Gr} {lb : OI} {n m : Nat} (hp : Nice p n m) {l k : List Int} (h1 : formE p l = 0) (h2 : formE (aboveP p g lb) k = 0) : formE (wholeP p g lb) (compL l k) = 0 := by
  obtain ⟨a1, a2⟩ := form_any h1
  obtain ⟨b1, b2⟩ := form_any h2
  have hmo := mapOk_of hp h1
  have hk : k.length = n := by have : (k.length : Int) = p.up.n := b1; have := hp.un; omega
  unfold formE
  rw [if_pos (by rw [compL_len]; exact a1)]
  have : (compL l k).any (badM (wholeP p g lb)) = false := by
    rw [List.any_eq_false]
    intro z hz
    obtain ⟨w, hw, rfl⟩ := List.mem_map.1 hz
    obtain ⟨j, hj, rfl⟩ := List.getElem_of_mem hw
    obtain ⟨r1, r2⟩ := hmo.rng j (by rw [← hmo.len]; exact hj)
    rw [getD_at 0 hj] at r1 r2
    have hlt : l[j].toNat < k.length := by omega
    rw [getD_at 0 hlt]
    exact (List.any_eq_false.1 b2) _ (List.getElem_mem hlt)
  rw [this]
  rfl
end Go.D
end
/- RefineComposes: what the law answers, if awake answers true. -/
section
set_option linter.unusedVariables false
set_option linter.unusedSimpArgs false
namespace Go.D

/-! ### A third graph -/
structure Thd where
  g : Gr
  lb : OI
  mp : OI
def eThd (t : Thd) : List DV := [.p (pI t.g.n), .p (eSl t.g.init), .p (eEs t.g.edges), .p (eSl t.lb), .p (eSl t.mp)]
theorem box_thd (t : Thd) : boxV (.agg (eThd t)) = some (eThd t) := rfl
theorem fa42_0 (x : DV) : fieldAddr PP 42 x 0 = shiftPtr x 0 := Eq.trans (by kernel_rfl) rfl
theorem fa42_1 (x : DV) : fieldAddr PP 42 x 1 = shiftPtr x 3 := Eq.trans (by kernel_rfl) rfl
theorem fa42_2 (x : DV) : fieldAddr PP 42 x 2 = shiftPtr x 4 := Eq.trans (by kernel_rfl) rfl
theorem s27 : size? PP 27 = some 8 := Eq.trans (by kernel_rfl) rfl
theorem bld27q (g h : Gr) (a b : OI) : build PP 27 [(0, .agg (eGr g)), (1, .agg (eGr h)), (2, .p (eSl a)), (3, .p (eSl b))] = some (.agg (ePair ⟨g, h, a, b⟩)) := bld27 _ _ _ _ _ _ _ _
theorem st27s (σ : Store) (q : Pair) (z : List DV) (hz : z.length = 8) : store PP 0 27 (.ptr σ.length 0) (.agg (ePair q)) (σ ++ [.mix z]) = some (σ ++ [.mix (ePair q)]) := by
  have hone : (ePair q).all DV.one = true := rfl
  have hlen : (ePair q).length = 8 := rfl
  have hs : splice z 0 (ePair q) = ePair q := by
    match z, hz with
    | [a, b, c, d, e, f, g, h], _ => rfl
  simp [store, s27, DV.cells, storeN, hone, hlen, hs, hz]
theorem st47s (σ : Store) (a b c : PV) (z : List DV) (hz : z.length = 3) : store PP 0 47 (.ptr σ.length 0) (.agg [.p a, .p b, .p c]) (σ ++ [.mix z]) = some (σ ++ [.mix [.p a, .p b, .p c]]) := by
  match z, hz with
  | [x, y, w], _ =>
    rw [st47 get_snoc]
    simp

section
variable {t : Thd} {p : Pair} {o1 o8 : OI} {σ : Store}
theorem th_g {r : Nat} (h : σ[r]? = some (.mix (eThd t))) : loadN σ 3 (.ptr r 0) = some (eGr t.g) := loadN_ptr h rfl (by simp [eThd])
theorem th_l {r : Nat} (h : σ[r]? = some (.mix (eThd t))) : load1 (.ptr r 3) σ = some (.p (eSl t.lb)) := load1_ptr h rfl
theorem th_m {r : Nat} (h : σ[r]? = some (.mix (eThd t))) : load1 (.ptr r 4) σ = some (.p (eSl t.mp)) := load1_ptr h rfl

theorem fin4 {c : Int} (hc : c ≠ 0) (i : Int) : f4_L0 guardT 0 (.p (eSl o1)) (.ptr 0 0) (.ptr 1 0) (.p (eSl t.mp)) (.p (eSl none)) (.p (pI c)) (.p (pI c)) (.p (pI i)) σ = some (.p (.bool true), σ) := by
  rw [f4_L0_eq guardT rfl]
  simp only [len22, b_lss, obind]
  by_cases h : i < ((L t.mp).length : Nat)
  · simp only [h, decide_true, guard_tt, obind, b_eql, hc, decide_false, pickV_true, condK_false, b_neq, Bool.not_false, condK_true, decide_true, guard_tt, obind, len22_nil, eSl]
  · simp only [h, decide_false, guard_ft, guard_sk, obind, pickV_false, condK_false, b_neq, hc, Bool.not_false, condK_true, b_eql, decide_true, guard_tt, obind, len22_nil, eSl, pickV_true]

theorem L4_0 {c9 : Int} (hl : (L t.mp).length ≤ 1000) : ∀ (k i : Nat), (L t.mp).length - i = k → i ≤ (L t.mp).length →
    (((L t.mp).drop i).any badR = true → ∃ j : Int, f4_L0 guardT 0 (.p (eSl o1)) (.ptr 0 0) (.ptr 1 0) (.p (eSl t.mp)) (.p (eSl o8)) (.p (pI c9)) (.p (pI 0)) (.p (pI (i : Nat))) σ = f4_L0 guardT 0 (.p (eSl o1)) (.ptr 0 0) (.ptr 1 0) (.p (eSl t.mp)) (.p (eSl o8)) (.p (pI c9)) (.p (pI 3)) (.p (pI j)) σ) ∧
    (((L t.mp).drop i).any badR = false → f4_L0 guardT 0 (.p (eSl o1)) (.ptr 0 0) (.ptr 1 0) (.p (eSl t.mp)) (.p (eSl o8)) (.p (pI c9)) (.p (pI 0)) (.p (pI (i : Nat))) σ = f4_L0 guardT 0 (.p (eSl o1)) (.ptr 0 0) (.ptr 1 0) (.p (eSl t.mp)) (.p (eSl o8)) (.p (pI c9)) (.p (pI 0)) (.p (pI ((L t.mp).length : Nat))) σ)
  | 0, i, hk, hi => by
    have : i = (L t.mp).length := by omega
    subst this
    refine ⟨fun h => ?_, fun _ => rfl⟩
    rw [List.drop_length] at h
    exact absurd h (by simp)
  | k + 1, i, hk, hi => by
    have h : i < (L t.mp).length := by omega
    have h' : (i : Int) < ((L t.mp).length : Nat) := by omega
    have ih := L4_0 (c9 := c9) hl k (i + 1) (by omega) (by omega)
    have hstep : f4_L0 guardT 0 (.p (eSl o1)) (.ptr 0 0) (.ptr 1 0) (.p (eSl t.mp)) (.p (eSl o8)) (.p (pI c9)) (.p (pI 0)) (.p (pI (i : Nat))) σ = if badR (L t.mp)[i] = true then f4_L0 guardT 0 (.p (eSl o1)) (.ptr 0 0) (.ptr 1 0) (.p (eSl t.mp)) (.p (eSl o8)) (.p (pI c9)) (.p (pI 3)) (.p (pI (i + 1 : Nat))) σ else f4_L0 guardT 0 (.p (eSl o1)) (.ptr 0 0) (.ptr 1 0) (.p (eSl t.mp)) (.p (eSl o8)) (.p (pI c9)) (.p (pI 0)) (.p (pI (i + 1 : Nat))) σ := by
      rw [f4_L0_eq guardT rfl]
      simp only [len22, b_lss, obind, h', decide_true, guard_tt, b_eql, pickV_true, condK_true, idx22 h, load3, load1_ints h, pureFn_fn, List.append_nil, S22, not_bool]
      have hb : (!inR (L t.mp)[i] 0 399) = badR (L t.mp)[i] := rfl
      rw [hb]
      cases badR (L t.mp)[i] with
      | false =>
        simp only [condK_false]
        rw [f4_J2_eq]
        simp only [b_add, wrap_succ (show i ≤ 1000000 by omega), obind]
        rfl
      | true =>
        simp only [condK_true]
        rw [f4_J2_eq]
        simp only [b_add, wrap_succ (show i ≤ 1000000 by omega), obind]
        rfl
    rw [hstep, drop_cons h, List.any_cons]
    cases badR (L t.mp)[i] with
    | true => exact ⟨fun _ => ⟨_, rfl⟩, fun h => absurd h (by simp)⟩
    | false => simpa using ih

theorem L4_0end {o8 : OI} (h8 : (L o8).length = (L o1).length) : f4_L0 guardT 0 (.p (eSl o1)) (.ptr 0 0) (.ptr 1 0) (.p (eSl t.mp)) (.p (eSl o8)) (.p (pI 0)) (.p (pI 0)) (.p (pI ((L t.mp).length : Nat))) σ = f4_L1 guardT 0 (.p (eSl o1)) (.ptr 0 0) (.ptr 1 0) (.p (eSl t.mp)) (.p (eSl o8)) (.p (pI (0 : Nat))) σ := by
  have hn : ¬ (((L t.mp).length : Nat) : Int) < ((L t.mp).length : Nat) := by omega
  have h8' : ((L o8).length : Int) = ((L o1).length : Nat) := by omega
  rw [f4_L0_eq guardT rfl]
  simp only [len22, b_lss, obind, hn, decide_false, guard_ft, guard_sk, pickV_false, condK_false, b_neq, decide_true, Bool.not_true, guard_ff, h8']
  rfl

theorem L4_1 (hl : (L o1).length ≤ 1000) (hr : ∀ z ∈ L o1, 0 ≤ z ∧ z < (L t.mp).length) : ∀ (k i : Nat), (L o1).length - i = k → i ≤ (L o1).length → f4_L1 guardT 0 (.p (eSl o1)) (.ptr 0 0) (.ptr 1 0) (.p (eSl t.mp)) (.p (eSl (compO (L o1) (L t.mp)))) (.p (pI (i : Nat))) σ = f4_L1 guardT 0 (.p (eSl o1)) (.ptr 0 0) (.ptr 1 0) (.p (eSl t.mp)) (.p (eSl (compO (L o1) (L t.mp)))) (.p (pI ((L o1).length : Nat))) σ
  | 0, i, hk, hi => by
    have : i = (L o1).length := by omega
    rw [this]
  | k + 1, i, hk, hi => by
    have h : i < (L o1).length := by omega
    have h' : (i : Int) < ((L o1).length : Nat) := by omega
    obtain ⟨r1, r2⟩ := hr _ (List.getElem_mem h)
    have hz : (L o1)[i].toNat < (L t.mp).length := by omega
    have ez : (((L o1)[i].toNat : Nat) : Int) = (L o1)[i] := by omega
    have hix : indexAddr PP 22 (.p (eSl t.mp)) (.p (.int .i64 (L o1)[i])) = some (.pptr (eInts (L t.mp)) (L o1)[i].toNat) := by
      have := idx22 (o := t.mp) hz
      rwa [ez] at this
    have h8 : i < (L (compO (L o1) (L t.mp))).length := by rw [L_compO, compL_len]; exact h
    have he : (L (compO (L o1) (L t.mp))).getD i 0 = (L t.mp).getD (L o1)[i].toNat 0 := by rw [L_compO, compL_getD _ _ h, getD_at 0 h]
    have ih := L4_1 hl hr k (i + 1) (by omega) (by omega)
    rw [← ih, f4_L1_eq guardT rfl]
    simp only [len22, b_lss, obind, h', decide_true, condK_true, idx22 h8, load3, load1_getD h8, he, idx22 h, load1_ints h, hix, load1_getD hz, b_neq, Bool.not_true, condK_false, b_add, wrap_succ (show i ≤ 1000000 by omega)]

theorem L4_end (h0 : σ[0]? = some (.mix (ePair p))) (h1 : σ[1]? = some (.mix (eThd t))) (hp : Small p) (ha : Small (aboveP p t.g t.lb)) (hw : Small (wholeP p t.g t.lb)) (hl1 : (L o1).length ≤ 1000) (hl2 : (L t.mp).length ≤ 1000)
    (he : errP p = 0) (hf : formE p (L o1) = 0) : ∃ σ', f4_L1 guardT 0 (.p (eSl o1)) (.ptr 0 0) (.ptr 1 0) (.p (eSl t.mp)) (.p (eSl (compO (L o1) (L t.mp)))) (.p (pI ((L o1).length : Nat))) σ = some (.p (.bool true), σ') := by
  have hn : ¬ (((L o1).length : Nat) : Int) < ((L o1).length : Nat) := by omega
  generalize hA : aboveP p t.g t.lb = A at *
  generalize hW : wholeP p t.g t.lb = W at *
  have k0 : (σ ++ [Row.mix (ePair A)])[0]? = some (.mix (ePair p)) := get_old h0
  have k1 : (σ ++ [Row.mix (ePair A)])[1]? = some (.mix (eThd t)) := get_old h1
  have hA' : (⟨p.up, t.g, p.ul, t.lb⟩ : Pair) = A := hA
  have hW' : (⟨p.lo, t.g, p.ll, t.lb⟩ : Pair) = W := hW
  have ga : (σ ++ [Row.mix (ePair A)] ++ [Row.mix (ePair W)])[σ.length]? = some (.mix (ePair A)) := get_old get_snoc
  have gp : (σ ++ [Row.mix (ePair A)] ++ [Row.mix (ePair W)])[0]? = some (.mix (ePair p)) := get_old k0
  have gw : (σ ++ [Row.mix (ePair A)] ++ [Row.mix (ePair W)])[(σ ++ [Row.mix (ePair A)]).length]? = some (.mix (ePair W)) := get_snoc
  have z27 : ([.p (pI 0), .p .nilsl, .p .nilsl, .p (pI 0), .p .nilsl, .p .nilsl, .p .nilsl, .p .nilsl] : List DV).length = 8 := rfl
  have z47 : ([.p (pI 0), .p (pI 0), .p .nilsl] : List DV).length = 3 := rfl
  rw [f4_L1_eq guardT rfl]
  simp only [len22, b_lss, obind, hn, decide_false, condK_false, fa27_0, fa27_1, fa27_2, fa27_3, fa42_0, fa42_1, shift_ptr, Nat.zero_add, Nat.add_zero, load25, load22, pr_up h0, pr_7 h0, th_g h1, th_l h1, omap, bld27q, zero27, hA', st27s _ _ _ z27, pr_lo k0, pr_6 k0, th_g k1, th_l k1, hW', load27, pr_all ga, pureFn_fn, List.append_nil, S15 ha, b_neq]
  by_cases hea : errP A = 0
  · simp only [hea, decide_true, Bool.not_true, guard_ff, obind, pr_all ga, omap, pureFn_fn, List.append_nil, S21 hl2, b_neq, pickV_false]
    by_cases hfa : formE A (L t.mp) = 0
    · have nn := nice_of hp he
      have ni := inits_of he
      have an := nice_of ha hea
      have ai := inits_of hea
      have hew : errP W = 0 := by rw [← hW]; exact err_whole he (by rw [hA]; exact hea)
      have wn := nice_of hw hew
      have wi := inits_of hew
      have hfw : formE W (compL (L o1) (L t.mp)) = 0 := by rw [← hW]; exact form_whole nn hf (by rw [hA]; exact hfa)
      have hmo := mapOk_of nn hf
      have hmp : mapE (ownP p) (L (some (L o1))) = 0 := by
        show mapE p (L o1) = 0
        unfold mapE; rw [if_pos he]; exact hf
      have hma : mapE (ownP A) (L (some (L t.mp))) = 0 := by
        show mapE A (L t.mp) = 0
        unfold mapE; rw [if_pos hea]; exact hfa
      have hmw : mapE (ownP W) (L (some (compL (L o1) (L t.mp)))) = 0 := by
        show mapE W (compL (L o1) (L t.mp)) = 0
        unfold mapE; rw [if_pos hew]; exact hfw
      have hl8 : (L (compO (L o1) (L t.mp))).length ≤ 1000 := by rw [L_compO, compL_len]; exact hl1
      have hl8' : (L (some (compL (L o1) (L t.mp)))).length ≤ 1000 := by show (compL (L o1) (L t.mp)).length ≤ 1000; rw [compL_len]; exact hl1
      obtain ⟨a, b, c, e, hS, e1, e2⟩ := S23_ok (nice_own nn) (inits_own ni) hmp (by show (L p.lo.init).length + _ ≤ 8000; have := nn.m2; have := hp.li; omega) (show (L (some (L o1))).length ≤ 1000 from hl1)
      obtain ⟨a', b', c', e', hS', e1', e2'⟩ := S23_ok (nice_own an) (inits_own ai) hma (by show (L A.lo.init).length + _ ≤ 8000; have := an.m2; have := ha.li; omega) (show (L (some (L t.mp))).length ≤ 1000 from hl2)
      obtain ⟨a2, b2, c2, f, hS2, e12, e22⟩ := S23_ok (nice_own wn) (inits_own wi) hmw (by show (L W.lo.init).length + _ ≤ 8000; have := wn.m2; have := hw.li; omega) hl8'
      have ga2 : ∀ r : Row, (σ ++ [Row.mix (ePair A)] ++ [Row.mix (ePair W)] ++ [r])[σ.length]? = some (.mix (ePair A)) := fun r => get_old ga
      have gw2 : ∀ r r' : Row, (σ ++ [Row.mix (ePair A)] ++ [Row.mix (ePair W)] ++ [r] ++ [r'])[(σ ++ [Row.mix (ePair A)]).length]? = some (.mix (ePair W)) := fun r r' => get_old (get_old gw)
      simp only [hfa, decide_true, Bool.not_true, condK_false, load27, pr_all gp, omap, obind, pureFn_fn, List.append_nil, S13 hp, S14 hl1, hS, tup3, ex0, ex1, zro47, st47s _ _ _ _ _ z47, pr_all (ga2 _), S13 ha, S14 hl2, hS', b_neq]
      rcases e1 with e1 | e1
      · rcases e1' with e1' | e1'
        · have hAc : Acc W (compL (L o1) (L t.mp)) := by
            rw [← hW]
            exact acc_comp nn ni hmo.len (acc_own.1 (e2.1 e1)) (by rw [hA]; exact acc_own.1 (e2'.1 e1'))
          have hf0 : f = 0 := e22.2 (acc_own.2 hAc)
          exact ⟨_, by simp only [e1, e1', decide_true, Bool.not_true, guard_ff, obind, pickV_false, condK_false, load27, pr_all (gw2 _ _), omap, pureFn_fn, List.append_nil, S13 hw, S14 hl8, L_compO, hS2, tup3, ex0, ex1, zro47, st47s _ _ _ _ _ z47, hf0, b_eql, b_neq]; rfl⟩
        · exact ⟨_, by simp only [e1, e1', decide_true, Bool.not_true, guard_ff, obind, pickV_false, b_eql, b_neq, show decide ((31 : Int) = 0) = false from rfl, show decide ((0 : Int) = 31) = false from rfl, Bool.not_false, condK_true]; rfl⟩
      · exact ⟨_, by simp only [e1, guard_tf, guard_sk, obind, pickV_true, b_eql, b_neq, show decide ((31 : Int) = 0) = false from rfl, decide_true, Bool.not_false, condK_true]; rfl⟩
    · exact ⟨_, by simp only [hfa, decide_false, Bool.not_false, condK_true]; rfl⟩
  · exact ⟨_, by simp only [hea, decide_false, Bool.not_false, guard_tf, guard_sk, obind, pickV_true, condK_true]; rfl⟩

/-- What is left once the code of the mappings stands. -/
theorem J4 {x0 x2 x6 x21 x22 x23 x24 x25 x26 x27 x28 x29 x30 x31 x32 x33 x34 x35 x36 x37 x38 x39 x40 x41 x42 x43 x44 x45 x46 x47 x48 x49 x50 x51 x52 x53 x54 x55 x56 x57 x58 x59 x60 x61 x62 x63 x64 x65 x66 : DV} {c e9 : Int} (h9 : e9 = compE p (L o1) (L t.mp)) (hc : c = mapE p (L o1)) (h0 : σ[0]? = some (.mix (ePair p))) (h1 : σ[1]? = some (.mix (eThd t))) (hp : Small p) (ha : Small (aboveP p t.g t.lb)) (hw : Small (wholeP p t.g t.lb)) (hl1 : (L o1).length ≤ 1000) (hl2 : (L t.mp).length ≤ 1000)
    (h8 : (compE p (L o1) (L t.mp) = 0 → o8 = compO (L o1) (L t.mp)) ∧ (compE p (L o1) (L t.mp) ≠ 0 → o8 = none)) :
    ∃ σ', f4_J0 guardT 0 x0 (.p (eSl o1)) x2 (.ptr 0 0) (.ptr 1 0) x6 (.p (eSl t.mp)) (.p (eSl o8)) (.p (pI e9)) (.p (pI c)) x21 x22 x23 x24 x25 x26 x27 x28 x29 x30 x31 x32 x33 x34 x35 x36 x37 x38 x39 x40 x41 x42 x43 x44 x45 x46 x47 x48 x49 x50 x51 x52 x53 x54 x55 x56 x57 x58 x59 x60 x61 x62 x63 x64 x65 x66 σ = some (.p (.bool true), σ') := by
  have hJ : ∀ (c : Int) (σ : Store), (c ≠ 0 → compE p (L o1) (L t.mp) = c) → (c = 0 → compE p (L o1) (L t.mp) = if (L t.mp).any badR then 3 else 0) → (c = 0 → σ[0]? = some (.mix (ePair p)) ∧ σ[1]? = some (.mix (eThd t)) ∧ mapE p (L o1) = 0 ∧ ((L t.mp).length : Int) = p.up.n) →
      ∃ σ', f4_L0 guardT 0 (.p (eSl o1)) (.ptr 0 0) (.ptr 1 0) (.p (eSl t.mp)) (.p (eSl o8)) (.p (pI (compE p (L o1) (L t.mp)))) (.p (pI c)) (.p (pI (0 : Nat))) σ = some (.p (.bool true), σ') := by
    intro c σ hc1 hc2 hc3
    by_cases hz : c = 0
    · subst hz
      obtain ⟨g0, g1, g2, g3⟩ := hc3 rfl
      have he := hc2 rfl
      obtain ⟨q1, q2⟩ := mapE_zero g2
      obtain ⟨w1, w2⟩ := L4_0 (o1 := o1) (o8 := o8) (σ := σ) (t := t) (c9 := compE p (L o1) (L t.mp)) hl2 _ 0 rfl (Nat.zero_le _)
      rw [List.drop_zero] at w1 w2
      cases hb : (L t.mp).any badR with
      | true =>
        rw [hb] at he
        have he3 : compE p (L o1) (L t.mp) = 3 := he
        obtain ⟨j, hj⟩ := w1 hb
        rw [hj, he3, h8.2 (by rw [he3]; decide)]
        exact ⟨_, fin4 (by decide) j⟩
      | false =>
        rw [hb] at he
        have he0 : compE p (L o1) (L t.mp) = 0 := he
        have ho := h8.1 he0
        subst ho
        have nn := nice_of hp q1
        have hmo := mapOk_of nn q2
        have hr : ∀ z ∈ L o1, 0 ≤ z ∧ z < (L t.mp).length := by
          intro z hz
          obtain ⟨j, hj, rfl⟩ := List.getElem_of_mem hz
          have := hmo.rng j (by rw [← hmo.len]; exact hj)
          rw [getD_at 0 hj] at this
          omega
        rw [w2 hb, he0, L4_0end (by rw [L_compO, compL_len]), L4_1 hl1 hr _ 0 rfl (Nat.zero_le _)]
        exact L4_end g0 g1 hp ha hw hl1 hl2 q1 q2
    · have he := hc1 hz
      rw [he, h8.2 (by rw [he]; exact hz)]
      exact ⟨_, fin4 hz _⟩
  have hor : compE p (L o1) (L t.mp) = if mapE p (L o1) = 0 then (if ((L t.mp).length : Int) = p.up.n then (if (L t.mp).any badR then 3 else 0) else 6) else mapE p (L o1) := by
    unfold compE
    by_cases e1 : mapE p (L o1) = 0
    · rw [if_pos e1]
      by_cases e2 : ((L t.mp).length : Int) = p.up.n
      · rw [if_pos e2, if_pos e2]
        cases (L t.mp).any badR <;> simp [orL, e1]
      · rw [if_neg e2, if_neg e2]
        simp [orL, e1]
    · rw [if_neg e1]
      simp [orL, e1]
  subst hc
  subst h9
  rw [f4_J0_eq]
  by_cases e1 : mapE p (L o1) = 0
  · rw [if_pos e1] at hor
    by_cases e2 : ((L t.mp).length : Int) = p.up.n
    · rw [if_pos e2] at hor
      simp only [e1, b_eql, decide_true, guard_tt, obind, len22, fa27_1, fa25_0, shift_ptr, Nat.zero_add, Nat.add_zero, load3, pr_3 h0, b_neq, e2, Bool.not_true, pickV_true, condK_false]
      rw [f4_J1_eq]
      exact hJ 0 σ (fun h => absurd rfl h) (fun _ => hor) (fun _ => ⟨h0, h1, e1, e2⟩)
    · rw [if_neg e2] at hor
      simp only [e1, b_eql, decide_true, guard_tt, obind, len22, fa27_1, fa25_0, shift_ptr, Nat.zero_add, Nat.add_zero, load3, pr_3 h0, b_neq, e2, decide_false, Bool.not_false, pickV_true, condK_true]
      rw [f4_J1_eq]
      exact hJ 6 σ (fun _ => hor) (fun h => absurd h (by decide)) (fun h => absurd h (by decide))
  · rw [if_neg e1] at hor
    simp only [b_eql, e1, decide_false, guard_ft, guard_sk, obind, pickV_false, condK_false]
    rw [f4_J1_eq]
    exact hJ (mapE p (L o1)) σ (fun _ => hor) (fun h => absurd h e1) (fun h => absurd h e1)

theorem small_above (h : fewP p = true) (hg : smallG t.g = true) (hl : (L t.lb).length ≤ 45) : Small (aboveP p t.g t.lb) ∧ Small (wholeP p t.g t.lb) := by
  have hp := small_of h
  simp only [smallG, Bool.and_eq_true, decide_eq_true_eq] at hg
  exact ⟨⟨hp.ui, hp.ue, by show (L t.g.init).length ≤ 1000; omega, by show (L t.g.edges).length ≤ 10000; omega, hp.ul, by show (L t.lb).length ≤ 1000; omega⟩, ⟨hp.li, hp.le, by show (L t.g.init).length ≤ 1000; omega, by show (L t.g.edges).length ≤ 10000; omega, hp.ll, by show (L t.lb).length ≤ 1000; omega⟩⟩

theorem law4 (hawake : ∀ σ, pureV CC 10 [] σ = some (.p (.bool true))) (p : Pair) (o1 : OI) (t : Thd) : ∃ σ', F4 guardT 0 (.agg (ePair p)) (.p (eSl o1)) (.agg (eThd t)) [] = some (.p (.bool true), σ') := by
  have g0 : ([Row.mix (ePair p), Row.mix (eThd t)] : Store)[0]? = some (.mix (ePair p)) := rfl
  have g1 : ([Row.mix (ePair p), Row.mix (eThd t)] : Store)[1]? = some (.mix (eThd t)) := rfl
  rw [F4_eq]
  simp only [box_pair, box_thd, obind, List.length_nil, List.nil_append, List.length_cons, List.cons_append, Nat.zero_add, pureFn_fn, List.append_nil, hawake, not_bool, Bool.not_true, condK_false, fa42_2, shift_ptr, load22, th_m g1, load27, pr_all g0, omap, S11]
  cases hfew : fewP p with
  | false => exact ⟨_, by simp only [Bool.not_false, guard_tf, guard_sk, obind, pickV_true, condK_true]; rfl⟩
  | true =>
    have hp := small_of hfew
    by_cases ha : ((L o1).length : Int) > 45
    · exact ⟨_, by simp only [Bool.not_true, guard_ff, obind, len22, b_gtr, ha, decide_true, pickV_false, guard_tf, guard_sk, pickV_true, condK_true]; rfl⟩
    · by_cases hb : ((L t.mp).length : Int) > 45
      · exact ⟨_, by simp only [Bool.not_true, guard_ff, obind, len22, b_gtr, ha, hb, decide_false, decide_true, pickV_false, guard_tf, guard_sk, pickV_true, condK_true]; rfl⟩
      · cases hg : smallG t.g with
        | false => exact ⟨_, by simp only [Bool.not_true, guard_ff, obind, len22, b_gtr, ha, hb, decide_false, pickV_false, fa42_0, shift_ptr, Nat.zero_add, load25, th_g g1, omap, pureFn_fn, List.append_nil, S19, hg, not_bool, Bool.not_false, guard_tf, guard_sk, pickV_true, condK_true]; rfl⟩
        | true =>
          by_cases hd : ((L t.lb).length : Int) > 45
          · exact ⟨_, by simp only [Bool.not_true, guard_ff, obind, len22, b_gtr, ha, hb, hd, decide_false, decide_true, pickV_false, fa42_0, fa42_1, shift_ptr, Nat.zero_add, load22, load25, th_g g1, th_l g1, omap, pureFn_fn, List.append_nil, S19, hg, not_bool, guard_tf, guard_sk, pickV_true, condK_true]; rfl⟩
          · obtain ⟨hsa, hsw⟩ := small_above (t := t) hfew hg (by omega)
            have hl1 : (L o1).length ≤ 1000 := by omega
            have hl2 : (L t.mp).length ≤ 1000 := by omega
            have hown : compE (ownP p) (L (some (L o1))) (L (some (L t.mp))) = compE p (L o1) (L t.mp) := rfl
            have hLo : ∀ o : OI, L (some (L o)) = L o := fun _ => rfl
            simp only [Bool.not_true, guard_ff, obind, len22, b_gtr, ha, hb, hd, decide_false, pickV_false, fa42_0, fa42_1, shift_ptr, Nat.zero_add, load22, load25, th_g g1, th_l g1, omap, pureFn_fn, List.append_nil, S19, hg, not_bool, condK_false, load27, pr_all g0, S13 hp, S14 hl1, S14 hl2, S20 (small_own hp) (show (L (some (L o1))).length ≤ 1000 from hl1) (show (L (some (L t.mp))).length ≤ 1000 from hl2), S15 hp, b_eql]
            unfold resC
            rw [hown]
            by_cases he : errP p = 0
            · have hme : formE p (L o1) = mapE p (L o1) := by unfold mapE; rw [if_pos he]
              by_cases hc : compE p (L o1) (L t.mp) = 0
              · simp only [hc, he, if_true, ex0, ex1, obind, decide_true, condK_true, load27, pr_all g0, omap, pureFn_fn, List.append_nil, S21 hl1, hLo]
                exact J4 (p := p) (t := t) (o1 := o1) (o8 := compO (L o1) (L t.mp)) (σ := [Row.mix (ePair p), Row.mix (eThd t)]) (c := formE p (L o1)) hc.symm hme g0 g1 hp hsa hsw hl1 hl2 ⟨fun _ => rfl, fun h => absurd hc h⟩
              · simp only [hc, he, if_false, ex0, ex1, obind, decide_true, condK_true, load27, pr_all g0, omap, pureFn_fn, List.append_nil, S21 hl1, hLo]
                exact J4 (p := p) (t := t) (o1 := o1) (o8 := none) (σ := [Row.mix (ePair p), Row.mix (eThd t)]) rfl hme g0 g1 hp hsa hsw hl1 hl2 ⟨fun h => absurd h hc, fun _ => rfl⟩
            · have hme : errP p = mapE p (L o1) := by unfold mapE; rw [if_neg he]
              have hc : compE p (L o1) (L t.mp) ≠ 0 := by
                intro h
                have := orL_zero h _ (by simp : mapE p (L o1) ∈ _)
                rw [← hme] at this
                exact he this
              simp only [hc, he, if_false, ex0, ex1, obind, decide_false, condK_false, hLo]
              exact J4 (p := p) (t := t) (o1 := o1) (o8 := none) (σ := [Row.mix (ePair p), Row.mix (eThd t)]) rfl hme g0 g1 hp hsa hsw hl1 hl2 ⟨fun h => absurd h hc, fun _ => rfl⟩

theorem call4 (hawake : ∀ σ, pureV CC 10 [] σ = some (.p (.bool true))) (p : Pair) (o1 : OI) (t : Thd) : ∃ σ', CC 0 4 [.agg (ePair p), .p (eSl o1), .agg (eThd t)] [] = some (.p (.bool true), σ') := by
  obtain ⟨σ', h⟩ := law4 hawake p o1 t
  exact ⟨σ', F4_call h⟩

end
end Go.D
end
/- RefineComposes: for every pair, every mapping and every third graph the law answers true and leaves its arguments as they were: the given statement, without conditions. -/
section
set_option linter.unusedVariables false
set_option linter.unusedSimpArgs false
set_option maxRecDepth 100000
namespace Go.D
open Go.ChangeShapes Go.WideShapes Go.ChangeAt Go.RowKit

theorem types42 : PP.cellTypes PP.depth 42 = some [3, 22, 23, 22, 22] := by kernel_rfl
theorem cells42 : PP.cellsOf 42 = 5 := by kernel_rfl
theorem read_thd {H : Type} {enc : TypeId × Value → H} {W : World} {hd : Bool} {r : Reach} {b0 : Nat} {v : Value} {d : DataW H} {ps : List MemPlace} (hok : Value.okWide PP W r b0 42 v) (h : DataW.Trod enc PP W 0 (fun _ => true) hd 42 v d ps) :
    ∃ t : Thd, VRel (fun _ _ => none) (memOf W) (.agg (eThd t)) v := by
  simp only [Value.okWide, Go.Proofs.Try.underlying42] at hok
  obtain ⟨cs, rfl, hsz, ts, hts, _, hcell⟩ := hok
  rw [types42] at hts
  injection hts with hts; subst hts
  rw [cells42] at hsz
  obtain ⟨fuel, h⟩ := h
  obtain ⟨l⟩ := cs
  simp only [List.size_toArray] at hsz
  match l, hsz with
  | [c0, c1, c2, c3, c4], _ =>
    have k1 : Cell.okWide PP W r b0 22 c1 := by obtain ⟨u, hu, hk⟩ := hcell 1 c1 rfl; cases hu; exact hk
    have k2 : Cell.okWide PP W r b0 23 c2 := by obtain ⟨u, hu, hk⟩ := hcell 2 c2 rfl; cases hu; exact hk
    have k3 : Cell.okWide PP W r b0 22 c3 := by obtain ⟨u, hu, hk⟩ := hcell 3 c3 rfl; cases hu; exact hk
    have k4 : Cell.okWide PP W r b0 22 c4 := by obtain ⟨u, hu, hk⟩ := hcell 4 c4 rfl; cases hu; exact hk
    obtain ⟨xs, n, _, _, hl, hlen, hf⟩ := DataW.trod_struct Go.Proofs.Try.underlying42 h
    match xs, hlen with
    | [y0, y1, y2], _ =>
      have e0 : DataW.trod enc PP W 0 (fun _ => true) hd n 25 (List.take (PP.cellsOf 25) (List.drop 0 [c0, c1, c2, c3, c4])) = some y0 := hf 0 _ rfl
      have e1 : DataW.trod enc PP W 0 (fun _ => true) hd n 22 (List.take (PP.cellsOf 22) (List.drop 3 [c0, c1, c2, c3, c4])) = some y1 := hf 1 _ rfl
      have e2 : DataW.trod enc PP W 0 (fun _ => true) hd n 22 (List.take (PP.cellsOf 22) (List.drop 4 [c0, c1, c2, c3, c4])) = some y2 := hf 2 _ rfl
      rw [cells25] at e0
      rw [cells22] at e1 e2
      obtain ⟨g0, a0, a1, a2⟩ := read_gr k1 k2 e0
      obtain ⟨o3, r3⟩ := read_sl k3 e1
      obtain ⟨o4, r4⟩ := read_sl k4 e2
      refine ⟨⟨g0, o3, o4⟩, .agg rfl fun j h1 h2 => ?_⟩
      match j, h1 with
      | 0, _ => exact .p a0
      | 1, _ => exact .p a1
      | 2, _ => exact .p a2
      | 3, _ => exact .p r3
      | 4, _ => exact .p r4

theorem refineComposes_calls (hawake : Awake) {H : Type} {enc : TypeId × Value → H} {W : World} {base : Nat} {args : Array Value} {ds : List (DataW H)} {ps : List MemPlace}
    (hval : ∀ (j : Nat) t v, ([27, 22, 42] : List TypeId).toArray[j]? = some t → args[j]? = some v → Value.okWide PP W .any base t v)
    (hA : DataW.TrodAll enc PP W 0 (fun _ => true) true [27, 22, 42] args.toList ds ps) :
    Calls PP 4 args W fun e W' => e = .returned (.bool true) ∧ Below W.heap.size W W' := by
  obtain ⟨v0, v1, v2, d0, d1, d2, p0, p1, p2, rfl, rfl, rfl, h0, h1, h2⟩ := trodAll_three hA
  obtain ⟨p, hp⟩ := read_pair (hval 0 27 v0 rfl rfl) h0
  obtain ⟨o1, ho1⟩ := read_path (hval 1 22 v1 rfl rfl) h1
  obtain ⟨o2, ho2⟩ := read_thd (hval 2 42 v2 rfl rfl) h2
  obtain ⟨σ', hc⟩ := call4 hawake p o1 o2
  refine calls_of hc ⟨rfl, fun j h1 h2 => ?_⟩
  match j, h1 with
  | 0, _ => exact hp
  | 1, _ => exact ho1
  | 2, _ => exact ho2

end Go.D
namespace Go.Proofs.Ythmgennimcjlpaa
open Go.D Go.ChangeShapes Go.WideShapes Go.ChangeAt Go.RowKit

set_option maxRecDepth 100000 in
theorem refineComposes_lifted (hawake : Awake) (os : Os) (started : os.Started) (H : Type) (enc : TypeId × Value → H) :
    ReturnsInHanded {} Try.checked os 4 .any (Rows.refineComposesSpec.pre6 enc Try.prog Try.f4 Rows.refineComposesRow.domain false) (Rows.refineComposesSpec.post enc Try.prog Try.f4 false true false false) := by
  refine returnsInHanded_of_change_sized (C := Try.checked) own_ok started (by kernel_rfl) Try.func4
    (ChangeSpec.witness6 (enc := enc) (C := Try.checked) false ⟨#[], #[.agg #[.int .i64 0, .slice none 0 0, .slice none 0 0, .int .i64 0, .slice none 0 0, .slice none 0 0, .slice none 0 0, .slice none 0 0], .slice none 0 0, .agg #[.int .i64 0, .slice none 0 0, .slice none 0 0, .slice none 0 0, .slice none 0 0]], []⟩ 8 (by kernel_rfl) (by kernel_rfl) (by kernel_rfl) (by kernel_rfl)) ?_
  intro W base args ds gs before hval0 hW _ hsz0 _
  have hval : ∀ (j : Nat) t v, Try.f4.params[j]? = some t → args[j]? = some v → Value.okWide Try.prog W .any base t v := hval0
  have hW' := hW
  obtain ⟨p, q, hA0, hV, rfl, _, _⟩ := hW
  have hA : DataW.TrodAll enc Try.prog W 0 (fun _ => true) true Try.f4.params.toList args.toList ds p := hA0
  rw [Try.params4] at hA hval
  have hA2 := hA
  obtain ⟨v0, v1, v2, d0, d1, d2, p0, p1, p2, rfl, rfl, rfl, h0, h1, h2⟩ := trodAll_three hA
  obtain ⟨rfl, rfl⟩ := trodVars_none hV
  have hlt : ∀ x ∈ p0 ++ p1 ++ p2, x.block < W.heap.size := fun x hx => by
    have := hW'.lt x (by simpa using hx)
    exact this
  have e0 : ∀ x ∈ p0, x.block < W.heap.size := fun x hx => hlt x (List.mem_append_left _ (List.mem_append_left _ hx))
  have e1 : ∀ x ∈ p1, x.block < W.heap.size := fun x hx => hlt x (List.mem_append_left _ (List.mem_append_right _ hx))
  have e2 : ∀ x ∈ p2, x.block < W.heap.size := fun x hx => hlt x (List.mem_append_right _ hx)
  refine (refineComposes_calls hawake (base := base) hval hA2).mono ?_
  rintro e W2 ⟨rfl, hnx⟩
  refine ⟨_, rfl, _, _, _, [], p0 ++ (p1 ++ p2), [], hW', ?_, ?_, rfl, hnx.frame _, fun h => by cases h⟩
  · exact trodAll_mk1 (shut_bool ul4 true)
  · exact trodAll_mk3 (Below.trod laidOut_ok (by kernel_rfl) (of_decide_eq_true (by kernel_rfl)) h0 hnx e0) (Below.trod laidOut_ok (by kernel_rfl) (of_decide_eq_true (by kernel_rfl)) h1 hnx e1) (Below.trod laidOut_ok (by kernel_rfl) (of_decide_eq_true (by kernel_rfl)) h2 hnx e2)

theorem refineComposes_holds : Rows.RefineComposesSaid :=
  OpenClaim.holds_of_wide 4 Try.f4 rfl rfl rfl rfl rfl rfl rfl ⟨rfl, rfl, rfl, rfl, rfl⟩ rfl rfl rfl rfl rfl (by kernel_rfl) Try.func4 (by kernel_rfl)
    (of_decide_eq_true (by kernel_rfl)) (by unfold Func.isWrapper; first | (rw [if_pos (by decide +kernel)]; kernel_rfl) | (rw [if_neg (by decide +kernel)]; exact ⟨rfl, rfl⟩))
    (fun os started H enc _ => refineComposes_lifted awake_true os started H enc)

end Go.Proofs.Ythmgennimcjlpaa
end
