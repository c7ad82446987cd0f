/- Equations of functions 7, 23, 28, 42, 79, 39, 40, 86, 88, 87, 90, 89, 41, 43, 76, 24, 92, 94, 96, 97, 138, 139, 140, 142, printed by gen.py. -/
import Derived.Test.YtpacancmcjbckaaGreatDoorFc
import Derived.Test.YtpacancmcjbckaaGreatDoorFd
section
set_option linter.unusedVariables false
set_option maxRecDepth 10000
namespace Go.D
open Go.Proofs
noncomputable section
variable (G : GuardT) (lo : Nat) {σ : Store} {r : DV × Store}
open _root_.Go.D.Code (fstC sndC)
open _root_.Go.D.Ann (left right)
def c23_0 : Code := bodyOf Tryz.f23
def a23_0 : Ann := (pol 23).ann
def F23 (x0 : DV) (σ : Store) : RS :=
 codeF G PP (pol 23) CC lo c23_0 a23_0 (x0 :: zn 44 []) σ (finR PP Tryz.f23.results.toList)
theorem F23_eq (G : GuardT) (lo : Nat) (x0 : DV) (σ : Store) : F23 G lo x0 σ =
 (boxP x0).bind fun x1 =>
 (fieldAddr PP 47 x1 0).bind fun x3 =>
 (fieldAddr PP 45 x3 2).bind fun x4 =>
 (load PP 43 x4 σ).bind fun x5 =>
 (len PP 43 x5 σ).bind fun x6 =>
 (binOp PP .leq 3 x6 (DV.p (PV.int IntKind.i64 (120)))).bind fun x7 =>
 G _ x7 true ((fieldAddr PP 47 x1 0).bind fun v => some (v, σ)) σ fun x9 σ1 =>
 G _ x7 true ((fieldAddr PP 45 x9 1).bind fun v => some (v, σ1)) σ1 fun x10 σ2 =>
 G _ x7 true ((load PP 24 x10 σ2).bind fun v => some (v, σ2)) σ2 fun x11 σ3 =>
 G _ x7 true ((len PP 24 x11 σ3).bind fun v => some (v, σ3)) σ3 fun x12 σ4 =>
 G _ x7 true ((binOp PP .leq 3 x12 (DV.p (PV.int IntKind.i64 (70)))).bind fun v => some (v, σ4)) σ4 fun x13 σ5 =>
 (pickV x7 x13 (DV.p (PV.bool false))).bind fun x14 =>
 G _ x14 true ((fieldAddr PP 47 x1 1).bind fun v => some (v, σ5)) σ5 fun x16 σ6 =>
 G _ x14 true ((load PP 24 x16 σ6).bind fun v => some (v, σ6)) σ6 fun x17 σ7 =>
 G _ x14 true ((len PP 24 x17 σ7).bind fun v => some (v, σ7)) σ7 fun x18 σ8 =>
 G _ x14 true ((binOp PP .leq 3 x18 (DV.p (PV.int IntKind.i64 (70)))).bind fun v => some (v, σ8)) σ8 fun x19 σ9 =>
 (pickV x14 x19 (DV.p (PV.bool false))).bind fun x20 =>
 G _ x20 true ((fieldAddr PP 47 x1 2).bind fun v => some (v, σ9)) σ9 fun x22 σ10 =>
 G _ x20 true ((load PP 24 x22 σ10).bind fun v => some (v, σ10)) σ10 fun x23 σ11 =>
 G _ x20 true ((len PP 24 x23 σ11).bind fun v => some (v, σ11)) σ11 fun x24 σ12 =>
 G _ x20 true ((binOp PP .leq 3 x24 (DV.p (PV.int IntKind.i64 (20)))).bind fun v => some (v, σ12)) σ12 fun x25 σ13 =>
 (pickV x20 x25 (DV.p (PV.bool false))).bind fun x26 =>
 G _ x26 true ((fieldAddr PP 47 x1 3).bind fun v => some (v, σ13)) σ13 fun x28 σ14 =>
 G _ x26 true ((load PP 24 x28 σ14).bind fun v => some (v, σ14)) σ14 fun x29 σ15 =>
 G _ x26 true ((len PP 24 x29 σ15).bind fun v => some (v, σ15)) σ15 fun x30 σ16 =>
 G _ x26 true ((binOp PP .leq 3 x30 (DV.p (PV.int IntKind.i64 (20)))).bind fun v => some (v, σ16)) σ16 fun x31 σ17 =>
 (pickV x26 x31 (DV.p (PV.bool false))).bind fun x32 =>
 G _ x32 true ((fieldAddr PP 47 x1 4).bind fun v => some (v, σ17)) σ17 fun x34 σ18 =>
 G _ x32 true ((load PP 24 x34 σ18).bind fun v => some (v, σ18)) σ18 fun x35 σ19 =>
 G _ x32 true ((len PP 24 x35 σ19).bind fun v => some (v, σ19)) σ19 fun x36 σ20 =>
 G _ x32 true ((binOp PP .leq 3 x36 (DV.p (PV.int IntKind.i64 (20)))).bind fun v => some (v, σ20)) σ20 fun x37 σ21 =>
 (pickV x32 x37 (DV.p (PV.bool false))).bind fun x38 =>
 G _ x38 true ((fieldAddr PP 47 x1 5).bind fun v => some (v, σ21)) σ21 fun x40 σ22 =>
 G _ x38 true ((load PP 24 x40 σ22).bind fun v => some (v, σ22)) σ22 fun x41 σ23 =>
 G _ x38 true ((len PP 24 x41 σ23).bind fun v => some (v, σ23)) σ23 fun x42 σ24 =>
 G _ x38 true ((binOp PP .leq 3 x42 (DV.p (PV.int IntKind.i64 (20)))).bind fun v => some (v, σ24)) σ24 fun x43 σ25 =>
 (pickV x38 x43 (DV.p (PV.bool false))).bind fun x44 =>
 some (x44, σ25) := by kernel_rfl
theorem F23_call {lo : Nat} {x0 : DV} (h : F23 guardT lo x0 σ = some r) : CC lo 23 [x0] σ = some r :=
 callL_run Tryz.func23 (by decide +kernel) rfl (by decide +kernel) h
def c28_0 : Code := bodyOf Tryz.f28
def a28_0 : Ann := (pol 28).ann
def F28 (x0 : DV) (σ : Store) : RS :=
 codeF G PP (pol 28) CC lo c28_0 a28_0 (x0 :: zn 21 []) σ (finR PP Tryz.f28.results.toList)
theorem F28_eq (G : GuardT) (lo : Nat) (x0 : DV) (σ : Store) : F28 G lo x0 σ =
 (boxP x0).bind fun x1 =>
 (zeroOf PP 47).bind fun z2 =>
 (fieldAddr PP 47 x1 0).bind fun x3 =>
 (load PP 45 x3 (σ ++ [Row.mix z2])).bind fun x4 =>
 (pureFn CC (DV.fn 79 []) [x4] (σ ++ [Row.mix z2])).bind fun x5 =>
 (fieldAddr PP 47 x1 1).bind fun x6 =>
 (load PP 24 x6 (σ ++ [Row.mix z2])).bind fun x7 =>
 (pureFn CC (DV.fn 52 []) [x7] (σ ++ [Row.mix z2])).bind fun x8 =>
 (fieldAddr PP 47 x1 2).bind fun x9 =>
 (load PP 24 x9 (σ ++ [Row.mix z2])).bind fun x10 =>
 (pureFn CC (DV.fn 52 []) [x10] (σ ++ [Row.mix z2])).bind fun x11 =>
 (fieldAddr PP 47 x1 3).bind fun x12 =>
 (load PP 24 x12 (σ ++ [Row.mix z2])).bind fun x13 =>
 (pureFn CC (DV.fn 52 []) [x13] (σ ++ [Row.mix z2])).bind fun x14 =>
 (fieldAddr PP 47 x1 4).bind fun x15 =>
 (load PP 24 x15 (σ ++ [Row.mix z2])).bind fun x16 =>
 (pureFn CC (DV.fn 52 []) [x16] (σ ++ [Row.mix z2])).bind fun x17 =>
 (fieldAddr PP 47 x1 5).bind fun x18 =>
 (load PP 24 x18 (σ ++ [Row.mix z2])).bind fun x19 =>
 (pureFn CC (DV.fn 52 []) [x19] (σ ++ [Row.mix z2])).bind fun x20 =>
 (build PP 47 [(0, x5), (1, x8), (2, x11), (3, x14), (4, x17), (5, x20)]).bind fun x21 =>
 (store PP lo 47 (DV.ptr (List.length σ) 0) x21 (σ ++ [Row.mix z2])).bind fun σ1 =>
 (cellV PP 47 (DV.ptr (List.length σ) 0) σ1).bind fun v0 =>
 some (v0, σ1) := by kernel_rfl
theorem F28_call {lo : Nat} {x0 : DV} (h : F28 guardT lo x0 σ = some r) : CC lo 28 [x0] σ = some r :=
 callL_run Tryz.func28 (by decide +kernel) rfl (by decide +kernel) h
def c79_0 : Code := bodyOf Tryz.f79
def a79_0 : Ann := (pol 79).ann
def F79 (x0 : DV) (σ : Store) : RS :=
 codeF G PP (pol 79) CC lo c79_0 a79_0 (x0 :: zn 12 []) σ (finR PP Tryz.f79.results.toList)
theorem F79_eq (G : GuardT) (lo : Nat) (x0 : DV) (σ : Store) : F79 G lo x0 σ =
 (boxV x0).bind fun z1 =>
 (zeroOf PP 45).bind fun z2 =>
 (fieldAddr PP 45 (DV.ptr (List.length σ) 0) 1).bind fun x3 =>
 (load PP 24 x3 ((σ ++ [Row.mix z1]) ++ [Row.mix z2])).bind fun x4 =>
 (pureFn CC (DV.fn 52 []) [x4] ((σ ++ [Row.mix z1]) ++ [Row.mix z2])).bind fun x5 =>
 (buildSlice PP none 43 0 [] ((σ ++ [Row.mix z1]) ++ [Row.mix z2])).bind fun r6_1 =>
 (fieldAddr PP 45 (DV.ptr (List.length σ) 0) 2).bind fun x7 =>
 (load PP 43 x7 r6_1.2).bind fun x8 =>
 (append PP lo false 43 43 r6_1.1 x8 r6_1.2).bind fun r9_2 =>
 (fieldAddr PP 45 (DV.ptr (List.length σ) 0) 1).bind fun x10 =>
 (store PP lo 24 x10 x5 r9_2.2).bind fun σ3 =>
 (fieldAddr PP 45 (DV.ptr (List.length σ) 0) 2).bind fun x11 =>
 (store PP lo 43 x11 r9_2.1 σ3).bind fun σ4 =>
 (load PP 45 (DV.ptr (List.length σ) 0) σ4).bind fun x12 =>
 (store PP lo 45 (DV.ptr (List.length (σ ++ [Row.mix z1])) 0) x12 σ4).bind fun σ5 =>
 (cellV PP 45 (DV.ptr (List.length (σ ++ [Row.mix z1])) 0) σ5).bind fun v0 =>
 some (v0, σ5) := by kernel_rfl
theorem F79_call {lo : Nat} {x0 : DV} (h : F79 guardT lo x0 σ = some r) : CC lo 79 [x0] σ = some r :=
 callL_run Tryz.func79 (by decide +kernel) rfl (by decide +kernel) h
def c39_0 : Code := bodyOf Tryz.f39
def a39_0 : Ann := (pol 39).ann
def a39_17 : Ann := right (left (right (right (right a39_0))))
def a39_18 : Ann := left a39_17
def c39_19 : Code := fstC (fstC (sndC (fstC (sndC (sndC (sndC c39_0))))))
def c39_37 : Code := sndC (sndC (sndC (sndC c39_0)))
def a39_37 : Ann := right (right (right (right a39_0)))
def a39_40 : Ann := right (left a39_37)
def a39_41 : Ann := left a39_40
def c39_42 : Code := fstC (fstC (sndC (fstC c39_37)))
def c39_60 : Code := sndC c39_37
def a39_60 : Ann := right a39_37
def a39_63 : Ann := right (left a39_60)
def a39_64 : Ann := left a39_63
def c39_65 : Code := fstC (fstC (sndC (fstC c39_60)))
def c39_83 : Code := sndC c39_60
def a39_83 : Ann := right a39_60
def a39_86 : Ann := right (left a39_83)
def a39_87 : Ann := left a39_86
def c39_88 : Code := fstC (fstC (sndC (fstC c39_83)))
def c39_108 : Code := sndC c39_83
def a39_108 : Ann := right a39_83
def f39_L0 (x1 x55 x56 x57 : DV) (σ : Store) : RS :=
 codeF G PP (pol 39) CC lo (.loop c39_19) a39_18 (Z :: x1 :: zn 53 (x55 :: x56 :: x57 :: zn 82 [])) σ
 (blockC 0 a39_17 (seqC G PP (pol 39) CC lo c39_37 a39_37 (finR PP Tryz.f39.results.toList)))
def f39_L1 (x1 x69 x70 : DV) (σ : Store) : RS :=
 codeF G PP (pol 39) CC lo (.loop c39_42) a39_41 (Z :: x1 :: zn 67 (x69 :: x70 :: zn 69 [])) σ
 (blockC 2 a39_40 (seqC G PP (pol 39) CC lo c39_60 a39_60 (finR PP Tryz.f39.results.toList)))
def f39_L2 (x1 x93 x94 x95 : DV) (σ : Store) : RS :=
 codeF G PP (pol 39) CC lo (.loop c39_65) a39_64 (Z :: x1 :: zn 91 (x93 :: x94 :: x95 :: zn 44 [])) σ
 (blockC 4 a39_63 (seqC G PP (pol 39) CC lo c39_83 a39_83 (finR PP Tryz.f39.results.toList)))
def f39_L3 (x1 x112 x113 x114 : DV) (σ : Store) : RS :=
 codeF G PP (pol 39) CC lo (.loop c39_88) a39_87 (Z :: x1 :: zn 110 (x112 :: x113 :: x114 :: zn 25 [])) σ
 (blockC 6 a39_86 (seqC G PP (pol 39) CC lo c39_108 a39_108 (finR PP Tryz.f39.results.toList)))
def F39 (x0 : DV) (σ : Store) : RS :=
 codeF G PP (pol 39) CC lo c39_0 a39_0 (x0 :: zn 139 []) σ (finR PP Tryz.f39.results.toList)
theorem f39_L0_eq (G : GuardT) (hG : GuardOk G) (lo : Nat) (x1 x55 x56 x57 : DV) (σ : Store) : f39_L0 G lo x1 x55 x56 x57 σ =
 (binOp PP .lss 3 x57 x56).bind fun x58 =>
 condK x58
 (
 (indexAddr PP 24 x55 x57).bind fun x60 =>
 (load PP 3 x60 σ).bind fun x61 =>
 (pureFn CC (DV.fn 65 []) [x61, I0, (DV.p (PV.int IntKind.i64 (4095)))] σ).bind fun x63 =>
 (unOp .not x63).bind fun x64 =>
 condK x64
 (
 some ((DV.tuple [x57, (DV.p (PV.int IntKind.i64 (3)))]), σ)
 )
 (
 (binOp PP .add 3 x57 I1).bind fun x66 =>
 f39_L0 G lo x1 x55 x56 x66 σ
 )
 )
 (
 (fieldAddr PP 47 x1 2).bind fun x67 =>
 (load PP 24 x67 σ).bind fun x68 =>
 (len PP 24 x68 σ).bind fun x69 =>
 f39_L1 G lo x1 x69 I0 σ
 ) := (loopF_eq G hG).trans (by kernel_rfl)
theorem f39_L1_eq (G : GuardT) (hG : GuardOk G) (lo : Nat) (x1 x69 x70 : DV) (σ : Store) : f39_L1 G lo x1 x69 x70 σ =
 (binOp PP .lss 3 x70 x69).bind fun x71 =>
 condK x71
 (
 (fieldAddr PP 47 x1 2).bind fun x73 =>
 (load PP 24 x73 σ).bind fun x74 =>
 (indexAddr PP 24 x74 x70).bind fun x76 =>
 (load PP 3 x76 σ).bind fun x77 =>
 (pureFn CC (DV.fn 65 []) [x77, (DV.p (PV.int IntKind.i64 (-1))), (DV.p (PV.int IntKind.i64 (11)))] σ).bind fun x78 =>
 (unOp .not x78).bind fun x79 =>
 G _ x79 false ((fieldAddr PP 47 x1 3).bind fun v => some (v, σ)) σ fun x81 σ13 =>
 G _ x79 false ((load PP 24 x81 σ13).bind fun v => some (v, σ13)) σ13 fun x82 σ14 =>
 G _ x79 false (some (x70, σ14)) σ14 fun x83 σ15 =>
 G _ x79 false ((indexAddr PP 24 x82 x83).bind fun v => some (v, σ15)) σ15 fun x84 σ16 =>
 G _ x79 false ((load PP 3 x84 σ16).bind fun v => some (v, σ16)) σ16 fun x85 σ17 =>
 G _ x79 false ((pureFn CC (DV.fn 65 []) [x85, (DV.p (PV.int IntKind.i64 (-1))), (DV.p (PV.int IntKind.i64 (11)))] σ17).bind fun v => some (v, σ17)) σ17 fun x86 σ18 =>
 G _ x79 false ((unOp .not x86).bind fun v => some (v, σ18)) σ18 fun x87 σ19 =>
 (pickV x79 (DV.p (PV.bool true)) x87).bind fun x88 =>
 condK x88
 (
 some ((DV.tuple [x70, (DV.p (PV.int IntKind.i64 (3)))]), σ19)
 )
 (
 (binOp PP .add 3 x70 I1).bind fun x90 =>
 f39_L1 G lo x1 x69 x90 σ19
 )
 )
 (
 (fieldAddr PP 47 x1 0).bind fun x91 =>
 (fieldAddr PP 45 x91 2).bind fun x92 =>
 (load PP 43 x92 σ).bind fun x93 =>
 (len PP 43 x93 σ).bind fun x94 =>
 f39_L2 G lo x1 x93 x94 I0 σ
 ) := (loopF_eq G hG).trans (by kernel_rfl)
theorem f39_L2_eq (G : GuardT) (hG : GuardOk G) (lo : Nat) (x1 x93 x94 x95 : DV) (σ : Store) : f39_L2 G lo x1 x93 x94 x95 σ =
 (binOp PP .lss 3 x95 x94).bind fun x96 =>
 condK x96
 (
 (indexAddr PP 43 x93 x95).bind fun x98 =>
 (load PP 129 x98 σ).bind fun x99 =>
 (zeroOf PP 129).bind fun z10 =>
 (store PP lo 129 (DV.ptr (List.length σ) 0) x99 (σ ++ [Row.mix z10])).bind fun σ20 =>
 (fieldAddr PP 129 (DV.ptr (List.length σ) 0) 2).bind fun x100 =>
 (load PP 3 x100 σ20).bind fun x101 =>
 (fieldAddr PP 47 x1 2).bind fun x102 =>
 (load PP 24 x102 σ20).bind fun x103 =>
 (len PP 24 x103 σ20).bind fun x104 =>
 (binOp PP .geq 3 x101 x104).bind fun x105 =>
 condK x105
 (
 some ((DV.tuple [x95, (DV.p (PV.int IntKind.i64 (10)))]), σ20)
 )
 (
 (binOp PP .add 3 x95 I1).bind fun x107 =>
 f39_L2 G lo x1 x93 x94 x107 σ20
 )
 )
 (
 (fieldAddr PP 47 x1 4).bind fun x108 =>
 (load PP 24 x108 σ).bind fun x109 =>
 (fieldAddr PP 47 x1 5).bind fun x110 =>
 (load PP 24 x110 σ).bind fun x111 =>
 (buildSlice PP none 130 2 [(0, x109), (1, x111)] σ).bind fun r112_21 =>
 (len PP 130 r112_21.1 r112_21.2).bind fun x113 =>
 f39_L3 G lo x1 r112_21.1 x113 I0 r112_21.2
 ) := (loopF_eq G hG).trans (by kernel_rfl)
theorem f39_L3_eq (G : GuardT) (hG : GuardOk G) (lo : Nat) (x1 x112 x113 x114 : DV) (σ : Store) : f39_L3 G lo x1 x112 x113 x114 σ =
 (binOp PP .lss 3 x114 x113).bind fun x115 =>
 condK x115
 (
 (indexAddr PP 130 x112 x114).bind fun x116 =>
 (load PP 24 x116 σ).bind fun x117 =>
 (fieldAddr PP 47 x1 2).bind fun x120 =>
 (load PP 24 x120 σ).bind fun x121 =>
 (len PP 24 x121 σ).bind fun x122 =>
 (pureFn CC (DV.fn 87 []) [x117, x122] σ).bind fun x123 =>
 (extractV x123 0).bind fun x124 =>
 (extractV x123 1).bind fun x125 =>
 (binOp PP .neq 30 x125 I0).bind fun x127 =>
 condK x127
 (
 some ((DV.tuple [x124, x125]), σ)
 )
 (
 (binOp PP .add 3 x114 I1).bind fun x130 =>
 f39_L3 G lo x1 x112 x113 x130 σ
 )
 )
 (
 (fieldAddr PP 47 x1 4).bind fun x131 =>
 (load PP 24 x131 σ).bind fun x132 =>
 (len PP 24 x132 σ).bind fun x133 =>
 (fieldAddr PP 47 x1 5).bind fun x134 =>
 (load PP 24 x134 σ).bind fun x135 =>
 (len PP 24 x135 σ).bind fun x136 =>
 (binOp PP .add 3 x133 x136).bind fun x137 =>
 (binOp PP .gtr 3 x137 (DV.p (PV.int IntKind.i64 (6)))).bind fun x138 =>
 (pureFn CC (DV.fn 67 []) [x138, (DV.p (PV.int IntKind.i64 (2)))] σ).bind fun x139 =>
 some ((DV.tuple [I0, x139]), σ)
 ) := (loopF_eq G hG).trans (by kernel_rfl)
theorem F39_eq (G : GuardT) (lo : Nat) (x0 : DV) (σ : Store) : F39 G lo x0 σ =
 (boxP x0).bind fun x1 =>
 (fieldAddr PP 47 x1 1).bind fun x15 =>
 (load PP 24 x15 σ).bind fun x16 =>
 (len PP 24 x16 σ).bind fun x17 =>
 (fieldAddr PP 47 x1 0).bind fun x18 =>
 (fieldAddr PP 45 x18 0).bind fun x19 =>
 (load PP 3 x19 σ).bind fun x20 =>
 (binOp PP .neq 3 x17 x20).bind fun x21 =>
 G _ x21 false ((fieldAddr PP 47 x1 2).bind fun v => some (v, σ)) σ fun x23 σ1 =>
 G _ x21 false ((load PP 24 x23 σ1).bind fun v => some (v, σ1)) σ1 fun x24 σ2 =>
 G _ x21 false ((len PP 24 x24 σ2).bind fun v => some (v, σ2)) σ2 fun x25 σ3 =>
 G _ x21 false ((fieldAddr PP 47 x1 3).bind fun v => some (v, σ3)) σ3 fun x26 σ4 =>
 G _ x21 false ((load PP 24 x26 σ4).bind fun v => some (v, σ4)) σ4 fun x27 σ5 =>
 G _ x21 false ((len PP 24 x27 σ5).bind fun v => some (v, σ5)) σ5 fun x28 σ6 =>
 G _ x21 false ((binOp PP .neq 3 x25 x28).bind fun v => some (v, σ6)) σ6 fun x29 σ7 =>
 (pickV x21 (DV.p (PV.bool true)) x29).bind fun x30 =>
 G _ x30 false ((fieldAddr PP 47 x1 2).bind fun v => some (v, σ7)) σ7 fun x32 σ8 =>
 G _ x30 false ((load PP 24 x32 σ8).bind fun v => some (v, σ8)) σ8 fun x33 σ9 =>
 G _ x30 false ((len PP 24 x33 σ9).bind fun v => some (v, σ9)) σ9 fun x34 σ10 =>
 G _ x30 false ((binOp PP .gtr 3 x34 (DV.p (PV.int IntKind.i64 (12)))).bind fun v => some (v, σ10)) σ10 fun x35 σ11 =>
 (pickV x30 (DV.p (PV.bool true)) x35).bind fun x36 =>
 (fieldAddr PP 47 x1 0).bind fun x37 =>
 (load PP 45 x37 σ11).bind fun x38 =>
 (pureFn CC (DV.fn 86 []) [x38] σ11).bind fun x39 =>
 (unOp .not x39).bind fun x40 =>
 (pureFn CC (DV.fn 67 []) [x40, (DV.p (PV.int IntKind.i64 (5)))] σ11).bind fun x41 =>
 (fieldAddr PP 47 x1 0).bind fun x42 =>
 (fieldAddr PP 45 x42 0).bind fun x43 =>
 (load PP 3 x43 σ11).bind fun x44 =>
 (binOp PP .gtr 3 x44 (DV.p (PV.int IntKind.i64 (60)))).bind fun x45 =>
 (pureFn CC (DV.fn 67 []) [x45, (DV.p (PV.int IntKind.i64 (2)))] σ11).bind fun x46 =>
 (pureFn CC (DV.fn 67 []) [x36, (DV.p (PV.int IntKind.i64 (6)))] σ11).bind fun x48 =>
 (buildSlice PP none 160 3 [(0, x41), (1, x46), (2, x48)] σ11).bind fun r49_12 =>
 (pureFn CC (DV.fn 66 []) [r49_12.1] r49_12.2).bind fun x50 =>
 (binOp PP .neq 30 x50 I0).bind fun x52 =>
 condK x52
 (
 some ((DV.tuple [I0, x50]), r49_12.2)
 )
 (
 (fieldAddr PP 47 x1 1).bind fun x54 =>
 (load PP 24 x54 r49_12.2).bind fun x55 =>
 (len PP 24 x55 r49_12.2).bind fun x56 =>
 f39_L0 G lo x1 x55 x56 I0 r49_12.2
 ) := by kernel_rfl
theorem F39_call {lo : Nat} {x0 : DV} (h : F39 guardT lo x0 σ = some r) : CC lo 39 [x0] σ = some r :=
 callL_run Tryz.func39 (by decide +kernel) rfl (by decide +kernel) h
def c40_0 : Code := bodyOf Tryz.f40
def a40_0 : Ann := (pol 40).ann
def a40_29 : Ann := right (left (right (right (right (right a40_0)))))
def a40_30 : Ann := left a40_29
def c40_31 : Code := fstC (fstC (sndC (fstC (sndC (sndC (sndC (sndC c40_0)))))))
def c40_47 : Code := sndC (sndC (sndC (sndC (sndC c40_0))))
def a40_47 : Ann := right (right (right (right (right a40_0))))
def a40_50 : Ann := right (left a40_47)
def a40_51 : Ann := left a40_50
def c40_52 : Code := fstC (fstC (sndC (fstC c40_47)))
def c40_68 : Code := sndC c40_47
def a40_68 : Ann := right a40_47
def a40_71 : Ann := right (left a40_68)
def a40_72 : Ann := left a40_71
def c40_73 : Code := fstC (fstC (sndC (fstC c40_68)))
def c40_89 : Code := sndC c40_68
def a40_89 : Ann := right a40_68
def f40_L0 (x1 x4 : DV) (σ : Store) : RS :=
 codeF G PP (pol 40) CC lo (.loop c40_31) a40_30 (Z :: x1 :: Z :: Z :: x4 :: zn 125 []) σ
 (blockC 0 a40_29 (seqC G PP (pol 40) CC lo c40_47 a40_47 (finR PP Tryz.f40.results.toList)))
def f40_L1 (x1 x5 : DV) (σ : Store) : RS :=
 codeF G PP (pol 40) CC lo (.loop c40_52) a40_51 (Z :: x1 :: Z :: Z :: Z :: x5 :: zn 124 []) σ
 (blockC 2 a40_50 (seqC G PP (pol 40) CC lo c40_68 a40_68 (finR PP Tryz.f40.results.toList)))
def f40_L2 (x1 x6 : DV) (σ : Store) : RS :=
 codeF G PP (pol 40) CC lo (.loop c40_73) a40_72 (Z :: x1 :: Z :: Z :: Z :: Z :: x6 :: zn 123 []) σ
 (blockC 4 a40_71 (seqC G PP (pol 40) CC lo c40_89 a40_89 (finR PP Tryz.f40.results.toList)))
def F40 (x0 : DV) (σ : Store) : RS :=
 codeF G PP (pol 40) CC lo c40_0 a40_0 (x0 :: zn 129 []) σ (finR PP Tryz.f40.results.toList)
theorem f40_L0_eq (G : GuardT) (hG : GuardOk G) (lo : Nat) (x1 x4 : DV) (σ : Store) : f40_L0 G lo x1 x4 σ =
 (fieldAddr PP 47 x1 1).bind fun x42 =>
 (load PP 24 x42 σ).bind fun x43 =>
 (len PP 24 x43 σ).bind fun x44 =>
 (binOp PP .lss 3 x4 x44).bind fun x45 =>
 condK x45
 (
 (fieldAddr PP 47 x1 1).bind fun x48 =>
 (load PP 24 x48 σ).bind fun x49 =>
 (indexAddr PP 24 x49 x4).bind fun x51 =>
 (load PP 3 x51 σ).bind fun x52 =>
 (pureFn CC (DV.fn 26 []) [x52, I0, (DV.p (PV.int IntKind.i64 (4095)))] σ).bind fun x53 =>
 (unOp .not x53).bind fun x54 =>
 condK x54
 (
 some ((DV.tuple [x4, (DV.p (PV.int IntKind.i64 (3)))]), σ)
 )
 (
 (binOp PP .add 3 x4 I1).bind fun x47 =>
 f40_L0 G lo x1 x47 σ
 )
 )
 (
 f40_L1 G lo x1 I0 σ
 ) := (loopF_eq G hG).trans (by kernel_rfl)
theorem f40_L1_eq (G : GuardT) (hG : GuardOk G) (lo : Nat) (x1 x5 : DV) (σ : Store) : f40_L1 G lo x1 x5 σ =
 (fieldAddr PP 47 x1 2).bind fun x57 =>
 (load PP 24 x57 σ).bind fun x58 =>
 (len PP 24 x58 σ).bind fun x59 =>
 (binOp PP .lss 3 x5 x59).bind fun x60 =>
 condK x60
 (
 (fieldAddr PP 47 x1 2).bind fun x63 =>
 (load PP 24 x63 σ).bind fun x64 =>
 (indexAddr PP 24 x64 x5).bind fun x66 =>
 (load PP 3 x66 σ).bind fun x67 =>
 (pureFn CC (DV.fn 89 []) [x67] σ).bind fun x68 =>
 (unOp .not x68).bind fun x69 =>
 G _ x69 false ((fieldAddr PP 47 x1 3).bind fun v => some (v, σ)) σ fun x71 σ12 =>
 G _ x69 false ((load PP 24 x71 σ12).bind fun v => some (v, σ12)) σ12 fun x72 σ13 =>
 G _ x69 false (some (x5, σ13)) σ13 fun x73 σ14 =>
 G _ x69 false ((indexAddr PP 24 x72 x73).bind fun v => some (v, σ14)) σ14 fun x74 σ15 =>
 G _ x69 false ((load PP 3 x74 σ15).bind fun v => some (v, σ15)) σ15 fun x75 σ16 =>
 G _ x69 false ((pureFn CC (DV.fn 89 []) [x75] σ16).bind fun v => some (v, σ16)) σ16 fun x76 σ17 =>
 G _ x69 false ((unOp .not x76).bind fun v => some (v, σ17)) σ17 fun x77 σ18 =>
 (pickV x69 (DV.p (PV.bool true)) x77).bind fun x78 =>
 condK x78
 (
 some ((DV.tuple [x5, (DV.p (PV.int IntKind.i64 (3)))]), σ18)
 )
 (
 (binOp PP .add 3 x5 I1).bind fun x62 =>
 f40_L1 G lo x1 x62 σ18
 )
 )
 (
 f40_L2 G lo x1 I0 σ
 ) := (loopF_eq G hG).trans (by kernel_rfl)
theorem f40_L2_eq (G : GuardT) (hG : GuardOk G) (lo : Nat) (x1 x6 : DV) (σ : Store) : f40_L2 G lo x1 x6 σ =
 (fieldAddr PP 47 x1 0).bind fun x81 =>
 (fieldAddr PP 45 x81 2).bind fun x82 =>
 (load PP 43 x82 σ).bind fun x83 =>
 (len PP 43 x83 σ).bind fun x84 =>
 (binOp PP .lss 3 x6 x84).bind fun x85 =>
 condK x85
 (
 (fieldAddr PP 47 x1 0).bind fun x88 =>
 (fieldAddr PP 45 x88 2).bind fun x89 =>
 (load PP 43 x89 σ).bind fun x90 =>
 (indexAddr PP 43 x90 x6).bind fun x92 =>
 (fieldAddr PP 129 x92 2).bind fun x93 =>
 (load PP 3 x93 σ).bind fun x94 =>
 (fieldAddr PP 47 x1 2).bind fun x95 =>
 (load PP 24 x95 σ).bind fun x96 =>
 (len PP 24 x96 σ).bind fun x97 =>
 (binOp PP .geq 3 x94 x97).bind fun x98 =>
 condK x98
 (
 some ((DV.tuple [x6, (DV.p (PV.int IntKind.i64 (10)))]), σ)
 )
 (
 (binOp PP .add 3 x6 I1).bind fun x87 =>
 f40_L2 G lo x1 x87 σ
 )
 )
 (
 (load PP 47 x1 σ).bind fun x101 =>
 (fieldAddr PP 47 x1 4).bind fun x102 =>
 (load PP 24 x102 σ).bind fun x103 =>
 (pureFn CC (DV.fn 90 []) [x101, x103] σ).bind fun x104 =>
 (extractV x104 0).bind fun x105 =>
 (extractV x104 1).bind fun x106 =>
 (binOp PP .neq 3 x106 I0).bind fun x108 =>
 condK x108
 (
 some ((DV.tuple [x105, x106]), σ)
 )
 (
 (load PP 47 x1 σ).bind fun x112 =>
 (fieldAddr PP 47 x1 5).bind fun x113 =>
 (load PP 24 x113 σ).bind fun x114 =>
 (pureFn CC (DV.fn 90 []) [x112, x114] σ).bind fun x115 =>
 (extractV x115 0).bind fun x116 =>
 (extractV x115 1).bind fun x117 =>
 (binOp PP .neq 3 x117 I0).bind fun x119 =>
 condK x119
 (
 some ((DV.tuple [x116, x117]), σ)
 )
 (
 (fieldAddr PP 47 x1 4).bind fun x122 =>
 (load PP 24 x122 σ).bind fun x123 =>
 (len PP 24 x123 σ).bind fun x124 =>
 (fieldAddr PP 47 x1 5).bind fun x125 =>
 (load PP 24 x125 σ).bind fun x126 =>
 (len PP 24 x126 σ).bind fun x127 =>
 (binOp PP .add 3 x124 x127).bind fun x128 =>
 (binOp PP .gtr 3 x128 (DV.p (PV.int IntKind.i64 (6)))).bind fun x129 =>
 condK x129
 (
 some ((DV.tuple [I0, (DV.p (PV.int IntKind.i64 (2)))]), σ)
 )
 (
 some ((DV.tuple [I0, I0]), σ)
 )
 )
 )
 ) := (loopF_eq G hG).trans (by kernel_rfl)
theorem F40_eq (G : GuardT) (lo : Nat) (x0 : DV) (σ : Store) : F40 G lo x0 σ =
 (boxP x0).bind fun x1 =>
 (fieldAddr PP 47 x1 0).bind fun x11 =>
 (load PP 45 x11 σ).bind fun x12 =>
 (pureFn CC (DV.fn 88 []) [x12] σ).bind fun x13 =>
 (unOp .not x13).bind fun x14 =>
 condK x14
 (
 some ((DV.tuple [I0, (DV.p (PV.int IntKind.i64 (5)))]), σ)
 )
 (
 (fieldAddr PP 47 x1 0).bind fun x15 =>
 (fieldAddr PP 45 x15 0).bind fun x16 =>
 (load PP 3 x16 σ).bind fun x17 =>
 (binOp PP .gtr 3 x17 (DV.p (PV.int IntKind.i64 (60)))).bind fun x18 =>
 condK x18
 (
 some ((DV.tuple [I0, (DV.p (PV.int IntKind.i64 (2)))]), σ)
 )
 (
 (fieldAddr PP 47 x1 1).bind fun x19 =>
 (load PP 24 x19 σ).bind fun x20 =>
 (len PP 24 x20 σ).bind fun x21 =>
 (fieldAddr PP 47 x1 0).bind fun x22 =>
 (fieldAddr PP 45 x22 0).bind fun x23 =>
 (load PP 3 x23 σ).bind fun x24 =>
 (binOp PP .neq 3 x21 x24).bind fun x25 =>
 G _ x25 false ((fieldAddr PP 47 x1 2).bind fun v => some (v, σ)) σ fun x27 σ1 =>
 G _ x25 false ((load PP 24 x27 σ1).bind fun v => some (v, σ1)) σ1 fun x28 σ2 =>
 G _ x25 false ((len PP 24 x28 σ2).bind fun v => some (v, σ2)) σ2 fun x29 σ3 =>
 G _ x25 false ((fieldAddr PP 47 x1 3).bind fun v => some (v, σ3)) σ3 fun x30 σ4 =>
 G _ x25 false ((load PP 24 x30 σ4).bind fun v => some (v, σ4)) σ4 fun x31 σ5 =>
 G _ x25 false ((len PP 24 x31 σ5).bind fun v => some (v, σ5)) σ5 fun x32 σ6 =>
 G _ x25 false ((binOp PP .neq 3 x29 x32).bind fun v => some (v, σ6)) σ6 fun x33 σ7 =>
 (pickV x25 (DV.p (PV.bool true)) x33).bind fun x34 =>
 G _ x34 false ((fieldAddr PP 47 x1 2).bind fun v => some (v, σ7)) σ7 fun x36 σ8 =>
 G _ x34 false ((load PP 24 x36 σ8).bind fun v => some (v, σ8)) σ8 fun x37 σ9 =>
 G _ x34 false ((len PP 24 x37 σ9).bind fun v => some (v, σ9)) σ9 fun x38 σ10 =>
 G _ x34 false ((binOp PP .gtr 3 x38 (DV.p (PV.int IntKind.i64 (12)))).bind fun v => some (v, σ10)) σ10 fun x39 σ11 =>
 (pickV x34 (DV.p (PV.bool true)) x39).bind fun x40 =>
 condK x40
 (
 some ((DV.tuple [I0, (DV.p (PV.int IntKind.i64 (6)))]), σ11)
 )
 (
 f40_L0 G lo x1 I0 σ11
 )
 )
 ) := by kernel_rfl
theorem F40_call {lo : Nat} {x0 : DV} (h : F40 guardT lo x0 σ = some r) : CC lo 40 [x0] σ = some r :=
 callL_run Tryz.func40 (by decide +kernel) rfl (by decide +kernel) h
def c86_0 : Code := bodyOf Tryz.f86
def a86_0 : Ann := (pol 86).ann
def a86_13 : Ann := right (left (right (right a86_0)))
def a86_14 : Ann := left a86_13
def c86_15 : Code := fstC (fstC (sndC (fstC (sndC (sndC c86_0)))))
def c86_33 : Code := sndC (sndC (sndC c86_0))
def a86_33 : Ann := right (right (right a86_0))
def a86_36 : Ann := right (left a86_33)
def a86_37 : Ann := left a86_36
def c86_38 : Code := fstC (fstC (sndC (fstC c86_33)))
def c86_56 : Code := sndC c86_33
def a86_56 : Ann := right a86_33
def f86_L0 (x1 x18 x19 x20 : DV) (σ : Store) : RS :=
 codeF G PP (pol 86) CC lo (.loop c86_15) a86_14 (Z :: x1 :: zn 16 (x18 :: x19 :: x20 :: zn 71 [])) σ
 (blockC 0 a86_13 (seqC G PP (pol 86) CC lo c86_33 a86_33 (finR PP Tryz.f86.results.toList)))
def f86_L1 (x1 x47 x48 x49 : DV) (σ : Store) : RS :=
 codeF G PP (pol 86) CC lo (.loop c86_38) a86_37 (Z :: x1 :: zn 45 (x47 :: x48 :: x49 :: zn 42 [])) σ
 (blockC 2 a86_36 (seqC G PP (pol 86) CC lo c86_56 a86_56 (finR PP Tryz.f86.results.toList)))
def F86 (x0 : DV) (σ : Store) : RS :=
 codeF G PP (pol 86) CC lo c86_0 a86_0 (x0 :: zn 91 []) σ (finR PP Tryz.f86.results.toList)
theorem f86_L0_eq (G : GuardT) (hG : GuardOk G) (lo : Nat) (x1 x18 x19 x20 : DV) (σ : Store) : f86_L0 G lo x1 x18 x19 x20 σ =
 (binOp PP .lss 3 x20 x19).bind fun x21 =>
 condK x21
 (
 (indexAddr PP 24 x18 x20).bind fun x23 =>
 (load PP 3 x23 σ).bind fun x24 =>
 (fieldAddr PP 45 x1 0).bind fun x26 =>
 (load PP 3 x26 σ).bind fun x27 =>
 (binOp PP .sub 3 x27 I1).bind fun x28 =>
 (pureFn CC (DV.fn 65 []) [x24, I0, x28] σ).bind fun x29 =>
 (unOp .not x29).bind fun x30 =>
 G _ x30 false (some (x20, σ)) σ fun x32 σ5 =>
 G _ x30 false ((binOp PP .gtr 3 x32 I0).bind fun v => some (v, σ5)) σ5 fun x33 σ6 =>
 G _ x30 false (some (x33, σ6)) σ6 fun x34 σ7 =>
 G _ x34 true (some (x24, σ7)) σ7 fun x35 σ8 =>
 G _ x34 true ((fieldAddr PP 45 x1 1).bind fun v => some (v, σ8)) σ8 fun x36 σ9 =>
 G _ x34 true ((load PP 24 x36 σ9).bind fun v => some (v, σ9)) σ9 fun x37 σ10 =>
 G _ x34 true (some (x20, σ10)) σ10 fun x38 σ11 =>
 G _ x34 true ((binOp PP .sub 3 x38 I1).bind fun v => some (v, σ11)) σ11 fun x39 σ12 =>
 G _ x34 true ((indexAddr PP 24 x37 x39).bind fun v => some (v, σ12)) σ12 fun x40 σ13 =>
 G _ x34 true ((load PP 3 x40 σ13).bind fun v => some (v, σ13)) σ13 fun x41 σ14 =>
 G _ x34 true ((binOp PP .leq 3 x35 x41).bind fun v => some (v, σ14)) σ14 fun x42 σ15 =>
 G _ x30 false ((pickV x34 x42 (DV.p (PV.bool false))).bind fun v => some (v, σ15)) σ15 fun x43 σ16 =>
 (pickV x30 (DV.p (PV.bool true)) x43).bind fun x44 =>
 condK x44
 (
 some ((DV.p (PV.bool false)), σ16)
 )
 (
 (binOp PP .add 3 x20 I1).bind fun x45 =>
 f86_L0 G lo x1 x18 x19 x45 σ16
 )
 )
 (
 (fieldAddr PP 45 x1 2).bind fun x46 =>
 (load PP 43 x46 σ).bind fun x47 =>
 (len PP 43 x47 σ).bind fun x48 =>
 f86_L1 G lo x1 x47 x48 I0 σ
 ) := (loopF_eq G hG).trans (by kernel_rfl)
theorem f86_L1_eq (G : GuardT) (hG : GuardOk G) (lo : Nat) (x1 x47 x48 x49 : DV) (σ : Store) : f86_L1 G lo x1 x47 x48 x49 σ =
 (binOp PP .lss 3 x49 x48).bind fun x50 =>
 condK x50
 (
 (indexAddr PP 43 x47 x49).bind fun x52 =>
 (load PP 129 x52 σ).bind fun x53 =>
 (zeroOf PP 129).bind fun z6 =>
 (store PP lo 129 (DV.ptr (List.length σ) 0) x53 (σ ++ [Row.mix z6])).bind fun σ17 =>
 (fieldAddr PP 129 (DV.ptr (List.length σ) 0) 0).bind fun x54 =>
 (load PP 3 x54 σ17).bind fun x55 =>
 (fieldAddr PP 45 x1 0).bind fun x56 =>
 (load PP 3 x56 σ17).bind fun x57 =>
 (binOp PP .sub 3 x57 I1).bind fun x58 =>
 (pureFn CC (DV.fn 65 []) [x55, I0, x58] σ17).bind fun x59 =>
 (unOp .not x59).bind fun x60 =>
 G _ x60 false ((fieldAddr PP 129 (DV.ptr (List.length σ) 0) 1).bind fun v => some (v, σ17)) σ17 fun x62 σ18 =>
 G _ x60 false ((load PP 3 x62 σ18).bind fun v => some (v, σ18)) σ18 fun x63 σ19 =>
 G _ x60 false ((fieldAddr PP 45 x1 0).bind fun v => some (v, σ19)) σ19 fun x64 σ20 =>
 G _ x60 false ((load PP 3 x64 σ20).bind fun v => some (v, σ20)) σ20 fun x65 σ21 =>
 G _ x60 false ((binOp PP .sub 3 x65 I1).bind fun v => some (v, σ21)) σ21 fun x66 σ22 =>
 G _ x60 false ((pureFn CC (DV.fn 65 []) [x63, I0, x66] σ22).bind fun v => some (v, σ22)) σ22 fun x67 σ23 =>
 G _ x60 false ((unOp .not x67).bind fun v => some (v, σ23)) σ23 fun x68 σ24 =>
 (pickV x60 (DV.p (PV.bool true)) x68).bind fun x69 =>
 G _ x69 false ((fieldAddr PP 129 (DV.ptr (List.length σ) 0) 2).bind fun v => some (v, σ24)) σ24 fun x71 σ25 =>
 G _ x69 false ((load PP 3 x71 σ25).bind fun v => some (v, σ25)) σ25 fun x72 σ26 =>
 G _ x69 false ((pureFn CC (DV.fn 65 []) [x72, I0, (DV.p (PV.int IntKind.i64 (11)))] σ26).bind fun v => some (v, σ26)) σ26 fun x73 σ27 =>
 G _ x69 false ((unOp .not x73).bind fun v => some (v, σ27)) σ27 fun x74 σ28 =>
 (pickV x69 (DV.p (PV.bool true)) x74).bind fun x75 =>
 G _ x75 false (some (x49, σ28)) σ28 fun x77 σ29 =>
 G _ x75 false ((binOp PP .gtr 3 x77 I0).bind fun v => some (v, σ29)) σ29 fun x78 σ30 =>
 G _ x75 false (some (x78, σ30)) σ30 fun x79 σ31 =>
 G _ x79 true ((fieldAddr PP 45 x1 2).bind fun v => some (v, σ31)) σ31 fun x80 σ32 =>
 G _ x79 true ((load PP 43 x80 σ32).bind fun v => some (v, σ32)) σ32 fun x81 σ33 =>
 G _ x79 true (some (x49, σ33)) σ33 fun x82 σ34 =>
 G _ x79 true ((binOp PP .sub 3 x82 I1).bind fun v => some (v, σ34)) σ34 fun x83 σ35 =>
 G _ x79 true ((indexAddr PP 43 x81 x83).bind fun v => some (v, σ35)) σ35 fun x84 σ36 =>
 G _ x79 true ((load PP 129 x84 σ36).bind fun v => some (v, σ36)) σ36 fun x85 σ37 =>
 G _ x79 true ((load PP 129 (DV.ptr (List.length σ) 0) σ37).bind fun v => some (v, σ37)) σ37 fun x86 σ38 =>
 G _ x79 true ((pureFn CC (DV.fn 138 []) [x85, x86] σ38).bind fun v => some (v, σ38)) σ38 fun x87 σ39 =>
 G _ x79 true ((binOp PP .geq 3 x87 I0).bind fun v => some (v, σ39)) σ39 fun x88 σ40 =>
 G _ x75 false ((pickV x79 x88 (DV.p (PV.bool false))).bind fun v => some (v, σ40)) σ40 fun x89 σ41 =>
 (pickV x75 (DV.p (PV.bool true)) x89).bind fun x90 =>
 condK x90
 (
 some ((DV.p (PV.bool false)), σ41)
 )
 (
 (binOp PP .add 3 x49 I1).bind fun x91 =>
 f86_L1 G lo x1 x47 x48 x91 σ41
 )
 )
 (
 some ((DV.p (PV.bool true)), σ)
 ) := (loopF_eq G hG).trans (by kernel_rfl)
theorem F86_eq (G : GuardT) (lo : Nat) (x0 : DV) (σ : Store) : F86 G lo x0 σ =
 (boxP x0).bind fun x1 =>
 (fieldAddr PP 45 x1 0).bind fun x7 =>
 (load PP 3 x7 σ).bind fun x8 =>
 (pureFn CC (DV.fn 65 []) [x8, I0, (DV.p (PV.int IntKind.i64 (400)))] σ).bind fun x9 =>
 (unOp .not x9).bind fun x10 =>
 G _ x10 false ((fieldAddr PP 45 x1 2).bind fun v => some (v, σ)) σ fun x12 σ1 =>
 G _ x10 false ((load PP 43 x12 σ1).bind fun v => some (v, σ1)) σ1 fun x13 σ2 =>
 G _ x10 false ((len PP 43 x13 σ2).bind fun v => some (v, σ2)) σ2 fun x14 σ3 =>
 G _ x10 false ((binOp PP .gtr 3 x14 (DV.p (PV.int IntKind.i64 (2000)))).bind fun v => some (v, σ3)) σ3 fun x15 σ4 =>
 (pickV x10 (DV.p (PV.bool true)) x15).bind fun x16 =>
 condK x16
 (
 some ((DV.p (PV.bool false)), σ4)
 )
 (
 (fieldAddr PP 45 x1 1).bind fun x17 =>
 (load PP 24 x17 σ4).bind fun x18 =>
 (len PP 24 x18 σ4).bind fun x19 =>
 f86_L0 G lo x1 x18 x19 I0 σ4
 ) := by kernel_rfl
theorem F86_call {lo : Nat} {x0 : DV} (h : F86 guardT lo x0 σ = some r) : CC lo 86 [x0] σ = some r :=
 callL_run Tryz.func86 (by decide +kernel) rfl (by decide +kernel) h
def c88_0 : Code := bodyOf Tryz.f88
def a88_0 : Ann := (pol 88).ann
def a88_13 : Ann := right (left (right (right a88_0)))
def a88_14 : Ann := left a88_13
def c88_15 : Code := fstC (fstC (sndC (fstC (sndC (sndC c88_0)))))
def c88_31 : Code := sndC (sndC (sndC c88_0))
def a88_31 : Ann := right (right (right a88_0))
def a88_34 : Ann := right (left a88_31)
def a88_35 : Ann := left a88_34
def c88_36 : Code := fstC (fstC (sndC (fstC c88_31)))
def c88_54 : Code := sndC c88_31
def a88_54 : Ann := right a88_31
def f88_L0 (x1 x3 : DV) (σ : Store) : RS :=
 codeF G PP (pol 88) CC lo (.loop c88_15) a88_14 (Z :: x1 :: Z :: x3 :: zn 106 []) σ
 (blockC 0 a88_13 (seqC G PP (pol 88) CC lo c88_31 a88_31 (finR PP Tryz.f88.results.toList)))
def f88_L1 (x1 x4 : DV) (σ : Store) : RS :=
 codeF G PP (pol 88) CC lo (.loop c88_36) a88_35 (Z :: x1 :: Z :: Z :: x4 :: zn 105 []) σ
 (blockC 2 a88_34 (seqC G PP (pol 88) CC lo c88_54 a88_54 (finR PP Tryz.f88.results.toList)))
def F88 (x0 : DV) (σ : Store) : RS :=
 codeF G PP (pol 88) CC lo c88_0 a88_0 (x0 :: zn 109 []) σ (finR PP Tryz.f88.results.toList)
theorem f88_L0_eq (G : GuardT) (hG : GuardOk G) (lo : Nat) (x1 x3 : DV) (σ : Store) : f88_L0 G lo x1 x3 σ =
 (fieldAddr PP 45 x1 1).bind fun x25 =>
 (load PP 24 x25 σ).bind fun x26 =>
 (len PP 24 x26 σ).bind fun x27 =>
 (binOp PP .lss 3 x3 x27).bind fun x28 =>
 condK x28
 (
 (fieldAddr PP 45 x1 1).bind fun x31 =>
 (load PP 24 x31 σ).bind fun x32 =>
 (indexAddr PP 24 x32 x3).bind fun x34 =>
 (load PP 3 x34 σ).bind fun x35 =>
 (fieldAddr PP 45 x1 0).bind fun x36 =>
 (load PP 3 x36 σ).bind fun x37 =>
 (binOp PP .sub 3 x37 I1).bind fun x38 =>
 (pureFn CC (DV.fn 26 []) [x35, I0, x38] σ).bind fun x39 =>
 (unOp .not x39).bind fun x40 =>
 G _ x40 false (some (x3, σ)) σ fun x42 σ11 =>
 G _ x40 false ((binOp PP .gtr 3 x42 I0).bind fun v => some (v, σ11)) σ11 fun x43 σ12 =>
 G _ x40 false (some (x43, σ12)) σ12 fun x44 σ13 =>
 G _ x44 true ((fieldAddr PP 45 x1 1).bind fun v => some (v, σ13)) σ13 fun x45 σ14 =>
 G _ x44 true ((load PP 24 x45 σ14).bind fun v => some (v, σ14)) σ14 fun x46 σ15 =>
 G _ x44 true (some (x3, σ15)) σ15 fun x47 σ16 =>
 G _ x44 true ((indexAddr PP 24 x46 x47).bind fun v => some (v, σ16)) σ16 fun x48 σ17 =>
 G _ x44 true ((load PP 3 x48 σ17).bind fun v => some (v, σ17)) σ17 fun x49 σ18 =>
 G _ x44 true ((fieldAddr PP 45 x1 1).bind fun v => some (v, σ18)) σ18 fun x50 σ19 =>
 G _ x44 true ((load PP 24 x50 σ19).bind fun v => some (v, σ19)) σ19 fun x51 σ20 =>
 G _ x44 true (some (x3, σ20)) σ20 fun x52 σ21 =>
 G _ x44 true ((binOp PP .sub 3 x52 I1).bind fun v => some (v, σ21)) σ21 fun x53 σ22 =>
 G _ x44 true ((indexAddr PP 24 x51 x53).bind fun v => some (v, σ22)) σ22 fun x54 σ23 =>
 G _ x44 true ((load PP 3 x54 σ23).bind fun v => some (v, σ23)) σ23 fun x55 σ24 =>
 G _ x44 true ((binOp PP .leq 3 x49 x55).bind fun v => some (v, σ24)) σ24 fun x56 σ25 =>
 G _ x40 false ((pickV x44 x56 (DV.p (PV.bool false))).bind fun v => some (v, σ25)) σ25 fun x57 σ26 =>
 (pickV x40 (DV.p (PV.bool true)) x57).bind fun x58 =>
 condK x58
 (
 some ((DV.p (PV.bool false)), σ26)
 )
 (
 (binOp PP .add 3 x3 I1).bind fun x30 =>
 f88_L0 G lo x1 x30 σ26
 )
 )
 (
 f88_L1 G lo x1 I0 σ
 ) := (loopF_eq G hG).trans (by kernel_rfl)
theorem f88_L1_eq (G : GuardT) (hG : GuardOk G) (lo : Nat) (x1 x4 : DV) (σ : Store) : f88_L1 G lo x1 x4 σ =
 (fieldAddr PP 45 x1 2).bind fun x60 =>
 (load PP 43 x60 σ).bind fun x61 =>
 (len PP 43 x61 σ).bind fun x62 =>
 (binOp PP .lss 3 x4 x62).bind fun x63 =>
 condK x63
 (
 (fieldAddr PP 45 x1 2).bind fun x66 =>
 (load PP 43 x66 σ).bind fun x67 =>
 (indexAddr PP 43 x67 x4).bind fun x69 =>
 (load PP 129 x69 σ).bind fun x70 =>
 (zeroOf PP 129).bind fun z5 =>
 (store PP lo 129 (DV.ptr (List.length σ) 0) x70 (σ ++ [Row.mix z5])).bind fun σ27 =>
 (fieldAddr PP 129 (DV.ptr (List.length σ) 0) 0).bind fun x71 =>
 (load PP 3 x71 σ27).bind fun x72 =>
 (fieldAddr PP 45 x1 0).bind fun x73 =>
 (load PP 3 x73 σ27).bind fun x74 =>
 (binOp PP .sub 3 x74 I1).bind fun x75 =>
 (pureFn CC (DV.fn 26 []) [x72, I0, x75] σ27).bind fun x76 =>
 (unOp .not x76).bind fun x77 =>
 G _ x77 false ((fieldAddr PP 129 (DV.ptr (List.length σ) 0) 1).bind fun v => some (v, σ27)) σ27 fun x79 σ28 =>
 G _ x77 false ((load PP 3 x79 σ28).bind fun v => some (v, σ28)) σ28 fun x80 σ29 =>
 G _ x77 false ((fieldAddr PP 45 x1 0).bind fun v => some (v, σ29)) σ29 fun x81 σ30 =>
 G _ x77 false ((load PP 3 x81 σ30).bind fun v => some (v, σ30)) σ30 fun x82 σ31 =>
 G _ x77 false ((binOp PP .sub 3 x82 I1).bind fun v => some (v, σ31)) σ31 fun x83 σ32 =>
 G _ x77 false ((pureFn CC (DV.fn 26 []) [x80, I0, x83] σ32).bind fun v => some (v, σ32)) σ32 fun x84 σ33 =>
 G _ x77 false ((unOp .not x84).bind fun v => some (v, σ33)) σ33 fun x85 σ34 =>
 (pickV x77 (DV.p (PV.bool true)) x85).bind fun x86 =>
 G _ x86 false ((fieldAddr PP 129 (DV.ptr (List.length σ) 0) 2).bind fun v => some (v, σ34)) σ34 fun x88 σ35 =>
 G _ x86 false ((load PP 3 x88 σ35).bind fun v => some (v, σ35)) σ35 fun x89 σ36 =>
 G _ x86 false ((pureFn CC (DV.fn 26 []) [x89, I0, (DV.p (PV.int IntKind.i64 (11)))] σ36).bind fun v => some (v, σ36)) σ36 fun x90 σ37 =>
 G _ x86 false ((unOp .not x90).bind fun v => some (v, σ37)) σ37 fun x91 σ38 =>
 (pickV x86 (DV.p (PV.bool true)) x91).bind fun x92 =>
 G _ x92 false (some (x4, σ38)) σ38 fun x94 σ39 =>
 G _ x92 false ((binOp PP .gtr 3 x94 I0).bind fun v => some (v, σ39)) σ39 fun x95 σ40 =>
 G _ x92 false (some (x95, σ40)) σ40 fun x96 σ41 =>
 G _ x96 true ((fieldAddr PP 45 x1 2).bind fun v => some (v, σ41)) σ41 fun x97 σ42 =>
 G _ x96 true ((load PP 43 x97 σ42).bind fun v => some (v, σ42)) σ42 fun x98 σ43 =>
 G _ x96 true (some (x4, σ43)) σ43 fun x99 σ44 =>
 G _ x96 true ((binOp PP .sub 3 x99 I1).bind fun v => some (v, σ44)) σ44 fun x100 σ45 =>
 G _ x96 true ((indexAddr PP 43 x98 x100).bind fun v => some (v, σ45)) σ45 fun x101 σ46 =>
 G _ x96 true ((load PP 129 x101 σ46).bind fun v => some (v, σ46)) σ46 fun x102 σ47 =>
 G _ x96 true ((pureFn CC (DV.fn 140 []) [x102] σ47).bind fun v => some (v, σ47)) σ47 fun x103 σ48 =>
 G _ x96 true ((load PP 129 (DV.ptr (List.length σ) 0) σ48).bind fun v => some (v, σ48)) σ48 fun x104 σ49 =>
 G _ x96 true ((pureFn CC (DV.fn 140 []) [x104] σ49).bind fun v => some (v, σ49)) σ49 fun x105 σ50 =>
 G _ x96 true ((pureFn CC (DV.fn 139 []) [x103, x105] σ50).bind fun v => some (v, σ50)) σ50 fun x106 σ51 =>
 G _ x96 true ((binOp PP .geq 3 x106 I0).bind fun v => some (v, σ51)) σ51 fun x107 σ52 =>
 G _ x92 false ((pickV x96 x107 (DV.p (PV.bool false))).bind fun v => some (v, σ52)) σ52 fun x108 σ53 =>
 (pickV x92 (DV.p (PV.bool true)) x108).bind fun x109 =>
 condK x109
 (
 some ((DV.p (PV.bool false)), σ53)
 )
 (
 (binOp PP .add 3 x4 I1).bind fun x65 =>
 f88_L1 G lo x1 x65 σ53
 )
 )
 (
 some ((DV.p (PV.bool true)), σ)
 ) := (loopF_eq G hG).trans (by kernel_rfl)
theorem F88_eq (G : GuardT) (lo : Nat) (x0 : DV) (σ : Store) : F88 G lo x0 σ =
 (boxP x0).bind fun x1 =>
 (fieldAddr PP 45 x1 0).bind fun x6 =>
 (load PP 3 x6 σ).bind fun x7 =>
 (pureFn CC (DV.fn 26 []) [x7, I0, (DV.p (PV.int IntKind.i64 (400)))] σ).bind fun x8 =>
 (unOp .not x8).bind fun x9 =>
 G _ x9 false ((fieldAddr PP 45 x1 1).bind fun v => some (v, σ)) σ fun x11 σ1 =>
 G _ x9 false ((load PP 24 x11 σ1).bind fun v => some (v, σ1)) σ1 fun x12 σ2 =>
 G _ x9 false ((len PP 24 x12 σ2).bind fun v => some (v, σ2)) σ2 fun x13 σ3 =>
 G _ x9 false ((fieldAddr PP 45 x1 0).bind fun v => some (v, σ3)) σ3 fun x14 σ4 =>
 G _ x9 false ((load PP 3 x14 σ4).bind fun v => some (v, σ4)) σ4 fun x15 σ5 =>
 G _ x9 false ((binOp PP .gtr 3 x13 x15).bind fun v => some (v, σ5)) σ5 fun x16 σ6 =>
 (pickV x9 (DV.p (PV.bool true)) x16).bind fun x17 =>
 G _ x17 false ((fieldAddr PP 45 x1 2).bind fun v => some (v, σ6)) σ6 fun x19 σ7 =>
 G _ x17 false ((load PP 43 x19 σ7).bind fun v => some (v, σ7)) σ7 fun x20 σ8 =>
 G _ x17 false ((len PP 43 x20 σ8).bind fun v => some (v, σ8)) σ8 fun x21 σ9 =>
 G _ x17 false ((binOp PP .gtr 3 x21 (DV.p (PV.int IntKind.i64 (2000)))).bind fun v => some (v, σ9)) σ9 fun x22 σ10 =>
 (pickV x17 (DV.p (PV.bool true)) x22).bind fun x23 =>
 condK x23
 (
 some ((DV.p (PV.bool false)), σ10)
 )
 (
 f88_L0 G lo x1 I0 σ10
 ) := by kernel_rfl
theorem F88_call {lo : Nat} {x0 : DV} (h : F88 guardT lo x0 σ = some r) : CC lo 88 [x0] σ = some r :=
 callL_run Tryz.func88 (by decide +kernel) rfl (by decide +kernel) h
def c87_0 : Code := bodyOf Tryz.f87
def a87_0 : Ann := (pol 87).ann
def a87_5 : Ann := right (left (right a87_0))
def a87_6 : Ann := left a87_5
def c87_7 : Code := fstC (fstC (sndC (fstC (sndC c87_0))))
def c87_27 : Code := sndC (sndC c87_0)
def a87_27 : Ann := right (right a87_0)
def f87_L0 (x0 x1 x9 x10 x11 : DV) (σ : Store) : RS :=
 codeF G PP (pol 87) CC lo (.loop c87_7) a87_6 (x0 :: x1 :: zn 7 (x9 :: x10 :: x11 :: zn 30 [])) σ
 (blockC 0 a87_5 (seqC G PP (pol 87) CC lo c87_27 a87_27 (finR PP Tryz.f87.results.toList)))
def F87 (x0 x1 : DV) (σ : Store) : RS :=
 codeF G PP (pol 87) CC lo c87_0 a87_0 (x0 :: x1 :: zn 40 []) σ (finR PP Tryz.f87.results.toList)
theorem f87_L0_eq (G : GuardT) (hG : GuardOk G) (lo : Nat) (x0 x1 x9 x10 x11 : DV) (σ : Store) : f87_L0 G lo x0 x1 x9 x10 x11 σ =
 (binOp PP .lss 3 x11 x10).bind fun x12 =>
 condK x12
 (
 (indexAddr PP 24 x9 x11).bind fun x14 =>
 (load PP 3 x14 σ).bind fun x15 =>
 (binOp PP .sub 3 x1 I1).bind fun x18 =>
 (pureFn CC (DV.fn 65 []) [x15, I0, x18] σ).bind fun x19 =>
 (unOp .not x19).bind fun x20 =>
 (pureFn CC (DV.fn 67 []) [x20, (DV.p (PV.int IntKind.i64 (10)))] σ).bind fun x21 =>
 (binOp PP .gtr 3 x11 I0).bind fun x23 =>
 G _ x23 true (some (x15, σ)) σ fun x25 σ1 =>
 G _ x23 true (some (x0, σ1)) σ1 fun x26 σ2 =>
 G _ x23 true (some (x11, σ2)) σ2 fun x27 σ3 =>
 G _ x23 true ((binOp PP .sub 3 x27 I1).bind fun v => some (v, σ3)) σ3 fun x28 σ4 =>
 G _ x23 true ((maxMin true [x28, I0]).bind fun v => some (v, σ4)) σ4 fun x29 σ5 =>
 G _ x23 true ((indexAddr PP 24 x26 x29).bind fun v => some (v, σ5)) σ5 fun x30 σ6 =>
 G _ x23 true ((load PP 3 x30 σ6).bind fun v => some (v, σ6)) σ6 fun x31 σ7 =>
 G _ x23 true ((binOp PP .leq 3 x25 x31).bind fun v => some (v, σ7)) σ7 fun x32 σ8 =>
 (pickV x23 x32 (DV.p (PV.bool false))).bind fun x33 =>
 (pureFn CC (DV.fn 67 []) [x33, (DV.p (PV.int IntKind.i64 (13)))] σ8).bind fun x34 =>
 (buildSlice PP none 160 2 [(0, x21), (1, x34)] σ8).bind fun r35_9 =>
 (pureFn CC (DV.fn 66 []) [r35_9.1] r35_9.2).bind fun x36 =>
 (binOp PP .neq 30 x36 I0).bind fun x38 =>
 condK x38
 (
 some ((DV.tuple [x11, x36]), r35_9.2)
 )
 (
 (binOp PP .add 3 x11 I1).bind fun x41 =>
 f87_L0 G lo x0 x1 x9 x10 x41 r35_9.2
 )
 )
 (
 some ((DV.tuple [I0, I0]), σ)
 ) := (loopF_eq G hG).trans (by kernel_rfl)
theorem F87_eq (G : GuardT) (lo : Nat) (x0 x1 : DV) (σ : Store) : F87 G lo x0 x1 σ =
 (len PP 24 x0 σ).bind fun x10 =>
 f87_L0 G lo x0 x1 x0 x10 I0 σ := by kernel_rfl
theorem F87_call {lo : Nat} {x0 x1 : DV} (h : F87 guardT lo x0 x1 σ = some r) : CC lo 87 [x0, x1] σ = some r :=
 callL_run Tryz.func87 (by decide +kernel) rfl (by decide +kernel) h
def c90_0 : Code := bodyOf Tryz.f90
def a90_0 : Ann := (pol 90).ann
def a90_5 : Ann := right (left (right a90_0))
def a90_6 : Ann := left a90_5
def c90_7 : Code := fstC (fstC (sndC (fstC (sndC c90_0))))
def c90_31 : Code := sndC (sndC c90_0)
def a90_31 : Ann := right (right a90_0)
def f90_L0 (x1 x2 x6 : DV) (σ : Store) : RS :=
 codeF G PP (pol 90) CC lo (.loop c90_7) a90_6 (Z :: x1 :: x2 :: Z :: Z :: Z :: x6 :: zn 32 []) σ
 (blockC 0 a90_5 (seqC G PP (pol 90) CC lo c90_31 a90_31 (finR PP Tryz.f90.results.toList)))
def F90 (x0 x1 : DV) (σ : Store) : RS :=
 codeF G PP (pol 90) CC lo c90_0 a90_0 (x0 :: x1 :: zn 37 []) σ (finR PP Tryz.f90.results.toList)
theorem f90_L0_eq (G : GuardT) (hG : GuardOk G) (lo : Nat) (x1 x2 x6 : DV) (σ : Store) : f90_L0 G lo x1 x2 x6 σ =
 (len PP 24 x1 σ).bind fun x9 =>
 (binOp PP .lss 3 x6 x9).bind fun x10 =>
 condK x10
 (
 (indexAddr PP 24 x1 x6).bind fun x15 =>
 (load PP 3 x15 σ).bind fun x16 =>
 (fieldAddr PP 47 x2 2).bind fun x17 =>
 (load PP 24 x17 σ).bind fun x18 =>
 (len PP 24 x18 σ).bind fun x19 =>
 (binOp PP .sub 3 x19 I1).bind fun x20 =>
 (pureFn CC (DV.fn 26 []) [x16, I0, x20] σ).bind fun x21 =>
 (unOp .not x21).bind fun x22 =>
 condK x22
 (
 some ((DV.tuple [x6, (DV.p (PV.int IntKind.i64 (10)))]), σ)
 )
 (
 (binOp PP .gtr 3 x6 I0).bind fun x25 =>
 G _ x25 true (some (x1, σ)) σ fun x27 σ1 =>
 G _ x25 true (some (x6, σ1)) σ1 fun x28 σ2 =>
 G _ x25 true ((indexAddr PP 24 x27 x28).bind fun v => some (v, σ2)) σ2 fun x29 σ3 =>
 G _ x25 true ((load PP 3 x29 σ3).bind fun v => some (v, σ3)) σ3 fun x30 σ4 =>
 G _ x25 true (some (x1, σ4)) σ4 fun x31 σ5 =>
 G _ x25 true (some (x6, σ5)) σ5 fun x32 σ6 =>
 G _ x25 true ((binOp PP .sub 3 x32 I1).bind fun v => some (v, σ6)) σ6 fun x33 σ7 =>
 G _ x25 true ((indexAddr PP 24 x31 x33).bind fun v => some (v, σ7)) σ7 fun x34 σ8 =>
 G _ x25 true ((load PP 3 x34 σ8).bind fun v => some (v, σ8)) σ8 fun x35 σ9 =>
 G _ x25 true ((binOp PP .leq 3 x30 x35).bind fun v => some (v, σ9)) σ9 fun x36 σ10 =>
 (pickV x25 x36 (DV.p (PV.bool false))).bind fun x37 =>
 condK x37
 (
 some ((DV.tuple [x6, (DV.p (PV.int IntKind.i64 (13)))]), σ10)
 )
 (
 (binOp PP .add 3 x6 I1).bind fun x12 =>
 f90_L0 G lo x1 x2 x12 σ10
 )
 )
 )
 (
 some ((DV.tuple [I0, I0]), σ)
 ) := (loopF_eq G hG).trans (by kernel_rfl)
theorem F90_eq (G : GuardT) (lo : Nat) (x0 x1 : DV) (σ : Store) : F90 G lo x0 x1 σ =
 (boxP x0).bind fun x2 =>
 f90_L0 G lo x1 x2 I0 σ := by kernel_rfl
theorem F90_call {lo : Nat} {x0 x1 : DV} (h : F90 guardT lo x0 x1 σ = some r) : CC lo 90 [x0, x1] σ = some r :=
 callL_run Tryz.func90 (by decide +kernel) rfl (by decide +kernel) h
def c89_0 : Code := bodyOf Tryz.f89
def a89_0 : Ann := (pol 89).ann
def F89 (x0 : DV) (σ : Store) : RS :=
 codeF G PP (pol 89) CC lo c89_0 a89_0 [x0, Z, Z, Z, Z] σ (finR PP Tryz.f89.results.toList)
theorem F89_eq (G : GuardT) (lo : Nat) (x0 : DV) (σ : Store) : F89 G lo x0 σ =
 (pureFn CC (DV.fn 26 []) [x0, (DV.p (PV.int IntKind.i64 (-1))), (DV.p (PV.int IntKind.i64 (11)))] σ).bind fun x4 =>
 some (x4, σ) := by kernel_rfl
theorem F89_call {lo : Nat} {x0 : DV} (h : F89 guardT lo x0 σ = some r) : CC lo 89 [x0] σ = some r :=
 callL_run Tryz.func89 (by decide +kernel) rfl (by decide +kernel) h
def c76_0 : Code := bodyOf Tryz.f76
def a76_0 : Ann := (pol 76).ann
def F76 (x0 : DV) (σ : Store) : RS :=
 codeF G PP (pol 76) CC lo c76_0 a76_0 (x0 :: zn 10 []) σ (finR PP Tryz.f76.results.toList)
theorem F76_eq (G : GuardT) (lo : Nat) (x0 : DV) (σ : Store) : F76 G lo x0 σ =
 (boxP x0).bind fun x1 =>
 (load PP 47 x1 σ).bind fun x6 =>
 (pureFn CC (DV.fn 39 []) [x6] σ).bind fun x7 =>
 (extractV x7 0).bind fun x8 =>
 (extractV x7 1).bind fun x9 =>
 some (x9, σ) := by kernel_rfl
theorem F76_call {lo : Nat} {x0 : DV} (h : F76 guardT lo x0 σ = some r) : CC lo 76 [x0] σ = some r :=
 callL_run Tryz.func76 (by decide +kernel) rfl (by decide +kernel) h
def c24_0 : Code := bodyOf Tryz.f24
def a24_0 : Ann := (pol 24).ann
def F24 (x0 : DV) (σ : Store) : RS :=
 codeF G PP (pol 24) CC lo c24_0 a24_0 (x0 :: zn 10 []) σ (finR PP Tryz.f24.results.toList)
theorem F24_eq (G : GuardT) (lo : Nat) (x0 : DV) (σ : Store) : F24 G lo x0 σ =
 (boxP x0).bind fun x1 =>
 (load PP 47 x1 σ).bind fun x6 =>
 (pureFn CC (DV.fn 40 []) [x6] σ).bind fun x7 =>
 (extractV x7 0).bind fun x8 =>
 (extractV x7 1).bind fun x9 =>
 some (x9, σ) := by kernel_rfl
theorem F24_call {lo : Nat} {x0 : DV} (h : F24 guardT lo x0 σ = some r) : CC lo 24 [x0] σ = some r :=
 callL_run Tryz.func24 (by decide +kernel) rfl (by decide +kernel) h
def c92_0 : Code := bodyOf Tryz.f92
def a92_0 : Ann := (pol 92).ann
def F92 (x0 x1 x2 : DV) (σ : Store) : RS :=
 codeF G PP (pol 92) CC lo c92_0 a92_0 (x0 :: x1 :: x2 :: zn 15 []) σ (finR PP Tryz.f92.results.toList)
theorem F92_eq (G : GuardT) (lo : Nat) (x0 x1 x2 : DV) (σ : Store) : F92 G lo x0 x1 x2 σ =
 (boxP x0).bind fun x3 =>
 (binOp PP .eql 3 x1 x2).bind fun x9 =>
 G _ x9 false ((load PP 47 x3 σ).bind fun v => some (v, σ)) σ fun x11 σ1 =>
 G _ x9 false (some (x1, σ1)) σ1 fun x12 σ2 =>
 G _ x9 false (some (x2, σ2)) σ2 fun x13 σ3 =>
 G _ x9 false ((pureFn CC (DV.fn 142 []) [x11, x12, x13] σ3).bind fun v => some (v, σ3)) σ3 fun x14 σ4 =>
 G _ x9 false ((len PP 24 x14 σ4).bind fun v => some (v, σ4)) σ4 fun x15 σ5 =>
 G _ x9 false ((binOp PP .gtr 3 x15 I0).bind fun v => some (v, σ5)) σ5 fun x16 σ6 =>
 (pickV x9 (DV.p (PV.bool true)) x16).bind fun x17 =>
 some (x17, σ6) := by kernel_rfl
theorem F92_call {lo : Nat} {x0 x1 x2 : DV} (h : F92 guardT lo x0 x1 x2 σ = some r) : CC lo 92 [x0, x1, x2] σ = some r :=
 callL_run Tryz.func92 (by decide +kernel) rfl (by decide +kernel) h
def c94_0 : Code := bodyOf Tryz.f94
def a94_0 : Ann := (pol 94).ann
def F94 (x0 x1 : DV) (σ : Store) : RS :=
 codeF G PP (pol 94) CC lo c94_0 a94_0 (x0 :: x1 :: zn 22 []) σ (finR PP Tryz.f94.results.toList)
theorem F94_eq (G : GuardT) (lo : Nat) (x0 x1 : DV) (σ : Store) : F94 G lo x0 x1 σ =
 (boxP x0).bind fun x2 =>
 (fieldAddr PP 52 x2 0).bind fun x6 =>
 (load PP 24 x6 σ).bind fun x7 =>
 (len PP 24 x7 σ).bind fun x8 =>
 (binOp PP .lss 3 x1 x8).bind fun x9 =>
 condK x9
 (
 (fieldAddr PP 52 x2 0).bind fun x10 =>
 (load PP 24 x10 σ).bind fun x11 =>
 (indexAddr PP 24 x11 x1).bind fun x13 =>
 (load PP 3 x13 σ).bind fun x14 =>
 some (x14, σ)
 )
 (
 (fieldAddr PP 52 x2 1).bind fun x15 =>
 (load PP 24 x15 σ).bind fun x16 =>
 (fieldAddr PP 52 x2 0).bind fun x18 =>
 (load PP 24 x18 σ).bind fun x19 =>
 (len PP 24 x19 σ).bind fun x20 =>
 (binOp PP .sub 3 x1 x20).bind fun x21 =>
 (indexAddr PP 24 x16 x21).bind fun x22 =>
 (load PP 3 x22 σ).bind fun x23 =>
 some (x23, σ)
 ) := by kernel_rfl
theorem F94_call {lo : Nat} {x0 x1 : DV} (h : F94 guardT lo x0 x1 σ = some r) : CC lo 94 [x0, x1] σ = some r :=
 callL_run Tryz.func94 (by decide +kernel) rfl (by decide +kernel) h
def c96_0 : Code := bodyOf Tryz.f96
def a96_0 : Ann := (pol 96).ann
def a96_13 : Ann := right (left (right (right a96_0)))
def a96_14 : Ann := left a96_13
def c96_15 : Code := fstC (fstC (sndC (fstC (sndC (sndC c96_0)))))
def c96_31 : Code := sndC (sndC (sndC c96_0))
def a96_31 : Ann := right (right (right a96_0))
def f96_L0 (x1 x2 x3 x7 : DV) (σ : Store) : RS :=
 codeF G PP (pol 96) CC lo (.loop c96_15) a96_14 (Z :: x1 :: x2 :: x3 :: Z :: Z :: Z :: x7 :: zn 28 []) σ
 (blockC 0 a96_13 (seqC G PP (pol 96) CC lo c96_31 a96_31 (finR PP Tryz.f96.results.toList)))
def F96 (x0 x1 x2 : DV) (σ : Store) : RS :=
 codeF G PP (pol 96) CC lo c96_0 a96_0 (x0 :: x1 :: x2 :: zn 33 []) σ (finR PP Tryz.f96.results.toList)
theorem f96_L0_eq (G : GuardT) (hG : GuardOk G) (lo : Nat) (x1 x2 x3 x7 : DV) (σ : Store) : f96_L0 G lo x1 x2 x3 x7 σ =
 (fieldAddr PP 45 x3 2).bind fun x12 =>
 (load PP 43 x12 σ).bind fun x13 =>
 (len PP 43 x13 σ).bind fun x14 =>
 (binOp PP .lss 3 x7 x14).bind fun x15 =>
 condK x15
 (
 (fieldAddr PP 45 x3 2).bind fun x18 =>
 (load PP 43 x18 σ).bind fun x19 =>
 (indexAddr PP 43 x19 x7).bind fun x21 =>
 (fieldAddr PP 129 x21 0).bind fun x22 =>
 (load PP 3 x22 σ).bind fun x23 =>
 (binOp PP .eql 3 x23 x1).bind fun x25 =>
 G _ x25 true ((fieldAddr PP 45 x3 2).bind fun v => some (v, σ)) σ fun x27 σ1 =>
 G _ x25 true ((load PP 43 x27 σ1).bind fun v => some (v, σ1)) σ1 fun x28 σ2 =>
 G _ x25 true (some (x7, σ2)) σ2 fun x29 σ3 =>
 G _ x25 true ((indexAddr PP 43 x28 x29).bind fun v => some (v, σ3)) σ3 fun x30 σ4 =>
 G _ x25 true ((fieldAddr PP 129 x30 1).bind fun v => some (v, σ4)) σ4 fun x31 σ5 =>
 G _ x25 true ((load PP 3 x31 σ5).bind fun v => some (v, σ5)) σ5 fun x32 σ6 =>
 G _ x25 true (some (x2, σ6)) σ6 fun x33 σ7 =>
 G _ x25 true ((binOp PP .eql 3 x32 x33).bind fun v => some (v, σ7)) σ7 fun x34 σ8 =>
 (pickV x25 x34 (DV.p (PV.bool false))).bind fun x35 =>
 condK x35
 (
 some ((DV.p (PV.bool true)), σ8)
 )
 (
 (binOp PP .add 3 x7 I1).bind fun x17 =>
 f96_L0 G lo x1 x2 x3 x17 σ8
 )
 )
 (
 some ((DV.p (PV.bool false)), σ)
 ) := (loopF_eq G hG).trans (by kernel_rfl)
theorem F96_eq (G : GuardT) (lo : Nat) (x0 x1 x2 : DV) (σ : Store) : F96 G lo x0 x1 x2 σ =
 (boxP x0).bind fun x3 =>
 (binOp PP .eql 3 x1 x2).bind fun x10 =>
 condK x10
 (
 some ((DV.p (PV.bool true)), σ)
 )
 (
 f96_L0 G lo x1 x2 x3 I0 σ
 ) := by kernel_rfl
theorem F96_call {lo : Nat} {x0 x1 x2 : DV} (h : F96 guardT lo x0 x1 x2 σ = some r) : CC lo 96 [x0, x1, x2] σ = some r :=
 callL_run Tryz.func96 (by decide +kernel) rfl (by decide +kernel) h
def c97_0 : Code := bodyOf Tryz.f97
def a97_0 : Ann := (pol 97).ann
def F97 (x0 x1 : DV) (σ : Store) : RS :=
 codeF G PP (pol 97) CC lo c97_0 a97_0 (x0 :: x1 :: zn 18 []) σ (finR PP Tryz.f97.results.toList)
theorem F97_eq (G : GuardT) (lo : Nat) (x0 x1 : DV) (σ : Store) : F97 G lo x0 x1 σ =
 (boxP x0).bind fun x2 =>
 (binOp PP .add 3 x1 I1).bind fun x6 =>
 (fieldAddr PP 52 x2 0).bind fun x7 =>
 (load PP 24 x7 σ).bind fun x8 =>
 (len PP 24 x8 σ).bind fun x9 =>
 (fieldAddr PP 52 x2 1).bind fun x10 =>
 (load PP 24 x10 σ).bind fun x11 =>
 (len PP 24 x11 σ).bind fun x12 =>
 (binOp PP .add 3 x9 x12).bind fun x13 =>
 (binOp PP .lss 3 x6 x13).bind fun x14 =>
 condK x14
 (
 (binOp PP .add 3 x1 I1).bind fun x16 =>
 some (x16, σ)
 )
 (
 (fieldAddr PP 52 x2 0).bind fun x17 =>
 (load PP 24 x17 σ).bind fun x18 =>
 (len PP 24 x18 σ).bind fun x19 =>
 some (x19, σ)
 ) := by kernel_rfl
theorem F97_call {lo : Nat} {x0 x1 : DV} (h : F97 guardT lo x0 x1 σ = some r) : CC lo 97 [x0, x1] σ = some r :=
 callL_run Tryz.func97 (by decide +kernel) rfl (by decide +kernel) h
def c138_0 : Code := bodyOf Tryz.f138
def a138_0 : Ann := (pol 138).ann
def F138 (x0 x1 : DV) (σ : Store) : RS :=
 codeF G PP (pol 138) CC lo c138_0 a138_0 (x0 :: x1 :: zn 20 []) σ (finR PP Tryz.f138.results.toList)
theorem F138_eq (G : GuardT) (lo : Nat) (x0 x1 : DV) (σ : Store) : F138 G lo x0 x1 σ =
 (boxP x0).bind fun x2 =>
 (boxP x1).bind fun x3 =>
 (fieldAddr PP 129 x2 0).bind fun x5 =>
 (load PP 3 x5 σ).bind fun x6 =>
 (fieldAddr PP 129 x3 0).bind fun x7 =>
 (load PP 3 x7 σ).bind fun x8 =>
 (pureFn CC (DV.fn 168 []) [x6, x8] σ).bind fun x9 =>
 (fieldAddr PP 129 x2 1).bind fun x10 =>
 (load PP 3 x10 σ).bind fun x11 =>
 (fieldAddr PP 129 x3 1).bind fun x12 =>
 (load PP 3 x12 σ).bind fun x13 =>
 (pureFn CC (DV.fn 168 []) [x11, x13] σ).bind fun x14 =>
 (fieldAddr PP 129 x2 2).bind fun x15 =>
 (load PP 3 x15 σ).bind fun x16 =>
 (fieldAddr PP 129 x3 2).bind fun x17 =>
 (load PP 3 x17 σ).bind fun x18 =>
 (pureFn CC (DV.fn 168 []) [x16, x18] σ).bind fun x19 =>
 (buildSlice PP none 24 3 [(0, x9), (1, x14), (2, x19)] σ).bind fun r20_1 =>
 (pureFn CC (DV.fn 167 []) [r20_1.1] r20_1.2).bind fun x21 =>
 some (x21, r20_1.2) := by kernel_rfl
theorem F138_call {lo : Nat} {x0 x1 : DV} (h : F138 guardT lo x0 x1 σ = some r) : CC lo 138 [x0, x1] σ = some r :=
 callL_run Tryz.func138 (by decide +kernel) rfl (by decide +kernel) h
def c139_0 : Code := bodyOf Tryz.f139
def a139_0 : Ann := (pol 139).ann
def a139_5 : Ann := right (left (right a139_0))
def a139_6 : Ann := left a139_5
def c139_7 : Code := fstC (fstC (sndC (fstC (sndC c139_0))))
def c139_23 : Code := sndC (sndC c139_0)
def a139_23 : Ann := right (right a139_0)
def f139_L0 (x0 x1 x5 : DV) (σ : Store) : RS :=
 codeF G PP (pol 139) CC lo (.loop c139_7) a139_6 (x0 :: x1 :: Z :: Z :: Z :: x5 :: zn 46 []) σ
 (blockC 0 a139_5 (seqC G PP (pol 139) CC lo c139_23 a139_23 (finR PP Tryz.f139.results.toList)))
def F139 (x0 x1 : DV) (σ : Store) : RS :=
 codeF G PP (pol 139) CC lo c139_0 a139_0 (x0 :: x1 :: zn 50 []) σ (finR PP Tryz.f139.results.toList)
theorem f139_L0_eq (G : GuardT) (hG : GuardOk G) (lo : Nat) (x0 x1 x5 : DV) (σ : Store) : f139_L0 G lo x0 x1 x5 σ =
 (len PP 24 x0 σ).bind fun x8 =>
 (binOp PP .lss 3 x5 x8).bind fun x9 =>
 G _ x9 true (some (x5, σ)) σ fun x11 σ1 =>
 G _ x9 true (some (x1, σ1)) σ1 fun x12 σ2 =>
 G _ x9 true ((len PP 24 x12 σ2).bind fun v => some (v, σ2)) σ2 fun x13 σ3 =>
 G _ x9 true ((binOp PP .lss 3 x11 x13).bind fun v => some (v, σ3)) σ3 fun x14 σ4 =>
 (pickV x9 x14 (DV.p (PV.bool false))).bind fun x15 =>
 condK x15
 (
 (indexAddr PP 24 x0 x5).bind fun x20 =>
 (load PP 3 x20 σ4).bind fun x21 =>
 (indexAddr PP 24 x1 x5).bind fun x24 =>
 (load PP 3 x24 σ4).bind fun x25 =>
 (binOp PP .neq 3 x21 x25).bind fun x26 =>
 condK x26
 (
 (indexAddr PP 24 x0 x5).bind fun x29 =>
 (load PP 3 x29 σ4).bind fun x30 =>
 (indexAddr PP 24 x1 x5).bind fun x33 =>
 (load PP 3 x33 σ4).bind fun x34 =>
 (binOp PP .lss 3 x30 x34).bind fun x35 =>
 (pureFn CC (DV.fn 165 []) [x35] σ4).bind fun x36 =>
 (binOp PP .mul 3 (DV.p (PV.int IntKind.i64 (2))) x36).bind fun x37 =>
 (binOp PP .sub 3 I1 x37).bind fun x38 =>
 some (x38, σ4)
 )
 (
 (binOp PP .add 3 x5 I1).bind fun x17 =>
 f139_L0 G lo x0 x1 x17 σ4
 )
 )
 (
 (len PP 24 x0 σ4).bind fun x40 =>
 (len PP 24 x1 σ4).bind fun x42 =>
 (binOp PP .gtr 3 x40 x42).bind fun x43 =>
 (pureFn CC (DV.fn 165 []) [x43] σ4).bind fun x44 =>
 (len PP 24 x0 σ4).bind fun x46 =>
 (len PP 24 x1 σ4).bind fun x48 =>
 (binOp PP .lss 3 x46 x48).bind fun x49 =>
 (pureFn CC (DV.fn 165 []) [x49] σ4).bind fun x50 =>
 (binOp PP .sub 3 x44 x50).bind fun x51 =>
 some (x51, σ4)
 ) := (loopF_eq G hG).trans (by kernel_rfl)
theorem F139_eq (G : GuardT) (lo : Nat) (x0 x1 : DV) (σ : Store) : F139 G lo x0 x1 σ =
 f139_L0 G lo x0 x1 I0 σ := by kernel_rfl
theorem F139_call {lo : Nat} {x0 x1 : DV} (h : F139 guardT lo x0 x1 σ = some r) : CC lo 139 [x0, x1] σ = some r :=
 callL_run Tryz.func139 (by decide +kernel) rfl (by decide +kernel) h
def c140_0 : Code := bodyOf Tryz.f140
def a140_0 : Ann := (pol 140).ann
def F140 (x0 : DV) (σ : Store) : RS :=
 codeF G PP (pol 140) CC lo c140_0 a140_0 (x0 :: zn 9 []) σ (finR PP Tryz.f140.results.toList)
theorem F140_eq (G : GuardT) (lo : Nat) (x0 : DV) (σ : Store) : F140 G lo x0 σ =
 (boxP x0).bind fun x1 =>
 (fieldAddr PP 129 x1 0).bind fun x3 =>
 (load PP 3 x3 σ).bind fun x4 =>
 (fieldAddr PP 129 x1 1).bind fun x5 =>
 (load PP 3 x5 σ).bind fun x6 =>
 (fieldAddr PP 129 x1 2).bind fun x7 =>
 (load PP 3 x7 σ).bind fun x8 =>
 (buildSlice PP none 24 3 [(0, x4), (1, x6), (2, x8)] σ).bind fun r9_1 =>
 some (r9_1.1, r9_1.2) := by kernel_rfl
theorem F140_call {lo : Nat} {x0 : DV} (h : F140 guardT lo x0 σ = some r) : CC lo 140 [x0] σ = some r :=
 callL_run Tryz.func140 (by decide +kernel) rfl (by decide +kernel) h
def c142_0 : Code := bodyOf Tryz.f142
def a142_0 : Ann := (pol 142).ann
def a142_7 : Ann := right (left (right (right a142_0)))
def a142_8 : Ann := left a142_7
def c142_9 : Code := fstC (fstC (sndC (fstC (sndC (sndC c142_0)))))
def a142_16 : Ann := left (right (right (left a142_8)))
def c142_24 : Code := sndC (sndC (sndC c142_9))
def a142_24 : Ann := right (right (right (left a142_8)))
def c142_25 : Code := sndC (sndC (sndC c142_0))
def a142_25 : Ann := right (right (right a142_0))
def f142_L0 (x1 x2 x7 x12 x13 x14 : DV) (σ : Store) : RS :=
 codeF G PP (pol 142) CC lo (.loop c142_9) a142_8 (Z :: x1 :: x2 :: Z :: Z :: Z :: Z :: x7 :: Z :: Z :: Z :: Z :: x12 :: x13 :: x14 :: zn 25 []) σ
 (blockC 0 a142_7 (seqC G PP (pol 142) CC lo c142_25 a142_25 (finR PP Tryz.f142.results.toList)))
def f142_J0_fr (x1 x2 x7 x9 x12 x13 x14 x15 x16 x17 x18 x19 x20 x21 x22 x23 x24 x25 x26 x27 x28 x29 x30 x31 x32 x33 x34 x35 x36 x37 : DV) : Frame := [Z, x1, x2, Z, Z, Z, Z, x7, Z, x9, Z, Z, x12, x13, x14, x15, x16, x17, x18, x19, x20, x21, x22, x23, x24, x25, x26, x27, x28, x29, x30, x31, x32, x33, x34, x35, x36, x37, Z, Z]
def f142_J0 (x1 x2 x7 x9 x12 x13 x14 x15 x16 x17 x18 x19 x20 x21 x22 x23 x24 x25 x26 x27 x28 x29 x30 x31 x32 x33 x34 x35 x36 x37 : DV) (σ : Store) : RS :=
 (blockC 1 a142_16 (seqC G PP (pol 142) CC lo c142_24 a142_24 (loopC G PP (pol 142) CC lo c142_9 a142_8 (blockC 0 a142_7 (seqC G PP (pol 142) CC lo c142_25 a142_25 (finR PP Tryz.f142.results.toList)))))) .normal (f142_J0_fr x1 x2 x7 x9 x12 x13 x14 x15 x16 x17 x18 x19 x20 x21 x22 x23 x24 x25 x26 x27 x28 x29 x30 x31 x32 x33 x34 x35 x36 x37) σ
def F142 (x0 x1 x2 : DV) (σ : Store) : RS :=
 codeF G PP (pol 142) CC lo c142_0 a142_0 (x0 :: x1 :: x2 :: zn 37 []) σ (finR PP Tryz.f142.results.toList)
theorem f142_L0_eq (G : GuardT) (hG : GuardOk G) (lo : Nat) (x1 x2 x7 x12 x13 x14 : DV) (σ : Store) : f142_L0 G lo x1 x2 x7 x12 x13 x14 σ =
 (binOp PP .lss 3 x14 x13).bind fun x15 =>
 condK x15
 (
 (indexAddr PP 43 x12 x14).bind fun x16 =>
 (load PP 129 x16 σ).bind fun x17 =>
 (zeroOf PP 129).bind fun z9 =>
 (store PP lo 129 (DV.ptr (List.length σ) 0) x17 (σ ++ [Row.mix z9])).bind fun σ1 =>
 (fieldAddr PP 129 (DV.ptr (List.length σ) 0) 0).bind fun x18 =>
 (load PP 3 x18 σ1).bind fun x19 =>
 (binOp PP .eql 3 x19 x1).bind fun x21 =>
 G _ x21 true ((fieldAddr PP 129 (DV.ptr (List.length σ) 0) 1).bind fun v => some (v, σ1)) σ1 fun x23 σ2 =>
 G _ x21 true ((load PP 3 x23 σ2).bind fun v => some (v, σ2)) σ2 fun x24 σ3 =>
 G _ x21 true (some (x2, σ3)) σ3 fun x25 σ4 =>
 G _ x21 true ((binOp PP .eql 3 x24 x25).bind fun v => some (v, σ4)) σ4 fun x26 σ5 =>
 (pickV x21 x26 (DV.p (PV.bool false))).bind fun x27 =>
 G _ x27 true (some (x1, σ5)) σ5 fun x29 σ6 =>
 G _ x27 true (some (x2, σ6)) σ6 fun x30 σ7 =>
 G _ x27 true ((binOp PP .neq 3 x29 x30).bind fun v => some (v, σ7)) σ7 fun x31 σ8 =>
 (pickV x27 x31 (DV.p (PV.bool false))).bind fun x32 =>
 condK x32
 (
 (fieldAddr PP 129 (DV.ptr (List.length σ) 0) 2).bind fun x34 =>
 (load PP 3 x34 σ8).bind fun x35 =>
 (buildSlice PP none 24 1 [(0, x35)] σ8).bind fun r36_9 =>
 (append PP lo false 24 24 x7 r36_9.1 r36_9.2).bind fun r37_10 =>
 f142_J0 G lo x1 x2 r37_10.1 (DV.ptr (List.length σ) 0) x12 x13 x14 x15 x16 x17 x18 x19 x1 x21 x21 x23 x24 x25 x26 x27 x27 x29 x30 x31 x32 x7 x34 x35 r36_9.1 r37_10.1 r37_10.2
 )
 (
 f142_J0 G lo x1 x2 x7 (DV.ptr (List.length σ) 0) x12 x13 x14 x15 x16 x17 x18 x19 x1 x21 x21 x23 x24 x25 x26 x27 x27 x29 x30 x31 x32 Z Z Z Z Z σ8
 )
 )
 (
 some (x7, σ)
 ) := (loopF_eq G hG).trans (by kernel_rfl)
theorem f142_J0_eq (G : GuardT) (lo : Nat) (x1 x2 x7 x9 x12 x13 x14 x15 x16 x17 x18 x19 x20 x21 x22 x23 x24 x25 x26 x27 x28 x29 x30 x31 x32 x33 x34 x35 x36 x37 : DV) (σ : Store) : f142_J0 G lo x1 x2 x7 x9 x12 x13 x14 x15 x16 x17 x18 x19 x20 x21 x22 x23 x24 x25 x26 x27 x28 x29 x30 x31 x32 x33 x34 x35 x36 x37 σ =
 (binOp PP .add 3 x14 I1).bind fun x38 =>
 f142_L0 G lo x1 x2 x7 x12 x13 x38 σ := by kernel_rfl
theorem F142_eq (G : GuardT) (lo : Nat) (x0 x1 x2 : DV) (σ : Store) : F142 G lo x0 x1 x2 σ =
 (boxP x0).bind fun x3 =>
 (fieldAddr PP 47 x3 0).bind fun x10 =>
 (fieldAddr PP 45 x10 2).bind fun x11 =>
 (load PP 43 x11 σ).bind fun x12 =>
 (len PP 43 x12 σ).bind fun x13 =>
 f142_L0 G lo x1 x2 (DV.p PV.nilsl) x12 x13 I0 σ := by kernel_rfl
theorem F142_call {lo : Nat} {x0 x1 x2 : DV} (h : F142 guardT lo x0 x1 x2 σ = some r) : CC lo 142 [x0, x1, x2] σ = some r :=
 callL_run Tryz.func142 (by decide +kernel) rfl (by decide +kernel) h
end
end Go.D
end
/- Equations of functions 165, 167, 168, 177, printed by gen.py. -/
section
set_option linter.unusedVariables false
set_option maxRecDepth 10000
namespace Go.D
open Go.Proofs
noncomputable section
variable (G : GuardT) (lo : Nat) {σ : Store} {r : DV × Store}
open _root_.Go.D.Code (fstC sndC)
open _root_.Go.D.Ann (left right)
def c165_0 : Code := bodyOf Tryz.f165
def a165_0 : Ann := (pol 165).ann
def F165 (x0 : DV) (σ : Store) : RS :=
 codeF G PP (pol 165) CC lo c165_0 a165_0 [x0, Z, Z, Z] σ (finR PP Tryz.f165.results.toList)
theorem F165_eq (G : GuardT) (lo : Nat) (x0 : DV) (σ : Store) : F165 G lo x0 σ =
 condK x0
 (
 some (I1, σ)
 )
 (
 some (I0, σ)
 ) := by kernel_rfl
theorem F165_call {lo : Nat} {x0 : DV} (h : F165 guardT lo x0 σ = some r) : CC lo 165 [x0] σ = some r :=
 callL_run Tryz.func165 (by decide +kernel) rfl (by decide +kernel) h
def c167_0 : Code := bodyOf Tryz.f167
def a167_0 : Ann := (pol 167).ann
def a167_7 : Ann := right (left (right (right a167_0)))
def a167_8 : Ann := left a167_7
def c167_9 : Code := fstC (fstC (sndC (fstC (sndC (sndC c167_0)))))
def c167_27 : Code := sndC (sndC (sndC c167_0))
def a167_27 : Ann := right (right (right a167_0))
def f167_L0 (x3 x6 x7 x8 : DV) (σ : Store) : RS :=
 codeF G PP (pol 167) CC lo (.loop c167_9) a167_8 (Z :: Z :: Z :: x3 :: Z :: Z :: x6 :: x7 :: x8 :: zn 9 []) σ
 (blockC 0 a167_7 (seqC G PP (pol 167) CC lo c167_27 a167_27 (finR PP Tryz.f167.results.toList)))
def F167 (x0 : DV) (σ : Store) : RS :=
 codeF G PP (pol 167) CC lo c167_0 a167_0 (x0 :: zn 17 []) σ (finR PP Tryz.f167.results.toList)
theorem f167_L0_eq (G : GuardT) (hG : GuardOk G) (lo : Nat) (x3 x6 x7 x8 : DV) (σ : Store) : f167_L0 G lo x3 x6 x7 x8 σ =
 (binOp PP .lss 3 x8 x7).bind fun x9 =>
 condK x9
 (
 (indexAddr PP 24 x6 x8).bind fun x10 =>
 (load PP 3 x10 σ).bind fun x11 =>
 (binOp PP .neq 3 x11 x3).bind fun x14 =>
 condK x14
 (
 some (x11, σ)
 )
 (
 (binOp PP .add 3 x8 I1).bind fun x16 =>
 f167_L0 G lo x3 x6 x7 x16 σ
 )
 )
 (
 some (x3, σ)
 ) := (loopF_eq G hG).trans (by kernel_rfl)
theorem F167_eq (G : GuardT) (lo : Nat) (x0 : DV) (σ : Store) : F167 G lo x0 σ =
 (len PP 24 x0 σ).bind fun x7 =>
 f167_L0 G lo I0 x0 x7 I0 σ := by kernel_rfl
theorem F167_call {lo : Nat} {x0 : DV} (h : F167 guardT lo x0 σ = some r) : CC lo 167 [x0] σ = some r :=
 callL_run Tryz.func167 (by decide +kernel) rfl (by decide +kernel) h
def c168_0 : Code := bodyOf Tryz.f168
def a168_0 : Ann := (pol 168).ann
def F168 (x0 x1 : DV) (σ : Store) : RS :=
 codeF G PP (pol 168) CC lo c168_0 a168_0 (x0 :: x1 :: zn 18 []) σ (finR PP Tryz.f168.results.toList)
theorem F168_eq (G : GuardT) (lo : Nat) (x0 x1 : DV) (σ : Store) : F168 G lo x0 x1 σ =
 (pureFn CC (DV.fn 177 []) [x0] σ).bind fun x8 =>
 (pureFn CC (DV.fn 177 []) [x1] σ).bind fun x10 =>
 condK x8
 (
 condK x10
 (
 some (I0, σ)
 )
 (
 some ((DV.p (PV.int IntKind.i64 (-1))), σ)
 )
 )
 (
 condK x10
 (
 some (I1, σ)
 )
 (
 (binOp PP .lss 3 x0 x1).bind fun x16 =>
 condK x16
 (
 some ((DV.p (PV.int IntKind.i64 (-1))), σ)
 )
 (
 (binOp PP .gtr 3 x0 x1).bind fun x19 =>
 condK x19
 (
 some (I1, σ)
 )
 (
 some (I0, σ)
 )
 )
 )
 ) := by kernel_rfl
theorem F168_call {lo : Nat} {x0 x1 : DV} (h : F168 guardT lo x0 x1 σ = some r) : CC lo 168 [x0, x1] σ = some r :=
 callL_run Tryz.func168 (by decide +kernel) rfl (by decide +kernel) h
def c177_0 : Code := bodyOf Tryz.f177
def a177_0 : Ann := (pol 177).ann
def F177 (x0 : DV) (σ : Store) : RS :=
 codeF G PP (pol 177) CC lo c177_0 a177_0 (x0 :: zn 5 []) σ (finR PP Tryz.f177.results.toList)
theorem F177_eq (G : GuardT) (lo : Nat) (x0 : DV) (σ : Store) : F177 G lo x0 σ =
 (binOp PP .neq 3 x0 x0).bind fun x5 =>
 some (x5, σ) := by kernel_rfl
theorem F177_call {lo : Nat} {x0 : DV} (h : F177 guardT lo x0 σ = some r) : CC lo 177 [x0] σ = some r :=
 callL_run Tryz.func177 (by decide +kernel) rfl (by decide +kernel) h
end
end Go.D
end
/- Chapter 13: labelled graphs as the program's values; comparing edges. -/
section
set_option linter.unusedVariables false
set_option linter.unusedSimpArgs false
set_option maxRecDepth 8000
namespace Go.D
open Las
def eGrP (g : Gr) : List PV := [pI g.n, eSl g.init, eEs g.edges]
def vGr (g : Gr) : DV := .agg [.p (pI g.n), .p (eSl g.init), .p (eEs g.edges)]
theorem box_gr (g : Gr) : boxP (vGr g) = some (.pptr (eGrP g) 0) := rfl
theorem gr_view (g : Gr) : view (vGr g) = vGr g := by simp [view, viewCell, vGr, loosen_sl, loosen_es, loosen]
theorem gr_0 (g : Gr) (σ : Store) : load1 (.pptr (eGrP g) 0) σ = some (.p (.int .i64 g.n)) := load1_pptr rfl σ
theorem gr_1 (g : Gr) (σ : Store) : load1 (.pptr (eGrP g) 1) σ = some (.p (eSl g.init)) := load1_pptr rfl σ
theorem gr_2 (g : Gr) (σ : Store) : load1 (.pptr (eGrP g) 2) σ = some (.p (eEs g.edges)) := load1_pptr rfl σ
structure Lb where
  g : Gr
  la : OI
  st : OI
  en : OI
  we : OI
  sr : OI
def eLb (x : Lb) : List PV := [pI x.g.n, eSl x.g.init, eEs x.g.edges, eSl x.la, eSl x.st, eSl x.en, eSl x.we, eSl x.sr]
def vLb (x : Lb) : DV := .agg [.p (pI x.g.n), .p (eSl x.g.init), .p (eEs x.g.edges), .p (eSl x.la), .p (eSl x.st), .p (eSl x.en), .p (eSl x.we), .p (eSl x.sr)]
theorem box_lb (x : Lb) : boxP (vLb x) = some (.pptr (eLb x) 0) := rfl
theorem lb_view (x : Lb) : view (vLb x) = vLb x := by simp [view, viewCell, vLb, loosen_sl, loosen_es, loosen]
theorem lb_0 (x : Lb) (σ : Store) : load1 (.pptr (eLb x) 0) σ = some (.p (.int .i64 x.g.n)) := load1_pptr rfl σ
theorem lb_1 (x : Lb) (σ : Store) : load1 (.pptr (eLb x) 1) σ = some (.p (eSl x.g.init)) := load1_pptr rfl σ
theorem lb_2 (x : Lb) (σ : Store) : load1 (.pptr (eLb x) 2) σ = some (.p (eEs x.g.edges)) := load1_pptr rfl σ
theorem lb_3 (x : Lb) (σ : Store) : load1 (.pptr (eLb x) 3) σ = some (.p (eSl x.la)) := load1_pptr rfl σ
theorem lb_4 (x : Lb) (σ : Store) : load1 (.pptr (eLb x) 4) σ = some (.p (eSl x.st)) := load1_pptr rfl σ
theorem lb_5 (x : Lb) (σ : Store) : load1 (.pptr (eLb x) 5) σ = some (.p (eSl x.en)) := load1_pptr rfl σ
theorem lb_6 (x : Lb) (σ : Store) : load1 (.pptr (eLb x) 6) σ = some (.p (eSl x.we)) := load1_pptr rfl σ
theorem lb_7 (x : Lb) (σ : Store) : load1 (.pptr (eLb x) 7) σ = some (.p (eSl x.sr)) := load1_pptr rfl σ
theorem lb_g (x : Lb) (σ : Store) : (loadN σ 3 (.pptr (eLb x) 0)).map DV.agg = some (vGr x.g) := rfl
theorem lb_all (x : Lb) (σ : Store) : (loadN σ 8 (.pptr (eLb x) 0)).map DV.agg = some (vLb x) := rfl
theorem fa47_0 (x : DV) : fieldAddr PP 47 x 0 = shiftPtr x 0 := Eq.trans (by kernel_rfl) rfl
theorem fa47_1 (x : DV) : fieldAddr PP 47 x 1 = shiftPtr x 3 := Eq.trans (by kernel_rfl) rfl
theorem fa47_2 (x : DV) : fieldAddr PP 47 x 2 = shiftPtr x 4 := Eq.trans (by kernel_rfl) rfl
theorem fa47_3 (x : DV) : fieldAddr PP 47 x 3 = shiftPtr x 5 := Eq.trans (by kernel_rfl) rfl
theorem fa47_4 (x : DV) : fieldAddr PP 47 x 4 = shiftPtr x 6 := Eq.trans (by kernel_rfl) rfl
theorem fa47_5 (x : DV) : fieldAddr PP 47 x 5 = shiftPtr x 7 := Eq.trans (by kernel_rfl) rfl
theorem fa52_0 (x : DV) : fieldAddr PP 52 x 0 = shiftPtr x 0 := Eq.trans (by kernel_rfl) rfl
theorem fa52_1 (x : DV) : fieldAddr PP 52 x 1 = shiftPtr x 1 := Eq.trans (by kernel_rfl) rfl
theorem load47 (x : DV) (σ : Store) : load PP 47 x σ = (loadN σ 8 x).map .agg := Eq.trans (by kernel_rfl) rfl
theorem load52 (x : DV) (σ : Store) : load PP 52 x σ = (loadN σ 2 x).map .agg := Eq.trans (by kernel_rfl) rfl
theorem zero47 : zeroOf PP 47 = some [.p (pI 0), .p .nilsl, .p .nilsl, .p .nilsl, .p .nilsl, .p .nilsl, .p .nilsl, .p .nilsl] := Eq.trans (by kernel_rfl) rfl
theorem zero52 : zeroOf PP 52 = some [.p .nilsl, .p .nilsl] := Eq.trans (by kernel_rfl) rfl
def edgD (e : Edg) : List DV := [.p (pI e.f), .p (pI e.t), .p (pI e.a)]
def cmpI (a b : Int) : Int := if a < b then -1 else if a > b then 1 else 0
def ordE (a b : Edg) : Int := orL [cmpI a.f b.f, cmpI a.t b.t, cmpI a.a b.a]
theorem b_neB3 (n : Int) : binOp PP .neq 3 (.p (.int .i64 n)) (.p (.int .i64 n)) = some (.p (.bool false)) := by
  rw [b_neq, decide_eq_true rfl]; rfl
theorem S177 (n : Int) (σ : Store) : pureV CC 177 [.p (.int .i64 n)] σ = some (.p (.bool false)) := by
  refine pureV_free rfl rfl (F177_call (r := (.p (.bool false), [])) ?_) rfl
  rw [F177_eq]
  simp only [b_neB3, obind, gG]
theorem S168 (a b : Int) (σ : Store) : pureV CC 168 [.p (.int .i64 a), .p (.int .i64 b)] σ = some (.p (.int .i64 (cmpI a b))) := by
  refine pureV_free rfl rfl (F168_call (r := (.p (.int .i64 (cmpI a b)), [])) ?_) rfl
  rw [F168_eq]
  unfold cmpI
  by_cases h : a < b
  · rw [if_pos h]
    simp only [shift_ptr, shift_pptr, Nat.zero_add, Nat.add_zero, pureFn_fn, List.append_nil, List.singleton_append, List.cons_append, List.nil_append, S177, gG, b_lss, ltT h]
  · rw [if_neg h]
    by_cases h2 : a > b
    · rw [if_pos h2]
      simp only [shift_ptr, shift_pptr, Nat.zero_add, Nat.add_zero, pureFn_fn, List.append_nil, List.singleton_append, List.cons_append, List.nil_append, S177, gG, b_lss, ltF h, b_gtr, gtT h2]
    · rw [if_neg h2]
      simp only [shift_ptr, shift_pptr, Nat.zero_add, Nat.add_zero, pureFn_fn, List.append_nil, List.singleton_append, List.cons_append, List.nil_append, S177, gG, b_lss, ltF h, b_gtr, gtF h2]
theorem L167 {ex : Bool} {l : List Int} {lo : Nat} {σ : Store} (hl : l.length ≤ 1000) : ∀ (k i : Nat), l.length - i = k → i ≤ l.length → f167_L0 guardT lo (.p (.int .i64 0)) (.p (.sl ex l.length (eInts l))) (N l.length) (N i) σ = some (.p (.int .i64 (orL (l.drop i))), σ)
  | 0, i, hk, hi => by
    rw [f167_L0_eq guardT rfl, List.drop_eq_nil_of_le (by omega)]
    simp (disch := omega) only [N, b_lss, ltF, gG, orL]
  | k + 1, i, hk, hi => by
    have h : i < l.length := by omega
    rw [f167_L0_eq guardT rfl, drop_cons h]
    have ih := L167 (ex := ex) (lo := lo) (σ := σ) hl k (i + 1) (by omega) (by omega)
    have hx : PL (.p (.sl ex l.length (eInts l))) l := .inr (.inl ⟨ex, rfl⟩)
    simp (disch := omega) only [N, b_lss, ltT, gG, hx.idx h, load3, load1_getD h, b_neq, orL]
    by_cases hv : l.getD i 0 = 0
    · simp (disch := omega) only [eqT hv, gG, add1]
      rw [if_neg (by simpa using hv)]
      exact ih
    · simp only [eqF hv, gG]
      rw [if_pos hv]
theorem orL_sl {ex : Bool} {l : List Int} (hl : l.length ≤ 1000) (σ : Store) : pureV CC 167 [.p (.sl ex l.length (eInts l))] σ = some (.p (.int .i64 (orL l))) := by
  have hx : PL (.p (.sl false l.length (eInts l))) l := .inr (.inl ⟨false, rfl⟩)
  have e : view (.p (.sl ex l.length (eInts l))) = .p (.sl false l.length (eInts l)) := by simp [view, viewCell, loosen, loosens_ints]
  have e2 : view (.p (.sl false l.length (eInts l))) = .p (.sl false l.length (eInts l)) := by simp [view, viewCell, loosen, loosens_ints]
  rw [pureV_view (args' := [.p (.sl false l.length (eInts l))]) (by simp [e]) (by simp [e2])]
  refine pureV_free (by simp [e2]) rfl (F167_call (r := (.p (.int .i64 (orL l)), [])) ?_) rfl
  rw [F167_eq]
  have := L167 (ex := false) (lo := 0) (σ := []) hl _ 0 rfl (Nat.zero_le _)
  simp only [hx.len, gG]
  rw [List.drop_zero] at this
  exact this
theorem S167 (a b c : Int) (σ : Store) : pureV CC 167 [.p (.sl true 3 [pI a, pI b, pI c])] σ = some (.p (.int .i64 (orL [a, b, c]))) := orL_sl (ex := true) (l := [a, b, c]) (by simp) σ
def eEdgP (e : Edg) : List PV := [pI e.f, pI e.t, pI e.a]
theorem edg_view (e : Edg) : view (.agg (edgD e)) = .agg (edgD e) := rfl
theorem box_edgP (e : Edg) : boxP (.agg (edgD e)) = some (.pptr (eEdgP e) 0) := rfl
theorem edg_0 (e : Edg) (σ : Store) : load1 (.pptr (eEdgP e) 0) σ = some (.p (.int .i64 e.f)) := load1_pptr rfl σ
theorem edg_1 (e : Edg) (σ : Store) : load1 (.pptr (eEdgP e) 1) σ = some (.p (.int .i64 e.t)) := load1_pptr rfl σ
theorem edg_2 (e : Edg) (σ : Store) : load1 (.pptr (eEdgP e) 2) σ = some (.p (.int .i64 e.a)) := load1_pptr rfl σ
theorem bs24_3 (a b c : Int) (σ : Store) : buildSlice PP none 24 3 [(0, .p (.int .i64 a)), (1, .p (.int .i64 b)), (2, .p (.int .i64 c))] σ = some (.p (.sl true 3 [pI a, pI b, pI c]), σ) := Eq.trans (by kernel_rfl) rfl
theorem S138 (a b : Edg) (σ : Store) : pureV CC 138 [.agg (edgD a), .agg (edgD b)] σ = some (.p (.int .i64 (ordE a b))) := by
  refine pureV_free rfl rfl (F138_call (r := (.p (.int .i64 (ordE a b)), [])) ?_) rfl
  rw [F138_eq]
  simp only [box_edgP, gG, fa129_0, fa129_1, fa129_2, shift_ptr, shift_pptr, Nat.zero_add, Nat.add_zero, pureFn_fn, List.append_nil, List.singleton_append, List.cons_append, List.nil_append, load3, edg_0, edg_1, edg_2, S168, bs24_3, S167]
  rfl
def firstI : List Int → List Int → Int
  | a :: xs, b :: ys => if a = b then firstI xs ys else if a < b then -1 else 1
  | xs, ys => (if xs.length > ys.length then 1 else 0) - (if xs.length < ys.length then 1 else 0)
theorem S140 (e : Edg) (σ : Store) : pureV CC 140 [.agg (edgD e)] σ = some (.p (eSl (some [e.f, e.t, e.a]))) := by
  refine pureV_free rfl rfl (F140_call (r := (.p (.sl true 3 [pI e.f, pI e.t, pI e.a]), [])) ?_) rfl
  rw [F140_eq]
  simp only [box_edgP, gG, fa129_0, fa129_1, fa129_2, shift_ptr, shift_pptr, Nat.zero_add, Nat.add_zero, pureFn_fn, List.append_nil, List.singleton_append, List.cons_append, List.nil_append, load3, edg_0, edg_1, edg_2, bs24_3]
theorem S165 (b : Bool) (σ : Store) : pureV CC 165 [.p (.bool b)] σ = some (.p (.int .i64 (if b = true then 1 else 0))) := by
  refine pureV_free rfl rfl (F165_call (r := (.p (.int .i64 (if b = true then 1 else 0)), [])) ?_) rfl
  rw [F165_eq]
  cases b <;> rfl
theorem ordE_first (a b : Edg) : decide (firstI [a.f, a.t, a.a] [b.f, b.t, b.a] ≥ 0) = !decide (ordE a b < 0) := by
  simp only [firstI, ordE, orL, cmpI, List.length_nil]
  by_cases h1 : a.f < b.f
  · have : ¬ a.f = b.f := by omega
    simp [h1, this]
  · by_cases h2 : a.f > b.f
    · have : ¬ a.f = b.f := by omega
      simp [h1, h2, this]
    · have e1 : a.f = b.f := by omega
      by_cases h3 : a.t < b.t
      · have : ¬ a.t = b.t := by omega
        simp [h3, this, e1]
      · by_cases h4 : a.t > b.t
        · have : ¬ a.t = b.t := by omega
          simp [h3, h4, this, e1]
        · have e2 : a.t = b.t := by omega
          by_cases h5 : a.a < b.a
          · have : ¬ a.a = b.a := by omega
            simp [h5, this, e1, e2]
          · by_cases h6 : a.a > b.a
            · have : ¬ a.a = b.a := by omega
              simp [h5, h6, this, e1, e2]
            · have e3 : a.a = b.a := by omega
              simp [e1, e2, e3]
theorem L139 {a b : OI} {σ : Store} {lo : Nat} (ha : (L a).length ≤ 1000) (hb : (L b).length = (L a).length) :
    ∀ (k i : Nat), (L a).length - i = k → i ≤ (L a).length → f139_L0 guardT lo (.p (eSl a)) (.p (eSl b)) (N i) σ = some (.p (.int .i64 (firstI ((L a).drop i) ((L b).drop i))), σ)
  | 0, i, hk, hi => by
    have e : firstI ((L a).drop i) ((L b).drop i) = 0 := by
      rw [List.drop_eq_nil_of_le (by omega), List.drop_eq_nil_of_le (by omega)]; rfl
    have hbn : (((L b).length : Nat) : Int) = (L a).length := by omega
    have w0 : binOp PP .sub 3 (.p (.int .i64 0)) (.p (.int .i64 0)) = some (.p (.int .i64 0)) := rfl
    rw [f139_L0_eq guardT rfl, e]
    simp (disch := omega) only [N, len24, b_lss, ltF, b_gtr, gtF, gG, shift_ptr, shift_pptr, Nat.zero_add, Nat.add_zero, pureFn_fn, List.append_nil, List.singleton_append, List.cons_append, List.nil_append, hbn, S165, Bool.false_eq_true, if_false, w0]
  | k + 1, i, hk, hi => by
    have h : i < (L a).length := by omega
    have h2 : i < (L b).length := by omega
    have ih := L139 (σ := σ) (lo := lo) ha hb k (i + 1) (by omega) (by omega)
    simp only [N] at ih
    rw [f139_L0_eq guardT rfl, drop_cons h, drop_cons h2]
    by_cases c : (L a).getD i 0 = (L b).getD i 0
    · simp (disch := omega) only [N, len24, b_lss, ltT, gG, shift_ptr, shift_pptr, Nat.zero_add, Nat.add_zero, pureFn_fn, List.append_nil, List.singleton_append, List.cons_append, List.nil_append, (PL.sl a).idx h, (PL.sl b).idx h2, load3, load1_getD h, load1_getD h2, b_neq, eqT c, add1, ih, firstI, if_pos c]
    · by_cases d : (L a).getD i 0 < (L b).getD i 0
      · simp (disch := omega) only [N, len24, b_lss, ltT, gG, shift_ptr, shift_pptr, Nat.zero_add, Nat.add_zero, pureFn_fn, List.append_nil, List.singleton_append, List.cons_append, List.nil_append, (PL.sl a).idx h, (PL.sl b).idx h2, load3, load1_getD h, load1_getD h2, b_neq, eqF c, S165, if_true, ltT d, firstI, if_neg c, if_pos d]
        rfl
      · simp (disch := omega) only [N, len24, b_lss, ltT, gG, shift_ptr, shift_pptr, Nat.zero_add, Nat.add_zero, pureFn_fn, List.append_nil, List.singleton_append, List.cons_append, List.nil_append, (PL.sl a).idx h, (PL.sl b).idx h2, load3, load1_getD h, load1_getD h2, b_neq, eqF c, S165, Bool.false_eq_true, if_false, ltF d, firstI, if_neg c, if_neg d]
        rfl
theorem S139 {a b : OI} {σ : Store} (ha : (L a).length ≤ 1000) (hb : (L b).length = (L a).length) : pureV CC 139 [.p (eSl a), .p (eSl b)] σ = some (.p (.int .i64 (firstI (L a) (L b)))) := by
  refine pureV_free (by simp [sl_view]) rfl (F139_call (r := (.p (.int .i64 (firstI (L a) (L b))), [])) ?_) rfl
  rw [F139_eq]
  have := L139 (lo := 0) (σ := []) ha hb _ 0 rfl (Nat.zero_le _)
  rw [List.drop_zero, List.drop_zero] at this
  exact this
end Go.D
end
/- Chapter 13: labelled graphs and behaviours as arguments. -/
section
set_option linter.unusedVariables false
set_option linter.unusedSimpArgs false
set_option maxRecDepth 100000
namespace Go.D
open Go.ChangeShapes Go.WideShapes Go.ChangeAt Go.RowKit
theorem dec129 {a : List PV} (h : Plain PP 129 a) : ∃ e : Edg, a = [pI e.f, pI e.t, pI e.a] := by
  have h1 := h.inv_struct Go.Proofs.Tryz.underlying129
  obtain ⟨a1, b1, h2, h3, rfl⟩ := PlainL.inv_cons h1
  obtain ⟨a2, b2, h4, h5, rfl⟩ := PlainL.inv_cons h3
  obtain ⟨a3, b3, h6, h7, rfl⟩ := PlainL.inv_cons h5
  obtain ⟨x, rfl⟩ := dec3 h2
  obtain ⟨y, rfl⟩ := dec3 h4
  obtain ⟨z, rfl⟩ := dec3 h6
  obtain rfl := PlainL.inv_nil h7
  exact ⟨⟨x, y, z⟩, rfl⟩
theorem flat129 (l : List Edg) : l.flatMap (fun e => [pI e.f, pI e.t, pI e.a]) = eEdgs l := by
  induction l with
  | nil => rfl
  | cons a l ih => simp [ih, eEdgs]
theorem dec43 {a : List PV} (h : Plain PP 43 a) : ∃ o, a = [eEs o] := by
  rcases h.inv_slice u43 with rfl | ⟨n, xs, hx, rfl⟩
  · exact ⟨none, rfl⟩
  · obtain ⟨l, rfl, rfl⟩ := hx.inv_rep (f := fun e : Edg => [pI e.f, pI e.t, pI e.a]) fun a ha => dec129 ha
    exact ⟨some l, by rw [flat129]; rfl⟩
theorem dec45 {a : List PV} (h : Plain PP 45 a) : ∃ g : Gr, a = [pI g.n, eSl g.init, eEs g.edges] := by
  have h1 := h.inv_struct Go.Proofs.Tryz.underlying45
  obtain ⟨a1, b1, h2, h3, rfl⟩ := PlainL.inv_cons h1
  obtain ⟨a2, b2, h4, h5, rfl⟩ := PlainL.inv_cons h3
  obtain ⟨a3, b3, h6, h7, rfl⟩ := PlainL.inv_cons h5
  obtain ⟨x, rfl⟩ := dec3 h2
  obtain ⟨y, rfl⟩ := dec24 h4
  obtain ⟨z, rfl⟩ := dec43 h6
  obtain rfl := PlainL.inv_nil h7
  exact ⟨⟨x, y, z⟩, rfl⟩
section
variable {H : Type} {enc : TypeId × Value → H} {W : World} {hd : Bool} {r : Reach} {b0 : Nat} {v : Value} {d : DataW H} {ps : List MemPlace}
theorem read_lb (hok : Value.okWide PP W r b0 47 v) (h : DataW.Trod enc PP W 0 (fun _ => true) hd 47 v d ps) : ∃ x : Lb, VRel (fun _ _ => none) (memOf W) (vLb x) v := by
  obtain ⟨c, h1, h2⟩ := read_struct 8 Go.Proofs.Tryz.underlying47 (by kernel_rfl) hok h
  have h3 := h1.inv_struct Go.Proofs.Tryz.underlying47
  obtain ⟨a1, b1, k1, h5, rfl⟩ := PlainL.inv_cons h3
  obtain ⟨a2, b2, k2, h7, rfl⟩ := PlainL.inv_cons h5
  obtain ⟨a3, b3, k3, h9, rfl⟩ := PlainL.inv_cons h7
  obtain ⟨a4, b4, k4, h11, rfl⟩ := PlainL.inv_cons h9
  obtain ⟨a5, b5, k5, h13, rfl⟩ := PlainL.inv_cons h11
  obtain ⟨a6, b6, k6, h15, rfl⟩ := PlainL.inv_cons h13
  obtain ⟨g, rfl⟩ := dec45 k1
  obtain ⟨o2, rfl⟩ := dec24 k2
  obtain ⟨o3, rfl⟩ := dec24 k3
  obtain ⟨o4, rfl⟩ := dec24 k4
  obtain ⟨o5, rfl⟩ := dec24 k5
  obtain ⟨o6, rfl⟩ := dec24 k6
  obtain rfl := PlainL.inv_nil h15
  exact ⟨⟨g, o2, o3, o4, o5, o6⟩, h2⟩
end
end Go.D
end
/- Chapter 13: numbers as arguments. -/
section
set_option linter.unusedVariables false
set_option linter.unusedSimpArgs false
set_option maxRecDepth 100000
namespace Go.D
open Go.ChangeShapes Go.WideShapes Go.ChangeAt Go.RowKit
section
variable {H : Type} {enc : TypeId × Value → H} {W : World} {hd : Bool} {r : Reach} {b0 : Nat} {v : Value} {d : DataW H} {ps : List MemPlace}
theorem read_in (hok : Value.okWide PP W r b0 3 v) (h : DataW.Trod enc PP W 0 (fun _ => true) hd 3 v d ps) : ∃ m : Int, VRel (fun _ _ => none) (memOf W) (.p (.int .i64 m)) v := by
  obtain ⟨n, _, h2⟩ := read_intA ul3 hok h
  exact ⟨n, h2⟩
end
end Go.D
end
/- Chapter 13: whether a graph is right, by the program and by the reference. -/
section
set_option linter.unusedVariables false
set_option linter.unusedSimpArgs false
set_option maxRecDepth 8000
namespace Go.D
open Las
def okI (n : Int) (l : List Int) (i : Nat) : Bool := inR (l.getD i 0) 0 (n - 1) && (decide (i = 0) || decide (l.getD (i - 1) 0 < l.getD i 0))
def okE (n : Int) (l : List Edg) (i : Nat) : Bool := inR (l.getD i default).f 0 (n - 1) && (inR (l.getD i default).t 0 (n - 1) && (inR (l.getD i default).a 0 11 && (decide (i = 0) || decide (ordE (l.getD (i - 1) default) (l.getD i default) < 0))))
def allFrom (p : Nat → Bool) : Nat → Nat → Bool
  | _, 0 => true
  | i, k + 1 => p i && allFrom p (i + 1) k
def isG (g : Gr) : Bool := inR g.n 0 400 && decide ((L g.edges).length ≤ 2000) && allFrom (okI g.n (L g.init)) 0 (L g.init).length && allFrom (okE g.n (L g.edges)) 0 (L g.edges).length
theorem allFrom_iff {p : Nat → Bool} : ∀ (k i : Nat), allFrom p i k = true ↔ ∀ j, i ≤ j → j < i + k → p j = true
  | 0, i => by simp [allFrom]; omega
  | k + 1, i => by
    simp only [allFrom, Bool.and_eq_true, allFrom_iff k (i + 1)]
    constructor
    · rintro ⟨h1, h2⟩ j hj hk
      rcases Nat.eq_or_lt_of_le hj with e | e
      · rw [← e]; exact h1
      · exact h2 j e (by omega)
    · intro h
      exact ⟨h i (Nat.le_refl _) (by omega), fun j hj hk => h j (by omega) (by omega)⟩
theorem ld129 {l : List Edg} {i : Nat} (h : i < l.length) (σ : Store) : (loadN σ 3 (.pptr (eEdgs l) (i * 3))).map DV.agg = some (.agg (edgD (l.getD i default))) := by
  rw [load129_edgs h, List.getD_eq_getElem?_getD, List.getElem?_eq_getElem h]; rfl
theorem st129 (σ : Store) (e : Edg) : store PP 0 129 (.ptr σ.length 0) (.agg (edgD e)) (σ ++ [.mix [.p (pI 0), .p (pI 0), .p (pI 0)]]) = some (σ ++ [.mix (edgD e)]) := by
  have hone : (edgD e).all DV.one = true := rfl
  have hs : splice [DV.p (pI 0), .p (pI 0), .p (pI 0)] 0 (edgD e) = edgD e := rfl
  simp [store, s129, DV.cells, storeN, hone, edgD]
  exact ⟨⟨rfl, rfl, rfl⟩, by simpa [edgD] using hs⟩
theorem row_all {σ : Store} {r : Nat} {e : Edg} (h : σ[r]? = some (.mix (edgD e))) : (loadN σ 3 (.ptr r 0)).map DV.agg = some (.agg (edgD e)) := by
  rw [loadN_ptr (off := 0) (n := 3) (vs := edgD e) h rfl (by simp [edgD])]; rfl
section
variable {g : Gr} (hn : 0 ≤ g.n ∧ g.n ≤ 400) (hl : (L g.init).length ≤ 1000) (hl2 : (L g.edges).length ≤ 10000)
include hn
theorem subn : binOp PP .sub 3 (.p (.int .i64 g.n)) (.p (.int .i64 1)) = some (.p (.int .i64 (g.n - 1))) := by
  obtain ⟨h0, h1⟩ := hn
  rw [b_sub, wrap_ok (by omega) (by omega)]
include hl
theorem L86_0 : ∀ (k i : Nat) (σ : Store), (L g.init).length - i = k → i ≤ (L g.init).length → f86_L0 guardT 0 (.pptr (eGrP g) 0) (.p (eSl g.init)) (N (L g.init).length) (N i) σ =
    if allFrom (okI g.n (L g.init)) i k = true then f86_L1 guardT 0 (.pptr (eGrP g) 0) (.p (eEs g.edges)) (N (L g.edges).length) (N 0) σ else some (.p (.bool false), σ)
  | 0, i, σ, hk, hi => by
    rw [f86_L0_eq guardT rfl]
    simp (disch := omega) only [N, b_lss, ltF, gG, fa45_2, shift_ptr, shift_pptr, Nat.zero_add, Nat.add_zero, pureFn_fn, List.append_nil, List.singleton_append, List.cons_append, List.nil_append, load43, gr_2, len43, allFrom, if_true]
    rfl
  | k + 1, i, σ, hk, hi => by
    have h : i < (L g.init).length := by omega
    have ih := L86_0 k (i + 1) σ (by omega) (by omega)
    have sn := subn hn
    simp only [N] at ih
    rw [f86_L0_eq guardT rfl]
    cases c1 : inR ((L g.init).getD i 0) 0 (g.n - 1) with
    | false =>
      simp (disch := omega) only [N, b_lss, ltT, gG, (PL.sl g.init).idx h, load3, load1_getD h, fa45_0, shift_ptr, shift_pptr, Nat.zero_add, Nat.add_zero, pureFn_fn, List.append_nil, List.singleton_append, List.cons_append, List.nil_append, gr_0, sn, S65, c1, allFrom, okI, Bool.false_and, Bool.false_eq_true, if_false]
    | true =>
      by_cases h0 : i = 0
      · simp (disch := omega) only [N, b_lss, ltT, gG, (PL.sl g.init).idx h, load3, load1_getD h, fa45_0, shift_ptr, shift_pptr, Nat.zero_add, Nat.add_zero, pureFn_fn, List.append_nil, List.singleton_append, List.cons_append, List.nil_append, gr_0, sn, S65, c1, allFrom, okI, b_gtr, gtF, decide_eq_true h0, Bool.true_and, Bool.true_or, add1, ih]
      · by_cases c2 : (L g.init).getD (i - 1) 0 < (L g.init).getD i 0
        · simp (disch := omega) only [N, b_lss, ltT, gG, (PL.sl g.init).idx h, load3, load1_getD h, fa45_0, fa45_1, shift_ptr, shift_pptr, Nat.zero_add, Nat.add_zero, pureFn_fn, List.append_nil, List.singleton_append, List.cons_append, List.nil_append, gr_0, gr_1, load24, sn, S65, c1, allFrom, okI, b_gtr, gtT, decide_eq_false h0, Bool.true_and, Bool.false_or, sub1, (PL.sl g.init).idx (show i - 1 < (L g.init).length by omega), load1_getD (show i - 1 < (L g.init).length by omega), b_leq, leF, decide_eq_true c2, add1, ih]
        · simp (disch := omega) only [N, b_lss, ltT, gG, (PL.sl g.init).idx h, load3, load1_getD h, fa45_0, fa45_1, shift_ptr, shift_pptr, Nat.zero_add, Nat.add_zero, pureFn_fn, List.append_nil, List.singleton_append, List.cons_append, List.nil_append, gr_0, gr_1, load24, sn, S65, c1, allFrom, okI, b_gtr, gtT, decide_eq_false h0, Bool.true_and, Bool.false_or, sub1, (PL.sl g.init).idx (show i - 1 < (L g.init).length by omega), load1_getD (show i - 1 < (L g.init).length by omega), b_leq, leT, decide_eq_false c2, Bool.false_and, Bool.false_eq_true, if_false]
theorem L88_0 : ∀ (k i : Nat) (σ : Store), (L g.init).length - i = k → i ≤ (L g.init).length → f88_L0 guardT 0 (.pptr (eGrP g) 0) (N i) σ =
    if allFrom (okI g.n (L g.init)) i k = true then f88_L1 guardT 0 (.pptr (eGrP g) 0) (N 0) σ else some (.p (.bool false), σ)
  | 0, i, σ, hk, hi => by
    rw [f88_L0_eq guardT rfl]
    simp (disch := omega) only [N, b_lss, ltF, gG, fa45_1, shift_ptr, shift_pptr, Nat.zero_add, Nat.add_zero, pureFn_fn, List.append_nil, List.singleton_append, List.cons_append, List.nil_append, load24, gr_1, len24, allFrom, if_true]
    rfl
  | k + 1, i, σ, hk, hi => by
    have h : i < (L g.init).length := by omega
    have ih := L88_0 k (i + 1) σ (by omega) (by omega)
    have sn := subn hn
    simp only [N] at ih
    rw [f88_L0_eq guardT rfl]
    cases c1 : inR ((L g.init).getD i 0) 0 (g.n - 1) with
    | false =>
      simp (disch := omega) only [N, b_lss, ltT, gG, fa45_1, load24, gr_1, len24, (PL.sl g.init).idx h, load3, load1_getD h, fa45_0, shift_ptr, shift_pptr, Nat.zero_add, Nat.add_zero, pureFn_fn, List.append_nil, List.singleton_append, List.cons_append, List.nil_append, gr_0, sn, S26, c1, allFrom, okI, Bool.false_and, Bool.false_eq_true, if_false]
    | true =>
      by_cases h0 : i = 0
      · simp (disch := omega) only [N, b_lss, ltT, gG, fa45_1, load24, gr_1, len24, (PL.sl g.init).idx h, load3, load1_getD h, fa45_0, shift_ptr, shift_pptr, Nat.zero_add, Nat.add_zero, pureFn_fn, List.append_nil, List.singleton_append, List.cons_append, List.nil_append, gr_0, sn, S26, c1, allFrom, okI, b_gtr, gtF, decide_eq_true h0, Bool.true_and, Bool.true_or, add1, ih]
      · by_cases c2 : (L g.init).getD (i - 1) 0 < (L g.init).getD i 0
        · simp (disch := omega) only [N, b_lss, ltT, gG, (PL.sl g.init).idx h, load3, load1_getD h, fa45_0, fa45_1, len24, shift_ptr, shift_pptr, Nat.zero_add, Nat.add_zero, pureFn_fn, List.append_nil, List.singleton_append, List.cons_append, List.nil_append, gr_0, gr_1, load24, sn, S26, c1, allFrom, okI, b_gtr, gtT, decide_eq_false h0, Bool.true_and, Bool.false_or, sub1, (PL.sl g.init).idx (show i - 1 < (L g.init).length by omega), load1_getD (show i - 1 < (L g.init).length by omega), b_leq, leF, decide_eq_true c2, add1, ih]
        · simp (disch := omega) only [N, b_lss, ltT, gG, (PL.sl g.init).idx h, load3, load1_getD h, fa45_0, fa45_1, len24, shift_ptr, shift_pptr, Nat.zero_add, Nat.add_zero, pureFn_fn, List.append_nil, List.singleton_append, List.cons_append, List.nil_append, gr_0, gr_1, load24, sn, S26, c1, allFrom, okI, b_gtr, gtT, decide_eq_false h0, Bool.true_and, Bool.false_or, sub1, (PL.sl g.init).idx (show i - 1 < (L g.init).length by omega), load1_getD (show i - 1 < (L g.init).length by omega), b_leq, leT, decide_eq_false c2, Bool.false_and, Bool.false_eq_true, if_false]
omit hl
include hl2
theorem L86_1 : ∀ (k i : Nat) (σ : Store), (L g.edges).length - i = k → i ≤ (L g.edges).length → ∃ σ', f86_L1 guardT 0 (.pptr (eGrP g) 0) (.p (eEs g.edges)) (N (L g.edges).length) (N i) σ =
    some (.p (.bool (allFrom (okE g.n (L g.edges)) i k)), σ')
  | 0, i, σ, hk, hi => by
    refine ⟨σ, ?_⟩
    rw [f86_L1_eq guardT rfl]
    simp (disch := omega) only [N, b_lss, ltF, gG, allFrom]
  | k + 1, i, σ, hk, hi => by
    have h : i < (L g.edges).length := by omega
    have hx : (σ ++ [Row.mix (edgD ((L g.edges).getD i default))])[σ.length]? = some (.mix (edgD ((L g.edges).getD i default))) := get_snoc
    have ih := L86_1 k (i + 1) (σ ++ [Row.mix (edgD ((L g.edges).getD i default))]) (by omega) (by omega)
    have sn := subn hn
    have d := ld129 h σ
    have ra := row_all hx
    rw [f86_L1_eq guardT rfl]
    simp (disch := omega) only [N, b_lss, ltT, gG, idx43 h, load129, d, zero129, st129]
    generalize hρ : σ ++ [Row.mix (edgD ((L g.edges).getD i default))] = ρ at *
    generalize he : (L g.edges).getD i default = e at *
    have r0 : load1 (.ptr σ.length 0) ρ = some (.p (.int .i64 e.f)) := load1_ptr hx rfl
    have r1 : load1 (.ptr σ.length 1) ρ = some (.p (.int .i64 e.t)) := load1_ptr hx rfl
    have r2 : load1 (.ptr σ.length 2) ρ = some (.p (.int .i64 e.a)) := load1_ptr hx rfl
    simp only [N] at ih
    cases c1 : inR e.f 0 (g.n - 1) with
    | false =>
      refine ⟨ρ, ?_⟩
      simp (disch := omega) only [fa129_0, shift_ptr, shift_pptr, Nat.zero_add, Nat.add_zero, pureFn_fn, List.append_nil, List.singleton_append, List.cons_append, List.nil_append, load3, r0, gG, fa45_0, gr_0, sn, S65, c1, allFrom, okE, he, Bool.false_and]
    | true =>
      cases c2 : inR e.t 0 (g.n - 1) with
      | false =>
        refine ⟨ρ, ?_⟩
        simp (disch := omega) only [fa129_0, fa129_1, shift_ptr, shift_pptr, Nat.zero_add, Nat.add_zero, pureFn_fn, List.append_nil, List.singleton_append, List.cons_append, List.nil_append, load3, r0, r1, gG, fa45_0, gr_0, sn, S65, c1, c2, allFrom, okE, he, Bool.false_and, Bool.true_and]
      | true =>
        cases c3 : inR e.a 0 11 with
        | false =>
          refine ⟨ρ, ?_⟩
          simp (disch := omega) only [fa129_0, fa129_1, fa129_2, shift_ptr, shift_pptr, Nat.zero_add, Nat.add_zero, pureFn_fn, List.append_nil, List.singleton_append, List.cons_append, List.nil_append, load3, r0, r1, r2, gG, fa45_0, gr_0, sn, S65, c1, c2, c3, allFrom, okE, he, Bool.false_and, Bool.true_and]
        | true =>
          by_cases h0 : i = 0
          · simp (disch := omega) only [fa129_0, fa129_1, fa129_2, shift_ptr, shift_pptr, Nat.zero_add, Nat.add_zero, pureFn_fn, List.append_nil, List.singleton_append, List.cons_append, List.nil_append, load3, r0, r1, r2, gG, fa45_0, gr_0, sn, S65, c1, c2, c3, allFrom, okE, he, Bool.true_and, b_gtr, gtF, decide_eq_true h0, Bool.true_or, add1]
            exact ih
          · have hi1 : i - 1 < (L g.edges).length := by omega
            have d1 := ld129 hi1 ρ
            by_cases c4 : ordE ((L g.edges).getD (i - 1) default) e < 0
            · simp (disch := omega) only [fa129_0, fa129_1, fa129_2, shift_ptr, shift_pptr, Nat.zero_add, Nat.add_zero, pureFn_fn, List.append_nil, List.singleton_append, List.cons_append, List.nil_append, load3, r0, r1, r2, gG, fa45_0, gr_0, sn, S65, c1, c2, c3, allFrom, okE, he, Bool.true_and, b_gtr, gtT, decide_eq_false h0, Bool.false_or, fa45_2, load43, gr_2, sub1, idx43 hi1, load129, d1, ra, S138, b_geq, geF, decide_eq_true c4, add1]
              exact ih
            · refine ⟨ρ, ?_⟩
              simp (disch := omega) only [fa129_0, fa129_1, fa129_2, shift_ptr, shift_pptr, Nat.zero_add, Nat.add_zero, pureFn_fn, List.append_nil, List.singleton_append, List.cons_append, List.nil_append, load3, r0, r1, r2, gG, fa45_0, gr_0, sn, S65, c1, c2, c3, allFrom, okE, he, Bool.true_and, b_gtr, gtT, decide_eq_false h0, Bool.false_or, fa45_2, load43, gr_2, sub1, idx43 hi1, load129, d1, ra, S138, b_geq, geT, decide_eq_false c4, Bool.false_and]
theorem L88_1 : ∀ (k i : Nat) (σ : Store), (L g.edges).length - i = k → i ≤ (L g.edges).length → ∃ σ', f88_L1 guardT 0 (.pptr (eGrP g) 0) (N i) σ =
    some (.p (.bool (allFrom (okE g.n (L g.edges)) i k)), σ')
  | 0, i, σ, hk, hi => by
    refine ⟨σ, ?_⟩
    rw [f88_L1_eq guardT rfl]
    simp (disch := omega) only [N, fa45_2, shift_ptr, shift_pptr, Nat.zero_add, Nat.add_zero, pureFn_fn, List.append_nil, List.singleton_append, List.cons_append, List.nil_append, load43, gr_2, len43, b_lss, ltF, gG, allFrom]
  | k + 1, i, σ, hk, hi => by
    have h : i < (L g.edges).length := by omega
    have hx : (σ ++ [Row.mix (edgD ((L g.edges).getD i default))])[σ.length]? = some (.mix (edgD ((L g.edges).getD i default))) := get_snoc
    have ih := L88_1 k (i + 1) (σ ++ [Row.mix (edgD ((L g.edges).getD i default))]) (by omega) (by omega)
    have sn := subn hn
    have d := ld129 h σ
    have ra := row_all hx
    rw [f88_L1_eq guardT rfl]
    simp (disch := omega) only [N, fa45_2, shift_ptr, shift_pptr, Nat.zero_add, Nat.add_zero, pureFn_fn, List.append_nil, List.singleton_append, List.cons_append, List.nil_append, load43, gr_2, len43, b_lss, ltT, gG, idx43 h, load129, d, zero129, st129]
    generalize hρ : σ ++ [Row.mix (edgD ((L g.edges).getD i default))] = ρ at *
    generalize he : (L g.edges).getD i default = e at *
    have r0 : load1 (.ptr σ.length 0) ρ = some (.p (.int .i64 e.f)) := load1_ptr hx rfl
    have r1 : load1 (.ptr σ.length 1) ρ = some (.p (.int .i64 e.t)) := load1_ptr hx rfl
    have r2 : load1 (.ptr σ.length 2) ρ = some (.p (.int .i64 e.a)) := load1_ptr hx rfl
    simp only [N] at ih
    cases c1 : inR e.f 0 (g.n - 1) with
    | false =>
      refine ⟨ρ, ?_⟩
      simp (disch := omega) only [fa129_0, shift_ptr, shift_pptr, Nat.zero_add, Nat.add_zero, pureFn_fn, List.append_nil, List.singleton_append, List.cons_append, List.nil_append, load3, r0, gG, fa45_0, gr_0, sn, S26, c1, allFrom, okE, he, Bool.false_and]
    | true =>
      cases c2 : inR e.t 0 (g.n - 1) with
      | false =>
        refine ⟨ρ, ?_⟩
        simp (disch := omega) only [fa129_0, fa129_1, shift_ptr, shift_pptr, Nat.zero_add, Nat.add_zero, pureFn_fn, List.append_nil, List.singleton_append, List.cons_append, List.nil_append, load3, r0, r1, gG, fa45_0, gr_0, sn, S26, c1, c2, allFrom, okE, he, Bool.false_and, Bool.true_and]
      | true =>
        cases c3 : inR e.a 0 11 with
        | false =>
          refine ⟨ρ, ?_⟩
          simp (disch := omega) only [fa129_0, fa129_1, fa129_2, shift_ptr, shift_pptr, Nat.zero_add, Nat.add_zero, pureFn_fn, List.append_nil, List.singleton_append, List.cons_append, List.nil_append, load3, r0, r1, r2, gG, fa45_0, gr_0, sn, S26, c1, c2, c3, allFrom, okE, he, Bool.false_and, Bool.true_and]
        | true =>
          by_cases h0 : i = 0
          · simp (disch := omega) only [fa129_0, fa129_1, fa129_2, shift_ptr, shift_pptr, Nat.zero_add, Nat.add_zero, pureFn_fn, List.append_nil, List.singleton_append, List.cons_append, List.nil_append, load3, r0, r1, r2, gG, fa45_0, gr_0, sn, S26, c1, c2, c3, allFrom, okE, he, Bool.true_and, b_gtr, gtF, decide_eq_true h0, Bool.true_or, add1]
            exact ih
          · have hi1 : i - 1 < (L g.edges).length := by omega
            have d1 := ld129 hi1 ρ
            have q : ∀ (a b : Edg) (σ : Store), pureV CC 139 [.p (eSl (some [a.f, a.t, a.a])), .p (eSl (some [b.f, b.t, b.a]))] σ = some (.p (.int .i64 (firstI [a.f, a.t, a.a] [b.f, b.t, b.a]))) := fun a b σ => S139 (a := some [a.f, a.t, a.a]) (b := some [b.f, b.t, b.a]) (by simp) rfl
            by_cases c4 : ordE ((L g.edges).getD (i - 1) default) e < 0
            · simp (disch := omega) only [fa129_0, fa129_1, fa129_2, shift_ptr, shift_pptr, Nat.zero_add, Nat.add_zero, pureFn_fn, List.append_nil, List.singleton_append, List.cons_append, List.nil_append, load3, r0, r1, r2, gG, fa45_0, gr_0, sn, S26, c1, c2, c3, allFrom, okE, he, Bool.true_and, b_gtr, gtT, decide_eq_false h0, Bool.false_or, fa45_2, load43, gr_2, sub1, idx43 hi1, load129, d1, ra, S140, q, b_geq, ordE_first, decide_eq_true c4, add1]
              exact ih
            · refine ⟨ρ, ?_⟩
              simp (disch := omega) only [fa129_0, fa129_1, fa129_2, shift_ptr, shift_pptr, Nat.zero_add, Nat.add_zero, pureFn_fn, List.append_nil, List.singleton_append, List.cons_append, List.nil_append, load3, r0, r1, r2, gG, fa45_0, gr_0, sn, S26, c1, c2, c3, allFrom, okE, he, Bool.true_and, b_gtr, gtT, decide_eq_false h0, Bool.false_or, fa45_2, load43, gr_2, sub1, idx43 hi1, load129, d1, ra, S140, q, b_geq, ordE_first, decide_eq_false c4, Bool.false_and]
end
theorem init_le {g : Gr} (hn : 0 ≤ g.n ∧ g.n ≤ 400) (h : allFrom (okI g.n (L g.init)) 0 (L g.init).length = true) : ((L g.init).length : Int) ≤ g.n := by
  have h1 := (allFrom_iff _ _).1 h
  have key : ∀ i, i < (L g.init).length → (i : Int) ≤ (L g.init).getD i 0 ∧ (L g.init).getD i 0 ≤ g.n - 1 := by
    intro i
    induction i with
    | zero =>
      intro hi
      have := h1 0 (Nat.le_refl _) (by omega)
      simp only [okI, inR, Bool.and_eq_true, decide_eq_true_eq] at this
      omega
    | succ i ih =>
      intro hi
      have h2 := h1 (i + 1) (by omega) (by omega)
      have h3 := ih (by omega)
      simp only [okI, inR, Bool.and_eq_true, Bool.or_eq_true, decide_eq_true_eq, Nat.add_sub_cancel] at h2
      omega
  rcases Nat.eq_zero_or_pos (L g.init).length with e | e
  · omega
  · have := key ((L g.init).length - 1) (by omega)
    omega
theorem S86 {g : Gr} (hl : (L g.init).length ≤ 1000) (hl2 : (L g.edges).length ≤ 10000) (σ : Store) : pureV CC 86 [vGr g] σ = some (.p (.bool (isG g))) := by
  have key : ∃ σ', F86 guardT 0 (vGr g) [] = some (.p (.bool (isG g)), σ') := by
    rw [F86_eq]
    cases c1 : inR g.n 0 400 with
    | false => exact ⟨[], by simp only [box_gr, gG, fa45_0, shift_ptr, shift_pptr, Nat.zero_add, Nat.add_zero, pureFn_fn, List.append_nil, List.singleton_append, List.cons_append, List.nil_append, load3, gr_0, S65, c1, isG, Bool.false_and]⟩
    | true =>
      have hn := (inR_iff _ _ _).1 c1
      by_cases c2 : (L g.edges).length ≤ 2000
      · have hc : allFrom (okI g.n (L g.init)) 0 (L g.init).length = true ∨ allFrom (okI g.n (L g.init)) 0 (L g.init).length = false := by cases allFrom (okI g.n (L g.init)) 0 (L g.init).length <;> simp
        have h0 := L86_0 hn hl (L g.init).length 0 [] rfl (Nat.zero_le _)
        obtain ⟨σ', h1⟩ := L86_1 hn hl2 (L g.edges).length 0 [] rfl (Nat.zero_le _)
        simp only [N] at h0 h1
        rcases hc with c3 | c3
        · rw [if_pos c3, h1] at h0
          refine ⟨σ', ?_⟩
          simp (disch := omega) only [box_gr, gG, fa45_0, fa45_1, fa45_2, shift_ptr, shift_pptr, Nat.zero_add, Nat.add_zero, pureFn_fn, List.append_nil, List.singleton_append, List.cons_append, List.nil_append, load3, load24, load43, gr_0, gr_1, gr_2, len24, len43, S65, c1, b_gtr, gtF, isG, decide_eq_true c2, c3, Bool.true_and]
          exact h0
        · rw [c3, if_neg (by simp)] at h0
          refine ⟨[], ?_⟩
          simp (disch := omega) only [box_gr, gG, fa45_0, fa45_1, fa45_2, shift_ptr, shift_pptr, Nat.zero_add, Nat.add_zero, pureFn_fn, List.append_nil, List.singleton_append, List.cons_append, List.nil_append, load3, load24, load43, gr_0, gr_1, gr_2, len24, len43, S65, c1, b_gtr, gtF, isG, decide_eq_true c2, c3, Bool.true_and, Bool.false_and]
          exact h0
      · exact ⟨[], by simp (disch := omega) only [box_gr, gG, fa45_0, fa45_2, shift_ptr, shift_pptr, Nat.zero_add, Nat.add_zero, pureFn_fn, List.append_nil, List.singleton_append, List.cons_append, List.nil_append, load3, load43, gr_0, gr_2, len43, S65, c1, b_gtr, gtT, isG, decide_eq_false c2, Bool.true_and, Bool.false_and]⟩
  obtain ⟨σ', h⟩ := key
  exact pureV_free (by simp only [List.map_cons, List.map_nil, gr_view]) rfl (F86_call h) rfl
theorem S88 {g : Gr} (hl : (L g.init).length ≤ 1000) (hl2 : (L g.edges).length ≤ 10000) (σ : Store) : pureV CC 88 [vGr g] σ = some (.p (.bool (isG g))) := by
  have key : ∃ σ', F88 guardT 0 (vGr g) [] = some (.p (.bool (isG g)), σ') := by
    rw [F88_eq]
    cases c1 : inR g.n 0 400 with
    | false => exact ⟨[], by simp only [box_gr, gG, fa45_0, shift_ptr, shift_pptr, Nat.zero_add, Nat.add_zero, pureFn_fn, List.append_nil, List.singleton_append, List.cons_append, List.nil_append, load3, gr_0, S26, c1, isG, Bool.false_and]⟩
    | true =>
      have hn := (inR_iff _ _ _).1 c1
      by_cases c0 : ((L g.init).length : Int) > g.n
      · have e : isG g = false := by
          cases hi : allFrom (okI g.n (L g.init)) 0 (L g.init).length with
          | false => simp [isG, hi]
          | true => have := init_le hn hi; omega
        exact ⟨[], by simp (disch := omega) only [box_gr, gG, fa45_0, fa45_1, shift_ptr, shift_pptr, Nat.zero_add, Nat.add_zero, pureFn_fn, List.append_nil, List.singleton_append, List.cons_append, List.nil_append, load3, load24, gr_0, gr_1, len24, S26, c1, b_gtr, gtT c0, e]⟩
      · by_cases c2 : (L g.edges).length ≤ 2000
        · have hc : allFrom (okI g.n (L g.init)) 0 (L g.init).length = true ∨ allFrom (okI g.n (L g.init)) 0 (L g.init).length = false := by cases allFrom (okI g.n (L g.init)) 0 (L g.init).length <;> simp
          have h0 := L88_0 hn hl (L g.init).length 0 [] rfl (Nat.zero_le _)
          obtain ⟨σ', h1⟩ := L88_1 hn hl2 (L g.edges).length 0 [] rfl (Nat.zero_le _)
          simp only [N] at h0 h1
          rcases hc with c3 | c3
          · rw [if_pos c3, h1] at h0
            refine ⟨σ', ?_⟩
            simp (disch := omega) only [box_gr, gG, fa45_0, fa45_1, fa45_2, shift_ptr, shift_pptr, Nat.zero_add, Nat.add_zero, pureFn_fn, List.append_nil, List.singleton_append, List.cons_append, List.nil_append, load3, load24, load43, gr_0, gr_1, gr_2, len24, len43, S26, c1, b_gtr, gtF c0, gtF, isG, decide_eq_true c2, c3, Bool.true_and]
            exact h0
          · rw [c3, if_neg (by simp)] at h0
            refine ⟨[], ?_⟩
            simp (disch := omega) only [box_gr, gG, fa45_0, fa45_1, fa45_2, shift_ptr, shift_pptr, Nat.zero_add, Nat.add_zero, pureFn_fn, List.append_nil, List.singleton_append, List.cons_append, List.nil_append, load3, load24, load43, gr_0, gr_1, gr_2, len24, len43, S26, c1, b_gtr, gtF c0, gtF, isG, decide_eq_true c2, c3, Bool.true_and, Bool.false_and]
            exact h0
        · exact ⟨[], by simp (disch := omega) only [box_gr, gG, fa45_0, fa45_1, fa45_2, shift_ptr, shift_pptr, Nat.zero_add, Nat.add_zero, pureFn_fn, List.append_nil, List.singleton_append, List.cons_append, List.nil_append, load3, load24, load43, gr_0, gr_1, gr_2, len24, len43, S26, c1, b_gtr, gtF c0, gtT, isG, decide_eq_false c2, Bool.true_and, Bool.false_and]⟩
  obtain ⟨σ', h⟩ := key
  exact pureV_free (by simp only [List.map_cons, List.map_nil, gr_view]) rfl (F88_call h) rfl
end Go.D
end
/- Chapter 13: which labelled graphs are right, by the program and by the reference. -/
section
set_option linter.unusedVariables false
set_option linter.unusedSimpArgs false
set_option maxRecDepth 8000
namespace Go.D
open Las
theorem int_view (n : Int) : view (.p (.int .i64 n)) = .p (.int .i64 n) := rfl
theorem px0 (x : Int × Int) : extractV (pr2 x) 0 = some (.p (.int .i64 x.1)) := rfl
theorem px1 (x : Int × Int) : extractV (pr2 x) 1 = some (.p (.int .i64 x.2)) := rfl
def scnP (p : Nat → Bool) (e : Int) (s : Int × Int) : Nat → Nat → Int × Int
  | _, 0 => s
  | i, k + 1 => if p i = true then ((i : Int), e) else scnP p e s (i + 1) k
def orP (r s : Int × Int) : Int × Int := if r.2 = 0 then s else r
def actF (l : List Int) (m : Int) : Nat → Nat → Int × Int
  | _, 0 => (0, 0)
  | i, k + 1 => if inR (l.getD i 0) 0 (m - 1) = false then ((i : Int), 10) else if 0 < i ∧ l.getD i 0 ≤ l.getD (i - 1) 0 then ((i : Int), 13) else actF l m (i + 1) k
def actE (o : OI) (m : Nat) : Int × Int := actF (L o) m 0 (L o).length
theorem subZ {m : Nat} (h : m ≤ 1000000) : binOp PP .sub 3 (.p (.int .i64 (m : Nat))) (.p (.int .i64 1)) = some (.p (.int .i64 ((m : Int) - 1))) := by
  rw [b_sub, wrap_ok (by omega) (by omega)]
theorem S66_2 (a b : Int) (σ : Store) : pureV CC 66 [.p (.sl true 2 [pI a, pI b])] σ = some (.p (.int .i64 (orL [a, b]))) := S66 (ex := true) (l := [a, b]) (by simp) σ
theorem S66_3 (a b c : Int) (σ : Store) : pureV CC 66 [.p (.sl true 3 [pI a, pI b, pI c])] σ = some (.p (.int .i64 (orL [a, b, c]))) := S66 (ex := true) (l := [a, b, c]) (by simp) σ
theorem mx0 {i : Nat} (h : 0 < i) : maxMin true [.p (.int .i64 ((i - 1 : Nat) : Int)), .p (.int .i64 0)] = some (.p (.int .i64 ((i - 1 : Nat) : Int))) := by
  have : ¬ ((0 : Int) > ((i - 1 : Nat) : Int)) := by omega
  simp only [maxMin, if_true]
  rw [if_neg this]
theorem z00 : (DV.tuple [.p (.int .i64 0), .p (.int .i64 0)]) = pr2 (0, 0) := rfl
section
variable {o : OI} {m : Nat} (hl : (L o).length ≤ 1000) (hm : m ≤ 1000)
include hl hm
theorem L87 : ∀ (k i : Nat) (σ : Store), (L o).length - i = k → i ≤ (L o).length → f87_L0 guardT 0 (.p (eSl o)) (N m) (.p (eSl o)) (N (L o).length) (N i) σ = some (pr2 (actF (L o) m i k), σ)
  | 0, i, σ, hk, hi => by
    rw [f87_L0_eq guardT rfl]
    simp (disch := omega) only [N, b_lss, ltF, gG, actF, z00]
  | k + 1, i, σ, hk, hi => by
    have h : i < (L o).length := by omega
    have ih := L87 k (i + 1) σ (by omega) (by omega)
    have sm := subZ (m := m) (by omega)
    simp only [N] at ih
    rw [f87_L0_eq guardT rfl]
    unfold actF
    cases c1 : inR ((L o).getD i 0) 0 ((m : Int) - 1) with
    | false =>
      rw [if_pos rfl]
      by_cases h0 : i = 0
      · have e1 : orL [10, wrg false 13] = 10 := rfl
        have e2 : ¬ ((10 : Int) = 0) := by decide
        simp (disch := omega) only [N, b_lss, ltT, gG, (PL.sl o).idx h, load3, load1_getD h, sm, shift_ptr, shift_pptr, Nat.zero_add, Nat.add_zero, pureFn_fn, List.append_nil, List.singleton_append, List.cons_append, List.nil_append, S65, c1, S67, show wrg true 10 = 10 from rfl, b_gtr, gtF, bs160_2, S66_2, e1, b_neq, eqF e2]
        rfl
      · have hi1 : i - 1 < (L o).length := by omega
        have e1 : ∀ b, orL [10, b] = 10 := fun b => rfl
        have e2 : ¬ ((10 : Int) = 0) := by decide
        simp (disch := omega) only [N, b_lss, ltT, gG, (PL.sl o).idx h, load3, load1_getD h, sm, shift_ptr, shift_pptr, Nat.zero_add, Nat.add_zero, pureFn_fn, List.append_nil, List.singleton_append, List.cons_append, List.nil_append, S65, c1, S67, show wrg true 10 = 10 from rfl, b_gtr, gtT, sub1, mx0, (PL.sl o).idx hi1, load1_getD hi1, b_leq, bs160_2, S66_2, e1, b_neq, eqF e2]
        rfl
    | true =>
      rw [if_neg (by simp)]
      by_cases h0 : i = 0
      · rw [if_neg (by omega)]
        have e1 : orL [wrg false 10, wrg false 13] = 0 := rfl
        simp (disch := omega) only [N, b_lss, ltT, gG, (PL.sl o).idx h, load3, load1_getD h, sm, shift_ptr, shift_pptr, Nat.zero_add, Nat.add_zero, pureFn_fn, List.append_nil, List.singleton_append, List.cons_append, List.nil_append, S65, c1, S67, b_gtr, gtF, bs160_2, S66_2, e1, b_neq, eqT (rfl : (0 : Int) = 0), add1, ih]
      · have hi1 : i - 1 < (L o).length := by omega
        by_cases c2 : (L o).getD i 0 ≤ (L o).getD (i - 1) 0
        · rw [if_pos ⟨by omega, c2⟩]
          have e1 : orL [wrg false 10, wrg true 13] = 13 := rfl
          have e2 : ¬ ((13 : Int) = 0) := by decide
          simp (disch := omega) only [N, b_lss, ltT, gG, (PL.sl o).idx h, load3, load1_getD h, sm, shift_ptr, shift_pptr, Nat.zero_add, Nat.add_zero, pureFn_fn, List.append_nil, List.singleton_append, List.cons_append, List.nil_append, S65, c1, S67, b_gtr, gtT, sub1, mx0, (PL.sl o).idx hi1, load1_getD hi1, b_leq, leT c2, bs160_2, S66_2, e1, b_neq, eqF e2]
          rfl
        · rw [if_neg (fun h => c2 h.2)]
          have e1 : orL [wrg false 10, wrg false 13] = 0 := rfl
          simp (disch := omega) only [N, b_lss, ltT, gG, (PL.sl o).idx h, load3, load1_getD h, sm, shift_ptr, shift_pptr, Nat.zero_add, Nat.add_zero, pureFn_fn, List.append_nil, List.singleton_append, List.cons_append, List.nil_append, S65, c1, S67, b_gtr, gtT, sub1, mx0, (PL.sl o).idx hi1, load1_getD hi1, b_leq, leF c2, bs160_2, S66_2, e1, b_neq, eqT (rfl : (0 : Int) = 0), add1, ih]
theorem S87 (σ : Store) : pureV CC 87 [.p (eSl o), .p (.int .i64 (m : Nat))] σ = some (pr2 (actE o m)) := by
  refine pureV_free (by simp only [List.map_cons, List.map_nil, sl_view, int_view]) rfl (F87_call (r := (pr2 (actE o m), [])) ?_) rfl
  rw [F87_eq]
  simp only [len24, gG]
  exact L87 hl hm _ 0 [] rfl (Nat.zero_le _)
end
theorem L90 {x : Lb} {o : OI} (hl : (L o).length ≤ 1000) (hm : (L x.st).length ≤ 1000) : ∀ (k i : Nat) (σ : Store), (L o).length - i = k → i ≤ (L o).length → f90_L0 guardT 0 (.p (eSl o)) (.pptr (eLb x) 0) (N i) σ = some (pr2 (actF (L o) (L x.st).length i k), σ)
  | 0, i, σ, hk, hi => by
    rw [f90_L0_eq guardT rfl]
    simp (disch := omega) only [N, len24, b_lss, ltF, gG, actF, z00]
  | k + 1, i, σ, hk, hi => by
    have h : i < (L o).length := by omega
    have ih := L90 hl hm k (i + 1) σ (by omega) (by omega)
    have sm := subZ (m := (L x.st).length) (by omega)
    simp only [N] at ih
    rw [f90_L0_eq guardT rfl]
    unfold actF
    cases c1 : inR ((L o).getD i 0) 0 (((L x.st).length : Int) - 1) with
    | false =>
      rw [if_pos rfl]
      simp (disch := omega) only [N, len24, b_lss, ltT, gG, (PL.sl o).idx h, load3, load1_getD h, fa47_2, shift_ptr, shift_pptr, Nat.zero_add, Nat.add_zero, pureFn_fn, List.append_nil, List.singleton_append, List.cons_append, List.nil_append, load24, lb_4, sm, S26, c1]
      rfl
    | true =>
      rw [if_neg (by simp)]
      by_cases h0 : i = 0
      · rw [if_neg (by omega)]
        simp (disch := omega) only [N, len24, b_lss, ltT, gG, (PL.sl o).idx h, load3, load1_getD h, fa47_2, shift_ptr, shift_pptr, Nat.zero_add, Nat.add_zero, pureFn_fn, List.append_nil, List.singleton_append, List.cons_append, List.nil_append, load24, lb_4, sm, S26, c1, b_gtr, gtF, add1, ih]
      · have hi1 : i - 1 < (L o).length := by omega
        by_cases c2 : (L o).getD i 0 ≤ (L o).getD (i - 1) 0
        · rw [if_pos ⟨by omega, c2⟩]
          simp (disch := omega) only [N, len24, b_lss, ltT, gG, (PL.sl o).idx h, load3, load1_getD h, fa47_2, shift_ptr, shift_pptr, Nat.zero_add, Nat.add_zero, pureFn_fn, List.append_nil, List.singleton_append, List.cons_append, List.nil_append, load24, lb_4, sm, S26, c1, b_gtr, gtT, sub1, (PL.sl o).idx hi1, load1_getD hi1, b_leq, leT c2]
          rfl
        · rw [if_neg (fun h => c2 h.2)]
          simp (disch := omega) only [N, len24, b_lss, ltT, gG, (PL.sl o).idx h, load3, load1_getD h, fa47_2, shift_ptr, shift_pptr, Nat.zero_add, Nat.add_zero, pureFn_fn, List.append_nil, List.singleton_append, List.cons_append, List.nil_append, load24, lb_4, sm, S26, c1, b_gtr, gtT, sub1, (PL.sl o).idx hi1, load1_getD hi1, b_leq, leF c2, add1, ih]
theorem S90 {x : Lb} {o : OI} (hl : (L o).length ≤ 1000) (hm : (L x.st).length ≤ 1000) (σ : Store) : pureV CC 90 [vLb x, .p (eSl o)] σ = some (pr2 (actE o (L x.st).length)) := by
  refine pureV_free (by simp only [List.map_cons, List.map_nil, lb_view, sl_view]) rfl (F90_call (r := (pr2 (actE o (L x.st).length), [])) ?_) rfl
  rw [F90_eq]
  simp only [box_lb, gG]
  exact L90 hl hm _ 0 [] rfl (Nat.zero_le _)
theorem S89 (n : Int) (σ : Store) : pureV CC 89 [.p (.int .i64 n)] σ = some (.p (.bool (inR n (-1) 11))) := by
  refine pureV_free rfl rfl (F89_call (r := (.p (.bool (inR n (-1) 11)), [])) ?_) rfl
  rw [F89_eq]
  simp only [shift_ptr, shift_pptr, Nat.zero_add, Nat.add_zero, pureFn_fn, List.append_nil, List.singleton_append, List.cons_append, List.nil_append, S26, gG]
def badL (x : Lb) (i : Nat) : Bool := !inR ((L x.la).getD i 0) 0 4095
def badS (x : Lb) (i : Nat) : Bool := !inR ((L x.st).getD i 0) (-1) 11 || !inR ((L x.en).getD i 0) (-1) 11
def badE (x : Lb) (i : Nat) : Bool := decide (((L x.g.edges).getD i default).a ≥ ((L x.st).length : Nat))
def shp (x : Lb) : Bool := !decide (((L x.la).length : Int) = x.g.n) || (!decide (((L x.st).length : Int) = ((L x.en).length : Nat)) || decide (((L x.st).length : Int) > 12))
def rst3 (x : Lb) : Int × Int := orP (actE x.we (L x.st).length) (orP (actE x.sr (L x.st).length) (0, wrg (decide ((((L x.we).length + (L x.sr).length : Nat) : Int) > 6)) 2))
def rst2 (x : Lb) : Nat → Nat → Int × Int := scnP (badE x) 10 (rst3 x)
def rst1 (x : Lb) : Nat → Nat → Int × Int := scnP (badS x) 3 (rst2 x 0 (L x.g.edges).length)
def rst0 (x : Lb) : Nat → Nat → Int × Int := scnP (badL x) 3 (rst1 x 0 (L x.st).length)
def chkLb (x : Lb) : Int × Int := if isG x.g = false then (0, 5) else if x.g.n > 60 then (0, 2) else if shp x = true then (0, 6) else rst0 x 0 (L x.la).length
structure LSm (x : Lb) : Prop where
  i : (L x.g.init).length ≤ 1000
  e : (L x.g.edges).length ≤ 10000
  la : (L x.la).length ≤ 1000
  st : (L x.st).length ≤ 1000
  en : (L x.en).length ≤ 1000
  we : (L x.we).length ≤ 1000
  sr : (L x.sr).length ≤ 1000
theorem len130 (a b : OI) (σ : Store) : len PP 130 (.p (.sl true 2 [eSl a, eSl b])) σ = some (.p (.int .i64 2)) := by simp [len, u130]
theorem idx130_0 (a b : OI) : indexAddr PP 130 (.p (.sl true 2 [eSl a, eSl b])) (.p (.int .i64 0)) = some (.pptr [eSl a, eSl b] 0) := by
  have s24 : size? PP 24 = some 1 := Eq.trans (by kernel_rfl) rfl
  simp [indexAddr, u130, s24]
theorem idx130_1 (a b : OI) : indexAddr PP 130 (.p (.sl true 2 [eSl a, eSl b])) (.p (.int .i64 1)) = some (.pptr [eSl a, eSl b] 1) := by
  have s24 : size? PP 24 = some 1 := Eq.trans (by kernel_rfl) rfl
  simp [indexAddr, u130, s24]
section
variable {x : Lb} (hx : LSm x)
include hx
theorem L39_3 (σ : Store) : f39_L3 guardT 0 (.pptr (eLb x) 0) (.p (.sl true 2 [eSl x.we, eSl x.sr])) (.p (.int .i64 2)) (.p (.int .i64 0)) σ = some (pr2 (rst3 x), σ) := by
  have w := hx.we
  have s := hx.sr
  have h1 := fun σ => S87 (o := x.we) (m := (L x.st).length) hx.we hx.st σ
  have h2 := fun σ => S87 (o := x.sr) (m := (L x.st).length) hx.sr hx.st σ
  have l0 : ∀ σ, load1 (.pptr [eSl x.we, eSl x.sr] 0) σ = some (.p (eSl x.we)) := fun σ => load1_pptr rfl σ
  have l1 : ∀ σ, load1 (.pptr [eSl x.we, eSl x.sr] 1) σ = some (.p (eSl x.sr)) := fun σ => load1_pptr rfl σ
  have a0 : binOp PP .add 3 (.p (.int .i64 0)) (.p (.int .i64 1)) = some (.p (.int .i64 1)) := rfl
  have a1 : binOp PP .add 3 (.p (.int .i64 1)) (.p (.int .i64 1)) = some (.p (.int .i64 2)) := rfl
  have c0 : binOp PP .lss 3 (.p (.int .i64 0)) (.p (.int .i64 2)) = some (.p (.bool true)) := rfl
  have c1 : binOp PP .lss 3 (.p (.int .i64 1)) (.p (.int .i64 2)) = some (.p (.bool true)) := rfl
  have c2 : binOp PP .lss 3 (.p (.int .i64 2)) (.p (.int .i64 2)) = some (.p (.bool false)) := rfl
  rw [f39_L3_eq guardT rfl]
  unfold rst3 orP
  by_cases e1 : (actE x.we (L x.st).length).2 = 0
  · rw [if_pos e1]
    simp (disch := omega) only [c0, gG, idx130_0, load24, l0, fa47_2, shift_ptr, shift_pptr, Nat.zero_add, Nat.add_zero, pureFn_fn, List.append_nil, List.singleton_append, List.cons_append, List.nil_append, lb_4, len24, h1, px0, px1, b_neq, eqT e1, a0]
    rw [f39_L3_eq guardT rfl]
    by_cases e2 : (actE x.sr (L x.st).length).2 = 0
    · rw [if_pos e2]
      simp (disch := omega) only [c1, gG, idx130_1, load24, l1, fa47_2, shift_ptr, shift_pptr, Nat.zero_add, Nat.add_zero, pureFn_fn, List.append_nil, List.singleton_append, List.cons_append, List.nil_append, lb_4, len24, h2, px0, px1, b_neq, eqT e2, a1]
      rw [f39_L3_eq guardT rfl]
      simp (disch := omega) only [c2, gG, fa47_4, fa47_5, load24, shift_ptr, shift_pptr, Nat.zero_add, Nat.add_zero, pureFn_fn, List.append_nil, List.singleton_append, List.cons_append, List.nil_append, lb_6, lb_7, len24, addN, b_gtr, S67]
      rfl
    · rw [if_neg e2]
      simp (disch := omega) only [c1, gG, idx130_1, load24, l1, fa47_2, shift_ptr, shift_pptr, Nat.zero_add, Nat.add_zero, pureFn_fn, List.append_nil, List.singleton_append, List.cons_append, List.nil_append, lb_4, len24, h2, px0, px1, b_neq, eqF e2]
      rfl
  · rw [if_neg e1]
    simp (disch := omega) only [c0, gG, idx130_0, load24, l0, fa47_2, shift_ptr, shift_pptr, Nat.zero_add, Nat.add_zero, pureFn_fn, List.append_nil, List.singleton_append, List.cons_append, List.nil_append, lb_4, len24, h1, px0, px1, b_neq, eqF e1]
    rfl
theorem L39_2 : ∀ (k i : Nat) (σ : Store), (L x.g.edges).length - i = k → i ≤ (L x.g.edges).length → ∃ σ', f39_L2 guardT 0 (.pptr (eLb x) 0) (.p (eEs x.g.edges)) (N (L x.g.edges).length) (N i) σ = some (pr2 (rst2 x i k), σ')
  | 0, i, σ, hk, hi => by
    have he := hx.e
    refine ⟨σ, ?_⟩
    rw [f39_L2_eq guardT rfl]
    have h3 := L39_3 hx σ
    simp (disch := omega) only [N, b_lss, ltF, gG, fa47_4, fa47_5, load24, shift_ptr, shift_pptr, Nat.zero_add, Nat.add_zero, pureFn_fn, List.append_nil, List.singleton_append, List.cons_append, List.nil_append, lb_6, lb_7, bs130_2, len130, h3]
    rfl
  | k + 1, i, σ, hk, hi => by
    have he := hx.e
    have h : i < (L x.g.edges).length := by omega
    have hr : (σ ++ [Row.mix (edgD ((L x.g.edges).getD i default))])[σ.length]? = some (.mix (edgD ((L x.g.edges).getD i default))) := get_snoc
    obtain ⟨σ', ih⟩ := L39_2 k (i + 1) (σ ++ [Row.mix (edgD ((L x.g.edges).getD i default))]) (by omega) (by omega)
    have d := ld129 h σ
    have r2 := load1_ptr (off := 2) hr rfl
    simp only [N] at ih
    rw [f39_L2_eq guardT rfl]
    unfold rst2 scnP
    by_cases c : ((L x.g.edges).getD i default).a ≥ ((L x.st).length : Nat)
    · rw [if_pos (show badE x i = true from decide_eq_true c)]
      refine ⟨σ ++ [Row.mix (edgD ((L x.g.edges).getD i default))], ?_⟩
      simp (disch := omega) only [N, b_lss, ltT, gG, idx43 h, load129, d, zero129, st129, fa129_2, shift_ptr, shift_pptr, Nat.zero_add, Nat.add_zero, pureFn_fn, List.append_nil, List.singleton_append, List.cons_append, List.nil_append, load3, r2, fa47_2, load24, lb_4, len24, b_geq, geT c]
      rfl
    · rw [if_neg (by unfold badE; rw [decide_eq_false c]; simp)]
      refine ⟨σ', ?_⟩
      simp (disch := omega) only [N, b_lss, ltT, gG, idx43 h, load129, d, zero129, st129, fa129_2, shift_ptr, shift_pptr, Nat.zero_add, Nat.add_zero, pureFn_fn, List.append_nil, List.singleton_append, List.cons_append, List.nil_append, load3, r2, fa47_2, load24, lb_4, len24, b_geq, geF c, add1]
      exact ih
theorem L39_1 (hs : (L x.st).length = (L x.en).length) : ∀ (k i : Nat) (σ : Store), (L x.st).length - i = k → i ≤ (L x.st).length → ∃ σ', f39_L1 guardT 0 (.pptr (eLb x) 0) (N (L x.st).length) (N i) σ = some (pr2 (rst1 x i k), σ')
  | 0, i, σ, hk, hi => by
    have he := hx.st
    obtain ⟨σ', h2⟩ := L39_2 hx (L x.g.edges).length 0 σ rfl (Nat.zero_le _)
    refine ⟨σ', ?_⟩
    simp only [N] at h2
    rw [f39_L1_eq guardT rfl]
    simp (disch := omega) only [N, b_lss, ltF, gG, fa47_0, fa45_2, shift_ptr, shift_pptr, Nat.zero_add, Nat.add_zero, pureFn_fn, List.append_nil, List.singleton_append, List.cons_append, List.nil_append, load43, lb_2, len43]
    exact h2
  | k + 1, i, σ, hk, hi => by
    have he := hx.st
    have h : i < (L x.st).length := by omega
    have h2 : i < (L x.en).length := by omega
    obtain ⟨σ', ih⟩ := L39_1 hs k (i + 1) σ (by omega) (by omega)
    simp only [N] at ih
    rw [f39_L1_eq guardT rfl]
    unfold rst1 scnP
    cases c1 : inR ((L x.st).getD i 0) (-1) 11 with
    | false =>
      have cb : badS x i = true := by unfold badS; rw [c1]; rfl
      rw [if_pos cb]
      refine ⟨σ, ?_⟩
      simp (disch := omega) only [N, b_lss, ltT, gG, fa47_2, fa47_3, shift_ptr, shift_pptr, Nat.zero_add, Nat.add_zero, pureFn_fn, List.append_nil, List.singleton_append, List.cons_append, List.nil_append, load24, lb_4, lb_5, (PL.sl x.st).idx h, (PL.sl x.en).idx h2, load3, load1_getD h, load1_getD h2, S65, c1]
      rfl
    | true =>
      cases c2 : inR ((L x.en).getD i 0) (-1) 11 with
      | false =>
        have cb : badS x i = true := by unfold badS; rw [c1, c2]; rfl
        rw [if_pos cb]
        refine ⟨σ, ?_⟩
        simp (disch := omega) only [N, b_lss, ltT, gG, fa47_2, fa47_3, shift_ptr, shift_pptr, Nat.zero_add, Nat.add_zero, pureFn_fn, List.append_nil, List.singleton_append, List.cons_append, List.nil_append, load24, lb_4, lb_5, (PL.sl x.st).idx h, (PL.sl x.en).idx h2, load3, load1_getD h, load1_getD h2, S65, c1, c2]
        rfl
      | true =>
        have cb : ¬ badS x i = true := by unfold badS; rw [c1, c2]; simp
        rw [if_neg cb]
        refine ⟨σ', ?_⟩
        simp (disch := omega) only [N, b_lss, ltT, gG, fa47_2, fa47_3, shift_ptr, shift_pptr, Nat.zero_add, Nat.add_zero, pureFn_fn, List.append_nil, List.singleton_append, List.cons_append, List.nil_append, load24, lb_4, lb_5, (PL.sl x.st).idx h, (PL.sl x.en).idx h2, load3, load1_getD h, load1_getD h2, S65, c1, c2, add1]
        exact ih
theorem L39_0 (hs : (L x.st).length = (L x.en).length) : ∀ (k i : Nat) (σ : Store), (L x.la).length - i = k → i ≤ (L x.la).length → ∃ σ', f39_L0 guardT 0 (.pptr (eLb x) 0) (.p (eSl x.la)) (N (L x.la).length) (N i) σ = some (pr2 (rst0 x i k), σ')
  | 0, i, σ, hk, hi => by
    have he := hx.la
    obtain ⟨σ', h2⟩ := L39_1 hx hs (L x.st).length 0 σ rfl (Nat.zero_le _)
    refine ⟨σ', ?_⟩
    simp only [N] at h2
    rw [f39_L0_eq guardT rfl]
    simp (disch := omega) only [N, b_lss, ltF, gG, fa47_2, shift_ptr, shift_pptr, Nat.zero_add, Nat.add_zero, pureFn_fn, List.append_nil, List.singleton_append, List.cons_append, List.nil_append, load24, lb_4, len24]
    exact h2
  | k + 1, i, σ, hk, hi => by
    have he := hx.la
    have h : i < (L x.la).length := by omega
    obtain ⟨σ', ih⟩ := L39_0 hs k (i + 1) σ (by omega) (by omega)
    simp only [N] at ih
    rw [f39_L0_eq guardT rfl]
    unfold rst0 scnP badL
    cases c1 : inR ((L x.la).getD i 0) 0 4095 with
    | false =>
      rw [Bool.not_false, if_pos rfl]
      refine ⟨σ, ?_⟩
      simp (disch := omega) only [N, b_lss, ltT, gG, (PL.sl x.la).idx h, load3, load1_getD h, shift_ptr, shift_pptr, Nat.zero_add, Nat.add_zero, pureFn_fn, List.append_nil, List.singleton_append, List.cons_append, List.nil_append, S65, c1]
      rfl
    | true =>
      rw [Bool.not_true, if_neg (by simp)]
      refine ⟨σ', ?_⟩
      simp (disch := omega) only [N, b_lss, ltT, gG, (PL.sl x.la).idx h, load3, load1_getD h, shift_ptr, shift_pptr, Nat.zero_add, Nat.add_zero, pureFn_fn, List.append_nil, List.singleton_append, List.cons_append, List.nil_append, S65, c1, add1]
      exact ih
theorem S39 (σ : Store) : pureV CC 39 [vLb x] σ = some (pr2 (chkLb x)) := by
  obtain ⟨hi, he, hla, hst, hen, hwe, hsr⟩ := id hx
  have key : ∃ σ', F39 guardT 0 (vLb x) [] = some (pr2 (chkLb x), σ') := by
    have h86 := fun σ => S86 (g := x.g) hi he σ
    have hcond : ∀ (b1 : Bool), orL [wrg (!isG x.g) 5, wrg (decide (x.g.n > 60)) 2, wrg b1 6] = if isG x.g = false then 5 else if x.g.n > 60 then 2 else if b1 = true then 6 else 0 := by
      intro b1
      cases isG x.g <;> by_cases h : x.g.n > 60 <;> cases b1 <;> simp [orL, wrg, h]
    have fin : ∀ (b1 : Bool), shp x = b1 → (∃ σ', F39 guardT 0 (vLb x) [] = (if orL [wrg (!isG x.g) 5, wrg (decide (x.g.n > 60)) 2, wrg b1 6] = 0 then f39_L0 guardT 0 (.pptr (eLb x) 0) (.p (eSl x.la)) (N (L x.la).length) (N 0) [] else some (pr2 (0, orL [wrg (!isG x.g) 5, wrg (decide (x.g.n > 60)) 2, wrg b1 6]), σ'))) → ∃ σ', F39 guardT 0 (vLb x) [] = some (pr2 (chkLb x), σ') := by
      rintro b1 hb ⟨σ', h⟩
      have hE := hcond b1
      generalize hx0 : orL [wrg (!isG x.g) 5, wrg (decide (x.g.n > 60)) 2, wrg b1 6] = E at h hE
      unfold chkLb
      rw [hb]
      cases hg : isG x.g with
      | false =>
        have e : E = 5 := by rw [hE, hg]; exact if_pos rfl
        subst e
        rw [if_neg (by decide)] at h
        exact ⟨σ', by rw [h, if_pos rfl]⟩
      | true =>
        have e : E = if x.g.n > 60 then 2 else if b1 = true then 6 else 0 := by rw [hE, hg]; exact if_neg (by simp)
        rw [if_neg (by simp)]
        by_cases h60 : x.g.n > 60
        · rw [if_pos h60] at e ⊢
          subst e
          rw [if_neg (by decide)] at h
          exact ⟨σ', by rw [h]⟩
        · rw [if_neg h60] at e ⊢
          cases b1 with
          | true =>
            rw [if_pos rfl] at e ⊢
            subst e
            rw [if_neg (by decide)] at h
            exact ⟨σ', by rw [h]⟩
          | false =>
            rw [if_neg (by simp)] at e ⊢
            subst e
            rw [if_pos rfl] at h
            rw [h]
            have hs : (L x.st).length = (L x.en).length := by
              unfold shp at hb
              rw [Bool.or_eq_false_iff, Bool.or_eq_false_iff] at hb
              have := hb.2.1
              simp at this
              omega
            exact L39_0 hx hs _ 0 [] rfl (Nat.zero_le _)
    have tail : ∀ (b1 : Bool), ((pureFn CC (DV.fn 66 []) [.p (.sl true 3 [pI (wrg (!isG x.g) 5), pI (wrg (decide (x.g.n > 60)) 2), pI (wrg b1 6)])] []).bind fun x50 =>
         (binOp PP .neq 30 x50 (DV.p (PV.int IntKind.i64 (0)))).bind fun x52 =>
         condK x52 (some ((DV.tuple [(DV.p (PV.int IntKind.i64 (0))), x50]), ([] : Store)))
         ((fieldAddr PP 47 (.pptr (eLb x) 0) 1).bind fun x54 =>
         (load PP 24 x54 ([] : Store)).bind fun x55 =>
         (len PP 24 x55 ([] : Store)).bind fun x56 =>
         f39_L0 guardT 0 (.pptr (eLb x) 0) x55 x56 (DV.p (PV.int IntKind.i64 (0))) [])) =
        (if orL [wrg (!isG x.g) 5, wrg (decide (x.g.n > 60)) 2, wrg b1 6] = 0 then f39_L0 guardT 0 (.pptr (eLb x) 0) (.p (eSl x.la)) (N (L x.la).length) (N 0) [] else some (pr2 (0, orL [wrg (!isG x.g) 5, wrg (decide (x.g.n > 60)) 2, wrg b1 6]), [])) := by
      intro b1
      generalize hE : orL [wrg (!isG x.g) 5, wrg (decide (x.g.n > 60)) 2, wrg b1 6] = E
      have q : ∀ σ, pureV CC 66 [.p (.sl true 3 [pI (wrg (!isG x.g) 5), pI (wrg (decide (x.g.n > 60)) 2), pI (wrg b1 6)])] σ = some (.p (.int .i64 E)) := fun σ => by rw [S66_3, hE]
      by_cases h0 : E = 0
      · rw [if_pos h0]
        simp only [shift_ptr, shift_pptr, Nat.zero_add, Nat.add_zero, pureFn_fn, List.append_nil, List.singleton_append, List.cons_append, List.nil_append, q, gG, b_neq, eqT h0, fa47_1, load24, lb_3, len24]
        rfl
      · rw [if_neg h0]
        simp only [shift_ptr, shift_pptr, Nat.zero_add, Nat.add_zero, pureFn_fn, List.append_nil, List.singleton_append, List.cons_append, List.nil_append, q, gG, b_neq, eqF h0]
        rfl
    refine fin _ rfl ⟨[], ?_⟩
    rw [← tail, F39_eq]
    by_cases s1 : ((L x.la).length : Int) = x.g.n
    · by_cases s2 : ((L x.st).length : Int) = ((L x.en).length : Nat)
      · have hb : shp x = decide (((L x.st).length : Int) > 12) := by unfold shp; rw [decide_eq_true s1, decide_eq_true s2]; rfl
        rw [hb]
        simp (disch := omega) only [box_lb, gG, fa47_0, fa47_1, fa47_2, fa47_3, fa45_0, shift_ptr, shift_pptr, Nat.zero_add, Nat.add_zero, pureFn_fn, List.append_nil, List.singleton_append, List.cons_append, List.nil_append, load24, load3, load45, lb_0, lb_3, lb_4, lb_5, lb_g, len24, b_neq, eqT s1, eqT s2, b_gtr, h86, S67, bs160_3]
      · have hb : shp x = true := by unfold shp; rw [decide_eq_true s1, decide_eq_false s2]; rfl
        rw [hb]
        simp (disch := omega) only [box_lb, gG, fa47_0, fa47_1, fa47_2, fa47_3, fa45_0, shift_ptr, shift_pptr, Nat.zero_add, Nat.add_zero, pureFn_fn, List.append_nil, List.singleton_append, List.cons_append, List.nil_append, load24, load3, load45, lb_0, lb_3, lb_4, lb_5, lb_g, len24, b_neq, eqT s1, eqF s2, b_gtr, h86, S67, bs160_3]
    · have hb : shp x = true := by unfold shp; rw [decide_eq_false s1]; rfl
      rw [hb]
      simp (disch := omega) only [box_lb, gG, fa47_0, fa47_1, fa47_2, fa47_3, fa45_0, shift_ptr, shift_pptr, Nat.zero_add, Nat.add_zero, pureFn_fn, List.append_nil, List.singleton_append, List.cons_append, List.nil_append, load24, load3, load45, lb_0, lb_3, lb_4, lb_5, lb_g, len24, b_neq, eqF s1, b_gtr, h86, S67, bs160_3]
  obtain ⟨σ', h⟩ := key
  exact pureV_free (by simp only [List.map_cons, List.map_nil, lb_view]) rfl (F39_call h) rfl
theorem L40_3 (i : Nat) (hi : i = (L x.g.edges).length) (σ : Store) : f40_L2 guardT 0 (.pptr (eLb x) 0) (N i) σ = some (pr2 (rst3 x), σ) := by
  have w := hx.we
  have s := hx.sr
  have he := hx.e
  have h1 := fun σ => S90 (x := x) (o := x.we) hx.we hx.st σ
  have h2 := fun σ => S90 (x := x) (o := x.sr) hx.sr hx.st σ
  rw [f40_L2_eq guardT rfl]
  unfold rst3 orP
  by_cases e1 : (actE x.we (L x.st).length).2 = 0
  · rw [if_pos e1]
    by_cases e2 : (actE x.sr (L x.st).length).2 = 0
    · rw [if_pos e2]
      by_cases e3 : (((L x.we).length + (L x.sr).length : Nat) : Int) > 6
      · simp (disch := omega) only [N, fa47_0, fa45_2, shift_ptr, shift_pptr, Nat.zero_add, Nat.add_zero, pureFn_fn, List.append_nil, List.singleton_append, List.cons_append, List.nil_append, load43, lb_2, len43, b_lss, ltF, gG, load47, lb_all, fa47_4, fa47_5, load24, lb_6, lb_7, h1, h2, px0, px1, b_neq, eqT e1, eqT e2, len24, addN, b_gtr, gtT e3]
        rfl
      · simp (disch := omega) only [N, fa47_0, fa45_2, shift_ptr, shift_pptr, Nat.zero_add, Nat.add_zero, pureFn_fn, List.append_nil, List.singleton_append, List.cons_append, List.nil_append, load43, lb_2, len43, b_lss, ltF, gG, load47, lb_all, fa47_4, fa47_5, load24, lb_6, lb_7, h1, h2, px0, px1, b_neq, eqT e1, eqT e2, len24, addN, b_gtr, gtF e3]
        rfl
    · rw [if_neg e2]
      simp (disch := omega) only [N, fa47_0, fa45_2, shift_ptr, shift_pptr, Nat.zero_add, Nat.add_zero, pureFn_fn, List.append_nil, List.singleton_append, List.cons_append, List.nil_append, load43, lb_2, len43, b_lss, ltF, gG, load47, lb_all, fa47_4, fa47_5, load24, lb_6, lb_7, h1, h2, px0, px1, b_neq, eqT e1, eqF e2]
      rfl
  · rw [if_neg e1]
    simp (disch := omega) only [N, fa47_0, fa45_2, shift_ptr, shift_pptr, Nat.zero_add, Nat.add_zero, pureFn_fn, List.append_nil, List.singleton_append, List.cons_append, List.nil_append, load43, lb_2, len43, b_lss, ltF, gG, load47, lb_all, fa47_4, fa47_5, load24, lb_6, lb_7, h1, h2, px0, px1, b_neq, eqF e1]
    rfl
theorem L40_2 : ∀ (k i : Nat) (σ : Store), (L x.g.edges).length - i = k → i ≤ (L x.g.edges).length → f40_L2 guardT 0 (.pptr (eLb x) 0) (N i) σ = some (pr2 (rst2 x i k), σ)
  | 0, i, σ, hk, hi => L40_3 hx i (by omega) σ
  | k + 1, i, σ, hk, hi => by
    have he := hx.e
    have h : i < (L x.g.edges).length := by omega
    have ih := L40_2 k (i + 1) σ (by omega) (by omega)
    have d : load1 (.pptr (eEdgs (L x.g.edges)) (i * 3 + 2)) σ = some (.p (.int .i64 ((L x.g.edges).getD i default).a)) := by
      rw [List.getD_eq_getElem?_getD, List.getElem?_eq_getElem h]
      exact load1_pptr (edgs_get _ _ h).2.2 σ
    simp only [N] at ih
    rw [f40_L2_eq guardT rfl]
    unfold rst2 scnP
    by_cases c : ((L x.g.edges).getD i default).a ≥ ((L x.st).length : Nat)
    · rw [if_pos (show badE x i = true from decide_eq_true c)]
      simp (disch := omega) only [N, fa47_0, fa45_2, shift_ptr, shift_pptr, Nat.zero_add, Nat.add_zero, pureFn_fn, List.append_nil, List.singleton_append, List.cons_append, List.nil_append, load43, lb_2, len43, b_lss, ltT, gG, idx43 h, fa129_2, load3, d, fa47_2, load24, lb_4, len24, b_geq, geT c]
      rfl
    · rw [if_neg (by unfold badE; rw [decide_eq_false c]; simp)]
      simp (disch := omega) only [N, fa47_0, fa45_2, shift_ptr, shift_pptr, Nat.zero_add, Nat.add_zero, pureFn_fn, List.append_nil, List.singleton_append, List.cons_append, List.nil_append, load43, lb_2, len43, b_lss, ltT, gG, idx43 h, fa129_2, load3, d, fa47_2, load24, lb_4, len24, b_geq, geF c, add1]
      exact ih
theorem L40_1 (hs : (L x.st).length = (L x.en).length) : ∀ (k i : Nat) (σ : Store), (L x.st).length - i = k → i ≤ (L x.st).length → f40_L1 guardT 0 (.pptr (eLb x) 0) (N i) σ = some (pr2 (rst1 x i k), σ)
  | 0, i, σ, hk, hi => by
    have he := hx.st
    have h2 := L40_2 hx (L x.g.edges).length 0 σ rfl (Nat.zero_le _)
    simp only [N] at h2
    rw [f40_L1_eq guardT rfl]
    simp (disch := omega) only [N, fa47_2, shift_ptr, shift_pptr, Nat.zero_add, Nat.add_zero, pureFn_fn, List.append_nil, List.singleton_append, List.cons_append, List.nil_append, load24, lb_4, len24, b_lss, ltF, gG]
    exact h2
  | k + 1, i, σ, hk, hi => by
    have he := hx.st
    have h : i < (L x.st).length := by omega
    have h2 : i < (L x.en).length := by omega
    have ih := L40_1 hs k (i + 1) σ (by omega) (by omega)
    simp only [N] at ih
    rw [f40_L1_eq guardT rfl]
    unfold rst1 scnP
    cases c1 : inR ((L x.st).getD i 0) (-1) 11 with
    | false =>
      have cb : badS x i = true := by unfold badS; rw [c1]; rfl
      rw [if_pos cb]
      simp (disch := omega) only [N, b_lss, ltT, gG, fa47_2, fa47_3, shift_ptr, shift_pptr, Nat.zero_add, Nat.add_zero, pureFn_fn, List.append_nil, List.singleton_append, List.cons_append, List.nil_append, load24, lb_4, lb_5, len24, (PL.sl x.st).idx h, (PL.sl x.en).idx h2, load3, load1_getD h, load1_getD h2, S89, c1]
      rfl
    | true =>
      cases c2 : inR ((L x.en).getD i 0) (-1) 11 with
      | false =>
        have cb : badS x i = true := by unfold badS; rw [c1, c2]; rfl
        rw [if_pos cb]
        simp (disch := omega) only [N, b_lss, ltT, gG, fa47_2, fa47_3, shift_ptr, shift_pptr, Nat.zero_add, Nat.add_zero, pureFn_fn, List.append_nil, List.singleton_append, List.cons_append, List.nil_append, load24, lb_4, lb_5, len24, (PL.sl x.st).idx h, (PL.sl x.en).idx h2, load3, load1_getD h, load1_getD h2, S89, c1, c2]
        rfl
      | true =>
        have cb : ¬ badS x i = true := by unfold badS; rw [c1, c2]; simp
        rw [if_neg cb]
        simp (disch := omega) only [N, b_lss, ltT, gG, fa47_2, fa47_3, shift_ptr, shift_pptr, Nat.zero_add, Nat.add_zero, pureFn_fn, List.append_nil, List.singleton_append, List.cons_append, List.nil_append, load24, lb_4, lb_5, len24, (PL.sl x.st).idx h, (PL.sl x.en).idx h2, load3, load1_getD h, load1_getD h2, S89, c1, c2, add1]
        exact ih
theorem L40_0 (hs : (L x.st).length = (L x.en).length) : ∀ (k i : Nat) (σ : Store), (L x.la).length - i = k → i ≤ (L x.la).length → f40_L0 guardT 0 (.pptr (eLb x) 0) (N i) σ = some (pr2 (rst0 x i k), σ)
  | 0, i, σ, hk, hi => by
    have he := hx.la
    have h2 := L40_1 hx hs (L x.st).length 0 σ rfl (Nat.zero_le _)
    simp only [N] at h2
    rw [f40_L0_eq guardT rfl]
    simp (disch := omega) only [N, fa47_1, shift_ptr, shift_pptr, Nat.zero_add, Nat.add_zero, pureFn_fn, List.append_nil, List.singleton_append, List.cons_append, List.nil_append, load24, lb_3, len24, b_lss, ltF, gG]
    exact h2
  | k + 1, i, σ, hk, hi => by
    have he := hx.la
    have h : i < (L x.la).length := by omega
    have ih := L40_0 hs k (i + 1) σ (by omega) (by omega)
    simp only [N] at ih
    rw [f40_L0_eq guardT rfl]
    unfold rst0 scnP badL
    cases c1 : inR ((L x.la).getD i 0) 0 4095 with
    | false =>
      rw [Bool.not_false, if_pos rfl]
      simp (disch := omega) only [N, fa47_1, load24, lb_3, len24, b_lss, ltT, gG, (PL.sl x.la).idx h, load3, load1_getD h, shift_ptr, shift_pptr, Nat.zero_add, Nat.add_zero, pureFn_fn, List.append_nil, List.singleton_append, List.cons_append, List.nil_append, S26, c1]
      rfl
    | true =>
      rw [Bool.not_true, if_neg (by simp)]
      simp (disch := omega) only [N, fa47_1, load24, lb_3, len24, b_lss, ltT, gG, (PL.sl x.la).idx h, load3, load1_getD h, shift_ptr, shift_pptr, Nat.zero_add, Nat.add_zero, pureFn_fn, List.append_nil, List.singleton_append, List.cons_append, List.nil_append, S26, c1, add1]
      exact ih
theorem S40 (σ : Store) : pureV CC 40 [vLb x] σ = some (pr2 (chkLb x)) := by
  obtain ⟨hi, he, hla, hst, hen, hwe, hsr⟩ := id hx
  refine pureV_free (by simp only [List.map_cons, List.map_nil, lb_view]) rfl (F40_call (r := (pr2 (chkLb x), [])) ?_) rfl
  have h88 := fun σ => S88 (g := x.g) hi he σ
  rw [F40_eq]
  unfold chkLb
  cases hg : isG x.g with
  | false =>
    rw [if_pos rfl]
    simp only [box_lb, gG, fa47_0, shift_ptr, shift_pptr, Nat.zero_add, Nat.add_zero, pureFn_fn, List.append_nil, List.singleton_append, List.cons_append, List.nil_append, load45, lb_g, h88, hg]
    rfl
  | true =>
    rw [if_neg (by simp)]
    by_cases h60 : x.g.n > 60
    · rw [if_pos h60]
      simp only [box_lb, gG, fa47_0, fa45_0, shift_ptr, shift_pptr, Nat.zero_add, Nat.add_zero, pureFn_fn, List.append_nil, List.singleton_append, List.cons_append, List.nil_append, load45, lb_g, h88, hg, load3, lb_0, b_gtr, gtT h60]
      rfl
    · rw [if_neg h60]
      by_cases s1 : ((L x.la).length : Int) = x.g.n
      · by_cases s2 : ((L x.st).length : Int) = ((L x.en).length : Nat)
        · have hb : shp x = decide (((L x.st).length : Int) > 12) := by unfold shp; rw [decide_eq_true s1, decide_eq_true s2]; rfl
          rw [hb]
          by_cases s3 : ((L x.st).length : Int) > 12
          · rw [if_pos (decide_eq_true s3)]
            simp only [box_lb, gG, fa47_0, fa47_1, fa47_2, fa47_3, fa45_0, shift_ptr, shift_pptr, Nat.zero_add, Nat.add_zero, pureFn_fn, List.append_nil, List.singleton_append, List.cons_append, List.nil_append, load45, lb_g, h88, hg, load3, load24, lb_0, lb_3, lb_4, lb_5, len24, b_gtr, gtF h60, b_neq, eqT s1, eqT s2, gtT s3]
            rfl
          · rw [if_neg (by rw [decide_eq_false s3]; simp)]
            have h0 := L40_0 hx (by omega) (L x.la).length 0 [] rfl (Nat.zero_le _)
            simp only [N] at h0
            simp only [box_lb, gG, fa47_0, fa47_1, fa47_2, fa47_3, fa45_0, shift_ptr, shift_pptr, Nat.zero_add, Nat.add_zero, pureFn_fn, List.append_nil, List.singleton_append, List.cons_append, List.nil_append, load45, lb_g, h88, hg, load3, load24, lb_0, lb_3, lb_4, lb_5, len24, b_gtr, gtF h60, b_neq, eqT s1, eqT s2, gtF s3]
            exact h0
        · have hb : shp x = true := by unfold shp; rw [decide_eq_true s1, decide_eq_false s2]; rfl
          rw [hb, if_pos rfl]
          simp only [box_lb, gG, fa47_0, fa47_1, fa47_2, fa47_3, fa45_0, shift_ptr, shift_pptr, Nat.zero_add, Nat.add_zero, pureFn_fn, List.append_nil, List.singleton_append, List.cons_append, List.nil_append, load45, lb_g, h88, hg, load3, load24, lb_0, lb_3, lb_4, lb_5, len24, b_gtr, gtF h60, b_neq, eqT s1, eqF s2]
          rfl
      · have hb : shp x = true := by unfold shp; rw [decide_eq_false s1]; rfl
        rw [hb, if_pos rfl]
        simp only [box_lb, gG, fa47_0, fa47_1, fa47_2, fa47_3, fa45_0, shift_ptr, shift_pptr, Nat.zero_add, Nat.add_zero, pureFn_fn, List.append_nil, List.singleton_append, List.cons_append, List.nil_append, load45, lb_g, h88, hg, load3, load24, lb_0, lb_3, lb_4, lb_5, len24, b_gtr, gtF h60, b_neq, eqF s1]
        rfl
end
end Go.D
end
/- Chapter 13: lists of truths; what the program computes on a ring of places. -/
section
set_option linter.unusedVariables false
set_option linter.unusedSimpArgs false
set_option maxRecDepth 8000
namespace Go.D
open Las
def bls (l : List Bool) : List DV := (eBools l).map DV.p
def BV (l : List Bool) : DV := .p (.sl false l.length (eBools l))
theorem bls_len (l : List Bool) : (bls l).length = l.length := by simp [bls, bools_length]
theorem bls_get {l : List Bool} {i : Nat} (h : i < l.length) : (bls l)[i]? = some (.p (.bool (l.getD i false))) := by
  simp [bls, eBools, List.getD_eq_getElem?_getD, h]
theorem BV_view (l : List Bool) : view (BV l) = BV l := by simp [BV, view, viewCell, loosen, loosens_bools]
theorem u34 : PP.underlying 34 = some (.slice 4) := Eq.trans (by kernel_rfl) rfl
theorem src34 : srcType PP 34 = true := Eq.trans (by kernel_rfl) rfl
theorem bytes4 : bytes? PP 4 = some 1 := Eq.trans (by kernel_rfl) rfl
theorem zero4 : zeroOf PP 4 = some [.p (.bool false)] := Eq.trans (by kernel_rfl) rfl
theorem BV_len (l : List Bool) (σ : Store) : len PP 34 (BV l) σ = some (N l.length) := by simp [len, u34, BV, N]
theorem BV_idx {l : List Bool} {i : Nat} (h : i < l.length) : indexAddr PP 34 (BV l) (.p (.int .i64 (i : Nat))) = some (.pptr (eBools l) i) := by
  have h2 : (0 : Int) ≤ (i : Int) ∧ (i : Int) < (l.length : Nat) := by omega
  simp [indexAddr, u34, s4, BV, h2]
theorem BV_ld {l : List Bool} {i : Nat} (h : i < l.length) (σ : Store) : load1 (.pptr (eBools l) i) σ = some (.p (.bool (l.getD i false))) := by
  rw [load1_bools h, List.getD_eq_getElem?_getD, List.getElem?_eq_getElem h]; rfl
theorem br_len (r off n : Nat) (σ : Store) : len PP 34 (.rsl r 1 off n) σ = some (N n) := by simp [len, u34, N]
theorem br_idx {r n i : Nat} (hi : i < n) : indexAddr PP 34 (.rsl r 1 0 n) (.p (.int .i64 (i : Nat))) = some (.ptr r i) := by
  have h2 : (0 : Int) ≤ (i : Int) ∧ (i : Int) < (n : Nat) := by omega
  simp [indexAddr, u34, s4, h2]
theorem br_ld {σ : Store} {r i : Nat} {A : List Bool} (h : σ[r]? = some (.mix (bls A))) (hi : i < A.length) : load1 (.ptr r i) σ = some (.p (.bool (A.getD i false))) := load1_ptr h (bls_get hi)
theorem bls_splice {A B : List Bool} {k : Nat} : splice (bls A) k (bls B) = bls (A.take k ++ B ++ A.drop (k + B.length)) := by
  unfold splice
  rw [bls_len]
  simp [bls, eBools, List.map_take, List.map_drop]
theorem take_set_drop {α : Type} {A : List α} {i : Nat} {v : α} (hi : i < A.length) : A.take i ++ [v] ++ A.drop (i + 1) = A.set i v := by
  rw [List.set_eq_take_append_cons_drop, if_pos hi]; simp
theorem br_st {σ : Store} {r i lo : Nat} {A : List Bool} {v : Bool} (h : σ[r]? = some (.mix (bls A))) (hi : i < A.length) (hlo : lo ≤ r) : store PP lo 4 (.ptr r i) (.p (.bool v)) σ = some (σ.set r (.mix (bls (A.set i v)))) := by
  have e : splice (bls A) i [DV.p (.bool v)] = bls (A.set i v) := by
    have h1 : [DV.p (.bool v)] = bls [v] := rfl
    rw [h1, bls_splice, List.length_singleton, take_set_drop hi]
  have hb : i + 1 ≤ (bls A).length := by rw [bls_len]; omega
  simp [store, s4, DV.cells, storeN, h, e, hb, DV.one, hlo]
theorem mapO_bls (n : Nat) (σ : Store) (d : Nat) (l : List Bool) : mapO (thawP n σ d) (bls l) = some (eBools l) := by
  induction l with
  | nil => rfl
  | cons a l ih =>
    have : bls (a :: l) = .p (.bool a) :: bls l := rfl
    rw [this]
    cases d <;> simp [mapO, thawP, loosen, ih, eBools]
theorem br_thaw {σ : Store} {r lo : Nat} {A : List Bool} (h : σ[r]? = some (.mix (bls A))) (hlo : lo ≤ r) : thawAll lo σ (.rsl r 1 0 A.length) = some (BV A) := by
  have hb : 0 + A.length * 1 ≤ (bls A).length := by rw [bls_len]; omega
  have ht : ((bls A).drop 0).take (A.length * 1) = bls A := by rw [List.drop_zero, Nat.mul_one, List.take_of_length_le (by rw [bls_len]; exact Nat.le_refl _)]
  simp only [thawAll, thawPart, thaw, thaw1, thawP, if_pos hlo, h, if_pos hb, ht, mapO_bls, Option.map_some]
  rfl
theorem bs34_0 (σ : Store) : buildSlice PP none 34 0 [] σ = some (.p (.sl true 0 []), σ) := Eq.trans (by kernel_rfl) rfl
theorem bs34_1 (b : Bool) (σ : Store) : buildSlice PP none 34 1 [(0, .p (.bool b))] σ = some (.p (.sl true 1 [.bool b]), σ) := Eq.trans (by kernel_rfl) rfl
theorem isnil34 (n : Nat) (cs : List PV) : binOp PP .eql 34 (.p (.sl false n cs)) (.p .nilsl) = some (.p (.bool false)) := Eq.trans (by kernel_rfl) rfl
theorem pures_bls (l : List Bool) : pures (bls l) = some (eBools l) := pures_map _
theorem C71 {l : List Bool} (h0 : l ≠ []) (hl : l.length ≤ 100000) (lo : Nat) (σ : Store) : CC lo 71 [BV l] σ = some (.rsl σ.length 1 0 l.length, σ ++ [.mix (bls l)]) := by
  have hs : source σ 1 (BV l) = some (l.length, bls l) := by simp [source, BV, bools_length, bls]
  have hb0 : ¬ (l.length = 0) := fun e => h0 (List.length_eq_zero_iff.1 e)
  have ha : append PP lo true 34 34 (.p (.sl true 0 [])) (BV l) σ = some (.rsl σ.length 1 0 l.length, σ ++ [.mix (bls l)]) := by
    simp [append, src34, u34, s4, bytes4, zero4, hs, appLit, hb0, h0]
    omega
  refine F71_call ?_
  rw [F71_eq]
  have e : BV l = .p (.sl false l.length (eBools l)) := rfl
  rw [e] at ha ⊢
  simp only [isnil34, gG, bs34_0, ha]
theorem ne_len {l : List Bool} {n : Nat} (h : l.length = n) (h0 : 0 < n) : l ≠ [] := fun e => by rw [e] at h; simp at h; omega
theorem L124 {n : Nat} {g : Nat → Bool} (hn : n ≤ 1000) : ∀ (d i : Nat) (σ : Store), n - i = d → i ≤ n → σ[0]? = some (.mix (bls (tab n fun j => if j < i then !g j else g j))) →
    ∃ σ', f124_L0 guardT 0 (.rsl 0 1 0 n) (N n) (N i) σ = some (.rsl 0 1 0 n, σ') ∧ σ'[0]? = some (.mix (bls (tab n fun j => !g j)))
  | 0, i, σ, hd, hi, h => by
    have e : i = n := by omega
    subst e
    refine ⟨σ, ?_, ?_⟩
    · rw [f124_L0_eq guardT rfl]
      simp (disch := omega) only [N, b_lss, ltF, gG]
    · rw [h, tab_congr (fun j hj => by rw [if_pos hj])]
  | d + 1, i, σ, hd, hi, h => by
    have hlt : i < n := by omega
    have hlen := tab_len n (fun j => if j < i then !g j else g j)
    have hl := br_ld h (i := i) (by rw [hlen]; exact hlt)
    rw [tab_get hlt, if_neg (Nat.lt_irrefl i)] at hl
    have hs := br_st (v := !g i) h (i := i) (by rw [hlen]; exact hlt) (Nat.zero_le 0)
    rw [tab_set] at hs
    obtain ⟨σ', r1, r2⟩ := L124 (g := g) hn d (i + 1) (σ.set 0 (.mix (bls (tab n fun j => if j = i then !g i else if j < i then !g j else g j)))) (by omega) (by omega) (by
      rw [List.getElem?_set_self (get_lt h)]
      congr 3
      refine tab_congr fun j hj => ?_
      by_cases e : j = i
      · subst e; rw [if_pos rfl, if_pos (by omega)]
      · by_cases e2 : j < i
        · rw [if_neg e, if_pos e2, if_pos (by omega)]
        · rw [if_neg e, if_neg e2, if_neg (by omega)])
    refine ⟨σ', ?_, r2⟩
    rw [← r1, f124_L0_eq guardT rfl]
    simp (disch := omega) only [N, b_lss, ltT, gG, br_idx hlt, load4, hl, hs, add1]
theorem S124 {n : Nat} (h0 : 0 < n) (hn : n ≤ 1000) (g : Nat → Bool) (σ : Store) : pureV CC 124 [BV (tab n g)] σ = some (BV (tab n fun j => !g j)) := by
  have hlen := tab_len n g
  have hc := C71 (l := tab n g) (ne_len hlen h0) (by rw [hlen]; omega) 0 []
  rw [hlen, List.length_nil, List.nil_append] at hc
  obtain ⟨σ', r1, r2⟩ := L124 (g := g) hn _ 0 [.mix (bls (tab n g))] rfl (Nat.zero_le _) (by simp)
  have hth := br_thaw (lo := 0) r2 (Nat.le_refl _)
  rw [tab_len] at hth
  refine pureV_free (by simp [BV_view]) rfl (F124_call (r := (.rsl 0 1 0 n, σ')) ?_) hth
  rw [F124_eq]
  simp only [plainFn, List.append_nil, hc, gG, br_len]
  exact r1
def Fn2 (f : FuncId) (w : Bool → Bool → Bool) : Prop := ∀ (a b : Bool) (σ : Store), pureV CC f [.p (.bool a), .p (.bool b)] σ = some (.p (.bool (w a b)))
theorem fn126 : Fn2 126 and := fun a b σ => by
  refine pureV_free rfl rfl (F126_call (r := (.p (.bool (a && b)), [])) ?_) rfl
  rw [F126_eq]
  cases a <;> simp only [gG, Bool.false_and, Bool.true_and]
theorem fn127 : Fn2 127 or := fun a b σ => by
  refine pureV_free rfl rfl (F127_call (r := (.p (.bool (a || b)), [])) ?_) rfl
  rw [F127_eq]
  cases a <;> simp only [gG, Bool.false_or, Bool.true_or]
theorem fn128 : Fn2 128 fun a b => !a || b := fun a b σ => by
  refine pureV_free rfl rfl (F128_call (r := (.p (.bool (!a || b)), [])) ?_) rfl
  rw [F128_eq]
  cases a <;> simp only [gG, Bool.false_or, Bool.true_or]
theorem L125 {n : Nat} {a b : Nat → Bool} {f : FuncId} {w : Bool → Bool → Bool} (hf : Fn2 f w) (hn : n ≤ 1000) : ∀ (d i : Nat) (σ : Store), n - i = d → i ≤ n → σ[0]? = some (.mix (bls (tab n fun j => if j < i then w (a j) (b j) else a j))) →
    ∃ σ', f125_L0 guardT 0 (BV (tab n a)) (BV (tab n b)) (.fn f []) (.rsl 0 1 0 n) (N n) (N i) σ = some (.rsl 0 1 0 n, σ') ∧ σ'[0]? = some (.mix (bls (tab n fun j => w (a j) (b j))))
  | 0, i, σ, hd, hi, h => by
    have e : i = n := by omega
    subst e
    refine ⟨σ, ?_, ?_⟩
    · rw [f125_L0_eq guardT rfl]
      simp (disch := omega) only [N, b_lss, ltF, gG]
    · rw [h, tab_congr (fun j hj => by rw [if_pos hj])]
  | d + 1, i, σ, hd, hi, h => by
    have hlt : i < n := by omega
    have hlen := tab_len n (fun j => if j < i then w (a j) (b j) else a j)
    have la := tab_len n a
    have lb := tab_len n b
    have ia := BV_idx (l := tab n a) (i := i) (by omega)
    have ib := BV_idx (l := tab n b) (i := i) (by omega)
    have da := BV_ld (l := tab n a) (i := i) (by omega) σ
    have db := BV_ld (l := tab n b) (i := i) (by omega) σ
    rw [tab_get hlt] at da db
    have hs := br_st (v := w (a i) (b i)) h (i := i) (by rw [hlen]; exact hlt) (Nat.zero_le 0)
    rw [tab_set] at hs
    obtain ⟨σ', r1, r2⟩ := L125 (a := a) (b := b) hf hn d (i + 1) (σ.set 0 (.mix (bls (tab n fun j => if j = i then w (a i) (b i) else if j < i then w (a j) (b j) else a j)))) (by omega) (by omega) (by
      rw [List.getElem?_set_self (get_lt h)]
      congr 3
      refine tab_congr fun j hj => ?_
      by_cases e : j = i
      · subst e; rw [if_pos rfl, if_pos (by omega)]
      · by_cases e2 : j < i
        · rw [if_neg e, if_pos e2, if_pos (by omega)]
        · rw [if_neg e, if_neg e2, if_neg (by omega)])
    refine ⟨σ', ?_, r2⟩
    rw [← r1, f125_L0_eq guardT rfl]
    simp (disch := omega) only [N, b_lss, ltT, gG, ia, load4, da, ib, db, shift_ptr, shift_pptr, Nat.zero_add, Nat.add_zero, pureFn_fn, List.append_nil, List.singleton_append, List.cons_append, List.nil_append, hf (a i) (b i), br_idx hlt, hs, add1]
theorem S125 {n : Nat} {f : FuncId} {w : Bool → Bool → Bool} (hf : Fn2 f w) (h0 : 0 < n) (hn : n ≤ 1000) (a b : Nat → Bool) (σ : Store) : pureV CC 125 [BV (tab n a), BV (tab n b), .fn f []] σ = some (BV (tab n fun j => w (a j) (b j))) := by
  have hlen := tab_len n a
  have hc := C71 (l := tab n a) (ne_len hlen h0) (by rw [hlen]; omega) 0 []
  rw [hlen, List.length_nil, List.nil_append] at hc
  obtain ⟨σ', r1, r2⟩ := L125 (a := a) (b := b) hf hn _ 0 [.mix (bls (tab n a))] rfl (Nat.zero_le _) (by simp)
  have hth := br_thaw (lo := 0) r2 (Nat.le_refl _)
  rw [tab_len] at hth
  refine pureV_free (by simp [BV_view, fn_view]) rfl (F125_call (r := (.rsl 0 1 0 n, σ')) ?_) hth
  rw [F125_eq]
  simp only [plainFn, List.append_nil, hc, gG, br_len]
  exact r1
def rg (n back : Nat) : List PV := [pI n, pI back]
def vRg (n back : Nat) : DV := .agg [.p (pI n), .p (pI back)]
theorem rg_view (n back : Nat) : view (vRg n back) = vRg n back := rfl
theorem box_rg (n back : Nat) : boxP (vRg n back) = some (.pptr (rg n back) 0) := rfl
theorem fa135_0 (x : DV) : fieldAddr PP 135 x 0 = shiftPtr x 0 := Eq.trans (by kernel_rfl) rfl
theorem fa135_1 (x : DV) : fieldAddr PP 135 x 1 = shiftPtr x 1 := Eq.trans (by kernel_rfl) rfl
theorem load135 (x : DV) (σ : Store) : load PP 135 x σ = (loadN σ 2 x).map .agg := Eq.trans (by kernel_rfl) rfl
theorem rg_0 (n back : Nat) (σ : Store) : load1 (.pptr (rg n back) 0) σ = some (.p (.int .i64 (n : Nat))) := load1_pptr rfl σ
theorem rg_1 (n back : Nat) (σ : Store) : load1 (.pptr (rg n back) 1) σ = some (.p (.int .i64 (back : Nat))) := load1_pptr rfl σ
theorem rg_all (n back : Nat) (σ : Store) : (loadN σ 2 (.pptr (rg n back) 0)).map DV.agg = some (vRg n back) := rfl
theorem S93 {n back i : Nat} (h0 : 0 < n) (hn : n ≤ 1000) (hi : i < n) (σ : Store) : pureV CC 93 [vRg n back, .p (.int .i64 (i : Nat))] σ = some (.p (.int .i64 ((nx n back i : Nat)))) := by
  refine pureV_free rfl rfl (F93_call (r := (.p (.int .i64 ((nx n back i : Nat))), [])) ?_) rfl
  rw [F93_eq]
  unfold nx
  by_cases e : i = n - 1
  · have e' : (i : Int) = ((n - 1 : Nat) : Int) := by omega
    rw [if_pos e]
    simp (disch := omega) only [box_rg, gG, fa135_0, fa135_1, shift_ptr, shift_pptr, Nat.zero_add, Nat.add_zero, pureFn_fn, List.append_nil, List.singleton_append, List.cons_append, List.nil_append, load3, rg_0, rg_1, sub1, b_eql, eqT e']
  · have e' : ¬ (i : Int) = ((n - 1 : Nat) : Int) := by omega
    rw [if_neg e]
    simp (disch := omega) only [box_rg, gG, fa135_0, fa135_1, shift_ptr, shift_pptr, Nat.zero_add, Nat.add_zero, pureFn_fn, List.append_nil, List.singleton_append, List.cons_append, List.nil_append, load3, rg_0, rg_1, sub1, b_eql, eqF e', add1]
theorem nx_lt {n back i : Nat} (hb : back < n) (hi : i < n) : nx n back i < n := by
  unfold nx
  split <;> omega
theorem passU_len {n back : Nat} {f : List Bool} : ∀ (k : Nat) (o : List Bool), (passU n back f k o).length = o.length
  | 0, _ => rfl
  | k + 1, o => by unfold passU; rw [passU_len k]; simp
section
variable {n back : Nat} {f : List Bool} (hb : back < n) (hn : n ≤ 1000) (hf : f.length = n)
include hb hn hf
theorem L131_1 {x11 : DV} : ∀ (k : Nat) (o : List Bool) (σ : Store), k ≤ n → o.length = n → σ[0]? = some (.mix (bls o)) →
    ∃ σ', f131_L1 guardT 0 (BV f) (.pptr (rg n back) 0) (.rsl 0 1 0 n) (.p (.int .i64 ((k : Int) - 1))) x11 σ = f131_L1 guardT 0 (BV f) (.pptr (rg n back) 0) (.rsl 0 1 0 n) (.p (.int .i64 (-1))) x11 σ' ∧ σ'[0]? = some (.mix (bls (passU n back f k o)))
  | 0, o, σ, hk, ho, h => ⟨σ, rfl, h⟩
  | k + 1, o, σ, hk, ho, h => by
    have e : (((k + 1 : Nat) : Int) - 1) = (k : Nat) := by omega
    have hlt : k < n := by omega
    have h1 : ((k : Nat) : Int) ≥ 0 := by omega
    have hnx := nx_lt hb hlt
    have ld := br_ld h (i := k) (by omega)
    have ld2 := br_ld h (i := nx n back k) (by omega)
    have fi := BV_idx (l := f) (i := k) (by omega)
    have fd := BV_ld (l := f) (i := k) (by omega) σ
    have hs := fun v => br_st (v := v) h (i := k) (by omega) (Nat.zero_le 0)
    obtain ⟨σ', r1, r2⟩ := L131_1 k (o.set k (o.getD k false || (f.getD k false && o.getD (nx n back k) false))) (σ.set 0 (.mix (bls (o.set k (o.getD k false || (f.getD k false && o.getD (nx n back k) false)))))) (by omega) (by simp [ho]) (by rw [List.getElem?_set_self (get_lt h)])
    refine ⟨σ', ?_, r2⟩
    rw [← r1, e, f131_L1_eq guardT rfl]
    cases q1 : o.getD k false with
    | true =>
      rw [q1] at ld
      simp (disch := omega) only [b_geq, geT h1, gG, br_idx hlt, load4, ld, hs, subI, Bool.true_or]
    | false =>
      rw [q1] at ld
      cases q2 : f.getD k false with
      | false =>
        rw [q2] at fd
        simp (disch := omega) only [b_geq, geT h1, gG, br_idx hlt, load4, ld, hs, subI, fi, fd, Bool.false_or, Bool.false_and]
      | true =>
        rw [q2] at fd
        simp (disch := omega) only [b_geq, geT h1, gG, br_idx hlt, load4, ld, hs, subI, fi, fd, load135, rg_all, shift_ptr, shift_pptr, Nat.zero_add, Nat.add_zero, pureFn_fn, List.append_nil, List.singleton_append, List.cons_append, List.nil_append, S93 (show 0 < n by omega) hn hlt, br_idx hnx, ld2, Bool.false_or, Bool.true_and]
theorem L131_0 {i : Nat} (hi : i < 2) {o : List Bool} {σ : Store} (ho : o.length = n) (h : σ[0]? = some (.mix (bls o))) :
    ∃ σ', f131_L0 guardT 0 (BV f) (.pptr (rg n back) 0) (.rsl 0 1 0 n) (N i) σ = f131_L0 guardT 0 (BV f) (.pptr (rg n back) 0) (.rsl 0 1 0 n) (N (i + 1)) σ' ∧ σ'[0]? = some (.mix (bls (passU n back f n o))) := by
  obtain ⟨σ', r1, r2⟩ := L131_1 hb hn hf (x11 := N i) n o σ (Nat.le_refl _) ho h
  refine ⟨σ', ?_, r2⟩
  have h2 : (i : Int) < 2 := by omega
  rw [f131_L0_eq guardT rfl]
  simp (disch := omega) only [N, b_lss, ltT h2, gG, fa135_0, shift_ptr, shift_pptr, Nat.zero_add, Nat.add_zero, pureFn_fn, List.append_nil, List.singleton_append, List.cons_append, List.nil_append, load3, rg_0, subI]
  simp only [N] at r1
  rw [r1, f131_L1_eq guardT rfl]
  simp (disch := omega) only [b_geq, geF (show ¬ (-1 : Int) ≥ 0 by decide), gG, add1]
theorem S131 {o : List Bool} (ho : o.length = n) (σ : Store) : pureV CC 131 [vRg n back, BV f, BV o] σ = some (BV (passU n back f n (passU n back f n o))) := by
  have hc := C71 (l := o) (ne_len ho (by omega)) (by omega) 0 []
  rw [ho, List.length_nil, List.nil_append] at hc
  obtain ⟨σ1, r1, r2⟩ := L131_0 hb hn hf (i := 0) (by decide) (σ := [.mix (bls o)]) ho rfl
  obtain ⟨σ2, r3, r4⟩ := L131_0 hb hn hf (i := 1) (by decide) (o := passU n back f n o) (by rw [passU_len]; exact ho) r2
  have hth := br_thaw (lo := 0) r4 (Nat.le_refl _)
  rw [passU_len, passU_len, ho] at hth
  refine pureV_free (by simp [BV_view, rg_view]) rfl (F131_call (r := (.rsl 0 1 0 n, σ2)) ?_) hth
  have he : f131_L0 guardT 0 (BV f) (.pptr (rg n back) 0) (.rsl 0 1 0 n) (N 2) σ2 = some (.rsl 0 1 0 n, σ2) := by
    rw [f131_L0_eq guardT rfl]
    simp (disch := omega) only [N, b_lss, ltF (show ¬ ((2 : Nat) : Int) < 2 by decide), gG]
  rw [F131_eq]
  simp only [box_rg, gG, plainFn, List.append_nil, hc]
  exact r1.trans (r3.trans he)
end
end Go.D
end
/- Chapter 13: Repeat over truths; sometime, always and until of the program. -/
section
set_option linter.unusedVariables false
set_option linter.unusedSimpArgs false
set_option maxRecDepth 8000
namespace Go.D
open Las
theorem eB_take (A : List Bool) (k : Nat) : (eBools A).take k = eBools (A.take k) := by simp [eBools, List.map_take]
theorem eB_drop (A : List Bool) (k : Nat) : (eBools A).drop k = eBools (A.drop k) := by simp [eBools, List.map_drop]
theorem eB_app (A B : List Bool) : eBools (A ++ B) = eBools A ++ eBools B := by simp [eBools]
theorem bls_take (A : List Bool) (k : Nat) : (bls A).take k = bls (A.take k) := by simp [bls, eBools, List.map_take]
theorem spliceB (A B : List Bool) (k : Nat) : splice (eBools A) k (eBools B) = eBools (A.take k ++ B ++ A.drop (k + B.length)) := by
  unfold splice
  rw [eB_take, bools_length, eB_drop, eB_app, eB_app]
theorem mk34 {n : Nat} (h : n ≤ 1000000) (σ : Store) : makeSlice PP false 34 (.p (.int .i64 (n : Nat))) (.p (.int .i64 (n : Nat))) σ = some (.rsl σ.length 1 0 n, σ ++ [.arr (eBools (List.replicate n false))]) := by
  have hd : dups [DV.p (.bool false)] n = bls (List.replicate n false) := by
    induction n with
    | zero => rfl
    | succ n ih => rw [dups, ih (by omega)]; rfl
  have hp : pures (bls (List.replicate n false)) = some (eBools (List.replicate n false)) := pures_map _
  have hc : (0 : Int) ≤ (n : Int) ∧ (n : Int) ≤ (n : Int) ∧ (n : Int) ≤ 140737488355328 ∧ ((8 : Nat) : Int) * (n : Int) ≤ 140737488355328 ∧ 1 = 1 := ⟨by omega, by omega, by omega, by omega, rfl⟩
  simp [makeSlice, u34, s4, bytes4, zero4, newRow, hd, hp]
  omega
theorem cp_selfB {σ : Store} {r lo T n : Nat} {A : List Bool} (h : σ[r]? = some (.arr (eBools A))) (h0 : 0 < n) (hn : n < T) (hA : A.length = T) (hlo : lo ≤ r) :
    copyOp PP lo 34 (.rsl r 1 n (T - n)) (.rsl r 1 0 n) σ = some (N (min n (T - n)), σ.set r (.arr (eBools (A.take n ++ A.take (min n (T - n)) ++ A.drop (n + min n (T - n)))))) := by
  generalize hk : min n (T - n) = k
  have hkn : k ≤ n := by omega
  have hkT : n + k ≤ T := by omega
  have hk0 : ¬ (k * 1 = 0) := by omega
  have hl : 0 + n * 1 ≤ (eBools A).length := by rw [bools_length]; omega
  have hs : source σ 1 (.rsl r 1 0 n) = some (n, bls (A.take n)) := by
    simp only [source, if_true, loadN, h, if_pos hl]
    simp only [List.drop_zero, Nat.mul_one, eB_take, Option.map_some]
    rfl
  have ht : (bls (A.take n)).take (k * 1) = bls (A.take k) := by
    rw [Nat.mul_one, bls_take, List.take_take, Nat.min_eq_left hkn]
  have hlen : (A.take k).length = k := by rw [List.length_take]; omega
  have hb : n + (bls (A.take k)).length ≤ (eBools A).length := by rw [bls_len, bools_length, hlen]; omega
  have e := spliceB A (A.take k) n
  rw [hlen] at e
  simp only [copyOp, u34, s4, hs, if_true, hk, if_neg hk0, ht, storeN, if_pos hlo, h, pures_bls, if_pos hb, e, Option.map_some, N]
theorem rep_take (n k : Nat) (b : Bool) : (List.replicate n b).take k = List.replicate (min k n) b := List.take_replicate ..
theorem L123 {T : Nat} (hT : T ≤ 100000) : ∀ (d n : Nat) (A : List Bool) (σ : Store), T - n ≤ d → 0 < n → n ≤ T → A.length = T → σ[0]? = some (.arr (eBools A)) → A.take n = List.replicate n true →
    ∃ σ', f123_L0 guardT 0 (.rsl 0 1 0 T) (N n) σ = some (.rsl 0 1 0 T, σ') ∧ σ'[0]? = some (.arr (eBools (List.replicate T true)))
  | d, n, A, σ, hd, h0, hn, hA, hr, hp => by
    by_cases hlt : n < T
    · cases d with
      | zero => omega
      | succ d =>
        have hc := cp_selfB (lo := 0) hr h0 hlt hA (Nat.zero_le _)
        generalize hk : min n (T - n) = k at hc
        have hl1 : (A.take n).length = n := by rw [List.length_take]; omega
        have hl2 : (A.take k).length = k := by rw [List.length_take]; omega
        have hAk : A.take k = List.replicate k true := by
          have := congrArg (List.take k) hp
          rwa [List.take_take, Nat.min_eq_left (by omega), rep_take, Nat.min_eq_left (by omega)] at this
        have hnew : (A.take n ++ A.take k ++ A.drop (n + k)).take (n + k) = List.replicate (n + k) true := by
          rw [List.take_append_of_le_length (by rw [List.length_append]; omega), List.take_of_length_le (by rw [List.length_append]; omega), hp, hAk, List.replicate_append_replicate]
        obtain ⟨σ', r1, r2⟩ := L123 hT d (n + k) (A.take n ++ A.take k ++ A.drop (n + k)) (σ.set 0 (.arr (eBools (A.take n ++ A.take k ++ A.drop (n + k))))) (by omega) (by omega) (by omega) (by simp; omega) (by rw [List.getElem?_set_self (get_lt hr)]) hnew
        refine ⟨σ', ?_, r2⟩
        have b1 := bound_nat (show n ≤ T by omega) 0
        have b2 := bound_nat (show n ≤ T by omega) T
        have e1 : sliceOp PP 34 (.rsl 0 1 0 T) (some (.p (.int .i64 (n : Nat)))) none none = some (.rsl 0 1 n (T - n)) := by
          simp [sliceOp, u34, s4, b1, show bound none T T = some T from rfl]
        have e2 : sliceOp PP 34 (.rsl 0 1 0 T) none (some (.p (.int .i64 (n : Nat)))) none = some (.rsl 0 1 0 n) := by
          simp [sliceOp, u34, s4, b2, show bound none 0 n = some 0 from rfl]
        rw [← r1, f123_L0_eq guardT rfl]
        simp (disch := omega) only [N, br_len, b_lss, ltT, gG, e1, e2, hc, addN]
    · have e : n = T := by omega
      subst e
      refine ⟨σ, ?_, ?_⟩
      · rw [f123_L0_eq guardT rfl]
        simp (disch := omega) only [N, br_len, b_lss, ltF, gG]
      · rw [hr, ← hp, List.take_of_length_le (by omega)]
theorem S123 {n : Nat} (h0 : 0 < n) (hn : n ≤ 1000) (σ : Store) : pureV CC 123 [.p (.sl true 1 [.bool true]), .p (.int .i64 (n : Nat))] σ = some (BV (List.replicate n true)) := by
  have hl : (eBools (List.replicate n false)).length = n := by simp [bools_length]
  have hs : source [Row.arr (eBools (List.replicate n false))] 1 (BV [true]) = some (1, bls [true]) := rfl
  have hm : min 1 n = 1 := Nat.min_eq_left h0
  have hb : 0 + (bls [true]).length ≤ (eBools (List.replicate n false)).length := by rw [hl]; show 0 + 1 ≤ n; omega
  have e := spliceB (List.replicate n false) [true] 0
  rw [List.take_zero, List.nil_append, Nat.zero_add] at e
  have hcp : copyOp PP 0 34 (.rsl 0 1 0 n) (BV [true]) [Row.arr (eBools (List.replicate n false))] = some (N 1, [Row.arr (eBools ([true] ++ (List.replicate n false).drop 1))]) := by
    have ht : (bls [true]).take (1 * 1) = bls [true] := rfl
    simp only [copyOp, u34, s4, hs, if_true, hm, Nat.one_ne_zero, Nat.mul_one, if_false, show (bls [true]).take 1 = bls [true] from rfl, storeN, Nat.le_refl, if_pos, List.getElem?_cons_zero, pures_bls, hb, e, Option.map_some, N]
    rfl
  obtain ⟨σ', r1, r2⟩ := L123 (T := n) (by omega) _ 1 ([true] ++ (List.replicate n false).drop 1) [Row.arr (eBools ([true] ++ (List.replicate n false).drop 1))] (Nat.le_refl _) (by decide) h0 (by simp; omega) rfl rfl
  have hth : thawAll 0 σ' (.rsl 0 1 0 n) = some (BV (List.replicate n true)) := by
    have hb2 : 0 + n * 1 ≤ (eBools (List.replicate n true)).length := by rw [bools_length, List.length_replicate]; omega
    have ht : ((eBools (List.replicate n true)).drop 0).take (n * 1) = eBools (List.replicate n true) := by rw [List.drop_zero, Nat.mul_one, List.take_of_length_le (by rw [bools_length, List.length_replicate]; exact Nat.le_refl _)]
    simp only [thawAll, thawPart, thaw, thaw1, thawP, Nat.zero_le, if_pos, r2, hb2, ht, loosens_bools, Option.map_some]
    simp [BV]
  have h1 : ¬ ((n : Int) < 0) := by omega
  have mk := mk34 (n := n) (by omega) []
  rw [pureV_view (args' := [BV [true], .p (.int .i64 (n : Nat))]) rfl rfl]
  refine pureV_free rfl rfl (F123_call (r := (.rsl 0 1 0 n, σ')) ?_) hth
  have ex0 : ∀ (a b : DV), extractV (.tuple [a, b]) 0 = some a := fun _ _ => rfl
  have ex1 : ∀ (a b : DV), extractV (.tuple [a, b]) 1 = some b := fun _ _ => rfl
  have l1 : ∀ σ, len PP 34 (BV [true]) σ = some (.p (.int .i64 ((1 : Nat) : Int))) := fun σ => BV_len [true] σ
  have q := S156 (a := 1) (b := n) (by decide) (by omega) (by omega)
  rw [F123_eq]
  simp (disch := omega) only [b_lss, ltF h1, gG, f123_J0_eq, l1, cvU, shift_ptr, shift_pptr, Nat.zero_add, Nat.add_zero, pureFn_fn, List.append_nil, List.singleton_append, List.cons_append, List.nil_append, q, ex0, ex1, b_gtrU, gtF (show ¬ (0 : Int) > 0 by decide), Nat.one_mul, gtF (show ¬ ((n : Nat) : Int) > 9223372036854775807 by omega), f123_J1_eq, cvI, mk, List.length_nil, hcp]
  exact r1
theorem rep_tab (n : Nat) (b : Bool) : List.replicate n b = tab n fun _ => b := by
  refine List.ext_getElem (by simp [tab]) fun j h1 h2 => by simp [tab]
section
variable {n back : Nat} (hb : back < n) (hn : n ≤ 1000) (a b g : Nat → Bool) (σ : Store)
include hb hn
theorem T131 : pureV CC 131 [vRg n back, BV (tab n a), BV (tab n b)] σ = some (BV (tab n (unP n back a b))) := by
  rw [S131 hb hn (tab_len n a) (tab_len n b), passes hb (fun i hi => tab_get hi false) rfl]
theorem T130 : pureV CC 130 [vRg n back, BV (tab n g)] σ = some (BV (tab n (soP n back g))) := by
  refine pureV_free (by simp [BV_view, rg_view]) rfl (F130_call (r := (BV (tab n (soP n back g)), [])) ?_) (by simp [thawAll, thawPart, thaw, thaw1, thawP, BV, loosen, loosens_bools])
  have h := T131 hb hn (fun _ => true) g
  rw [← rep_tab] at h
  rw [F130_eq]
  simp (disch := omega) only [box_rg, gG, load135, rg_all, bs34_1, fa135_0, shift_ptr, shift_pptr, Nat.zero_add, Nat.add_zero, pureFn_fn, List.append_nil, List.singleton_append, List.cons_append, List.nil_append, load3, rg_0, S123, h]
  rfl
theorem T129 : pureV CC 129 [vRg n back, BV (tab n g)] σ = some (BV (tab n fun i => !soP n back (fun j => !g j) i)) := by
  refine pureV_free (by simp [BV_view, rg_view]) rfl (F129_call (r := (BV (tab n fun i => !soP n back (fun j => !g j) i), [])) ?_) (by simp [thawAll, thawPart, thaw, thaw1, thawP, BV, loosen, loosens_bools])
  rw [F129_eq]
  simp (disch := omega) only [box_rg, gG, load135, rg_all, shift_ptr, shift_pptr, Nat.zero_add, Nat.add_zero, pureFn_fn, List.append_nil, List.singleton_append, List.cons_append, List.nil_append, S124, T130 hb hn]
end
end Go.D
end
/- Chapter 13: truths of the program. -/
section
set_option linter.unusedVariables false
set_option linter.unusedSimpArgs false
set_option maxRecDepth 8000
namespace Go.D
open Las
def bvP (l : List Bool) : PV := .sl false l.length (eBools l)
theorem u162 : PP.underlying 162 = some (.slice 34) := Eq.trans (by kernel_rfl) rfl
theorem s34 : size? PP 34 = some 1 := Eq.trans (by kernel_rfl) rfl
theorem src162 : srcType PP 162 = true := Eq.trans (by kernel_rfl) rfl
theorem bytes34 : bytes? PP 34 = some 24 := Eq.trans (by kernel_rfl) rfl
theorem zero34 : zeroOf PP 34 = some [.p .nilsl] := Eq.trans (by kernel_rfl) rfl
theorem load34 (x : DV) (σ : Store) : load PP 34 x σ = load1 x σ := Eq.trans (by kernel_rfl) rfl
theorem bs162 (l : List Bool) (σ : Store) : buildSlice PP none 162 1 [(0, BV l)] σ = some (.p (.sl true 1 [bvP l]), σ) := Eq.trans (by kernel_rfl) rfl
theorem bs162_o (r v n : Nat) (cs : List PV) (σ : Store) : buildSlice PP none 162 1 [(0, .osl r v 1 n cs)] σ = some (.p (.sl true 1 [.sl false n cs]), σ) := Eq.trans (by kernel_rfl) rfl
theorem Out.push162 {σ : Store} {lo n : Nat} {cs : List PV} {v : PV} {x : DV} (ho : Out σ lo 1 n cs x) (hn : n ≤ 1000000) (hlo : lo ≤ σ.length) :
    ∃ x' σ', append PP lo false 162 162 x (.p (.sl true 1 [v])) σ = some (x', σ') ∧ Out σ' lo 1 (n + 1) (cs ++ [v]) x' ∧ Others σ σ' x ∧ σ.length ≤ σ'.length :=
  Out.push src162 u162 s34 bytes34 zero34 rfl (by decide) (by decide) (by decide) rfl ho hn hlo
theorem Out.push34 {σ : Store} {lo n : Nat} {cs : List PV} {v : PV} {x : DV} (ho : Out σ lo 1 n cs x) (hn : n ≤ 1000000) (hlo : lo ≤ σ.length) :
    ∃ x' σ', append PP lo false 34 34 x (.p (.sl true 1 [v])) σ = some (x', σ') ∧ Out σ' lo 1 (n + 1) (cs ++ [v]) x' ∧ Others σ σ' x ∧ σ.length ≤ σ'.length :=
  Out.push src34 u34 s4 bytes4 zero4 rfl (by decide) (by decide) (by decide) rfl ho hn hlo
def Away (x : DV) (r : Nat) : Prop := ∀ rr v sz n cs, x = .osl rr v sz n cs → r ≠ rr
theorem Out.push34x {σ : Store} {lo n : Nat} {cs : List PV} {v : PV} {x : DV} (ho : Out σ lo 1 n cs x) (hn : n ≤ 1000000) (hlo : lo ≤ σ.length) :
    ∃ x' σ', append PP lo false 34 34 x (.p (.sl true 1 [v])) σ = some (x', σ') ∧ Out σ' lo 1 (n + 1) (cs ++ [v]) x' ∧ Others σ σ' x ∧ σ.length ≤ σ'.length ∧ ∀ r, r < σ.length → Away x r → Away x' r := by
  obtain ⟨x', σ', p1, p2, p3, p4⟩ := Out.push34 (v := v) ho hn hlo
  refine ⟨x', σ', p1, p2, p3, p4, fun r hr ha rr v' sz n' cs' e => ?_⟩
  subst e
  obtain ⟨hc, ho⟩ := ho
  have hsrc : source σ 1 (.p (.sl true 1 [v])) = some (1, [DV.p v]) := rfl
  rcases ho with ⟨rfl, rfl⟩ | ⟨hn0, r0, ver, rfl, hr0, hl⟩
  · have q : append PP lo false 34 34 (.p .nilsl) (.p (.sl true 1 [v])) σ = some (.osl σ.length 0 1 1 [v], σ ++ [.tok 0]) := by
      simp [append, src34, u34, s4, bytes4, zero4, hsrc, appNil, pures, DV.pure?]
    rw [p1] at q
    injection q with q
    injection q with q _
    injection q with q
    omega
  · have e1 : (n + 1) * 1 ≤ 140737488355328 := by omega
    have e2 : n + 1 ≤ 140737488355328 := by omega
    have q : append PP lo false 34 34 (.osl r0 ver 1 n cs) (.p (.sl true 1 [v])) σ = some (.osl r0 (ver + 1) 1 (n + 1) (cs ++ [v]), σ.set r0 (.tok (ver + 1))) := by
      simp only [Nat.mul_one] at hc
      simp [append, src34, u34, s4, bytes4, zero4, hsrc, appTok, pures, DV.pure?, hr0, hl, hc]
      omega
    rw [p1] at q
    injection q with q
    injection q with q _
    injection q with q
    rw [q]
    exact ha _ _ _ _ _ rfl
theorem Out.idx162 {σ : Store} {lo n j : Nat} {cs : List PV} {x : DV} (ho : Out σ lo 1 n cs x) (hj : j < n) : indexAddr PP 162 x (.p (.int .i64 (j : Nat))) = some (.pptr cs j) := by
  have h2 : (0 : Int) ≤ (j : Int) ∧ (j : Int) < (n : Nat) := by omega
  rcases ho.2 with ⟨h1, rfl⟩ | ⟨h1, r, v, rfl, _, _⟩
  · omega
  · simp [indexAddr, u162, s34, h2]
theorem Out.len162 {σ : Store} {lo n : Nat} {cs : List PV} {x : DV} (ho : Out σ lo 1 n cs x) (τ : Store) : len PP 162 x τ = some (N n) := by
  rcases ho.2 with ⟨h1, rfl⟩ | ⟨h1, r, v, rfl, _, _⟩
  · simp [len, u162, N, h1]
  · simp [len, u162, N]
theorem shrN {a m : Nat} (hm : m ≤ 11) (t : TypeId) : binOp PP .shr t (.p (.int .i64 (a : Nat))) (.p (.int .i64 (m : Nat))) = some (.p (.int .i64 ((a / 2 ^ m : Nat) : Int))) := by
  have hm0 : ¬ ((m : Int) < 0) := by omega
  have e1 : min (m : Int).toNat IntKind.i64.bits = m := by
    have : IntKind.i64.bits = 64 := rfl
    rw [this]; omega
  have e : (a : Int).fdiv (2 ^ m) = ((a / 2 ^ m : Nat) : Int) := by
    rw [Int.fdiv_eq_ediv_of_nonneg _ (Int.le_of_lt (Int.pow_pos (by decide)))]
    norm_cast
  show (binShift .shr .i64 (a : Int) (m : Int)).map DV.p = _
  unfold binShift
  rw [if_neg hm0]
  simp only [e1, e, Option.map_some]
theorem andN1 (a : Nat) (ha : a ≤ 1000000) (t : TypeId) : binOp PP .and t (.p (.int .i64 (a : Nat))) (.p (.int .i64 1)) = some (.p (.int .i64 ((a % 2 : Nat) : Int))) := by
  have e : (BitVec.ofInt 64 (a : Int) &&& BitVec.ofInt 64 1).toNat = a % 2 := by
    have h1 : (BitVec.ofInt 64 (a : Int)).toNat = a := by rw [BitVec.ofInt_natCast, BitVec.toNat_ofNat]; omega
    have h2 : (BitVec.ofInt 64 1).toNat = 2 ^ 1 - 1 := by decide
    rw [BitVec.toNat_and, h1, h2, Nat.and_two_pow_sub_one_eq_mod]
  have e2 : binInt .and .i64 (a : Int) 1 = some (.int .i64 ((a % 2 : Nat) : Int)) := by
    show some (PV.int .i64 (IntKind.i64.wrap ((BitVec.ofInt 64 (a : Int) &&& BitVec.ofInt 64 1).toNat : Int))) = _
    rw [e, wrap_ok (by omega) (by omega)]
  show (if IntKind.i64 = IntKind.i64 then (binInt .and .i64 (a : Int) 1).map DV.p else none) = _
  rw [if_pos rfl, e2]
  rfl
theorem bit_dec {x m : Int} : decide (((x.toNat / 2 ^ m.toNat % 2 : Nat) : Int) = 1) = bit x m := decide_eq_decide.2 (by omega)
end Go.D
end
/- Chapter 13: truths of the program, node by node. -/
section
set_option linter.unusedVariables false
set_option linter.unusedSimpArgs false
set_option maxRecDepth 8000
namespace Go.D
open Las
theorem S84p {a b : OI} (h0 : 0 < (L a).length + (L b).length) (hl : (L a).length + (L b).length ≤ 10000) (σ : Store) : pureV CC 84 [.p (.sl true 2 [eSl a, eSl b])] σ = some (.p (eSl (some (L a ++ L b)))) := by
  have h := S84 h0 hl false 0 [] (Nat.le_refl _)
  rw [List.length_nil, List.nil_append] at h
  rw [pureV_view (args' := [.p (.sl false 2 [eSl a, eSl b])]) (by simp [view, viewCell, loosen, loosens, loosen_sl]) (by simp [view, viewCell, loosen, loosens, loosen_sl])]
  refine pureV_free (by simp [view, viewCell, loosen, loosens, loosen_sl]) rfl h ?_
  generalize L a ++ L b = W
  have hb : 0 + W.length * 1 ≤ (ints W).length := by rw [ints_len]; omega
  have ht : ((ints W).drop 0).take (W.length * 1) = ints W := by rw [List.drop_zero, Nat.mul_one, List.take_of_length_le (by rw [ints_len]; exact Nat.le_refl _)]
  have hm : ∀ (d : Nat) (l : List Int), mapO (thawP 0 [Row.mix (ints W)] d) (ints l) = some (eInts l) := by
    intro d l
    induction l with
    | nil => rfl
    | cons a l ih =>
      have : ints (a :: l) = .p (.int .i64 a) :: ints l := rfl
      rw [this]
      cases d <;> simp [mapO, thawP, loosen, ih, eInts]
  simp only [thawAll, thawPart, thaw, thaw1, thawP, Nat.le_refl, if_true, List.getElem?_cons_zero, if_pos hb, ht, hm, Option.map_some]
  rfl
theorem zero135 : zeroOf PP 135 = some [.p (pI 0), .p (pI 0)] := Eq.trans (by kernel_rfl) rfl
def rgD (n back : Nat) : List DV := [.p (pI n), .p (pI back)]
theorem b135 (n back : Nat) : build PP 135 [(0, N n), (1, N back)] = some (.agg (rgD n back)) := Eq.trans (by kernel_rfl) rfl
theorem st135 (n back : Nat) : store PP 0 135 (.ptr 0 0) (.agg (rgD n back)) [.mix [.p (pI 0), .p (pI 0)]] = some [.mix (rgD n back)] := Eq.trans (by kernel_rfl) rfl
section
variable {σ : Store} {n back : Nat} (h : σ[0]? = some (.mix (rgD n back)))
include h
theorem rr_0 : load1 (.ptr 0 0) σ = some (.p (.int .i64 (n : Nat))) := load1_ptr h rfl
theorem rr_all : (loadN σ 2 (.ptr 0 0)).map DV.agg = some (vRg n back) := by rw [loadN_ptr (vs := rgD n back) h rfl (by simp [rgD])]; rfl
end
def lvs (T : Nat → NB) (n i : Nat) : List PV := (List.range i).map fun j => bvP (tab n (T j))
theorem lvs_succ (T : Nat → NB) (n i : Nat) : lvs T n (i + 1) = lvs T n i ++ [bvP (tab n (T i))] := by simp [lvs, List.range_succ]
theorem lvs_get {T : Nat → NB} {n i j : Nat} (h : j < i) : (lvs T n i)[j]? = some (bvP (tab n (T j))) := by simp [lvs, h]
section
variable {n back : Nat} {W : List Int} (hb : back < n) (hn : n ≤ 1000) (hW : W.length = n) (hWb : ∀ j, j < n → 0 ≤ W.getD j 0 ∧ W.getD j 0 ≤ 4095)
include hb hn hW hWb
theorem L72_1 {x6 x7 x27 x28 x29 : DV} {s : Nat} {x : Nd} (hm : 0 ≤ x.n ∧ x.n ≤ 11) : ∀ (d i : Nat) (y : DV) (σ : Store), n - i = d → i ≤ n → σ[s]? = some (.mix (ndD x)) → Out σ 0 1 i (eBools ((tab n fun j => bit (W.getD j 0) x.n).take i)) y →
    ∃ y' σ', f72_L1 guardT 0 (.p (eSl (some W))) x6 x7 (.ptr s 0) y x27 x28 x29 (.p (eSl (some W))) (N n) (N i) σ = f72_L1 guardT 0 (.p (eSl (some W))) x6 x7 (.ptr s 0) y' x27 x28 x29 (.p (eSl (some W))) (N n) (N n) σ' ∧
      Out σ' 0 1 n (eBools (tab n fun j => bit (W.getD j 0) x.n)) y' ∧ ∀ (r : Nat) (row : Row), σ[r]? = some row → Away y r → σ'[r]? = some row
  | 0, i, y, σ, hd, hi, gs, ho => by
    have e : i = n := by omega
    subst e
    rw [List.take_of_length_le (by rw [tab_len]; exact Nat.le_refl _)] at ho
    exact ⟨y, σ, rfl, ho, fun r row h _ => h⟩
  | d + 1, i, y, σ, hd, hi, gs, ho => by
    have hlt : i < n := by omega
    obtain ⟨w0, w1⟩ := hWb i hlt
    have i1 := (PL.some W).idx (i := i) (by omega)
    have l1 := load1_getD (l := W) (i := i) (by omega) σ
    have gn := row_n gs
    have ew : W.getD i 0 = (((W.getD i 0).toNat : Nat) : Int) := by omega
    have em : x.n = ((x.n.toNat : Nat) : Int) := by omega
    have sh := shrN (a := (W.getD i 0).toNat) (m := x.n.toNat) (by omega) 3
    rw [← ew, ← em] at sh
    have hle : (W.getD i 0).toNat / 2 ^ x.n.toNat ≤ (W.getD i 0).toNat := Nat.div_le_self _ _
    have an := andN1 ((W.getD i 0).toNat / 2 ^ x.n.toNat) (by omega) 3
    have hbit := bit_dec (x := W.getD i 0) (m := x.n)
    obtain ⟨y1, σ1, p1, p2, p3, p4, p5⟩ := Out.push34x (v := .bool (bit (W.getD i 0) x.n)) ho (by omega) (Nat.zero_le _)
    have et : eBools ((tab n fun j => bit (W.getD j 0) x.n).take i) ++ [.bool (bit (W.getD i 0) x.n)] = eBools ((tab n fun j => bit (W.getD j 0) x.n).take (i + 1)) := by
      have hl : i < (tab n fun j => bit (W.getD j 0) x.n).length := by rw [tab_len]; exact hlt
      have hg := tab_get hlt (g := fun j => bit (W.getD j 0) x.n) false
      rw [List.getD_eq_getElem?_getD, List.getElem?_eq_getElem hl] at hg
      rw [List.take_succ_eq_append_getElem hl]
      simp only [eBools, List.map_append, List.map_cons, List.map_nil]
      congr 3
      exact hg.symm
    rw [et] at p2
    obtain ⟨y', σ', r1, r2, r3⟩ := L72_1 hm d (i + 1) y1 σ1 (by omega) (by omega) (p3.mix ho gs (fun v h => by cases h)) p2
    refine ⟨y', σ', ?_, r2, fun r row h ha => r3 r row (p3 r row h ha) (p5 r (get_lt h) ha)⟩
    rw [← r1, f72_L1_eq guardT rfl]
    simp (disch := omega) only [N, b_lss, ltT, gG, i1, load3, l1, fa67_1, shift_ptr, shift_pptr, Nat.zero_add, Nat.add_zero, pureFn_fn, List.append_nil, List.singleton_append, List.cons_append, List.nil_append, gn, sh, an, b_eql, hbit, bs34_1, p1, add1]
theorem J72 {x27 x28 y x10 x11 : DV} {s i : Nat} {x : Nd} {σ : Store} {cs : List PV} {a b : NB} (hi : i ≤ 1000) (hk : inR x.k 0 9 = true) (hbad : bad x = false) (hab : ar x.k ≠ 0 → x10 = BV (tab n a) ∧ x11 = BV (tab n b))
    (gs : σ[s]? = some (.mix (ndD x))) (g0 : σ[0]? = some (.mix (rgD n back))) (ho : Out σ 0 1 i cs y)
    (x30 x31 x32 x33 x34 x35 x36 x37 x38 x39 x40 x41 x42 x43 x44 x45 x46 x47 x48 x49 x50 x51 x52 x53 x54 : DV) :
    ∃ y' σ', f72_J0 guardT 0 (.p (eSl (some W))) (.ptr 0 0) y (.ptr s 0) x10 x11 x27 x28 (N i) x30 x31 x32 x33 x34 x35 x36 x37 x38 x39 x40 x41 x42 x43 x44 x45 x46 x47 x48 x49 x50 x51 x52 x53 x54 σ = f72_L0 guardT 0 (.p (eSl (some W))) (.ptr 0 0) y' x27 x28 (N (i + 1)) σ' ∧
      σ'[0]? = some (.mix (rgD n back)) ∧ Out σ' 0 1 (i + 1) (cs ++ [bvP (tab n (tk n back W x.k x.n a b))]) y' := by
  rw [inR_iff] at hk
  have h0 : 0 < n := by omega
  have gk := row_k gs
  have fin : ∀ l : List Bool, ∃ y' σ', (∃ z, z = l ∧ append PP 0 false 162 162 y (.p (.sl true 1 [bvP l])) σ = some (y', σ')) ∧ σ'[0]? = some (.mix (rgD n back)) ∧ Out σ' 0 1 (i + 1) (cs ++ [bvP l]) y' := fun l => by
    obtain ⟨y', σ', p1, p2, p3, _⟩ := Out.push162 (v := bvP l) ho (by omega) (Nat.zero_le _)
    exact ⟨y', σ', ⟨l, rfl, p1⟩, p3.mix ho g0 (fun v h => by cases h), p2⟩
  obtain ⟨y', σ', ⟨_, _, p1⟩, p2, p3⟩ := fin (tab n (tk n back W x.k x.n a b))
  rw [f72_J0_eq]
  have hcase : x.k = 0 ∨ x.k = 1 ∨ x.k = 2 ∨ x.k = 3 ∨ x.k = 4 ∨ x.k = 5 ∨ x.k = 6 ∨ x.k = 7 ∨ x.k = 8 ∨ x.k = 9 := by omega
  rcases hcase with e | e | e | e | e | e | e | e | e | e
  · rw [e] at p1 gk
    have et : tab n (tk n back W 0 x.n a b) = List.replicate n true := (rep_tab n true).symm
    rw [et] at p1
    refine ⟨y', σ', ?_, p2, p3⟩
    simp (disch := omega) only [fa67_0, fa135_0, shift_ptr, shift_pptr, Nat.zero_add, Nat.add_zero, pureFn_fn, List.append_nil, List.singleton_append, List.cons_append, List.nil_append, gG, load3, gk, b_eql, eqT (rfl : (0 : Int) = 0), bs34_1, rr_0 g0, S123 h0 hn, bs162, p1, N, add1]
  · rw [e] at gk
    have hm : 0 ≤ x.n ∧ x.n ≤ 11 := by
      unfold bad at hbad
      rw [if_pos e, Bool.not_eq_false', inR_iff] at hbad
      exact hbad
    obtain ⟨z, σz, q1, q2, q3⟩ := L72_1 hb hn hW hWb (x6 := .ptr 0 0) (x7 := y) (x27 := x27) (x28 := x28) (x29 := N i) hm _ 0 (.p .nilsl) σ rfl (Nat.zero_le _) gs Out.zero
    have hall : ∀ (r : Nat) (row : Row), σ[r]? = some row → σz[r]? = some row := fun r row h => q3 r row h (fun _ _ _ _ _ e => by cases e)
    have ho2 : Out σz 0 1 i cs y := ho.keep fun r v h => hall _ _ h
    have g02 := hall _ _ g0
    obtain ⟨y2, σ2, p4, p5, p6, _⟩ := Out.push162 (v := bvP (tab n (tk n back W x.k x.n a b))) ho2 (by omega) (Nat.zero_le _)
    refine ⟨y2, σ2, ?_, p6.mix ho2 g02 (fun v h => by cases h), p5⟩
    have hz : ∃ r v, z = .osl r v 1 n (eBools (tab n fun j => bit (W.getD j 0) x.n)) := by
      rcases q2.2 with ⟨h, _⟩ | ⟨_, r, v, h, _, _⟩
      · omega
      · exact ⟨r, v, h⟩
    obtain ⟨rz, vz, rfl⟩ := hz
    have et : bvP (tab n (tk n back W x.k x.n a b)) = .sl false n (eBools (tab n fun j => bit (W.getD j 0) x.n)) := by
      rw [e]
      show PV.sl false (tab n _).length _ = _
      rw [tab_len]
      rfl
    rw [et] at p4
    have hlenW : len PP 24 (.p (eSl (some W))) σ = some (N n) := by rw [(PL.some W).len, hW]; rfl
    have hq : f72_L1 guardT 0 (.p (eSl (some W))) (.ptr 0 0) y (.ptr s 0) (.osl rz vz 1 n (eBools (tab n fun j => bit (W.getD j 0) x.n))) x27 x28 (N i) (.p (eSl (some W))) (N n) (N n) σz = f72_L0 guardT 0 (.p (eSl (some W))) (.ptr 0 0) y2 x27 x28 (N (i + 1)) σ2 := by
      rw [f72_L1_eq guardT rfl]
      simp (disch := omega) only [N, b_lss, ltF, gG, bs162_o, p4, add1]
    rw [← hq, ← q1]
    simp (disch := omega) only [fa67_0, shift_ptr, shift_pptr, Nat.zero_add, Nat.add_zero, pureFn_fn, List.append_nil, List.singleton_append, List.cons_append, List.nil_append, gG, load3, gk, b_eql, Int.reduceEq, hlenW, eqT (rfl : (1 : Int) = 1)]
    rfl
  · rw [e] at p1 gk
    obtain ⟨rfl, rfl⟩ := hab (by rw [e]; decide)
    refine ⟨y', σ', ?_, p2, p3⟩
    have p1' : append PP 0 false 162 162 y (.p (.sl true 1 [bvP (tab n fun j => !a j)])) σ = some (y', σ') := p1
    simp (disch := omega) only [fa67_0, shift_ptr, shift_pptr, Nat.zero_add, Nat.add_zero, pureFn_fn, List.append_nil, List.singleton_append, List.cons_append, List.nil_append, gG, load3, gk, b_eql, Int.reduceEq, S124 h0 hn, bs162, p1', N, add1]
  · rw [e] at p1 gk
    obtain ⟨rfl, rfl⟩ := hab (by rw [e]; decide)
    refine ⟨y', σ', ?_, p2, p3⟩
    have p1' : append PP 0 false 162 162 y (.p (.sl true 1 [bvP (tab n fun j => and (a j) (b j))])) σ = some (y', σ') := p1
    simp (disch := omega) only [fa67_0, shift_ptr, shift_pptr, Nat.zero_add, Nat.add_zero, pureFn_fn, List.append_nil, List.singleton_append, List.cons_append, List.nil_append, gG, load3, gk, b_eql, Int.reduceEq, S125 fn126 h0 hn, bs162, p1', N, add1]
  · rw [e] at p1 gk
    obtain ⟨rfl, rfl⟩ := hab (by rw [e]; decide)
    refine ⟨y', σ', ?_, p2, p3⟩
    have p1' : append PP 0 false 162 162 y (.p (.sl true 1 [bvP (tab n fun j => or (a j) (b j))])) σ = some (y', σ') := p1
    simp (disch := omega) only [fa67_0, shift_ptr, shift_pptr, Nat.zero_add, Nat.add_zero, pureFn_fn, List.append_nil, List.singleton_append, List.cons_append, List.nil_append, gG, load3, gk, b_eql, Int.reduceEq, S125 fn127 h0 hn, bs162, p1', N, add1]
  · rw [e] at p1 gk
    obtain ⟨rfl, rfl⟩ := hab (by rw [e]; decide)
    refine ⟨y', σ', ?_, p2, p3⟩
    have p1' : append PP 0 false 162 162 y (.p (.sl true 1 [bvP (tab n fun j => !a j || b j)])) σ = some (y', σ') := p1
    simp (disch := omega) only [fa67_0, shift_ptr, shift_pptr, Nat.zero_add, Nat.add_zero, pureFn_fn, List.append_nil, List.singleton_append, List.cons_append, List.nil_append, gG, load3, gk, b_eql, Int.reduceEq, S125 fn128 h0 hn, bs162, p1', N, add1]
  · rw [e] at p1 gk
    obtain ⟨rfl, rfl⟩ := hab (by rw [e]; decide)
    refine ⟨y', σ', ?_, p2, p3⟩
    have p1' : append PP 0 false 162 162 y (.p (.sl true 1 [bvP (tab n fun i => !soP n back (fun j => !a j) i)])) σ = some (y', σ') := p1
    simp (disch := omega) only [fa67_0, shift_ptr, shift_pptr, Nat.zero_add, Nat.add_zero, pureFn_fn, List.append_nil, List.singleton_append, List.cons_append, List.nil_append, gG, load3, gk, b_eql, Int.reduceEq, load135, rr_all g0, T129 hb hn, bs162, p1', N, add1]
  · rw [e] at p1 gk
    obtain ⟨rfl, rfl⟩ := hab (by rw [e]; decide)
    refine ⟨y', σ', ?_, p2, p3⟩
    have p1' : append PP 0 false 162 162 y (.p (.sl true 1 [bvP (tab n (soP n back a))])) σ = some (y', σ') := p1
    simp (disch := omega) only [fa67_0, shift_ptr, shift_pptr, Nat.zero_add, Nat.add_zero, pureFn_fn, List.append_nil, List.singleton_append, List.cons_append, List.nil_append, gG, load3, gk, b_eql, Int.reduceEq, load135, rr_all g0, T130 hb hn, bs162, p1', N, add1]
  · rw [e] at p1 gk
    obtain ⟨rfl, rfl⟩ := hab (by rw [e]; decide)
    refine ⟨y', σ', ?_, p2, p3⟩
    have p1' : append PP 0 false 162 162 y (.p (.sl true 1 [bvP (tab n fun i => !soP n back (fun j => !(!a j || soP n back b j)) i)])) σ = some (y', σ') := p1
    simp (disch := omega) only [fa67_0, shift_ptr, shift_pptr, Nat.zero_add, Nat.add_zero, pureFn_fn, List.append_nil, List.singleton_append, List.cons_append, List.nil_append, gG, load3, gk, b_eql, Int.reduceEq, load135, rr_all g0, T130 hb hn, S125 fn128 h0 hn, T129 hb hn, bs162, p1', N, add1]
  · rw [e] at p1 gk
    obtain ⟨rfl, rfl⟩ := hab (by rw [e]; decide)
    refine ⟨y', σ', ?_, p2, p3⟩
    have p1' : append PP 0 false 162 162 y (.p (.sl true 1 [bvP (tab n (unP n back a b))])) σ = some (y', σ') := p1
    simp (disch := omega) only [fa67_0, shift_ptr, shift_pptr, Nat.zero_add, Nat.add_zero, pureFn_fn, List.append_nil, List.singleton_append, List.cons_append, List.nil_append, gG, load3, gk, b_eql, Int.reduceEq, load135, rr_all g0, T131 hb hn, bs162, p1', N, add1]
end
end Go.D
end
/- Chapter 13: the steps of a labelled graph; which behaviours are right, by the program and by the reference. -/
section
set_option linter.unusedVariables false
set_option linter.unusedSimpArgs false
set_option maxRecDepth 8000
namespace Go.D
open Las
theorem Out.ext {σ : Store} {lo sz n : Nat} {cs : List PV} {x : DV} (h : Out σ lo sz n cs x) (r : Row) : Out (σ ++ [r]) lo sz n cs x := by
  obtain ⟨h1, h2⟩ := h
  refine ⟨h1, ?_⟩
  rcases h2 with h2 | ⟨h0, r', v, h2, h3, h4⟩
  · exact .inl h2
  · exact .inr ⟨h0, r', v, h2, get_old h3, h4⟩
def oI (l : List Int) : OI := if l.length = 0 then none else some l
theorem L_oI (l : List Int) : L (oI l) = l := by
  unfold oI
  split
  · rename_i h; rw [List.length_eq_zero_iff.1 h]; rfl
  · rfl
theorem Out.twI {σ : Store} {lo : Nat} {l : List Int} {x : DV} (ho : Out σ lo 1 l.length (eInts l) x) (m : Nat) : thawAll m σ x = some (.p (eSl (oI l))) := by
  rw [Out.twAll ho]
  unfold oI
  split
  · rfl
  · rw [loosens_ints]; rfl
def qst (s t : Int) (e : Edg) : Bool := decide (e.f = s) && (decide (e.t = t) && !decide (s = t))
def actsL (l : List Edg) (s t : Int) : List Int := (l.filter (qst s t)).map (·.a)
theorem drop_edg {l : List Edg} {i : Nat} (h : i < l.length) : l.drop i = l.getD i default :: l.drop (i + 1) := by
  rw [List.drop_eq_getElem_cons h, List.getD_eq_getElem?_getD, List.getElem?_eq_getElem h]; rfl
theorem L142 {x : Lb} (hx : LSm x) (s t : Int) : ∀ (k i : Nat) (acc : List Int) (y : DV) (σ : Store), (L x.g.edges).length - i = k → i ≤ (L x.g.edges).length → acc.length ≤ i → Out σ 0 1 acc.length (eInts acc) y →
    ∃ y' σ', f142_L0 guardT 0 (.p (.int .i64 s)) (.p (.int .i64 t)) y (.p (eEs x.g.edges)) (N (L x.g.edges).length) (N i) σ = some (y', σ') ∧ Out σ' 0 1 (acc ++ actsL ((L x.g.edges).drop i) s t).length (eInts (acc ++ actsL ((L x.g.edges).drop i) s t)) y'
  | 0, i, acc, y, σ, hk, hi, ha, ho => by
    refine ⟨y, σ, ?_, ?_⟩
    · rw [f142_L0_eq guardT rfl]
      simp (disch := omega) only [N, b_lss, ltF, gG]
    · rw [List.drop_eq_nil_of_le (by omega)]
      simpa [actsL] using ho
  | k + 1, i, acc, y, σ, hk, hi, ha, ho => by
    have he := hx.e
    have h : i < (L x.g.edges).length := by omega
    have hr : (σ ++ [Row.mix (edgD ((L x.g.edges).getD i default))])[σ.length]? = some (.mix (edgD ((L x.g.edges).getD i default))) := get_snoc
    have d := ld129 h σ
    have r0 := load1_ptr (off := 0) hr rfl
    have r1 := load1_ptr (off := 1) hr rfl
    have r2 := load1_ptr (off := 2) hr rfl
    have ho1 := ho.ext (Row.mix (edgD ((L x.g.edges).getD i default)))
    obtain ⟨y2, σ2, a1, a2, _, _⟩ := Out.pushI (v := ((L x.g.edges).getD i default).a) ho1 (by omega) (Nat.zero_le _)
    rw [drop_edg h]
    cases c : qst s t ((L x.g.edges).getD i default) with
    | true =>
      obtain ⟨y', σ', b1, b2⟩ := L142 hx s t k (i + 1) (acc ++ [((L x.g.edges).getD i default).a]) y2 σ2 (by omega) (by omega) (by simp; omega) a2
      refine ⟨y', σ', ?_, ?_⟩
      · unfold qst at c
        rw [Bool.and_eq_true, Bool.and_eq_true, decide_eq_true_iff, decide_eq_true_iff, Bool.not_eq_true', decide_eq_false_iff_not] at c
        obtain ⟨c1, c2, c3⟩ := c
        simp only [N] at b1
        rw [f142_L0_eq guardT rfl]
        simp (disch := omega) only [N, b_lss, ltT, gG, idx43 h, load129, d, zero129, st129, fa129_0, fa129_1, fa129_2, shift_ptr, shift_pptr, Nat.zero_add, Nat.add_zero, pureFn_fn, List.append_nil, List.singleton_append, List.cons_append, List.nil_append, load3, r0, r1, r2, b_eql, eqT c1, eqT c2, b_neq, eqF c3, bs24_1, a1, f142_J0_eq, add1, b1]
      · have e : acc ++ actsL ((L x.g.edges).getD i default :: (L x.g.edges).drop (i + 1)) s t = acc ++ [((L x.g.edges).getD i default).a] ++ actsL ((L x.g.edges).drop (i + 1)) s t := by
          unfold actsL; rw [List.filter_cons_of_pos c]; simp
        rw [e]; exact b2
    | false =>
      obtain ⟨y', σ', b1, b2⟩ := L142 hx s t k (i + 1) acc y (σ ++ [Row.mix (edgD ((L x.g.edges).getD i default))]) (by omega) (by omega) (by omega) ho1
      refine ⟨y', σ', ?_, ?_⟩
      · simp only [N] at b1
        rw [f142_L0_eq guardT rfl]
        by_cases c1 : ((L x.g.edges).getD i default).f = s
        · by_cases c2 : ((L x.g.edges).getD i default).t = t
          · have c3 : s = t := by
              unfold qst at c
              rw [decide_eq_true c1, decide_eq_true c2] at c
              simpa using c
            simp (disch := omega) only [N, b_lss, ltT, gG, idx43 h, load129, d, zero129, st129, fa129_0, fa129_1, fa129_2, shift_ptr, shift_pptr, Nat.zero_add, Nat.add_zero, pureFn_fn, List.append_nil, List.singleton_append, List.cons_append, List.nil_append, load3, r0, r1, r2, b_eql, eqT c1, eqT c2, b_neq, eqT c3, f142_J0_eq, add1, b1]
          · simp (disch := omega) only [N, b_lss, ltT, gG, idx43 h, load129, d, zero129, st129, fa129_0, fa129_1, fa129_2, shift_ptr, shift_pptr, Nat.zero_add, Nat.add_zero, pureFn_fn, List.append_nil, List.singleton_append, List.cons_append, List.nil_append, load3, r0, r1, r2, b_eql, eqT c1, eqF c2, f142_J0_eq, add1, b1]
        · simp (disch := omega) only [N, b_lss, ltT, gG, idx43 h, load129, d, zero129, st129, fa129_0, fa129_1, fa129_2, shift_ptr, shift_pptr, Nat.zero_add, Nat.add_zero, pureFn_fn, List.append_nil, List.singleton_append, List.cons_append, List.nil_append, load3, r0, r1, r2, b_eql, eqF c1, f142_J0_eq, add1, b1]
      · have e : actsL ((L x.g.edges).getD i default :: (L x.g.edges).drop (i + 1)) s t = actsL ((L x.g.edges).drop (i + 1)) s t := by
          unfold actsL; rw [List.filter_cons_of_neg (by rw [c]; simp)]
        rw [e]; exact b2
section
variable {x : Lb} (hx : LSm x)
include hx
theorem S142 (s t : Int) (σ : Store) : pureV CC 142 [vLb x, .p (.int .i64 s), .p (.int .i64 t)] σ = some (.p (eSl (oI (actsL (L x.g.edges) s t)))) := by
  obtain ⟨y', σ', h1, h2⟩ := L142 hx s t _ 0 [] (.p .nilsl) [] rfl (Nat.zero_le _) (Nat.zero_le _) Out.zero
  rw [List.drop_zero, List.nil_append] at h2
  simp only [N] at h1
  refine pureV_free (by simp only [List.map_cons, List.map_nil, lb_view, int_view]) rfl (F142_call (r := (y', σ')) ?_) (Out.twI h2 0)
  rw [F142_eq]
  simp only [box_lb, gG, fa47_0, fa45_2, shift_ptr, shift_pptr, Nat.zero_add, Nat.add_zero, pureFn_fn, List.append_nil, List.singleton_append, List.cons_append, List.nil_append, load43, lb_2, len43]
  exact h1
def prm (x : Lb) (s t : Int) : Bool := decide (s = t) || decide (0 < (actsL (L x.g.edges) s t).length)
theorem S92 (s t : Int) (σ : Store) : pureV CC 92 [vLb x, .p (.int .i64 s), .p (.int .i64 t)] σ = some (.p (.bool (prm x s t))) := by
  refine pureV_free (by simp only [List.map_cons, List.map_nil, lb_view, int_view]) rfl (F92_call (r := (.p (.bool (prm x s t)), [])) ?_) rfl
  have h := fun σ => S142 hx s t σ
  have hl := len24 (oI (actsL (L x.g.edges) s t))
  rw [L_oI] at hl
  rw [F92_eq]
  unfold prm
  by_cases c : s = t
  · rw [decide_eq_true c]
    simp only [box_lb, gG, b_eql, eqT c, Bool.true_or]
  · have e : decide (((actsL (L x.g.edges) s t).length : Int) > 0) = decide (0 < (actsL (L x.g.edges) s t).length) := by
      rw [decide_eq_decide]; omega
    rw [decide_eq_false c]
    simp only [box_lb, gG, b_eql, eqF c, load47, lb_all, shift_ptr, shift_pptr, Nat.zero_add, Nat.add_zero, pureFn_fn, List.append_nil, List.singleton_append, List.cons_append, List.nil_append, h, hl, b_gtr, e, Bool.false_or]
omit hx in
theorem acts_any (l : List Edg) {s t : Int} (c : ¬ s = t) : decide (0 < (actsL l s t).length) = l.any fun e => decide (e.f = s) && decide (e.t = t) := by
  rw [Bool.eq_iff_iff, decide_eq_true_iff, List.any_eq_true]
  unfold actsL qst
  rw [decide_eq_false c]
  simp only [Bool.not_false, Bool.and_true, List.length_map]
  rw [List.length_pos_iff_exists_mem]
  constructor
  · rintro ⟨e, he⟩
    rw [List.mem_filter] at he
    exact ⟨e, he.1, he.2⟩
  · rintro ⟨e, h1, h2⟩
    exact ⟨e, List.mem_filter.2 ⟨h1, h2⟩⟩
end
theorem L96 {g : Gr} (he : (L g.edges).length ≤ 10000) (s t : Int) : ∀ (k i : Nat) (σ : Store), (L g.edges).length - i = k → i ≤ (L g.edges).length →
    f96_L0 guardT 0 (.p (.int .i64 s)) (.p (.int .i64 t)) (.pptr (eGrP g) 0) (N i) σ = some (.p (.bool (((L g.edges).drop i).any fun e => decide (e.f = s) && decide (e.t = t))), σ)
  | 0, i, σ, hk, hi => by
    rw [f96_L0_eq guardT rfl, List.drop_eq_nil_of_le (by omega)]
    simp (disch := omega) only [N, fa45_2, shift_ptr, shift_pptr, Nat.zero_add, Nat.add_zero, pureFn_fn, List.append_nil, List.singleton_append, List.cons_append, List.nil_append, load43, gr_2, len43, b_lss, ltF, gG, List.any_nil]
  | k + 1, i, σ, hk, hi => by
    have h : i < (L g.edges).length := by omega
    have ih := L96 he s t k (i + 1) σ (by omega) (by omega)
    simp only [N] at ih
    have d0 : load1 (.pptr (eEdgs (L g.edges)) (i * 3)) σ = some (.p (.int .i64 ((L g.edges).getD i default).f)) := by
      rw [List.getD_eq_getElem?_getD, List.getElem?_eq_getElem h]
      exact load1_pptr (edgs_get _ _ h).1 σ
    have d1 : load1 (.pptr (eEdgs (L g.edges)) (i * 3 + 1)) σ = some (.p (.int .i64 ((L g.edges).getD i default).t)) := by
      rw [List.getD_eq_getElem?_getD, List.getElem?_eq_getElem h]
      exact load1_pptr (edgs_get _ _ h).2.1 σ
    rw [f96_L0_eq guardT rfl, drop_edg h, List.any_cons]
    by_cases c1 : ((L g.edges).getD i default).f = s
    · by_cases c2 : ((L g.edges).getD i default).t = t
      · simp (disch := omega) only [N, fa45_2, shift_ptr, shift_pptr, Nat.zero_add, Nat.add_zero, pureFn_fn, List.append_nil, List.singleton_append, List.cons_append, List.nil_append, load43, gr_2, len43, b_lss, ltT, gG, idx43 h, fa129_0, fa129_1, load3, d0, d1, b_eql, eqT c1, eqT c2, decide_eq_true c1, decide_eq_true c2, Bool.true_and, Bool.true_or]
      · simp (disch := omega) only [N, fa45_2, shift_ptr, shift_pptr, Nat.zero_add, Nat.add_zero, pureFn_fn, List.append_nil, List.singleton_append, List.cons_append, List.nil_append, load43, gr_2, len43, b_lss, ltT, gG, idx43 h, fa129_0, fa129_1, load3, d0, d1, b_eql, eqT c1, eqF c2, decide_eq_true c1, decide_eq_false c2, Bool.true_and, Bool.false_or, add1, ih]
    · simp (disch := omega) only [N, fa45_2, shift_ptr, shift_pptr, Nat.zero_add, Nat.add_zero, pureFn_fn, List.append_nil, List.singleton_append, List.cons_append, List.nil_append, load43, gr_2, len43, b_lss, ltT, gG, idx43 h, fa129_0, fa129_1, load3, d0, d1, b_eql, eqF c1, decide_eq_false c1, Bool.false_and, Bool.false_or, add1, ih]
theorem S96 {x : Lb} (he : (L x.g.edges).length ≤ 10000) (s t : Int) (σ : Store) : pureV CC 96 [vGr x.g, .p (.int .i64 s), .p (.int .i64 t)] σ = some (.p (.bool (prm x s t))) := by
  refine pureV_free (by simp only [List.map_cons, List.map_nil, gr_view, int_view]) rfl (F96_call (r := (.p (.bool (prm x s t)), [])) ?_) rfl
  rw [F96_eq]
  unfold prm
  by_cases c : s = t
  · rw [decide_eq_true c]
    simp only [box_gr, gG, b_eql, eqT c, Bool.true_or]
  · have h := L96 he s t _ 0 [] rfl (Nat.zero_le _)
    rw [List.drop_zero] at h
    rw [decide_eq_false c, acts_any _ c, Bool.false_or]
    simp only [box_gr, gG, b_eql, eqF c]
    exact h
theorem ws_all (w : Wd) (σ : Store) : (loadN σ 2 (.pptr (eWd w) 0)).map DV.agg = some (vWd w) := rfl
theorem S94 {w : Wd} (hl : (L w.p).length + (L w.l).length ≤ 1000) {i : Nat} (hi : i < (L w.p).length + (L w.l).length) (σ : Store) : pureV CC 94 [vWd w, .p (.int .i64 (i : Nat))] σ = some (.p (.int .i64 ((L w.p ++ L w.l).getD i 0))) := by
  refine pureV_free (by simp only [List.map_cons, List.map_nil, wd_view, int_view]) rfl (F94_call (r := (.p (.int .i64 ((L w.p ++ L w.l).getD i 0)), [])) ?_) rfl
  rw [F94_eq]
  by_cases h : i < (L w.p).length
  · have e : (L w.p ++ L w.l).getD i 0 = (L w.p).getD i 0 := by
      rw [List.getD_eq_getElem?_getD, List.getElem?_append_left h, ← List.getD_eq_getElem?_getD]
    rw [e]
    simp (disch := omega) only [box_wd, gG, fa52_0, shift_ptr, shift_pptr, Nat.zero_add, Nat.add_zero, pureFn_fn, List.append_nil, List.singleton_append, List.cons_append, List.nil_append, load24, wd_0, len24, b_lss, ltT, (PL.sl w.p).idx h, load3, load1_getD h]
  · have h2 : i - (L w.p).length < (L w.l).length := by omega
    have e : (L w.p ++ L w.l).getD i 0 = (L w.l).getD (i - (L w.p).length) 0 := by
      rw [List.getD_eq_getElem?_getD, List.getElem?_append_right (by omega), ← List.getD_eq_getElem?_getD]
    rw [e]
    simp (disch := omega) only [box_wd, gG, fa52_0, fa52_1, shift_ptr, shift_pptr, Nat.zero_add, Nat.add_zero, pureFn_fn, List.append_nil, List.singleton_append, List.cons_append, List.nil_append, load24, wd_0, wd_1, len24, b_lss, ltF, subN, (PL.sl w.l).idx h2, load3, load1_getD h2]
theorem S97 {w : Wd} (hl : (L w.p).length + (L w.l).length ≤ 1000) {i : Nat} (hi : i < (L w.p).length + (L w.l).length) (σ : Store) : pureV CC 97 [vWd w, .p (.int .i64 (i : Nat))] σ = some (.p (.int .i64 ((nx ((L w.p).length + (L w.l).length) (L w.p).length i : Nat)))) := by
  refine pureV_free (by simp only [List.map_cons, List.map_nil, wd_view, int_view]) rfl (F97_call (r := (.p (.int .i64 ((nx ((L w.p).length + (L w.l).length) (L w.p).length i : Nat))), [])) ?_) rfl
  rw [F97_eq]
  unfold nx
  by_cases h : i + 1 < (L w.p).length + (L w.l).length
  · rw [if_neg (by omega)]
    simp (disch := omega) only [box_wd, gG, fa52_0, fa52_1, shift_ptr, shift_pptr, Nat.zero_add, Nat.add_zero, pureFn_fn, List.append_nil, List.singleton_append, List.cons_append, List.nil_append, load24, wd_0, wd_1, len24, add1, addN, b_lss, ltT]
  · rw [if_pos (by omega)]
    simp (disch := omega) only [box_wd, gG, fa52_0, fa52_1, shift_ptr, shift_pptr, Nat.zero_add, Nat.add_zero, pureFn_fn, List.append_nil, List.singleton_append, List.cons_append, List.nil_append, load24, wd_0, wd_1, len24, add1, addN, b_lss, ltF]
section
variable {x : Lb} (hx : LSm x)
include hx
theorem S76 (σ : Store) : pureV CC 76 [vLb x] σ = some (.p (.int .i64 (chkLb x).2)) := by
  refine pureV_free (by simp only [List.map_cons, List.map_nil, lb_view]) rfl (F76_call (r := (.p (.int .i64 (chkLb x).2), [])) ?_) rfl
  rw [F76_eq]
  have h := fun σ => S39 hx σ
  simp only [box_lb, gG, load47, lb_all, shift_ptr, shift_pptr, Nat.zero_add, Nat.add_zero, pureFn_fn, List.append_nil, List.singleton_append, List.cons_append, List.nil_append, h, px0, px1]
theorem S24 (σ : Store) : pureV CC 24 [vLb x] σ = some (.p (.int .i64 (chkLb x).2)) := by
  refine pureV_free (by simp only [List.map_cons, List.map_nil, lb_view]) rfl (F24_call (r := (.p (.int .i64 (chkLb x).2), [])) ?_) rfl
  rw [F24_eq]
  have h := fun σ => S40 hx σ
  simp only [box_lb, gG, load47, lb_all, shift_ptr, shift_pptr, Nat.zero_add, Nat.add_zero, pureFn_fn, List.append_nil, List.singleton_append, List.cons_append, List.nil_append, h, px0, px1]
end
def badZ (x : Lb) (A : List Int) (i : Nat) : Bool := !inR (A.getD i 0) 0 (x.g.n - 1)
def badT (x : Lb) (A : List Int) (b : Nat) (i : Nat) : Bool := !prm x (A.getD i 0) (A.getD (nx A.length b i) 0)
def lst1 (x : Lb) (A : List Int) (b : Nat) : Nat → Nat → Int × Int := scnP (badT x A b) 10 (0, 0)
def lst0 (x : Lb) (A : List Int) (b : Nat) : Nat → Nat → Int × Int := scnP (badZ x A) 3 (if decide (A.getD 0 0 ∈ L x.g.init) = false then (0, 30) else lst1 x A b 0 A.length)
def chkLs (x : Lb) (w : Wd) : Int × Int :=
  if (chkLb x).2 = 0 then if L w.l = [] then (0, 1) else if (L w.p).length + (L w.l).length > 60 then (0, 2) else lst0 x (L w.p ++ L w.l) (L w.p).length 0 (L w.p ++ L w.l).length else (0, (chkLb x).2)
theorem isG_n {g : Gr} (h : isG g = true) : 0 ≤ g.n ∧ g.n ≤ 400 := by
  unfold isG at h
  rw [Bool.and_eq_true, Bool.and_eq_true, Bool.and_eq_true] at h
  exact (inR_iff _ _ _).1 h.1.1.1
theorem chkLb_g {x : Lb} (h : (chkLb x).2 = 0) : isG x.g = true := by
  unfold chkLb at h
  cases hg : isG x.g with
  | true => rfl
  | false => rw [hg, if_pos rfl] at h; exact absurd h (by decide)
section
variable {x : Lb} (hx : LSm x) {w : Wd} (hl : (L w.p).length + (L w.l).length ≤ 1000) (hn : 0 ≤ x.g.n ∧ x.g.n ≤ 400) (hq : 0 < (L w.l).length)
include hx hl
include hn hq
omit hn hq
include hn hq
omit hn hq
end
end Go.D
end
