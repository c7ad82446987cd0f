/- Equations of functions 10, 55, 56, 57, 58, 59, 116, 117, 118, 119, 120, 121, 157, 158, 159, 160, 161, 162, 163, 164, 175, 176, 184, printed by gen.py. -/
import Derived.Test.YtpacancmcjbckaaGreatDoorFc
import Derived.Test.YtpacancmcjbckaaGreatDoorFe
section
set_option linter.unusedVariables false
set_option maxRecDepth 10000
namespace Go.D
open Go.Proofs
noncomputable section
variable (G : GuardT) (lo : Nat) {σ : Store} {r : DV × Store}
open _root_.Go.D.Code (fstC sndC)
open _root_.Go.D.Ann (left right)
def c58_0 : Code := bodyOf Tryz.f58
def a58_0 : Ann := (pol 58).ann
def a58_7 : Ann := right (left (right (right a58_0)))
def a58_8 : Ann := left a58_7
def c58_9 : Code := fstC (fstC (sndC (fstC (sndC (sndC c58_0)))))
def a58_16 : Ann := left (right (left a58_8))
def c58_24 : Code := sndC (sndC c58_9)
def a58_24 : Ann := right (right (left a58_8))
def c58_25 : Code := sndC (sndC (sndC c58_0))
def a58_25 : Ann := right (right (right a58_0))
def f58_L0 (x2 x3 x4 x5 x6 : DV) (σ : Store) : RS :=
 codeF G PP (pol 58) CC lo (.loop c58_9) a58_8 (Z :: Z :: x2 :: x3 :: x4 :: x5 :: x6 :: zn 40 []) σ
 (blockC 0 a58_7 (seqC G PP (pol 58) CC lo c58_25 a58_25 (finR PP Tryz.f58.results.toList)))
def f58_J0_fr (x2 x3 x4 x5 x6 x7 x8 x9 x10 x11 x12 x13 x14 x15 x16 x19 x20 x21 x22 x23 x24 x25 x26 x27 x28 x29 x30 x31 x32 x33 x34 x35 x36 x37 x38 x39 x40 x41 x42 x43 x44 x45 : DV) : Frame := [Z, Z, x2, x3, x4, x5, x6, x7, x8, x9, x10, x11, x12, x13, x14, x15, x16, Z, Z, x19, x20, x21, x22, x23, x24, x25, x26, x27, x28, x29, x30, x31, x32, x33, x34, x35, x36, x37, x38, x39, x40, x41, x42, x43, x44, x45, Z]
def f58_J0 (x2 x3 x4 x5 x6 x7 x8 x9 x10 x11 x12 x13 x14 x15 x16 x19 x20 x21 x22 x23 x24 x25 x26 x27 x28 x29 x30 x31 x32 x33 x34 x35 x36 x37 x38 x39 x40 x41 x42 x43 x44 x45 : DV) (σ : Store) : RS :=
 (blockC 1 a58_16 (seqC G PP (pol 58) CC lo c58_24 a58_24 (loopC G PP (pol 58) CC lo c58_9 a58_8 (blockC 0 a58_7 (seqC G PP (pol 58) CC lo c58_25 a58_25 (finR PP Tryz.f58.results.toList)))))) .normal (f58_J0_fr x2 x3 x4 x5 x6 x7 x8 x9 x10 x11 x12 x13 x14 x15 x16 x19 x20 x21 x22 x23 x24 x25 x26 x27 x28 x29 x30 x31 x32 x33 x34 x35 x36 x37 x38 x39 x40 x41 x42 x43 x44 x45) σ
def F58 (x0 x1 : DV) (σ : Store) : RS :=
 codeF G PP (pol 58) CC lo c58_0 a58_0 (x0 :: x1 :: zn 45 []) σ (finR PP Tryz.f58.results.toList)
theorem f58_L0_eq (G : GuardT) (hG : GuardOk G) (lo : Nat) (x2 x3 x4 x5 x6 : DV) (σ : Store) : f58_L0 G lo x2 x3 x4 x5 x6 σ =
 (fieldAddr PP 52 x3 0).bind fun x9 =>
 (load PP 24 x9 σ).bind fun x10 =>
 (len PP 24 x10 σ).bind fun x11 =>
 (fieldAddr PP 52 x3 1).bind fun x12 =>
 (load PP 24 x12 σ).bind fun x13 =>
 (len PP 24 x13 σ).bind fun x14 =>
 (binOp PP .add 3 x11 x14).bind fun x15 =>
 (binOp PP .lss 3 x6 x15).bind fun x16 =>
 condK x16
 (
 (load PP 47 x2 σ).bind fun x19 =>
 (load PP 52 x3 σ).bind fun x20 =>
 (pureFn CC (DV.fn 94 []) [x20, x6] σ).bind fun x22 =>
 (load PP 52 x3 σ).bind fun x23 =>
 (load PP 52 x3 σ).bind fun x24 =>
 (pureFn CC (DV.fn 97 []) [x24, x6] σ).bind fun x26 =>
 (pureFn CC (DV.fn 94 []) [x23, x26] σ).bind fun x27 =>
 (pureFn CC (DV.fn 119 []) [x19, x22, x27] σ).bind fun x28 =>
 (fieldAddr PP 52 x3 0).bind fun x30 =>
 (load PP 24 x30 σ).bind fun x31 =>
 (len PP 24 x31 σ).bind fun x32 =>
 (binOp PP .lss 3 x6 x32).bind fun x33 =>
 condK x33
 (
 (fieldAddr PP 26 x5 0).bind fun x34 =>
 (load PP 24 x34 σ).bind fun x35 =>
 (buildSlice PP none 24 1 [(0, x28)] σ).bind fun r37_1 =>
 (append PP lo false 24 24 x35 r37_1.1 r37_1.2).bind fun r38_2 =>
 (fieldAddr PP 26 x5 0).bind fun x39 =>
 (store PP lo 24 x39 r38_2.1 r38_2.2).bind fun σ3 =>
 f58_J0 G lo x2 x3 x4 x5 x6 x28 x6 x9 x10 x11 x12 x13 x14 x15 x16 x19 x20 x6 x22 x23 x24 x6 x26 x27 x28 x6 x30 x31 x32 x33 x34 x35 x28 r37_1.1 r38_2.1 x39 Z Z Z Z Z Z σ3
 )
 (
 (fieldAddr PP 26 x5 1).bind fun x40 =>
 (load PP 24 x40 σ).bind fun x41 =>
 (buildSlice PP none 24 1 [(0, x28)] σ).bind fun r43_4 =>
 (append PP lo false 24 24 x41 r43_4.1 r43_4.2).bind fun r44_5 =>
 (fieldAddr PP 26 x5 1).bind fun x45 =>
 (store PP lo 24 x45 r44_5.1 r44_5.2).bind fun σ6 =>
 f58_J0 G lo x2 x3 x4 x5 x6 x28 x6 x9 x10 x11 x12 x13 x14 x15 x16 x19 x20 x6 x22 x23 x24 x6 x26 x27 x28 x6 x30 x31 x32 x33 Z Z Z Z Z Z x40 x41 x28 r43_4.1 r44_5.1 x45 σ6
 )
 )
 (
 (load PP 26 x5 σ).bind fun x46 =>
 (store PP lo 26 x4 x46 σ).bind fun σ7 =>
 (cellV PP 26 x4 σ7).bind fun v0 =>
 some (v0, σ7)
 ) := (loopF_eq G hG).trans (by kernel_rfl)
theorem f58_J0_eq (G : GuardT) (lo : Nat) (x2 x3 x4 x5 x6 x7 x8 x9 x10 x11 x12 x13 x14 x15 x16 x19 x20 x21 x22 x23 x24 x25 x26 x27 x28 x29 x30 x31 x32 x33 x34 x35 x36 x37 x38 x39 x40 x41 x42 x43 x44 x45 : DV) (σ : Store) : f58_J0 G lo x2 x3 x4 x5 x6 x7 x8 x9 x10 x11 x12 x13 x14 x15 x16 x19 x20 x21 x22 x23 x24 x25 x26 x27 x28 x29 x30 x31 x32 x33 x34 x35 x36 x37 x38 x39 x40 x41 x42 x43 x44 x45 σ =
 (binOp PP .add 3 x6 I1).bind fun x18 =>
 f58_L0 G lo x2 x3 x4 x5 x18 σ := by kernel_rfl
theorem F58_eq (G : GuardT) (lo : Nat) (x0 x1 : DV) (σ : Store) : F58 G lo x0 x1 σ =
 (boxP x0).bind fun x2 =>
 (boxP x1).bind fun x3 =>
 (zeroOf PP 26).bind fun z4 =>
 (zeroOf PP 26).bind fun z5 =>
 f58_L0 G lo x2 x3 (DV.ptr (List.length σ) 0) (DV.ptr (List.length (σ ++ [Row.mix z4])) 0) I0 ((σ ++ [Row.mix z4]) ++ [Row.mix z5]) := by kernel_rfl
theorem F58_call {lo : Nat} {x0 x1 : DV} (h : F58 guardT lo x0 x1 σ = some r) : CC lo 58 [x0, x1] σ = some r :=
 callL_run Tryz.func58 (by decide +kernel) rfl (by decide +kernel) h
def c59_0 : Code := bodyOf Tryz.f59
def a59_0 : Ann := (pol 59).ann
def a59_5 : Ann := right (left (right a59_0))
def a59_6 : Ann := left a59_5
def c59_7 : Code := fstC (fstC (sndC (fstC (sndC c59_0))))
def c59_23 : Code := sndC (sndC c59_0)
def a59_23 : Ann := right (right a59_0)
def a59_26 : Ann := right (left a59_23)
def a59_27 : Ann := left a59_26
def c59_28 : Code := fstC (fstC (sndC (fstC c59_23)))
def c59_44 : Code := sndC c59_23
def a59_44 : Ann := right a59_23
def f59_L0 (x2 x3 x5 : DV) (σ : Store) : RS :=
 codeF G PP (pol 59) CC lo (.loop c59_7) a59_6 (Z :: Z :: x2 :: x3 :: Z :: x5 :: zn 58 []) σ
 (blockC 0 a59_5 (seqC G PP (pol 59) CC lo c59_23 a59_23 (finR PP Tryz.f59.results.toList)))
def f59_L1 (x2 x3 x6 : DV) (σ : Store) : RS :=
 codeF G PP (pol 59) CC lo (.loop c59_28) a59_27 (Z :: Z :: x2 :: x3 :: Z :: Z :: x6 :: zn 57 []) σ
 (blockC 2 a59_26 (seqC G PP (pol 59) CC lo c59_44 a59_44 (finR PP Tryz.f59.results.toList)))
def F59 (x0 x1 : DV) (σ : Store) : RS :=
 codeF G PP (pol 59) CC lo c59_0 a59_0 (x0 :: x1 :: zn 62 []) σ (finR PP Tryz.f59.results.toList)
theorem f59_L0_eq (G : GuardT) (hG : GuardOk G) (lo : Nat) (x2 x3 x5 : DV) (σ : Store) : f59_L0 G lo x2 x3 x5 σ =
 (fieldAddr PP 47 x2 4).bind fun x8 =>
 (load PP 24 x8 σ).bind fun x9 =>
 (len PP 24 x9 σ).bind fun x10 =>
 (binOp PP .lss 3 x5 x10).bind fun x11 =>
 condK x11
 (
 (load PP 47 x2 σ).bind fun x14 =>
 (load PP 52 x3 σ).bind fun x15 =>
 (fieldAddr PP 47 x2 4).bind fun x16 =>
 (load PP 24 x16 σ).bind fun x17 =>
 (indexAddr PP 24 x17 x5).bind fun x19 =>
 (load PP 3 x19 σ).bind fun x20 =>
 (pureFn CC (DV.fn 120 []) [x14, x15, x20] σ).bind fun x21 =>
 (unOp .not x21).bind fun x22 =>
 G _ x22 true ((load PP 47 x2 σ).bind fun v => some (v, σ)) σ fun x24 σ1 =>
 G _ x22 true ((load PP 52 x3 σ1).bind fun v => some (v, σ1)) σ1 fun x25 σ2 =>
 G _ x22 true ((fieldAddr PP 47 x2 4).bind fun v => some (v, σ2)) σ2 fun x26 σ3 =>
 G _ x22 true ((load PP 24 x26 σ3).bind fun v => some (v, σ3)) σ3 fun x27 σ4 =>
 G _ x22 true (some (x5, σ4)) σ4 fun x28 σ5 =>
 G _ x22 true ((indexAddr PP 24 x27 x28).bind fun v => some (v, σ5)) σ5 fun x29 σ6 =>
 G _ x22 true ((load PP 3 x29 σ6).bind fun v => some (v, σ6)) σ6 fun x30 σ7 =>
 G _ x22 true ((pureFn CC (DV.fn 121 []) [x24, x25, x30] σ7).bind fun v => some (v, σ7)) σ7 fun x31 σ8 =>
 G _ x22 true ((fieldAddr PP 52 x3 1).bind fun v => some (v, σ8)) σ8 fun x32 σ9 =>
 G _ x22 true ((load PP 24 x32 σ9).bind fun v => some (v, σ9)) σ9 fun x33 σ10 =>
 G _ x22 true ((len PP 24 x33 σ10).bind fun v => some (v, σ10)) σ10 fun x34 σ11 =>
 G _ x22 true ((binOp PP .eql 3 x31 x34).bind fun v => some (v, σ11)) σ11 fun x35 σ12 =>
 (pickV x22 x35 (DV.p (PV.bool false))).bind fun x36 =>
 condK x36
 (
 some ((DV.p (PV.bool false)), σ12)
 )
 (
 (binOp PP .add 3 x5 I1).bind fun x13 =>
 f59_L0 G lo x2 x3 x13 σ12
 )
 )
 (
 f59_L1 G lo x2 x3 I0 σ
 ) := (loopF_eq G hG).trans (by kernel_rfl)
theorem f59_L1_eq (G : GuardT) (hG : GuardOk G) (lo : Nat) (x2 x3 x6 : DV) (σ : Store) : f59_L1 G lo x2 x3 x6 σ =
 (fieldAddr PP 47 x2 5).bind fun x38 =>
 (load PP 24 x38 σ).bind fun x39 =>
 (len PP 24 x39 σ).bind fun x40 =>
 (binOp PP .lss 3 x6 x40).bind fun x41 =>
 condK x41
 (
 (load PP 47 x2 σ).bind fun x44 =>
 (load PP 52 x3 σ).bind fun x45 =>
 (fieldAddr PP 47 x2 5).bind fun x46 =>
 (load PP 24 x46 σ).bind fun x47 =>
 (indexAddr PP 24 x47 x6).bind fun x49 =>
 (load PP 3 x49 σ).bind fun x50 =>
 (pureFn CC (DV.fn 120 []) [x44, x45, x50] σ).bind fun x51 =>
 (unOp .not x51).bind fun x52 =>
 G _ x52 true ((load PP 47 x2 σ).bind fun v => some (v, σ)) σ fun x54 σ13 =>
 G _ x52 true ((load PP 52 x3 σ13).bind fun v => some (v, σ13)) σ13 fun x55 σ14 =>
 G _ x52 true ((fieldAddr PP 47 x2 5).bind fun v => some (v, σ14)) σ14 fun x56 σ15 =>
 G _ x52 true ((load PP 24 x56 σ15).bind fun v => some (v, σ15)) σ15 fun x57 σ16 =>
 G _ x52 true (some (x6, σ16)) σ16 fun x58 σ17 =>
 G _ x52 true ((indexAddr PP 24 x57 x58).bind fun v => some (v, σ17)) σ17 fun x59 σ18 =>
 G _ x52 true ((load PP 3 x59 σ18).bind fun v => some (v, σ18)) σ18 fun x60 σ19 =>
 G _ x52 true ((pureFn CC (DV.fn 121 []) [x54, x55, x60] σ19).bind fun v => some (v, σ19)) σ19 fun x61 σ20 =>
 G _ x52 true ((binOp PP .gtr 3 x61 I0).bind fun v => some (v, σ20)) σ20 fun x62 σ21 =>
 (pickV x52 x62 (DV.p (PV.bool false))).bind fun x63 =>
 condK x63
 (
 some ((DV.p (PV.bool false)), σ21)
 )
 (
 (binOp PP .add 3 x6 I1).bind fun x43 =>
 f59_L1 G lo x2 x3 x43 σ21
 )
 )
 (
 some ((DV.p (PV.bool true)), σ)
 ) := (loopF_eq G hG).trans (by kernel_rfl)
theorem F59_eq (G : GuardT) (lo : Nat) (x0 x1 : DV) (σ : Store) : F59 G lo x0 x1 σ =
 (boxP x0).bind fun x2 =>
 (boxP x1).bind fun x3 =>
 f59_L0 G lo x2 x3 I0 σ := by kernel_rfl
theorem F59_call {lo : Nat} {x0 x1 : DV} (h : F59 guardT lo x0 x1 σ = some r) : CC lo 59 [x0, x1] σ = some r :=
 callL_run Tryz.func59 (by decide +kernel) rfl (by decide +kernel) h
def c117_0 : Code := bodyOf Tryz.f117
def a117_0 : Ann := (pol 117).ann
def a117_11 : Ann := right (left (right (right (right (right a117_0)))))
def a117_12 : Ann := left a117_11
def c117_13 : Code := fstC (fstC (sndC (fstC (sndC (sndC (sndC (sndC c117_0)))))))
def a117_20 : Ann := left (right (right (left a117_12)))
def a117_28 : Ann := right (left (right (right (left a117_20))))
def a117_29 : Ann := left a117_28
def c117_30 : Code := fstC (fstC (sndC (fstC (sndC (sndC (fstC (fstC (sndC (sndC c117_13)))))))))
def c117_42 : Code := sndC (sndC (sndC (fstC (fstC (sndC (sndC c117_13))))))
def a117_42 : Ann := right (right (right (left a117_20)))
def a117_45 : Ann := right (left a117_42)
def a117_46 : Ann := left a117_45
def c117_47 : Code := fstC (fstC (sndC (fstC c117_42)))
def a117_54 : Ann := left (right (right (left a117_46)))
def c117_62 : Code := sndC (sndC (sndC c117_47))
def a117_62 : Ann := right (right (right (left a117_46)))
def c117_63 : Code := sndC c117_42
def a117_63 : Ann := right a117_42
def c117_64 : Code := sndC (sndC (sndC c117_13))
def a117_64 : Ann := right (right (right (left a117_12)))
def c117_65 : Code := sndC (sndC (sndC (sndC (sndC c117_0))))
def a117_65 : Ann := right (right (right (right (right a117_0))))
def f117_L0 (x2 x4 x5 x6 x7 x27 x28 x29 : DV) (σ : Store) : RS :=
 codeF G PP (pol 117) CC lo (.loop c117_13) a117_12 (Z :: Z :: x2 :: Z :: x4 :: x5 :: x6 :: x7 :: zn 19 (x27 :: x28 :: x29 :: zn 63 [])) σ
 (blockC 0 a117_11 (seqC G PP (pol 117) CC lo c117_65 a117_65 (finR PP Tryz.f117.results.toList)))
def f117_L1 (x2 x4 x5 x6 x7 x9 x10 x27 x28 x29 x47 x48 x49 : DV) (σ : Store) : RS :=
 codeF G PP (pol 117) CC lo (.loop c117_30) a117_29 (Z :: Z :: x2 :: Z :: x4 :: x5 :: x6 :: x7 :: Z :: x9 :: x10 :: zn 16 (x27 :: x28 :: x29 :: zn 17 (x47 :: x48 :: x49 :: zn 43 []))) σ
 (blockC 2 a117_28 (seqC G PP (pol 117) CC lo c117_42 a117_42 (blockC 1 a117_20 (seqC G PP (pol 117) CC lo c117_64 a117_64 (loopC G PP (pol 117) CC lo c117_13 a117_12 (blockC 0 a117_11 (seqC G PP (pol 117) CC lo c117_65 a117_65 (finR PP Tryz.f117.results.toList))))))))
def f117_L2 (x2 x4 x5 x6 x7 x9 x10 x27 x28 x29 x62 x63 x64 : DV) (σ : Store) : RS :=
 codeF G PP (pol 117) CC lo (.loop c117_47) a117_46 (Z :: Z :: x2 :: Z :: x4 :: x5 :: x6 :: x7 :: Z :: x9 :: x10 :: zn 16 (x27 :: x28 :: x29 :: zn 32 (x62 :: x63 :: x64 :: zn 28 []))) σ
 (blockC 4 a117_45 (seqC G PP (pol 117) CC lo c117_63 a117_63 (blockC 1 a117_20 (seqC G PP (pol 117) CC lo c117_64 a117_64 (loopC G PP (pol 117) CC lo c117_13 a117_12 (blockC 0 a117_11 (seqC G PP (pol 117) CC lo c117_65 a117_65 (finR PP Tryz.f117.results.toList))))))))
def f117_J0_fr (x2 x4 x5 x6 x7 x9 x10 x13 x14 x27 x28 x29 x62 x63 x64 x65 x66 x67 x68 x69 x70 x71 x72 x73 x74 x75 : DV) : Frame := (Z :: Z :: x2 :: Z :: x4 :: x5 :: x6 :: x7 :: Z :: x9 :: x10 :: Z :: Z :: x13 :: x14 :: zn 12 (x27 :: x28 :: x29 :: zn 32 (x62 :: x63 :: x64 :: x65 :: x66 :: x67 :: x68 :: x69 :: x70 :: x71 :: x72 :: x73 :: x74 :: x75 :: zn 17 [])))
def f117_J0 (x2 x4 x5 x6 x7 x9 x10 x13 x14 x27 x28 x29 x62 x63 x64 x65 x66 x67 x68 x69 x70 x71 x72 x73 x74 x75 : DV) (σ : Store) : RS :=
 (blockC 5 a117_54 (seqC G PP (pol 117) CC lo c117_62 a117_62 (loopC G PP (pol 117) CC lo c117_47 a117_46 (blockC 4 a117_45 (seqC G PP (pol 117) CC lo c117_63 a117_63 (blockC 1 a117_20 (seqC G PP (pol 117) CC lo c117_64 a117_64 (loopC G PP (pol 117) CC lo c117_13 a117_12 (blockC 0 a117_11 (seqC G PP (pol 117) CC lo c117_65 a117_65 (finR PP Tryz.f117.results.toList))))))))))) .normal (f117_J0_fr x2 x4 x5 x6 x7 x9 x10 x13 x14 x27 x28 x29 x62 x63 x64 x65 x66 x67 x68 x69 x70 x71 x72 x73 x74 x75) σ
def F117 (x0 x1 : DV) (σ : Store) : RS :=
 codeF G PP (pol 117) CC lo c117_0 a117_0 (x0 :: x1 :: zn 91 []) σ (finR PP Tryz.f117.results.toList)
theorem f117_L0_eq (G : GuardT) (hG : GuardOk G) (lo : Nat) (x2 x4 x5 x6 x7 x27 x28 x29 : DV) (σ : Store) : f117_L0 G lo x2 x4 x5 x6 x7 x27 x28 x29 σ =
 (binOp PP .lss 3 x29 x28).bind fun x30 =>
 condK x30
 (
 (indexAddr PP 24 x27 x29).bind fun x32 =>
 (load PP 3 x32 σ).bind fun x33 =>
 (fieldAddr PP 47 x2 1).bind fun x34 =>
 (load PP 24 x34 σ).bind fun x35 =>
 (indexAddr PP 24 x35 x33).bind fun x37 =>
 (load PP 3 x37 σ).bind fun x38 =>
 (load PP 47 x2 σ).bind fun x39 =>
 (load PP 135 x6 σ).bind fun x42 =>
 (pureFn CC (DV.fn 93 []) [x42, x29] σ).bind fun x44 =>
 (indexAddr PP 24 x5 x44).bind fun x45 =>
 (load PP 3 x45 σ).bind fun x46 =>
 (pureFn CC (DV.fn 142 []) [x39, x33, x46] σ).bind fun x47 =>
 (len PP 24 x47 σ).bind fun x48 =>
 f117_L1 G lo x2 x4 x5 x6 x7 x33 x38 x27 x28 x29 x47 x48 I0 σ
 )
 (
 (fieldAddr PP 135 x6 1).bind fun x83 =>
 (load PP 3 x83 σ).bind fun x84 =>
 (sliceOp PP 24 x7 none (some x84) none).bind fun x85 =>
 (pureFn CC (DV.fn 78 []) [x85] σ).bind fun x86 =>
 (fieldAddr PP 135 x6 1).bind fun x88 =>
 (load PP 3 x88 σ).bind fun x89 =>
 (sliceOp PP 24 x7 (some x89) none none).bind fun x90 =>
 (pureFn CC (DV.fn 78 []) [x90] σ).bind fun x91 =>
 (build PP 26 [(0, x86), (1, x91)]).bind fun x92 =>
 (store PP lo 26 x4 x92 σ).bind fun σ5 =>
 (cellV PP 26 x4 σ5).bind fun v0 =>
 some (v0, σ5)
 ) := (loopF_eq G hG).trans (by kernel_rfl)
theorem f117_L1_eq (G : GuardT) (hG : GuardOk G) (lo : Nat) (x2 x4 x5 x6 x7 x9 x10 x27 x28 x29 x47 x48 x49 : DV) (σ : Store) : f117_L1 G lo x2 x4 x5 x6 x7 x9 x10 x27 x28 x29 x47 x48 x49 σ =
 (binOp PP .lss 3 x49 x48).bind fun x50 =>
 condK x50
 (
 (indexAddr PP 24 x47 x49).bind fun x51 =>
 (load PP 3 x51 σ).bind fun x52 =>
 (fieldAddr PP 47 x2 2).bind fun x54 =>
 (load PP 24 x54 σ).bind fun x55 =>
 (indexAddr PP 24 x55 x52).bind fun x57 =>
 (load PP 3 x57 σ).bind fun x58 =>
 (pureFn CC (DV.fn 157 []) [x10, x58] σ).bind fun x59 =>
 (binOp PP .add 3 x49 I1).bind fun x60 =>
 f117_L1 G lo x2 x4 x5 x6 x7 x9 x59 x27 x28 x29 x47 x48 x60 σ
 )
 (
 (fieldAddr PP 47 x2 3).bind fun x61 =>
 (load PP 24 x61 σ).bind fun x62 =>
 (len PP 24 x62 σ).bind fun x63 =>
 f117_L2 G lo x2 x4 x5 x6 x7 x9 x10 x27 x28 x29 x62 x63 I0 σ
 ) := (loopF_eq G hG).trans (by kernel_rfl)
theorem f117_L2_eq (G : GuardT) (hG : GuardOk G) (lo : Nat) (x2 x4 x5 x6 x7 x9 x10 x27 x28 x29 x62 x63 x64 : DV) (σ : Store) : f117_L2 G lo x2 x4 x5 x6 x7 x9 x10 x27 x28 x29 x62 x63 x64 σ =
 (binOp PP .lss 3 x64 x63).bind fun x65 =>
 condK x65
 (
 (indexAddr PP 24 x62 x64).bind fun x67 =>
 (load PP 3 x67 σ).bind fun x68 =>
 (load PP 47 x2 σ).bind fun x69 =>
 (pureFn CC (DV.fn 158 []) [x69, x9, x64] σ).bind fun x72 =>
 condK x72
 (
 (pureFn CC (DV.fn 157 []) [x10, x68] σ).bind fun x75 =>
 f117_J0 G lo x2 x4 x5 x6 x7 x9 x75 x64 x68 x27 x28 x29 x62 x63 x64 x65 x64 x67 x68 x69 x9 x64 x72 x10 x68 x75 σ
 )
 (
 f117_J0 G lo x2 x4 x5 x6 x7 x9 x10 x64 x68 x27 x28 x29 x62 x63 x64 x65 x64 x67 x68 x69 x9 x64 x72 Z Z Z σ
 )
 )
 (
 (buildSlice PP none 24 1 [(0, x10)] σ).bind fun r79_3 =>
 (append PP lo false 24 24 x7 r79_3.1 r79_3.2).bind fun r80_4 =>
 (binOp PP .add 3 x29 I1).bind fun x81 =>
 f117_L0 G lo x2 x4 x5 x6 r80_4.1 x27 x28 x81 r80_4.2
 ) := (loopF_eq G hG).trans (by kernel_rfl)
theorem f117_J0_eq (G : GuardT) (lo : Nat) (x2 x4 x5 x6 x7 x9 x10 x13 x14 x27 x28 x29 x62 x63 x64 x65 x66 x67 x68 x69 x70 x71 x72 x73 x74 x75 : DV) (σ : Store) : f117_J0 G lo x2 x4 x5 x6 x7 x9 x10 x13 x14 x27 x28 x29 x62 x63 x64 x65 x66 x67 x68 x69 x70 x71 x72 x73 x74 x75 σ =
 (binOp PP .add 3 x64 I1).bind fun x76 =>
 f117_L2 G lo x2 x4 x5 x6 x7 x9 x10 x27 x28 x29 x62 x63 x76 σ := by kernel_rfl
theorem F117_eq (G : GuardT) (lo : Nat) (x0 x1 : DV) (σ : Store) : F117 G lo x0 x1 σ =
 (boxP x0).bind fun x2 =>
 (boxV x1).bind fun z3 =>
 (zeroOf PP 26).bind fun z4 =>
 (fieldAddr PP 52 (DV.ptr (List.length σ) 0) 0).bind fun x15 =>
 (load PP 24 x15 ((σ ++ [Row.mix z3]) ++ [Row.mix z4])).bind fun x16 =>
 (fieldAddr PP 52 (DV.ptr (List.length σ) 0) 1).bind fun x17 =>
 (load PP 24 x17 ((σ ++ [Row.mix z3]) ++ [Row.mix z4])).bind fun x18 =>
 (buildSlice PP (some true) 130 2 [(0, x16), (1, x18)] ((σ ++ [Row.mix z3]) ++ [Row.mix z4])).bind fun r19_1 =>
 (pureFn CC (DV.fn 84 []) [r19_1.1] r19_1.2).bind fun x20 =>
 (len PP 24 x20 r19_1.2).bind fun x22 =>
 (fieldAddr PP 52 (DV.ptr (List.length σ) 0) 0).bind fun x23 =>
 (load PP 24 x23 r19_1.2).bind fun x24 =>
 (len PP 24 x24 r19_1.2).bind fun x25 =>
 (build PP 135 [(0, x22), (1, x25)]).bind fun x26 =>
 (zeroOf PP 135).bind fun z6 =>
 (store PP lo 135 (DV.ptr (List.length r19_1.2) 0) x26 (r19_1.2 ++ [Row.mix z6])).bind fun σ2 =>
 (len PP 24 x20 σ2).bind fun x28 =>
 f117_L0 G lo x2 (DV.ptr (List.length (σ ++ [Row.mix z3])) 0) x20 (DV.ptr (List.length r19_1.2) 0) (DV.p PV.nilsl) x20 x28 I0 σ2 := by kernel_rfl
theorem F117_call {lo : Nat} {x0 x1 : DV} (h : F117 guardT lo x0 x1 σ = some r) : CC lo 117 [x0, x1] σ = some r :=
 callL_run Tryz.func117 (by decide +kernel) rfl (by decide +kernel) h
def c118_0 : Code := bodyOf Tryz.f118
def a118_0 : Ann := (pol 118).ann
def a118_5 : Ann := right (left (right a118_0))
def a118_6 : Ann := left a118_5
def c118_7 : Code := fstC (fstC (sndC (fstC (sndC c118_0))))
def c118_27 : Code := sndC (sndC c118_0)
def a118_27 : Ann := right (right a118_0)
def a118_30 : Ann := right (left a118_27)
def a118_31 : Ann := left a118_30
def c118_32 : Code := fstC (fstC (sndC (fstC c118_27)))
def c118_52 : Code := sndC c118_27
def a118_52 : Ann := right a118_27
def f118_L0 (x2 x3 x12 x13 x14 : DV) (σ : Store) : RS :=
 codeF G PP (pol 118) CC lo (.loop c118_7) a118_6 (Z :: Z :: x2 :: x3 :: zn 8 (x12 :: x13 :: x14 :: zn 39 [])) σ
 (blockC 0 a118_5 (seqC G PP (pol 118) CC lo c118_27 a118_27 (finR PP Tryz.f118.results.toList)))
def f118_L1 (x2 x3 x34 x35 x36 : DV) (σ : Store) : RS :=
 codeF G PP (pol 118) CC lo (.loop c118_32) a118_31 (Z :: Z :: x2 :: x3 :: zn 30 (x34 :: x35 :: x36 :: zn 17 [])) σ
 (blockC 2 a118_30 (seqC G PP (pol 118) CC lo c118_52 a118_52 (finR PP Tryz.f118.results.toList)))
def F118 (x0 x1 : DV) (σ : Store) : RS :=
 codeF G PP (pol 118) CC lo c118_0 a118_0 (x0 :: x1 :: zn 52 []) σ (finR PP Tryz.f118.results.toList)
theorem f118_L0_eq (G : GuardT) (hG : GuardOk G) (lo : Nat) (x2 x3 x12 x13 x14 : DV) (σ : Store) : f118_L0 G lo x2 x3 x12 x13 x14 σ =
 (binOp PP .lss 3 x14 x13).bind fun x15 =>
 condK x15
 (
 (indexAddr PP 24 x12 x14).bind fun x16 =>
 (load PP 3 x16 σ).bind fun x17 =>
 (zeroOf PP 3).bind fun z6 =>
 (store PP lo 3 (DV.ptr (List.length σ) 0) x17 (σ ++ [Row.mix z6])).bind fun σ1 =>
 (fieldAddr PP 52 x3 1).bind fun x18 =>
 (load PP 24 x18 σ1).bind fun x19 =>
 (pureFn CC (DV.fn 68 []) [x19, (DV.fn 159 [x2, (DV.ptr (List.length σ) 0)])] σ1).bind fun x21 =>
 (unOp .not x21).bind fun x23 =>
 G _ x23 true ((load PP 47 x2 σ1).bind fun v => some (v, σ1)) σ1 fun x25 σ2 =>
 G _ x23 true ((fieldAddr PP 52 x3 1).bind fun v => some (v, σ2)) σ2 fun x26 σ3 =>
 G _ x23 true ((load PP 24 x26 σ3).bind fun v => some (v, σ3)) σ3 fun x27 σ4 =>
 G _ x23 true ((load PP 3 (DV.ptr (List.length σ) 0) σ4).bind fun v => some (v, σ4)) σ4 fun x28 σ5 =>
 G _ x23 true ((pureFn CC (DV.fn 160 []) [x25, x27, x28] σ5).bind fun v => some (v, σ5)) σ5 fun x29 σ6 =>
 G _ x23 true ((unOp .not x29).bind fun v => some (v, σ6)) σ6 fun x30 σ7 =>
 (pickV x23 x30 (DV.p (PV.bool false))).bind fun x31 =>
 condK x31
 (
 some ((DV.p (PV.bool false)), σ7)
 )
 (
 (binOp PP .add 3 x14 I1).bind fun x32 =>
 f118_L0 G lo x2 x3 x12 x13 x32 σ7
 )
 )
 (
 (fieldAddr PP 47 x2 5).bind fun x33 =>
 (load PP 24 x33 σ).bind fun x34 =>
 (len PP 24 x34 σ).bind fun x35 =>
 f118_L1 G lo x2 x3 x34 x35 I0 σ
 ) := (loopF_eq G hG).trans (by kernel_rfl)
theorem f118_L1_eq (G : GuardT) (hG : GuardOk G) (lo : Nat) (x2 x3 x34 x35 x36 : DV) (σ : Store) : f118_L1 G lo x2 x3 x34 x35 x36 σ =
 (binOp PP .lss 3 x36 x35).bind fun x37 =>
 condK x37
 (
 (indexAddr PP 24 x34 x36).bind fun x38 =>
 (load PP 3 x38 σ).bind fun x39 =>
 (zeroOf PP 3).bind fun z9 =>
 (store PP lo 3 (DV.ptr (List.length σ) 0) x39 (σ ++ [Row.mix z9])).bind fun σ8 =>
 (fieldAddr PP 52 x3 1).bind fun x40 =>
 (load PP 24 x40 σ8).bind fun x41 =>
 (pureFn CC (DV.fn 68 []) [x41, (DV.fn 161 [x2, (DV.ptr (List.length σ) 0)])] σ8).bind fun x43 =>
 G _ x43 true ((load PP 47 x2 σ8).bind fun v => some (v, σ8)) σ8 fun x46 σ9 =>
 G _ x43 true ((fieldAddr PP 52 x3 1).bind fun v => some (v, σ9)) σ9 fun x47 σ10 =>
 G _ x43 true ((load PP 24 x47 σ10).bind fun v => some (v, σ10)) σ10 fun x48 σ11 =>
 G _ x43 true ((load PP 3 (DV.ptr (List.length σ) 0) σ11).bind fun v => some (v, σ11)) σ11 fun x49 σ12 =>
 G _ x43 true ((pureFn CC (DV.fn 160 []) [x46, x48, x49] σ12).bind fun v => some (v, σ12)) σ12 fun x50 σ13 =>
 G _ x43 true ((unOp .not x50).bind fun v => some (v, σ13)) σ13 fun x51 σ14 =>
 (pickV x43 x51 (DV.p (PV.bool false))).bind fun x52 =>
 condK x52
 (
 some ((DV.p (PV.bool false)), σ14)
 )
 (
 (binOp PP .add 3 x36 I1).bind fun x53 =>
 f118_L1 G lo x2 x3 x34 x35 x53 σ14
 )
 )
 (
 some ((DV.p (PV.bool true)), σ)
 ) := (loopF_eq G hG).trans (by kernel_rfl)
theorem F118_eq (G : GuardT) (lo : Nat) (x0 x1 : DV) (σ : Store) : F118 G lo x0 x1 σ =
 (boxP x0).bind fun x2 =>
 (boxV x1).bind fun z3 =>
 (fieldAddr PP 47 x2 4).bind fun x11 =>
 (load PP 24 x11 (σ ++ [Row.mix z3])).bind fun x12 =>
 (len PP 24 x12 (σ ++ [Row.mix z3])).bind fun x13 =>
 f118_L0 G lo x2 (DV.ptr (List.length σ) 0) x12 x13 I0 (σ ++ [Row.mix z3]) := by kernel_rfl
theorem F118_call {lo : Nat} {x0 x1 : DV} (h : F118 guardT lo x0 x1 σ = some r) : CC lo 118 [x0, x1] σ = some r :=
 callL_run Tryz.func118 (by decide +kernel) rfl (by decide +kernel) h
def c119_0 : Code := bodyOf Tryz.f119
def a119_0 : Ann := (pol 119).ann
def a119_7 : Ann := right (left (right (right a119_0)))
def a119_8 : Ann := left a119_7
def c119_9 : Code := fstC (fstC (sndC (fstC (sndC (sndC c119_0)))))
def a119_16 : Ann := left (right (left a119_8))
def c119_23 : Code := sndC (fstC (fstC (sndC c119_9)))
def a119_23 : Ann := right (left a119_16)
def c119_28 : Code := sndC (sndC c119_9)
def a119_28 : Ann := right (right (left a119_8))
def c119_29 : Code := sndC (sndC (sndC c119_0))
def a119_29 : Ann := right (right (right a119_0))
def f119_L0 (x1 x2 x3 x7 x8 : DV) (σ : Store) : RS :=
 codeF G PP (pol 119) CC lo (.loop c119_9) a119_8 (Z :: x1 :: x2 :: x3 :: Z :: Z :: Z :: x7 :: x8 :: zn 55 []) σ
 (blockC 0 a119_7 (seqC G PP (pol 119) CC lo c119_29 a119_29 (finR PP Tryz.f119.results.toList)))
def f119_J0_fr (x1 x2 x3 x7 x8 x14 x15 x16 x17 x18 x21 x22 x23 x24 x25 x26 x27 x28 x29 x30 x31 x32 x33 x34 x35 x36 x37 x38 x39 x40 x41 x42 : DV) : Frame := (Z :: x1 :: x2 :: x3 :: Z :: Z :: Z :: x7 :: x8 :: zn 5 (x14 :: x15 :: x16 :: x17 :: x18 :: Z :: Z :: x21 :: x22 :: x23 :: x24 :: x25 :: x26 :: x27 :: x28 :: x29 :: x30 :: x31 :: x32 :: x33 :: x34 :: x35 :: x36 :: x37 :: x38 :: x39 :: x40 :: x41 :: x42 :: zn 21 []))
def f119_J0 (x1 x2 x3 x7 x8 x14 x15 x16 x17 x18 x21 x22 x23 x24 x25 x26 x27 x28 x29 x30 x31 x32 x33 x34 x35 x36 x37 x38 x39 x40 x41 x42 : DV) (σ : Store) : RS :=
 (seqC G PP (pol 119) CC lo c119_23 a119_23 (blockC 1 a119_16 (seqC G PP (pol 119) CC lo c119_28 a119_28 (loopC G PP (pol 119) CC lo c119_9 a119_8 (blockC 0 a119_7 (seqC G PP (pol 119) CC lo c119_29 a119_29 (finR PP Tryz.f119.results.toList))))))) .normal (f119_J0_fr x1 x2 x3 x7 x8 x14 x15 x16 x17 x18 x21 x22 x23 x24 x25 x26 x27 x28 x29 x30 x31 x32 x33 x34 x35 x36 x37 x38 x39 x40 x41 x42) σ
def f119_J1_fr (x1 x2 x3 x7 x8 x14 x15 x16 x17 x18 x21 x22 x23 x24 x25 x26 x27 x28 x29 x30 x31 x32 x33 x34 x35 x36 x37 x38 x39 x40 x41 x42 x43 x44 x45 x46 x47 x48 x49 x50 x51 x52 x53 x54 x55 x56 x57 x58 x59 x60 x61 x62 : DV) : Frame := (Z :: x1 :: x2 :: x3 :: Z :: Z :: Z :: x7 :: x8 :: zn 5 ([x14, x15, x16, x17, x18, Z, Z, x21, x22, x23, x24, x25, x26, x27, x28, x29, x30, x31, x32, x33, x34, x35, x36, x37, x38, x39, x40, x41, x42, x43, x44, x45, x46, x47, x48, x49, x50, x51, x52, x53, x54, x55, x56, x57, x58, x59, x60, x61, x62, Z]))
def f119_J1 (x1 x2 x3 x7 x8 x14 x15 x16 x17 x18 x21 x22 x23 x24 x25 x26 x27 x28 x29 x30 x31 x32 x33 x34 x35 x36 x37 x38 x39 x40 x41 x42 x43 x44 x45 x46 x47 x48 x49 x50 x51 x52 x53 x54 x55 x56 x57 x58 x59 x60 x61 x62 : DV) (σ : Store) : RS :=
 (blockC 1 a119_16 (seqC G PP (pol 119) CC lo c119_28 a119_28 (loopC G PP (pol 119) CC lo c119_9 a119_8 (blockC 0 a119_7 (seqC G PP (pol 119) CC lo c119_29 a119_29 (finR PP Tryz.f119.results.toList)))))) .normal (f119_J1_fr x1 x2 x3 x7 x8 x14 x15 x16 x17 x18 x21 x22 x23 x24 x25 x26 x27 x28 x29 x30 x31 x32 x33 x34 x35 x36 x37 x38 x39 x40 x41 x42 x43 x44 x45 x46 x47 x48 x49 x50 x51 x52 x53 x54 x55 x56 x57 x58 x59 x60 x61 x62) σ
def F119 (x0 x1 x2 : DV) (σ : Store) : RS :=
 codeF G PP (pol 119) CC lo c119_0 a119_0 (x0 :: x1 :: x2 :: zn 61 []) σ (finR PP Tryz.f119.results.toList)
theorem f119_L0_eq (G : GuardT) (hG : GuardOk G) (lo : Nat) (x1 x2 x3 x7 x8 : DV) (σ : Store) : f119_L0 G lo x1 x2 x3 x7 x8 σ =
 (fieldAddr PP 47 x3 2).bind fun x15 =>
 (load PP 24 x15 σ).bind fun x16 =>
 (len PP 24 x16 σ).bind fun x17 =>
 (binOp PP .lss 3 x8 x17).bind fun x18 =>
 condK x18
 (
 (fieldAddr PP 47 x3 2).bind fun x21 =>
 (load PP 24 x21 σ).bind fun x22 =>
 (indexAddr PP 24 x22 x8).bind fun x24 =>
 (load PP 3 x24 σ).bind fun x25 =>
 (binOp PP .neq 3 x25 (DV.p (PV.int IntKind.i64 (-1)))).bind fun x26 =>
 G _ x26 true ((fieldAddr PP 47 x3 0).bind fun v => some (v, σ)) σ fun x28 σ1 =>
 G _ x26 true ((load PP 45 x28 σ1).bind fun v => some (v, σ1)) σ1 fun x29 σ2 =>
 G _ x26 true (some (x1, σ2)) σ2 fun x30 σ3 =>
 G _ x26 true (some (x2, σ3)) σ3 fun x31 σ4 =>
 G _ x26 true (some (x8, σ4)) σ4 fun x32 σ5 =>
 G _ x26 true ((build PP 129 [(0, x30), (1, x31), (2, x32)]).bind fun v => some (v, σ5)) σ5 fun x33 σ6 =>
 G _ x26 true ((pureFn CC (DV.fn 162 []) [x29, x33] σ6).bind fun v => some (v, σ6)) σ6 fun x34 σ7 =>
 (pickV x26 x34 (DV.p (PV.bool false))).bind fun x35 =>
 condK x35
 (
 (fieldAddr PP 47 x3 2).bind fun x37 =>
 (load PP 24 x37 σ7).bind fun x38 =>
 (indexAddr PP 24 x38 x8).bind fun x40 =>
 (load PP 3 x40 σ7).bind fun x41 =>
 (pureFn CC (DV.fn 163 []) [x7, x41] σ7).bind fun x42 =>
 f119_J0 G lo x1 x2 x3 x42 x8 x8 x15 x16 x17 x18 x21 x22 x8 x24 x25 x26 x26 x28 x29 x30 x31 x32 x33 x34 x35 x7 x37 x38 x8 x40 x41 x42 σ7
 )
 (
 f119_J0 G lo x1 x2 x3 x7 x8 x8 x15 x16 x17 x18 x21 x22 x8 x24 x25 x26 x26 x28 x29 x30 x31 x32 x33 x34 x35 Z Z Z Z Z Z Z σ7
 )
 )
 (
 some (x7, σ)
 ) := (loopF_eq G hG).trans (by kernel_rfl)
theorem f119_J0_eq (G : GuardT) (lo : Nat) (x1 x2 x3 x7 x8 x14 x15 x16 x17 x18 x21 x22 x23 x24 x25 x26 x27 x28 x29 x30 x31 x32 x33 x34 x35 x36 x37 x38 x39 x40 x41 x42 : DV) (σ : Store) : f119_J0 G lo x1 x2 x3 x7 x8 x14 x15 x16 x17 x18 x21 x22 x23 x24 x25 x26 x27 x28 x29 x30 x31 x32 x33 x34 x35 x36 x37 x38 x39 x40 x41 x42 σ =
 (fieldAddr PP 47 x3 3).bind fun x43 =>
 (load PP 24 x43 σ).bind fun x44 =>
 (indexAddr PP 24 x44 x8).bind fun x46 =>
 (load PP 3 x46 σ).bind fun x47 =>
 (binOp PP .neq 3 x47 (DV.p (PV.int IntKind.i64 (-1)))).bind fun x48 =>
 G _ x48 true ((fieldAddr PP 47 x3 0).bind fun v => some (v, σ)) σ fun x50 σ8 =>
 G _ x48 true ((load PP 45 x50 σ8).bind fun v => some (v, σ8)) σ8 fun x51 σ9 =>
 G _ x48 true (some (x1, σ9)) σ9 fun x52 σ10 =>
 G _ x48 true (some (x8, σ10)) σ10 fun x53 σ11 =>
 G _ x48 true ((pureFn CC (DV.fn 164 []) [x51, x52, x53] σ11).bind fun v => some (v, σ11)) σ11 fun x54 σ12 =>
 (pickV x48 x54 (DV.p (PV.bool false))).bind fun x55 =>
 condK x55
 (
 (fieldAddr PP 47 x3 3).bind fun x57 =>
 (load PP 24 x57 σ12).bind fun x58 =>
 (indexAddr PP 24 x58 x8).bind fun x60 =>
 (load PP 3 x60 σ12).bind fun x61 =>
 (pureFn CC (DV.fn 163 []) [x7, x61] σ12).bind fun x62 =>
 f119_J1 G lo x1 x2 x3 x62 x8 x14 x15 x16 x17 x18 x21 x22 x23 x24 x25 x26 x27 x28 x29 x30 x31 x32 x33 x34 x35 x36 x37 x38 x39 x40 x41 x42 x43 x44 x8 x46 x47 x48 x48 x50 x51 x52 x53 x54 x55 x7 x57 x58 x8 x60 x61 x62 σ12
 )
 (
 f119_J1 G lo x1 x2 x3 x7 x8 x14 x15 x16 x17 x18 x21 x22 x23 x24 x25 x26 x27 x28 x29 x30 x31 x32 x33 x34 x35 x36 x37 x38 x39 x40 x41 x42 x43 x44 x8 x46 x47 x48 x48 x50 x51 x52 x53 x54 x55 Z Z Z Z Z Z Z σ12
 ) := by kernel_rfl
theorem f119_J1_eq (G : GuardT) (lo : Nat) (x1 x2 x3 x7 x8 x14 x15 x16 x17 x18 x21 x22 x23 x24 x25 x26 x27 x28 x29 x30 x31 x32 x33 x34 x35 x36 x37 x38 x39 x40 x41 x42 x43 x44 x45 x46 x47 x48 x49 x50 x51 x52 x53 x54 x55 x56 x57 x58 x59 x60 x61 x62 : DV) (σ : Store) : f119_J1 G lo x1 x2 x3 x7 x8 x14 x15 x16 x17 x18 x21 x22 x23 x24 x25 x26 x27 x28 x29 x30 x31 x32 x33 x34 x35 x36 x37 x38 x39 x40 x41 x42 x43 x44 x45 x46 x47 x48 x49 x50 x51 x52 x53 x54 x55 x56 x57 x58 x59 x60 x61 x62 σ =
 (binOp PP .add 3 x8 I1).bind fun x20 =>
 f119_L0 G lo x1 x2 x3 x7 x20 σ := by kernel_rfl
theorem F119_eq (G : GuardT) (lo : Nat) (x0 x1 x2 : DV) (σ : Store) : F119 G lo x0 x1 x2 σ =
 (boxP x0).bind fun x3 =>
 (fieldAddr PP 47 x3 1).bind fun x9 =>
 (load PP 24 x9 σ).bind fun x10 =>
 (indexAddr PP 24 x10 x1).bind fun x12 =>
 (load PP 3 x12 σ).bind fun x13 =>
 f119_L0 G lo x1 x2 x3 x13 I0 σ := by kernel_rfl
theorem F119_call {lo : Nat} {x0 x1 x2 : DV} (h : F119 guardT lo x0 x1 x2 σ = some r) : CC lo 119 [x0, x1, x2] σ = some r :=
 callL_run Tryz.func119 (by decide +kernel) rfl (by decide +kernel) h
def c120_0 : Code := bodyOf Tryz.f120
def a120_0 : Ann := (pol 120).ann
def a120_5 : Ann := right (left (right a120_0))
def a120_6 : Ann := left a120_5
def c120_7 : Code := fstC (fstC (sndC (fstC (sndC c120_0))))
def c120_23 : Code := sndC (sndC c120_0)
def a120_23 : Ann := right (right a120_0)
def f120_L0 (x2 x3 x4 x7 : DV) (σ : Store) : RS :=
 codeF G PP (pol 120) CC lo (.loop c120_7) a120_6 (Z :: Z :: x2 :: x3 :: x4 :: Z :: Z :: x7 :: zn 27 []) σ
 (blockC 0 a120_5 (seqC G PP (pol 120) CC lo c120_23 a120_23 (finR PP Tryz.f120.results.toList)))
def F120 (x0 x1 x2 : DV) (σ : Store) : RS :=
 codeF G PP (pol 120) CC lo c120_0 a120_0 (x0 :: x1 :: x2 :: zn 32 []) σ (finR PP Tryz.f120.results.toList)
theorem f120_L0_eq (G : GuardT) (hG : GuardOk G) (lo : Nat) (x2 x3 x4 x7 : DV) (σ : Store) : f120_L0 G lo x2 x3 x4 x7 σ =
 (fieldAddr PP 52 x4 1).bind fun x9 =>
 (load PP 24 x9 σ).bind fun x10 =>
 (len PP 24 x10 σ).bind fun x11 =>
 (binOp PP .lss 3 x7 x11).bind fun x12 =>
 condK x12
 (
 (fieldAddr PP 47 x3 0).bind fun x15 =>
 (load PP 45 x15 σ).bind fun x16 =>
 (fieldAddr PP 52 x4 1).bind fun x17 =>
 (load PP 24 x17 σ).bind fun x18 =>
 (indexAddr PP 24 x18 x7).bind fun x20 =>
 (load PP 3 x20 σ).bind fun x21 =>
 (fieldAddr PP 52 x4 1).bind fun x22 =>
 (load PP 24 x22 σ).bind fun x23 =>
 (binOp PP .add 3 x7 I1).bind fun x25 =>
 (fieldAddr PP 52 x4 1).bind fun x26 =>
 (load PP 24 x26 σ).bind fun x27 =>
 (len PP 24 x27 σ).bind fun x28 =>
 (binOp PP .rem 3 x25 x28).bind fun x29 =>
 (indexAddr PP 24 x23 x29).bind fun x30 =>
 (load PP 3 x30 σ).bind fun x31 =>
 (build PP 129 [(0, x21), (1, x31), (2, x2)]).bind fun x33 =>
 (pureFn CC (DV.fn 162 []) [x16, x33] σ).bind fun x34 =>
 condK x34
 (
 some ((DV.p (PV.bool true)), σ)
 )
 (
 (binOp PP .add 3 x7 I1).bind fun x14 =>
 f120_L0 G lo x2 x3 x4 x14 σ
 )
 )
 (
 some ((DV.p (PV.bool false)), σ)
 ) := (loopF_eq G hG).trans (by kernel_rfl)
theorem F120_eq (G : GuardT) (lo : Nat) (x0 x1 x2 : DV) (σ : Store) : F120 G lo x0 x1 x2 σ =
 (boxP x0).bind fun x3 =>
 (boxP x1).bind fun x4 =>
 f120_L0 G lo x2 x3 x4 I0 σ := by kernel_rfl
theorem F120_call {lo : Nat} {x0 x1 x2 : DV} (h : F120 guardT lo x0 x1 x2 σ = some r) : CC lo 120 [x0, x1, x2] σ = some r :=
 callL_run Tryz.func120 (by decide +kernel) rfl (by decide +kernel) h
def c121_0 : Code := bodyOf Tryz.f121
def a121_0 : Ann := (pol 121).ann
def a121_7 : Ann := right (left (right (right a121_0)))
def a121_8 : Ann := left a121_7
def c121_9 : Code := fstC (fstC (sndC (fstC (sndC (sndC c121_0)))))
def c121_19 : Code := sndC (sndC (sndC c121_0))
def a121_19 : Ann := right (right (right a121_0))
def f121_L0 (x2 x3 x4 x7 x8 : DV) (σ : Store) : RS :=
 codeF G PP (pol 121) CC lo (.loop c121_9) a121_8 (Z :: Z :: x2 :: x3 :: x4 :: Z :: Z :: x7 :: x8 :: zn 20 []) σ
 (blockC 0 a121_7 (seqC G PP (pol 121) CC lo c121_19 a121_19 (finR PP Tryz.f121.results.toList)))
def F121 (x0 x1 x2 : DV) (σ : Store) : RS :=
 codeF G PP (pol 121) CC lo c121_0 a121_0 (x0 :: x1 :: x2 :: zn 26 []) σ (finR PP Tryz.f121.results.toList)
theorem f121_L0_eq (G : GuardT) (hG : GuardOk G) (lo : Nat) (x2 x3 x4 x7 x8 : DV) (σ : Store) : f121_L0 G lo x2 x3 x4 x7 x8 σ =
 (fieldAddr PP 52 x4 1).bind fun x10 =>
 (load PP 24 x10 σ).bind fun x11 =>
 (len PP 24 x11 σ).bind fun x12 =>
 (binOp PP .lss 3 x8 x12).bind fun x13 =>
 condK x13
 (
 (fieldAddr PP 47 x3 0).bind fun x17 =>
 (load PP 45 x17 σ).bind fun x18 =>
 (fieldAddr PP 52 x4 1).bind fun x19 =>
 (load PP 24 x19 σ).bind fun x20 =>
 (indexAddr PP 24 x20 x8).bind fun x22 =>
 (load PP 3 x22 σ).bind fun x23 =>
 (pureFn CC (DV.fn 164 []) [x18, x23, x2] σ).bind fun x25 =>
 (pureFn CC (DV.fn 165 []) [x25] σ).bind fun x26 =>
 (binOp PP .add 3 x7 x26).bind fun x27 =>
 (binOp PP .add 3 x8 I1).bind fun x15 =>
 f121_L0 G lo x2 x3 x4 x27 x15 σ
 )
 (
 some (x7, σ)
 ) := (loopF_eq G hG).trans (by kernel_rfl)
theorem F121_eq (G : GuardT) (lo : Nat) (x0 x1 x2 : DV) (σ : Store) : F121 G lo x0 x1 x2 σ =
 (boxP x0).bind fun x3 =>
 (boxP x1).bind fun x4 =>
 f121_L0 G lo x2 x3 x4 I0 I0 σ := by kernel_rfl
theorem F121_call {lo : Nat} {x0 x1 x2 : DV} (h : F121 guardT lo x0 x1 x2 σ = some r) : CC lo 121 [x0, x1, x2] σ = some r :=
 callL_run Tryz.func121 (by decide +kernel) rfl (by decide +kernel) h
def c157_0 : Code := bodyOf Tryz.f157
def a157_0 : Ann := (pol 157).ann
def F157 (x0 x1 : DV) (σ : Store) : RS :=
 codeF G PP (pol 157) CC lo c157_0 a157_0 (x0 :: x1 :: zn 10 []) σ (finR PP Tryz.f157.results.toList)
theorem F157_eq (G : GuardT) (lo : Nat) (x0 x1 : DV) (σ : Store) : F157 G lo x0 x1 σ =
 (binOp PP .eql 3 x1 (DV.p (PV.int IntKind.i64 (-1)))).bind fun x6 =>
 condK x6
 (
 some (x0, σ)
 )
 (
 (binOp PP .shl 3 I1 x1).bind fun x10 =>
 (binOp PP .or 3 x0 x10).bind fun x11 =>
 some (x11, σ)
 ) := by kernel_rfl
theorem F157_call {lo : Nat} {x0 x1 : DV} (h : F157 guardT lo x0 x1 σ = some r) : CC lo 157 [x0, x1] σ = some r :=
 callL_run Tryz.func157 (by decide +kernel) rfl (by decide +kernel) h
def c158_0 : Code := bodyOf Tryz.f158
def a158_0 : Ann := (pol 158).ann
def F158 (x0 x1 x2 : DV) (σ : Store) : RS :=
 codeF G PP (pol 158) CC lo c158_0 a158_0 (x0 :: x1 :: x2 :: zn 9 []) σ (finR PP Tryz.f158.results.toList)
theorem F158_eq (G : GuardT) (lo : Nat) (x0 x1 x2 : DV) (σ : Store) : F158 G lo x0 x1 x2 σ =
 (boxP x0).bind fun x3 =>
 (boxP x1).bind fun x4 =>
 (boxP x2).bind fun x5 =>
 (fieldAddr PP 47 x3 0).bind fun x7 =>
 (fieldAddr PP 45 x7 2).bind fun x8 =>
 (load PP 43 x8 σ).bind fun x9 =>
 (pureFn CC (DV.fn 175 []) [x9, (DV.fn 176 [x4, x5])] σ).bind fun x11 =>
 some (x11, σ) := by kernel_rfl
theorem F158_call {lo : Nat} {x0 x1 x2 : DV} (h : F158 guardT lo x0 x1 x2 σ = some r) : CC lo 158 [x0, x1, x2] σ = some r :=
 callL_run Tryz.func158 (by decide +kernel) rfl (by decide +kernel) h
def c159_0 : Code := bodyOf Tryz.f159
def a159_0 : Ann := (pol 159).ann
def F159 (x0 x1 x2 : DV) (σ : Store) : RS :=
 codeF G PP (pol 159) CC lo c159_0 a159_0 (x0 :: x1 :: x2 :: zn 7 []) σ (finR PP Tryz.f159.results.toList)
theorem F159_eq (G : GuardT) (lo : Nat) (x0 x1 x2 : DV) (σ : Store) : F159 G lo x0 x1 x2 σ =
 (load PP 47 x1 σ).bind fun x5 =>
 (load PP 3 x2 σ).bind fun x7 =>
 (pureFn CC (DV.fn 158 []) [x5, x0, x7] σ).bind fun x8 =>
 (unOp .not x8).bind fun x9 =>
 some (x9, σ) := by kernel_rfl
theorem F159_call {lo : Nat} {x0 x1 x2 : DV} (h : F159 guardT lo x0 x1 x2 σ = some r) : CC lo 159 [x0, x1, x2] σ = some r :=
 callL_run Tryz.func159 (by decide +kernel) rfl (by decide +kernel) h
def c160_0 : Code := bodyOf Tryz.f160
def a160_0 : Ann := (pol 160).ann
def a160_7 : Ann := right (left (right (right a160_0)))
def a160_8 : Ann := left a160_7
def c160_9 : Code := fstC (fstC (sndC (fstC (sndC (sndC c160_0)))))
def c160_27 : Code := sndC (sndC (sndC c160_0))
def a160_27 : Ann := right (right (right a160_0))
def f160_L0 (x1 x2 x3 x7 x13 x14 x15 : DV) (σ : Store) : RS :=
 codeF G PP (pol 160) CC lo (.loop c160_9) a160_8 (Z :: x1 :: x2 :: x3 :: Z :: Z :: Z :: x7 :: zn 5 (x13 :: x14 :: x15 :: zn 16 [])) σ
 (blockC 0 a160_7 (seqC G PP (pol 160) CC lo c160_27 a160_27 (finR PP Tryz.f160.results.toList)))
def F160 (x0 x1 x2 : DV) (σ : Store) : RS :=
 codeF G PP (pol 160) CC lo c160_0 a160_0 (x0 :: x1 :: x2 :: zn 29 []) σ (finR PP Tryz.f160.results.toList)
theorem f160_L0_eq (G : GuardT) (hG : GuardOk G) (lo : Nat) (x1 x2 x3 x7 x13 x14 x15 : DV) (σ : Store) : f160_L0 G lo x1 x2 x3 x7 x13 x14 x15 σ =
 (binOp PP .lss 3 x15 x14).bind fun x16 =>
 condK x16
 (
 (indexAddr PP 24 x13 x15).bind fun x18 =>
 (load PP 3 x18 σ).bind fun x19 =>
 (load PP 47 x3 σ).bind fun x20 =>
 (load PP 135 x7 σ).bind fun x23 =>
 (pureFn CC (DV.fn 93 []) [x23, x15] σ).bind fun x25 =>
 (indexAddr PP 24 x1 x25).bind fun x26 =>
 (load PP 3 x26 σ).bind fun x27 =>
 (pureFn CC (DV.fn 142 []) [x20, x19, x27] σ).bind fun x28 =>
 (pureFn CC (DV.fn 91 []) [x28, x2] σ).bind fun x30 =>
 condK x30
 (
 some ((DV.p (PV.bool true)), σ)
 )
 (
 (binOp PP .add 3 x15 I1).bind fun x31 =>
 f160_L0 G lo x1 x2 x3 x7 x13 x14 x31 σ
 )
 )
 (
 some ((DV.p (PV.bool false)), σ)
 ) := (loopF_eq G hG).trans (by kernel_rfl)
theorem F160_eq (G : GuardT) (lo : Nat) (x0 x1 x2 : DV) (σ : Store) : F160 G lo x0 x1 x2 σ =
 (boxP x0).bind fun x3 =>
 (len PP 24 x1 σ).bind fun x11 =>
 (build PP 135 [(0, x11)]).bind fun x12 =>
 (zeroOf PP 135).bind fun z7 =>
 (store PP lo 135 (DV.ptr (List.length σ) 0) x12 (σ ++ [Row.mix z7])).bind fun σ1 =>
 (len PP 24 x1 σ1).bind fun x14 =>
 f160_L0 G lo x1 x2 x3 (DV.ptr (List.length σ) 0) x1 x14 I0 σ1 := by kernel_rfl
theorem F160_call {lo : Nat} {x0 x1 x2 : DV} (h : F160 guardT lo x0 x1 x2 σ = some r) : CC lo 160 [x0, x1, x2] σ = some r :=
 callL_run Tryz.func160 (by decide +kernel) rfl (by decide +kernel) h
def c161_0 : Code := bodyOf Tryz.f161
def a161_0 : Ann := (pol 161).ann
def F161 (x0 x1 x2 : DV) (σ : Store) : RS :=
 codeF G PP (pol 161) CC lo c161_0 a161_0 (x0 :: x1 :: x2 :: zn 6 []) σ (finR PP Tryz.f161.results.toList)
theorem F161_eq (G : GuardT) (lo : Nat) (x0 x1 x2 : DV) (σ : Store) : F161 G lo x0 x1 x2 σ =
 (load PP 47 x1 σ).bind fun x5 =>
 (load PP 3 x2 σ).bind fun x7 =>
 (pureFn CC (DV.fn 158 []) [x5, x0, x7] σ).bind fun x8 =>
 some (x8, σ) := by kernel_rfl
theorem F161_call {lo : Nat} {x0 x1 x2 : DV} (h : F161 guardT lo x0 x1 x2 σ = some r) : CC lo 161 [x0, x1, x2] σ = some r :=
 callL_run Tryz.func161 (by decide +kernel) rfl (by decide +kernel) h
def c162_0 : Code := bodyOf Tryz.f162
def a162_0 : Ann := (pol 162).ann
def a162_13 : Ann := right (left (right (right a162_0)))
def a162_14 : Ann := left a162_13
def c162_15 : Code := fstC (fstC (sndC (fstC (sndC (sndC c162_0)))))
def c162_31 : Code := sndC (sndC (sndC c162_0))
def a162_31 : Ann := right (right (right a162_0))
def f162_L0 (x2 x3 x5 : DV) (σ : Store) : RS :=
 codeF G PP (pol 162) CC lo (.loop c162_15) a162_14 (Z :: Z :: x2 :: x3 :: Z :: x5 :: zn 19 []) σ
 (blockC 0 a162_13 (seqC G PP (pol 162) CC lo c162_31 a162_31 (finR PP Tryz.f162.results.toList)))
def F162 (x0 x1 : DV) (σ : Store) : RS :=
 codeF G PP (pol 162) CC lo c162_0 a162_0 (x0 :: x1 :: zn 23 []) σ (finR PP Tryz.f162.results.toList)
theorem f162_L0_eq (G : GuardT) (hG : GuardOk G) (lo : Nat) (x2 x3 x5 : DV) (σ : Store) : f162_L0 G lo x2 x3 x5 σ =
 (fieldAddr PP 45 x2 2).bind fun x12 =>
 (load PP 43 x12 σ).bind fun x13 =>
 (len PP 43 x13 σ).bind fun x14 =>
 (binOp PP .lss 3 x5 x14).bind fun x15 =>
 condK x15
 (
 (fieldAddr PP 45 x2 2).bind fun x18 =>
 (load PP 43 x18 σ).bind fun x19 =>
 (indexAddr PP 43 x19 x5).bind fun x21 =>
 (load PP 129 x21 σ).bind fun x22 =>
 (load PP 129 x3 σ).bind fun x23 =>
 (binOp PP .eql 129 x22 x23).bind fun x24 =>
 condK x24
 (
 some ((DV.p (PV.bool true)), σ)
 )
 (
 (binOp PP .add 3 x5 I1).bind fun x17 =>
 f162_L0 G lo x2 x3 x17 σ
 )
 )
 (
 some ((DV.p (PV.bool false)), σ)
 ) := (loopF_eq G hG).trans (by kernel_rfl)
theorem F162_eq (G : GuardT) (lo : Nat) (x0 x1 : DV) (σ : Store) : F162 G lo x0 x1 σ =
 (boxP x0).bind fun x2 =>
 (boxP x1).bind fun x3 =>
 (fieldAddr PP 129 x3 0).bind fun x6 =>
 (load PP 3 x6 σ).bind fun x7 =>
 (fieldAddr PP 129 x3 1).bind fun x8 =>
 (load PP 3 x8 σ).bind fun x9 =>
 (binOp PP .eql 3 x7 x9).bind fun x10 =>
 condK x10
 (
 some ((DV.p (PV.bool false)), σ)
 )
 (
 f162_L0 G lo x2 x3 I0 σ
 ) := by kernel_rfl
theorem F162_call {lo : Nat} {x0 x1 : DV} (h : F162 guardT lo x0 x1 σ = some r) : CC lo 162 [x0, x1] σ = some r :=
 callL_run Tryz.func162 (by decide +kernel) rfl (by decide +kernel) h
def c163_0 : Code := bodyOf Tryz.f163
def a163_0 : Ann := (pol 163).ann
def F163 (x0 x1 : DV) (σ : Store) : RS :=
 codeF G PP (pol 163) CC lo c163_0 a163_0 (x0 :: x1 :: zn 11 []) σ (finR PP Tryz.f163.results.toList)
theorem F163_eq (G : GuardT) (lo : Nat) (x0 x1 : DV) (σ : Store) : F163 G lo x0 x1 σ =
 (pureFn CC (DV.fn 60 []) [x0, x1] σ).bind fun x7 =>
 condK x7
 (
 some (x0, σ)
 )
 (
 (binOp PP .shl 3 I1 x1).bind fun x11 =>
 (binOp PP .add 3 x0 x11).bind fun x12 =>
 some (x12, σ)
 ) := by kernel_rfl
theorem F163_call {lo : Nat} {x0 x1 : DV} (h : F163 guardT lo x0 x1 σ = some r) : CC lo 163 [x0, x1] σ = some r :=
 callL_run Tryz.func163 (by decide +kernel) rfl (by decide +kernel) h
def c164_0 : Code := bodyOf Tryz.f164
def a164_0 : Ann := (pol 164).ann
def a164_5 : Ann := right (left (right a164_0))
def a164_6 : Ann := left a164_5
def c164_7 : Code := fstC (fstC (sndC (fstC (sndC c164_0))))
def c164_25 : Code := sndC (sndC c164_0)
def a164_25 : Ann := right (right a164_0)
def f164_L0 (x1 x2 x3 x7 : DV) (σ : Store) : RS :=
 codeF G PP (pol 164) CC lo (.loop c164_7) a164_6 (Z :: x1 :: x2 :: x3 :: Z :: Z :: Z :: x7 :: zn 29 []) σ
 (blockC 0 a164_5 (seqC G PP (pol 164) CC lo c164_25 a164_25 (finR PP Tryz.f164.results.toList)))
def F164 (x0 x1 x2 : DV) (σ : Store) : RS :=
 codeF G PP (pol 164) CC lo c164_0 a164_0 (x0 :: x1 :: x2 :: zn 34 []) σ (finR PP Tryz.f164.results.toList)
theorem f164_L0_eq (G : GuardT) (hG : GuardOk G) (lo : Nat) (x1 x2 x3 x7 : DV) (σ : Store) : f164_L0 G lo x1 x2 x3 x7 σ =
 (fieldAddr PP 45 x3 2).bind fun x10 =>
 (load PP 43 x10 σ).bind fun x11 =>
 (len PP 43 x11 σ).bind fun x12 =>
 (binOp PP .lss 3 x7 x12).bind fun x13 =>
 condK x13
 (
 (fieldAddr PP 45 x3 2).bind fun x16 =>
 (load PP 43 x16 σ).bind fun x17 =>
 (indexAddr PP 43 x17 x7).bind fun x19 =>
 (load PP 129 x19 σ).bind fun x20 =>
 (zeroOf PP 129).bind fun z8 =>
 (store PP lo 129 (DV.ptr (List.length σ) 0) x20 (σ ++ [Row.mix z8])).bind fun σ1 =>
 (fieldAddr PP 129 (DV.ptr (List.length σ) 0) 0).bind fun x21 =>
 (load PP 3 x21 σ1).bind fun x22 =>
 (binOp PP .eql 3 x22 x1).bind fun x24 =>
 G _ x24 true ((fieldAddr PP 129 (DV.ptr (List.length σ) 0) 2).bind fun v => some (v, σ1)) σ1 fun x26 σ2 =>
 G _ x24 true ((load PP 3 x26 σ2).bind fun v => some (v, σ2)) σ2 fun x27 σ3 =>
 G _ x24 true (some (x2, σ3)) σ3 fun x28 σ4 =>
 G _ x24 true ((binOp PP .eql 3 x27 x28).bind fun v => some (v, σ4)) σ4 fun x29 σ5 =>
 (pickV x24 x29 (DV.p (PV.bool false))).bind fun x30 =>
 G _ x30 true ((fieldAddr PP 129 (DV.ptr (List.length σ) 0) 1).bind fun v => some (v, σ5)) σ5 fun x32 σ6 =>
 G _ x30 true ((load PP 3 x32 σ6).bind fun v => some (v, σ6)) σ6 fun x33 σ7 =>
 G _ x30 true (some (x1, σ7)) σ7 fun x34 σ8 =>
 G _ x30 true ((binOp PP .neq 3 x33 x34).bind fun v => some (v, σ8)) σ8 fun x35 σ9 =>
 (pickV x30 x35 (DV.p (PV.bool false))).bind fun x36 =>
 condK x36
 (
 some ((DV.p (PV.bool true)), σ9)
 )
 (
 (binOp PP .add 3 x7 I1).bind fun x15 =>
 f164_L0 G lo x1 x2 x3 x15 σ9
 )
 )
 (
 some ((DV.p (PV.bool false)), σ)
 ) := (loopF_eq G hG).trans (by kernel_rfl)
theorem F164_eq (G : GuardT) (lo : Nat) (x0 x1 x2 : DV) (σ : Store) : F164 G lo x0 x1 x2 σ =
 (boxP x0).bind fun x3 =>
 f164_L0 G lo x1 x2 x3 I0 σ := by kernel_rfl
theorem F164_call {lo : Nat} {x0 x1 x2 : DV} (h : F164 guardT lo x0 x1 x2 σ = some r) : CC lo 164 [x0, x1, x2] σ = some r :=
 callL_run Tryz.func164 (by decide +kernel) rfl (by decide +kernel) h
def c175_0 : Code := bodyOf Tryz.f175
def a175_0 : Ann := (pol 175).ann
def F175 (x0 x1 : DV) (σ : Store) : RS :=
 codeF G PP (pol 175) CC lo c175_0 a175_0 (x0 :: x1 :: zn 7 []) σ (finR PP Tryz.f175.results.toList)
theorem F175_eq (G : GuardT) (lo : Nat) (x0 x1 : DV) (σ : Store) : F175 G lo x0 x1 σ =
 (pureFn CC (DV.fn 184 []) [x0, x1] σ).bind fun x7 =>
 (binOp PP .geq 3 x7 I0).bind fun x8 =>
 some (x8, σ) := by kernel_rfl
theorem F175_call {lo : Nat} {x0 x1 : DV} (h : F175 guardT lo x0 x1 σ = some r) : CC lo 175 [x0, x1] σ = some r :=
 callL_run Tryz.func175 (by decide +kernel) rfl (by decide +kernel) h
def c176_0 : Code := bodyOf Tryz.f176
def a176_0 : Ann := (pol 176).ann
def F176 (x0 x1 x2 : DV) (σ : Store) : RS :=
 codeF G PP (pol 176) CC lo c176_0 a176_0 (x0 :: x1 :: x2 :: zn 18 []) σ (finR PP Tryz.f176.results.toList)
theorem F176_eq (G : GuardT) (lo : Nat) (x0 x1 x2 : DV) (σ : Store) : F176 G lo x0 x1 x2 σ =
 (boxP x0).bind fun x3 =>
 (fieldAddr PP 129 x3 0).bind fun x5 =>
 (load PP 3 x5 σ).bind fun x6 =>
 (load PP 3 x1 σ).bind fun x7 =>
 (binOp PP .eql 3 x6 x7).bind fun x8 =>
 G _ x8 true ((fieldAddr PP 129 x3 1).bind fun v => some (v, σ)) σ fun x10 σ1 =>
 G _ x8 true ((load PP 3 x10 σ1).bind fun v => some (v, σ1)) σ1 fun x11 σ2 =>
 G _ x8 true ((load PP 3 x1 σ2).bind fun v => some (v, σ2)) σ2 fun x12 σ3 =>
 G _ x8 true ((binOp PP .neq 3 x11 x12).bind fun v => some (v, σ3)) σ3 fun x13 σ4 =>
 (pickV x8 x13 (DV.p (PV.bool false))).bind fun x14 =>
 G _ x14 true ((fieldAddr PP 129 x3 2).bind fun v => some (v, σ4)) σ4 fun x16 σ5 =>
 G _ x14 true ((load PP 3 x16 σ5).bind fun v => some (v, σ5)) σ5 fun x17 σ6 =>
 G _ x14 true ((load PP 3 x2 σ6).bind fun v => some (v, σ6)) σ6 fun x18 σ7 =>
 G _ x14 true ((binOp PP .eql 3 x17 x18).bind fun v => some (v, σ7)) σ7 fun x19 σ8 =>
 (pickV x14 x19 (DV.p (PV.bool false))).bind fun x20 =>
 some (x20, σ8) := by kernel_rfl
theorem F176_call {lo : Nat} {x0 x1 x2 : DV} (h : F176 guardT lo x0 x1 x2 σ = some r) : CC lo 176 [x0, x1, x2] σ = some r :=
 callL_run Tryz.func176 (by decide +kernel) rfl (by decide +kernel) h
def c184_0 : Code := bodyOf Tryz.f184
def a184_0 : Ann := (pol 184).ann
def a184_5 : Ann := right (left (right a184_0))
def a184_6 : Ann := left a184_5
def c184_7 : Code := fstC (fstC (sndC (fstC (sndC c184_0))))
def c184_25 : Code := sndC (sndC c184_0)
def a184_25 : Ann := right (right a184_0)
def f184_L0 (x0 x1 x7 x8 : DV) (σ : Store) : RS :=
 codeF G PP (pol 184) CC lo (.loop c184_7) a184_6 (x0 :: x1 :: zn 5 (x7 :: x8 :: zn 10 [])) σ
 (blockC 0 a184_5 (seqC G PP (pol 184) CC lo c184_25 a184_25 (finR PP Tryz.f184.results.toList)))
def F184 (x0 x1 : DV) (σ : Store) : RS :=
 codeF G PP (pol 184) CC lo c184_0 a184_0 (x0 :: x1 :: zn 17 []) σ (finR PP Tryz.f184.results.toList)
theorem f184_L0_eq (G : GuardT) (hG : GuardOk G) (lo : Nat) (x0 x1 x7 x8 : DV) (σ : Store) : f184_L0 G lo x0 x1 x7 x8 σ =
 (binOp PP .lss 3 x8 x7).bind fun x9 =>
 condK x9
 (
 (indexAddr PP 43 x0 x8).bind fun x14 =>
 (load PP 129 x14 σ).bind fun x15 =>
 (pureFn CC x1 [x15] σ).bind fun x16 =>
 condK x16
 (
 some (x8, σ)
 )
 (
 (binOp PP .add 3 x8 I1).bind fun x18 =>
 f184_L0 G lo x0 x1 x7 x18 σ
 )
 )
 (
 some ((DV.p (PV.int IntKind.i64 (-1))), σ)
 ) := (loopF_eq G hG).trans (by kernel_rfl)
theorem F184_eq (G : GuardT) (lo : Nat) (x0 x1 : DV) (σ : Store) : F184 G lo x0 x1 σ =
 (len PP 43 x0 σ).bind fun x7 =>
 f184_L0 G lo x0 x1 x7 I0 σ := by kernel_rfl
theorem F184_call {lo : Nat} {x0 x1 : DV} (h : F184 guardT lo x0 x1 σ = some r) : CC lo 184 [x0, x1] σ = some r :=
 callL_run Tryz.func184 (by decide +kernel) rfl (by decide +kernel) h
end
end Go.D
end
/- Chapter 13: lists that are values or slices of rows. -/
section
set_option linter.unusedVariables false
set_option linter.unusedSimpArgs false
set_option maxRecDepth 8000
namespace Go.D
open Las
def RL (σ : Store) (x : DV) (l : List Int) : Prop := (∃ o, x = .p (eSl o) ∧ L o = l) ∨ ∃ r off, x = .rsl r 1 off l.length ∧ RowS σ r off l
theorem RL.sl (σ : Store) (o : OI) : RL σ (.p (eSl o)) (L o) := .inl ⟨o, rfl, rfl⟩
section
variable {σ : Store} {x : DV} {l : List Int}
theorem RL.vw (h : RL σ x l) : view x = x := by
  rcases h with ⟨o, rfl, _⟩ | ⟨r, off, rfl, _⟩
  · exact sl_view o
  · rfl
theorem RL.vc (h : RL σ x l) : viewCell x = x := by
  rcases h with ⟨o, rfl, _⟩ | ⟨r, off, rfl, _⟩
  · simp [viewCell, loosen_sl]
  · rfl
theorem RL.len (h : RL σ x l) (τ : Store) : D.len PP 24 x τ = some (.p (.int .i64 (l.length : Nat))) := by
  rcases h with ⟨o, rfl, rfl⟩ | ⟨r, off, rfl, _⟩
  · exact len24 o τ
  · exact rs_len _ _ _ _
theorem RL.get (h : RL σ x l) {i : Nat} (hi : i < l.length) : ∃ p, indexAddr PP 24 x (.p (.int .i64 (i : Nat))) = some p ∧ load1 p σ = some (.p (.int .i64 (l.getD i 0))) := by
  rcases h with ⟨o, rfl, rfl⟩ | ⟨r, off, rfl, ⟨A, h1, h2, h3⟩⟩
  · exact ⟨_, (PL.sl o).idx hi, load1_getD hi σ⟩
  · refine ⟨_, rs_idx hi, ?_⟩
    rw [rs_ld h1 (by omega)]
    have e : l.getD i 0 = A.getD (off + i) 0 := by
      have : ((A.drop off).take l.length).getD i 0 = l.getD i 0 := by rw [h2]
      rw [← this, List.getD_eq_getElem?_getD, List.getD_eq_getElem?_getD, List.getElem?_take, if_pos hi, List.getElem?_drop]
    rw [e]
theorem RL.src (h : RL σ x l) : source σ 1 x = some (l.length, ints l) := by
  rcases h with ⟨o, rfl, rfl⟩ | ⟨r, off, rfl, ⟨A, h1, h2, h3⟩⟩
  · exact (PL.sl o).src σ
  · have h4 : off + l.length * 1 ≤ (ints A).length := by rw [ints_len]; omega
    have h5 : ((ints A).drop off).take (l.length * 1) = ints l := by rw [Nat.mul_one, ints_drop, ints_take, h2]
    simp only [source, if_true, loadN, h1, if_pos h4, h5, Option.map_some]
theorem RL.ext (h : RL σ x l) (τ : Store) : RL (σ ++ τ) x l := by
  rcases h with h | ⟨r, off, rfl, ⟨A, h1, h2, h3⟩⟩
  · exact .inl h
  · exact .inr ⟨r, off, rfl, ⟨A, by rw [List.getElem?_append_left (List.getElem?_eq_some_iff.1 h1).1]; exact h1, h2, h3⟩⟩
theorem RL.free (h : RL σ x l) (hf : rowFree1 x = true) (τ : Store) : RL τ x l := by
  rcases h with h | ⟨r, off, rfl, _⟩
  · exact .inl h
  · exact absurd hf (by simp [rowFree1])
theorem RL.one (h : RL σ x l) : x.one = true := by
  rcases h with ⟨o, rfl, _⟩ | ⟨r, off, rfl, _⟩ <;> rfl
theorem RL.undef (h : RL σ x l) : x.isUndef = false := by
  rcases h with ⟨o, rfl, _⟩ | ⟨r, off, rfl, _⟩ <;> rfl
end
theorem rs_appR {σ : Store} {r k lo : Nat} {A l : List Int} {x : DV} (h : σ[r]? = some (.mix (ints A))) (hs : source σ 1 x = some (l.length, ints l)) (hk : k + l.length ≤ A.length) (hA : A.length ≤ 100000) (hlo : lo ≤ r) :
    append PP lo true 24 24 (.rsl r 1 0 k) x σ = some (.rsl r 1 0 (k + l.length), σ.set r (.mix (ints (A.take k ++ l ++ A.drop (k + l.length))))) := by
  have e : splice (ints A) k (ints l) = ints (A.take k ++ l ++ A.drop (k + l.length)) := by
    unfold splice
    rw [ints_take, ints_len, ints_drop, ints_app, ints_app]
  have h2 : (k + l.length) * 8 ≤ 140737488355328 ∧ k + l.length ≤ 140737488355328 ∧ 0 < 8 ∧ 1 = 1 ∧ lo ≤ r := ⟨by omega, by omega, by decide, rfl, hlo⟩
  simp only [append, src24, Bool.true_eq_false, if_false, u24, s3, bytes3, zero3, List.length_singleton, ne_eq, not_true_eq_false, Nat.one_ne_zero, or_self, hs, appRow, h, ints_all, if_true, Nat.zero_add, Nat.mul_one, e]
  rw [if_pos ⟨h2.1, h2.2.1, h2.2.2.1, trivial, hlo⟩, if_pos (by rw [ints_len]; omega)]
theorem S84r {σ : Store} {rr : Nat} {a b : DV} {A B : List Int} (hr : σ[rr]? = some (.mix [a, b])) (ha : RL σ a A) (hb : RL σ b B) (h0 : 0 < A.length + B.length) (hl : A.length + B.length ≤ 10000) (lo : Nat) (hlo : lo ≤ σ.length) :
    CC lo 84 [.rsl rr 1 0 2] σ = some (.rsl σ.length 1 0 (A ++ B).length, σ ++ [.mix (ints (A ++ B))]) := by
  refine F84_call ?_
  have ln : ∀ σ, len PP 130 (.rsl rr 1 0 2) σ = some (.p (.int .i64 2)) := fun σ => by simp [len, u130]
  have i0 : indexAddr PP 130 (.rsl rr 1 0 2) (.p (.int .i64 0)) = some (.ptr rr 0) := by simp [indexAddr, u130, s24]
  have i1 : indexAddr PP 130 (.rsl rr 1 0 2) (.p (.int .i64 1)) = some (.ptr rr 1) := by simp [indexAddr, u130, s24]
  have d0 : ∀ τ, load1 (.ptr rr 0) (σ ++ τ) = some a := fun τ => load1_ptr (by rw [List.getElem?_append_left (List.getElem?_eq_some_iff.1 hr).1]; exact hr) rfl
  have d1 : ∀ τ, load1 (.ptr rr 1) (σ ++ τ) = some b := fun τ => load1_ptr (by rw [List.getElem?_append_left (List.getElem?_eq_some_iff.1 hr).1]; exact hr) rfl
  have d0' : load1 (.ptr rr 0) σ = some a := load1_ptr hr rfl
  have d1' : load1 (.ptr rr 1) σ = some b := load1_ptr hr rfl
  have z0 : binOp PP .add 3 (.p (.int .i64 0)) (.p (.int .i64 (A.length : Nat))) = some (.p (.int .i64 (A.length : Nat))) := by
    rw [b_add, Int.zero_add, wrap_ok (by omega) (by omega)]
  have n0 : ¬ ((A.length : Int) < 0) := by omega
  have n1 : ¬ (((A.length + B.length : Nat) : Int) < 0) := by omega
  have p0 : binOp PP .add 3 (.p (.int .i64 0)) (.p (.int .i64 1)) = some (.p (.int .i64 1)) := Eq.trans (by kernel_rfl) rfl
  have p1 : binOp PP .add 3 (.p (.int .i64 1)) (.p (.int .i64 1)) = some (.p (.int .i64 2)) := Eq.trans (by kernel_rfl) rfl
  have t0 : (0 : Int) < 2 := by decide
  have t1 : (1 : Int) < 2 := by decide
  have t2 : ¬ (2 : Int) < 2 := by decide
  have hz : (List.replicate (A.length + B.length) (0 : Int)).length = A.length + B.length := by simp
  have a1 := rs_appR (σ := σ ++ [.mix (ints (List.replicate (A.length + B.length) 0))]) (r := σ.length) (k := 0) (lo := lo) (x := a) (l := A) get_snoc (ha.ext _).src (by rw [hz]; omega) (by rw [hz]; omega) hlo
  simp only [List.take_zero, List.nil_append, Nat.zero_add, List.set_append_right _ _ (Nat.le_refl _), Nat.sub_self, List.set_cons_zero] at a1
  have hz2 : (A ++ (List.replicate (A.length + B.length) (0 : Int)).drop A.length).length = A.length + B.length := by simp
  have a2 := rs_appR (σ := σ ++ [.mix (ints (A ++ (List.replicate (A.length + B.length) 0).drop A.length))]) (r := σ.length) (k := A.length) (lo := lo) (x := b) (l := B) get_snoc (hb.ext _).src (by rw [hz2]; omega) (by rw [hz2]; omega) hlo
  have e1 : (A ++ (List.replicate (A.length + B.length) (0 : Int)).drop A.length).take A.length = A := by rw [List.take_append_of_le_length (Nat.le_refl _), List.take_length]
  have e2 : (A ++ (List.replicate (A.length + B.length) (0 : Int)).drop A.length).drop (A.length + B.length) = [] := List.drop_eq_nil_of_le (by rw [hz2]; omega)
  rw [e1, e2, List.append_nil] at a2
  simp only [List.set_append_right _ _ (Nat.le_refl _), Nat.sub_self, List.set_cons_zero] at a2
  rw [F84_eq, ln]
  simp only [obind]
  rw [f84_L0_eq guardT rfl]
  simp only [b_lss, ltT t0, gG, i0, load24, d0', ha.len, z0, ltF n0, f84_J0_eq, p0]
  rw [f84_L0_eq guardT rfl]
  simp only [b_lss, ltT t1, gG, i1, load24, d1', hb.len, addN (show A.length + B.length ≤ 1000000 by omega), ltF n1, f84_J0_eq, p1]
  rw [f84_L0_eq guardT rfl]
  simp only [b_lss, ltF t2, gG, plainFn, List.append_nil, S137 h0 (by omega), ln]
  rw [f84_L1_eq guardT rfl]
  simp only [b_lss, ltT t0, gG, i0, load24, d0, a1, p0]
  rw [f84_L1_eq guardT rfl]
  simp only [b_lss, ltT t1, gG, i1, load24, d1, a2, p1]
  rw [f84_L1_eq guardT rfl]
  simp only [b_lss, ltF t2, gG, List.length_append]
theorem ints_thaw (σ : Store) (m : Nat) (W : List Int) (hm : m ≤ σ.length) : thawAll m (σ ++ [Row.mix (ints W)]) (.rsl σ.length 1 0 W.length) = some (.p (eSl (some W))) := by
  have hb : 0 + W.length * 1 ≤ (ints W).length := by rw [ints_len]; omega
  have ht : ((ints W).drop 0).take (W.length * 1) = ints W := by rw [List.drop_zero, Nat.mul_one, List.take_of_length_le (by rw [ints_len]; exact Nat.le_refl _)]
  have hmm : ∀ (d : Nat) (l : List Int), mapO (thawP m (σ ++ [Row.mix (ints W)]) d) (ints l) = some (eInts l) := by
    intro d l
    induction l with
    | nil => rfl
    | cons a l ih =>
      have : ints (a :: l) = .p (.int .i64 a) :: ints l := rfl
      rw [this]
      cases d <;> simp [mapO, thawP, loosen, ih, eInts]
  have hg : (σ ++ [Row.mix (ints W)])[σ.length]? = some (.mix (ints W)) := get_snoc
  simp only [thawAll, thawPart, thaw, thaw1, thawP, hm, if_true, hg, if_pos hb, ht, hmm, Option.map_some]
  rfl
theorem S84q {σ : Store} {rr : Nat} {a b : DV} {A B : List Int} (hr : σ[rr]? = some (.mix [a, b])) (ha : RL σ a A) (hb : RL σ b B) (h0 : 0 < A.length + B.length) (hl : A.length + B.length ≤ 10000) :
    pureV CC 84 [.rsl rr 1 0 2] σ = some (.p (eSl (some (A ++ B)))) :=
  pureV_rows rfl rfl (S84r hr ha hb h0 hl σ.length (Nat.le_refl _)) (ints_thaw σ _ _ (Nat.le_refl _))
section
variable {x : DV} {l : List Int} {f : FuncId} {caps : List DV} {σ : Store} {q : Int → Bool} (hx : RL σ x l) (hl : l.length ≤ 100000) (hc : caps.all rowFree1 = false) (hq : ∀ v, pureV CC f (.p (.int .i64 v) :: caps) σ = some (.p (.bool (q v))))
include hx hl hq
theorem L122r {lo : Nat} : ∀ (k i : Nat), l.length - i = k → i ≤ l.length → f122_L0 guardT lo x (.fn f caps) (N l.length) (N i) σ = some (.p (.int .i64 (idxFrom q (l.drop i) i)), σ)
  | 0, i, hk, hi => by
    rw [f122_L0_eq guardT rfl, List.drop_eq_nil_of_le (by omega)]
    simp (disch := omega) only [N, b_lss, ltF, gG, idxFrom]
  | k + 1, i, hk, hi => by
    have h : i < l.length := by omega
    have ih := L122r (lo := lo) k (i + 1) (by omega) (by omega)
    obtain ⟨p, i1, l1⟩ := hx.get h
    rw [f122_L0_eq guardT rfl, drop_cons h]
    simp (disch := omega) only [N, b_lss, ltT, gG, i1, load3, l1, pureFn_fn, List.singleton_append, hq, idxFrom]
    cases q (l.getD i 0) with
    | true => simp only [gG, if_true]
    | false =>
      simp (disch := omega) only [gG, add1, Bool.false_eq_true, if_false]
      exact ih
include hc
theorem S122r : pureV CC 122 [x, .fn f caps] σ = some (.p (.int .i64 (idxFrom q l 0))) := by
  refine pureV_rows (by simp only [List.map_cons, List.map_nil, hx.vw, fn_view]) (by simp [rowFree] at hc ⊢; exact fun _ => hc) (F122_call (r := (.p (.int .i64 (idxFrom q l 0)), σ)) ?_) rfl
  rw [F122_eq]
  simp only [hx.len, obind]
  have := L122r (lo := σ.length) hx hl hq _ 0 rfl (Nat.zero_le _)
  simpa [N] using this
theorem S68r : pureV CC 68 [x, .fn f caps] σ = some (.p (.bool (l.any q))) := by
  refine pureV_rows (by simp only [List.map_cons, List.map_nil, hx.vw, fn_view]) (by simp [rowFree] at hc ⊢; exact fun _ => hc) (F68_call (r := (.p (.bool (l.any q)), σ)) ?_) rfl
  have h := S122r hx hl hc hq
  rw [F68_eq]
  simp only [shift_ptr, shift_pptr, Nat.zero_add, Nat.add_zero, pureFn_fn, List.append_nil, List.singleton_append, List.cons_append, List.nil_append, h, gG, b_geq, idxFrom_ge]
end
section
variable {o : Option (List Edg)} {f : FuncId} {caps : List DV} {σ : Store} {q : Edg → Bool} (hl : (L o).length ≤ 100000) (hc : caps.all rowFree1 = true) (hq : ∀ e, pureV CC f (.agg (edgD e) :: caps) σ = some (.p (.bool (q e))))
include hl hq
theorem L184 {lo : Nat} : ∀ (k i : Nat), (L o).length - i = k → i ≤ (L o).length → f184_L0 guardT lo (.p (eEs o)) (.fn f caps) (N (L o).length) (N i) σ = some (.p (.int .i64 (idxFrom q ((L o).drop i) i)), σ)
  | 0, i, hk, hi => by
    rw [f184_L0_eq guardT rfl, List.drop_eq_nil_of_le (by omega)]
    simp (disch := omega) only [N, b_lss, ltF, gG, idxFrom]
  | k + 1, i, hk, hi => by
    have h : i < (L o).length := by omega
    have ih := L184 (lo := lo) k (i + 1) (by omega) (by omega)
    have d := ld129 h σ
    rw [f184_L0_eq guardT rfl, drop_edg h]
    simp (disch := omega) only [N, b_lss, ltT, gG, idx43 h, load129, d, pureFn_fn, List.singleton_append, hq, idxFrom]
    cases q ((L o).getD i default) with
    | true => simp only [gG, if_true]
    | false =>
      simp (disch := omega) only [gG, add1, Bool.false_eq_true, if_false]
      exact ih
end
theorem es_view (o : Option (List Edg)) : view (.p (eEs o)) = .p (eEs o) := by simp [view, viewCell, loosen_es]
section
variable {o : Option (List Edg)} {f : FuncId} {caps : List DV} {q : Edg → Bool} (hl : (L o).length ≤ 100000) (hc : caps.all rowFree1 = true) (hq : ∀ e, pureV CC f (.agg (edgD e) :: caps) [] = some (.p (.bool (q e))))
include hl hq hc
theorem S184 (σ : Store) : pureV CC 184 [.p (eEs o), .fn f caps] σ = some (.p (.int .i64 (idxFrom q (L o) 0))) := by
  refine pureV_free (by simp only [List.map_cons, List.map_nil, es_view, fn_view]) (by simp [rowFree, rowFree1] at hc ⊢; exact hc) (F184_call (r := (.p (.int .i64 (idxFrom q (L o) 0)), [])) ?_) rfl
  rw [F184_eq]
  simp only [len43, obind]
  have := L184 (lo := 0) hl hq _ 0 rfl (Nat.zero_le _)
  simpa [N] using this
theorem S175 (σ : Store) : pureV CC 175 [.p (eEs o), .fn f caps] σ = some (.p (.bool ((L o).any q))) := by
  refine pureV_free (by simp only [List.map_cons, List.map_nil, es_view, fn_view]) (by simp [rowFree, rowFree1] at hc ⊢; exact hc) (F175_call (r := (.p (.bool ((L o).any q)), [])) ?_) rfl
  have h := fun σ => S184 hl hc hq σ
  rw [F175_eq]
  simp only [shift_ptr, shift_pptr, Nat.zero_add, Nat.add_zero, pureFn_fn, List.append_nil, List.singleton_append, List.cons_append, List.nil_append, h, gG, b_geq, idxFrom_ge]
end
def qE (s a : Int) (e : Edg) : Bool := decide (e.f = s) && (!decide (e.t = s) && decide (e.a = a))
def enb (x : Lb) (s a : Int) : Bool := (L x.g.edges).any (qE s a)
theorem box_int (n : Int) : boxP (.p (.int .i64 n)) = some (.pptr [pI n] 0) := rfl
theorem int_0 (n : Int) (σ : Store) : load1 (.pptr [pI n] 0) σ = some (.p (.int .i64 n)) := load1_pptr rfl σ
theorem S176 (e : Edg) (s a : Int) (σ : Store) : pureV CC 176 [.agg (edgD e), .pptr [pI s] 0, .pptr [pI a] 0] σ = some (.p (.bool (qE s a e))) := by
  refine pureV_free rfl rfl (F176_call (r := (.p (.bool (qE s a e)), [])) ?_) rfl
  rw [F176_eq]
  unfold qE
  by_cases c1 : e.f = s
  · by_cases c2 : e.t = s
    · simp only [box_edgP, gG, fa129_0, fa129_1, fa129_2, shift_ptr, shift_pptr, Nat.zero_add, Nat.add_zero, pureFn_fn, List.append_nil, List.singleton_append, List.cons_append, List.nil_append, load3, edg_0, edg_1, edg_2, int_0, b_eql, b_neq, eqT c1, eqT c2, decide_eq_true c1, decide_eq_true c2, Bool.false_and, Bool.and_false]
    · simp only [box_edgP, gG, fa129_0, fa129_1, fa129_2, shift_ptr, shift_pptr, Nat.zero_add, Nat.add_zero, pureFn_fn, List.append_nil, List.singleton_append, List.cons_append, List.nil_append, load3, edg_0, edg_1, edg_2, int_0, b_eql, b_neq, eqT c1, eqF c2, decide_eq_true c1, decide_eq_false c2, Bool.true_and]
  · simp only [box_edgP, gG, fa129_0, fa129_1, fa129_2, shift_ptr, shift_pptr, Nat.zero_add, Nat.add_zero, pureFn_fn, List.append_nil, List.singleton_append, List.cons_append, List.nil_append, load3, edg_0, edg_1, edg_2, int_0, b_eql, b_neq, eqF c1, decide_eq_false c1, Bool.false_and]
theorem S158 {x : Lb} (hx : LSm x) (s a : Int) (σ : Store) : pureV CC 158 [vLb x, .p (.int .i64 s), .p (.int .i64 a)] σ = some (.p (.bool (enb x s a))) := by
  refine pureV_free (by simp only [List.map_cons, List.map_nil, lb_view, int_view]) rfl (F158_call (r := (.p (.bool (enb x s a)), [])) ?_) rfl
  have h := fun σ => S175 (o := x.g.edges) (f := 176) (caps := [.pptr [pI s] 0, .pptr [pI a] 0]) (q := qE s a) (by have := hx.e; omega) rfl (fun e => S176 e s a []) σ
  rw [F158_eq]
  simp only [box_lb, box_int, gG, fa47_0, fa45_2, shift_ptr, shift_pptr, Nat.zero_add, Nat.add_zero, pureFn_fn, List.append_nil, List.singleton_append, List.cons_append, List.nil_append, load43, lb_2, h]
  rfl
def stA (x : Lb) (s t a : Int) : Bool := decide (a ∈ actsL (L x.g.edges) s t)
def anyF (p : Nat → Bool) : Nat → Nat → Bool
  | _, 0 => false
  | i, k + 1 => p i || anyF p (i + 1) k
def tkn (x : Lb) (Q : List Int) (a : Int) : Bool := anyF (fun i => stA x (Q.getD i 0) (Q.getD (nx Q.length 0 i) 0) a) 0 Q.length
section
variable {x : Lb} (hx : LSm x) {q : DV} {Q : List Int}
include hx
theorem L160 {lo : Nat} {σ : Store} (hq : RL σ q Q) (hl : Q.length ≤ 1000) (a : Int) {r : Nat} (hr : σ[r]? = some (.mix (rgD Q.length 0))) : ∀ (k i : Nat), Q.length - i = k → i ≤ Q.length →
    f160_L0 guardT lo q (.p (.int .i64 a)) (.pptr (eLb x) 0) (.ptr r 0) q (N Q.length) (N i) σ = some (.p (.bool (anyF (fun i => stA x (Q.getD i 0) (Q.getD (nx Q.length 0 i) 0) a) i k)), σ)
  | 0, i, hk, hi => by
    rw [f160_L0_eq guardT rfl]
    simp (disch := omega) only [N, b_lss, ltF, gG, anyF]
  | k + 1, i, hk, hi => by
    have ih := L160 (lo := lo) hq hl a hr k (i + 1) (by omega) (by omega)
    have h : i < Q.length := by omega
    have hnx : nx Q.length 0 i < Q.length := nx_lt (by omega) h
    have ld : (loadN σ 2 (.ptr r 0)).map DV.agg = some (vRg Q.length 0) := by
      rw [loadN_ptr (off := 0) (n := 2) (vs := rgD Q.length 0) hr rfl (by simp [rgD])]; rfl
    have s93 := fun σ => S93 (n := Q.length) (back := 0) (i := i) (by omega) hl h σ
    obtain ⟨p1, i1, l1⟩ := hq.get h
    obtain ⟨p2, i2, l2⟩ := hq.get hnx
    have s142 := fun s t σ => S142 hx s t σ
    have hle : (actsL (L x.g.edges) (Q.getD i 0) (Q.getD (nx Q.length 0 i) 0)).length ≤ 100000 := by
      have h1 : (actsL (L x.g.edges) (Q.getD i 0) (Q.getD (nx Q.length 0 i) 0)).length ≤ (L x.g.edges).length := by
        unfold actsL; rw [List.length_map]; exact List.length_filter_le _ _
      have := hx.e
      omega
    have s91 := fun σ => S91 (o := oI (actsL (L x.g.edges) (Q.getD i 0) (Q.getD (nx Q.length 0 i) 0))) (by rw [L_oI]; exact hle) a σ
    rw [L_oI] at s91
    simp only [N] at ih
    rw [f160_L0_eq guardT rfl]
    unfold anyF
    cases c : stA x (Q.getD i 0) (Q.getD (nx Q.length 0 i) 0) a with
    | true =>
      unfold stA at c
      simp (disch := omega) only [N, b_lss, ltT, gG, i1, load3, l1, load47, lb_all, load135, ld, shift_ptr, shift_pptr, Nat.zero_add, Nat.add_zero, pureFn_fn, List.append_nil, List.singleton_append, List.cons_append, List.nil_append, s93, i2, l2, s142, s91, c, Bool.true_or]
    | false =>
      unfold stA at c
      simp (disch := omega) only [N, b_lss, ltT, gG, i1, load3, l1, load47, lb_all, load135, ld, shift_ptr, shift_pptr, Nat.zero_add, Nat.add_zero, pureFn_fn, List.append_nil, List.singleton_append, List.cons_append, List.nil_append, s93, i2, l2, s142, s91, c, Bool.false_or, add1]
      exact ih
end
end Go.D
end
/- Chapter 13: fairness, by the program and by the reference. -/
section
set_option linter.unusedVariables false
set_option linter.unusedSimpArgs false
set_option maxRecDepth 8000
namespace Go.D
open Las
theorem st135g {lo : Nat} {σ : Store} (hlo : lo ≤ σ.length) (n b : Nat) : store PP lo 135 (.ptr σ.length 0) (.agg (rgD n b)) (σ ++ [.mix [.p (pI 0), .p (pI 0)]]) = some (σ ++ [.mix (rgD n b)]) := by
  have s135 : size? PP 135 = some 2 := Eq.trans (by kernel_rfl) rfl
  have hone : (rgD n b).all DV.one = true := rfl
  have hs : splice [DV.p (pI 0), .p (pI 0)] 0 (rgD n b) = rgD n b := rfl
  simp [store, s135, DV.cells, storeN, hone, rgD, hlo]
  exact ⟨⟨rfl, rfl⟩, by simpa [rgD] using hs⟩
theorem b135_0 (n : Nat) : build PP 135 [(0, .p (.int .i64 (n : Nat)))] = some (.agg (rgD n 0)) := Eq.trans (by kernel_rfl) rfl
theorem st3n {lo : Nat} {σ : Store} (hlo : lo ≤ σ.length) (v : Int) : store PP lo 3 (.ptr σ.length 0) (.p (.int .i64 v)) (σ ++ [.mix [.p (pI 0)]]) = some (σ ++ [.mix [.p (pI v)]]) := by
  simp [store, s3, DV.cells, storeN, DV.one, hlo, splice]
section
variable {x : Lb} (hx : LSm x) {q : DV} {Q : List Int} {σ : Store} (hq : RL σ q Q) (hl : Q.length ≤ 1000)
include hx hq hl
theorem S160 (a : Int) : pureV CC 160 [vLb x, q, .p (.int .i64 a)] σ = some (.p (.bool (tkn x Q a))) := by
  refine pureV_any (by simp only [List.map_cons, List.map_nil, lb_view, int_view, hq.vw]) fun lo σ0 hs => ?_
  have h0 : RL σ0 q Q ∧ lo ≤ σ0.length := by
    rcases hs with ⟨rfl, rfl, h⟩ | ⟨rfl, rfl, _⟩
    · refine ⟨hq.free ?_ [], Nat.le_refl _⟩
      simp only [List.all_cons, Bool.and_eq_true] at h
      rcases hq with ⟨o, rfl, _⟩ | ⟨r, off, rfl, _⟩
      · rfl
      · exact absurd h.2.1 (by simp [rowFree, rowFree1])
    · exact ⟨hq, Nat.le_refl _⟩
  obtain ⟨hq0, hlo⟩ := h0
  have h := L160 hx (hq0.ext [.mix (rgD Q.length 0)]) hl a (lo := lo) (r := σ0.length) get_snoc Q.length 0 rfl (Nat.zero_le _)
  simp only [N] at h
  refine ⟨_, σ0 ++ [.mix (rgD Q.length 0)], F160_call (r := (.p (.bool (tkn x Q a)), σ0 ++ [.mix (rgD Q.length 0)])) ?_, rfl⟩
  rw [F160_eq]
  simp only [box_lb, gG, hq0.len, b135_0, zero135, st135g hlo]
  exact h
omit hq hl in
theorem S159 {r : Nat} {a : Int} (hr : σ[r]? = some (.mix [.p (pI a)])) (v : Int) : pureV CC 159 [.p (.int .i64 v), .pptr (eLb x) 0, .ptr r 0] σ = some (.p (.bool (!enb x v a))) := by
  have h := fun σ => S158 hx v a σ
  refine pureV_rows rfl rfl (F159_call (r := (.p (.bool (!enb x v a)), σ)) ?_) rfl
  rw [F159_eq]
  simp only [load47, lb_all, gG, load3, load1_ptr (off := 0) hr rfl, shift_ptr, shift_pptr, Nat.zero_add, Nat.add_zero, pureFn_fn, List.append_nil, List.singleton_append, List.cons_append, List.nil_append, h]
omit hq hl in
theorem S161 {r : Nat} {a : Int} (hr : σ[r]? = some (.mix [.p (pI a)])) (v : Int) : pureV CC 161 [.p (.int .i64 v), .pptr (eLb x) 0, .ptr r 0] σ = some (.p (.bool (enb x v a))) := by
  have h := fun σ => S158 hx v a σ
  refine pureV_rows rfl rfl (F161_call (r := (.p (.bool (enb x v a)), σ)) ?_) rfl
  rw [F161_eq]
  simp only [load47, lb_all, gG, load3, load1_ptr (off := 0) hr rfl, shift_ptr, shift_pptr, Nat.zero_add, Nat.add_zero, pureFn_fn, List.append_nil, List.singleton_append, List.cons_append, List.nil_append, h]
end
def okW (x : Lb) (Q : List Int) (a : Int) : Bool := Q.any (fun s => !enb x s a) || tkn x Q a
def okS (x : Lb) (Q : List Int) (a : Int) : Bool := !(Q.any fun s => enb x s a) || tkn x Q a
def isF (x : Lb) (Q : List Int) : Bool := (L x.we).all (okW x Q) && (L x.sr).all (okS x Q)
section
variable {x : Lb} (hx : LSm x) {p q : DV} {Q : List Int} (hl : Q.length ≤ 1000)
include hx hl
theorem L118_1 {lo rl : Nat} : ∀ (k i : Nat) (σ : Store), lo ≤ σ.length → RL σ q Q → σ[rl]? = some (.mix [p, q]) → (L x.sr).length - i = k → i ≤ (L x.sr).length →
    ∃ σ', f118_L1 guardT lo (.pptr (eLb x) 0) (.ptr rl 0) (.p (eSl x.sr)) (N (L x.sr).length) (N i) σ = some (.p (.bool (((L x.sr).drop i).all (okS x Q))), σ')
  | 0, i, σ, hlo, hq, hr, hk, hi => by
    refine ⟨σ, ?_⟩
    rw [f118_L1_eq guardT rfl, List.drop_eq_nil_of_le (by omega)]
    simp (disch := omega) only [N, b_lss, ltF, gG, List.all_nil]
  | k + 1, i, σ, hlo, hq, hr, hk, hi => by
    have he := hx.sr
    have h : i < (L x.sr).length := by omega
    have hq1 := hq.ext [.mix [.p (pI ((L x.sr).getD i 0))]]
    obtain ⟨σ', ih⟩ := L118_1 (lo := lo) (rl := rl) k (i + 1) (σ ++ [.mix [.p (pI ((L x.sr).getD i 0))]]) (by simp; omega) hq1 (get_old hr) (by omega) (by omega)
    have ra : (σ ++ [Row.mix [.p (pI ((L x.sr).getD i 0))]])[σ.length]? = some (.mix [.p (pI ((L x.sr).getD i 0))]) := get_snoc
    have l1 : load1 (.ptr rl 1) (σ ++ [Row.mix [.p (pI ((L x.sr).getD i 0))]]) = some q := load1_ptr (get_old hr) rfl
    have la : load1 (.ptr σ.length 0) (σ ++ [Row.mix [.p (pI ((L x.sr).getD i 0))]]) = some (.p (pI ((L x.sr).getD i 0))) := load1_ptr ra rfl
    have s68 := S68r (f := 161) (caps := [.pptr (eLb x) 0, .ptr σ.length 0]) (q := fun s => enb x s ((L x.sr).getD i 0)) hq1 (by omega) rfl (fun v => S161 hx ra v)
    have s160 := S160 hx hq1 hl ((L x.sr).getD i 0)
    simp only [N] at ih
    rw [f118_L1_eq guardT rfl, drop_cons h, List.all_cons]
    cases c1 : Q.any (fun s => enb x s ((L x.sr).getD i 0)) with
    | false =>
      have e : okS x Q ((L x.sr).getD i 0) = true := by unfold okS; rw [c1]; rfl
      refine ⟨σ', ?_⟩
      rw [c1] at s68
      simp (disch := omega) only [N, b_lss, ltT, gG, (PL.sl x.sr).idx h, load3, load1_getD h, zero3, st3n, fa52_1, shift_ptr, shift_pptr, Nat.zero_add, Nat.add_zero, pureFn_fn, List.append_nil, List.singleton_append, List.cons_append, List.nil_append, load24, l1, s68, e, Bool.true_and, add1, ih]
    | true =>
      rw [c1] at s68
      cases c2 : tkn x Q ((L x.sr).getD i 0) with
      | true =>
        have e : okS x Q ((L x.sr).getD i 0) = true := by unfold okS; rw [c1, c2]; rfl
        refine ⟨σ', ?_⟩
        simp (disch := omega) only [N, b_lss, ltT, gG, (PL.sl x.sr).idx h, load3, load1_getD h, zero3, st3n, fa52_1, shift_ptr, shift_pptr, Nat.zero_add, Nat.add_zero, pureFn_fn, List.append_nil, List.singleton_append, List.cons_append, List.nil_append, load24, l1, s68, load47, lb_all, la, s160, c2, e, Bool.true_and, add1, ih]
      | false =>
        have e : okS x Q ((L x.sr).getD i 0) = false := by unfold okS; rw [c1, c2]; rfl
        refine ⟨σ ++ [.mix [.p (pI ((L x.sr).getD i 0))]], ?_⟩
        simp (disch := omega) only [N, b_lss, ltT, gG, (PL.sl x.sr).idx h, load3, load1_getD h, zero3, st3n, fa52_1, shift_ptr, shift_pptr, Nat.zero_add, Nat.add_zero, pureFn_fn, List.append_nil, List.singleton_append, List.cons_append, List.nil_append, load24, l1, s68, load47, lb_all, la, s160, c2, e, Bool.false_and]
theorem L118_0 {lo rl : Nat} : ∀ (k i : Nat) (σ : Store), lo ≤ σ.length → RL σ q Q → σ[rl]? = some (.mix [p, q]) → (L x.we).length - i = k → i ≤ (L x.we).length →
    ∃ σ', f118_L0 guardT lo (.pptr (eLb x) 0) (.ptr rl 0) (.p (eSl x.we)) (N (L x.we).length) (N i) σ = some (.p (.bool (((L x.we).drop i).all (okW x Q) && (L x.sr).all (okS x Q))), σ')
  | 0, i, σ, hlo, hq, hr, hk, hi => by
    obtain ⟨σ', h1⟩ := L118_1 hx hl (lo := lo) (rl := rl) (p := p) _ 0 σ hlo hq hr rfl (Nat.zero_le _)
    refine ⟨σ', ?_⟩
    rw [List.drop_zero] at h1
    simp only [N] at h1
    rw [f118_L0_eq guardT rfl, List.drop_eq_nil_of_le (by omega)]
    simp (disch := omega) only [N, b_lss, ltF, gG, List.all_nil, Bool.true_and, fa47_5, shift_ptr, shift_pptr, Nat.zero_add, Nat.add_zero, pureFn_fn, List.append_nil, List.singleton_append, List.cons_append, List.nil_append, load24, lb_7, len24]
    exact h1
  | k + 1, i, σ, hlo, hq, hr, hk, hi => by
    have he := hx.we
    have h : i < (L x.we).length := by omega
    have hq1 := hq.ext [.mix [.p (pI ((L x.we).getD i 0))]]
    obtain ⟨σ', ih⟩ := L118_0 (lo := lo) (rl := rl) k (i + 1) (σ ++ [.mix [.p (pI ((L x.we).getD i 0))]]) (by simp; omega) hq1 (get_old hr) (by omega) (by omega)
    have ra : (σ ++ [Row.mix [.p (pI ((L x.we).getD i 0))]])[σ.length]? = some (.mix [.p (pI ((L x.we).getD i 0))]) := get_snoc
    have l1 : load1 (.ptr rl 1) (σ ++ [Row.mix [.p (pI ((L x.we).getD i 0))]]) = some q := load1_ptr (get_old hr) rfl
    have la : load1 (.ptr σ.length 0) (σ ++ [Row.mix [.p (pI ((L x.we).getD i 0))]]) = some (.p (pI ((L x.we).getD i 0))) := load1_ptr ra rfl
    have s68 := S68r (f := 159) (caps := [.pptr (eLb x) 0, .ptr σ.length 0]) (q := fun s => !enb x s ((L x.we).getD i 0)) hq1 (by omega) rfl (fun v => S159 hx ra v)
    have s160 := S160 hx hq1 hl ((L x.we).getD i 0)
    simp only [N] at ih
    rw [f118_L0_eq guardT rfl, drop_cons h, List.all_cons]
    cases c1 : Q.any (fun s => !enb x s ((L x.we).getD i 0)) with
    | true =>
      have e : okW x Q ((L x.we).getD i 0) = true := by unfold okW; rw [c1]; rfl
      refine ⟨σ', ?_⟩
      rw [c1] at s68
      simp (disch := omega) only [N, b_lss, ltT, gG, (PL.sl x.we).idx h, load3, load1_getD h, zero3, st3n, fa52_1, shift_ptr, shift_pptr, Nat.zero_add, Nat.add_zero, pureFn_fn, List.append_nil, List.singleton_append, List.cons_append, List.nil_append, load24, l1, s68, e, Bool.true_and, add1, ih]
    | false =>
      rw [c1] at s68
      cases c2 : tkn x Q ((L x.we).getD i 0) with
      | true =>
        have e : okW x Q ((L x.we).getD i 0) = true := by unfold okW; rw [c1, c2]; rfl
        refine ⟨σ', ?_⟩
        simp (disch := omega) only [N, b_lss, ltT, gG, (PL.sl x.we).idx h, load3, load1_getD h, zero3, st3n, fa52_1, shift_ptr, shift_pptr, Nat.zero_add, Nat.add_zero, pureFn_fn, List.append_nil, List.singleton_append, List.cons_append, List.nil_append, load24, l1, s68, load47, lb_all, la, s160, c2, e, Bool.true_and, add1, ih]
      | false =>
        have e : okW x Q ((L x.we).getD i 0) = false := by unfold okW; rw [c1, c2]; rfl
        refine ⟨σ ++ [.mix [.p (pI ((L x.we).getD i 0))]], ?_⟩
        simp (disch := omega) only [N, b_lss, ltT, gG, (PL.sl x.we).idx h, load3, load1_getD h, zero3, st3n, fa52_1, shift_ptr, shift_pptr, Nat.zero_add, Nat.add_zero, pureFn_fn, List.append_nil, List.singleton_append, List.cons_append, List.nil_append, load24, l1, s68, load47, lb_all, la, s160, c2, e, Bool.false_and]
omit hx hl in
theorem two_free {σ σ0 : Store} {lo : Nat} {P : List Int} (hp : RL σ p P) (hq : RL σ q Q) (hs : (σ0 = [] ∧ lo = 0 ∧ ([vLb x, .agg [p, q]] : List DV).all rowFree = true) ∨ (σ0 = σ ∧ lo = σ.length ∧ ([vLb x, .agg [p, q]] : List DV).all rowFree = false)) : RL σ0 p P ∧ RL σ0 q Q ∧ lo ≤ σ0.length := by
  rcases hs with ⟨rfl, rfl, h⟩ | ⟨rfl, rfl, _⟩
  · simp only [List.all_cons, List.all_nil, rowFree, Bool.and_true, Bool.and_eq_true] at h
    exact ⟨hp.free h.2.1 [], hq.free h.2.2 [], Nat.le_refl _⟩
  · exact ⟨hp, hq, Nat.le_refl _⟩
omit hx hl in
theorem box_two {σ : Store} {P : List Int} (hp : RL σ p P) (hq : RL σ q Q) : boxV (.agg [p, q]) = some [p, q] := by
  unfold boxV
  simp only [DV.cells, List.all_cons, List.all_nil, hp.one, hq.one, Bool.and_self, if_true]
omit hx hl in
theorem ls_view {σ : Store} {P : List Int} (hp : RL σ p P) (hq : RL σ q Q) : view (.agg [p, q]) = .agg [p, q] := by
  show DV.agg [viewCell p, viewCell q] = _
  rw [hp.vc, hq.vc]
theorem S118 {σ : Store} {P : List Int} (hp : RL σ p P) (hq : RL σ q Q) : pureV CC 118 [vLb x, .agg [p, q]] σ = some (.p (.bool (isF x Q))) := by
  refine pureV_any (by simp only [List.map_cons, List.map_nil, lb_view, ls_view hp hq]) fun lo σ0 hs => ?_
  obtain ⟨hp0, hq0, hlo⟩ := two_free hp hq hs
  obtain ⟨σ', h⟩ := L118_0 hx hl (lo := lo) (rl := σ0.length) (p := p) _ 0 (σ0 ++ [.mix [p, q]]) (by simp; omega) (hq0.ext _) get_snoc rfl (Nat.zero_le _)
  rw [List.drop_zero] at h
  simp only [N] at h
  refine ⟨_, σ', F118_call (r := (.p (.bool (isF x Q)), σ')) ?_, rfl⟩
  rw [F118_eq]
  simp only [box_lb, box_two hp0 hq0, gG, fa47_4, shift_ptr, shift_pptr, Nat.zero_add, Nat.add_zero, pureFn_fn, List.append_nil, List.singleton_append, List.cons_append, List.nil_append, load24, lb_6, len24]
  exact h
end
theorem eq129 (a b : Edg) : binOp PP .eql 129 (.agg (edgD a)) (.agg (edgD b)) = some (.p (.bool (decide (a = b)))) := by
  have h : binOp PP .eql 129 (.agg (edgD a)) (.agg (edgD b)) = (match some (a.f == b.f) with
      | some true => (match some (a.t == b.t) with
        | some true => (match some (a.a == b.a) with
          | some true => some true
          | r => r)
        | r => r)
      | r => r).map fun b => .p (.bool b) := by kernel_rfl
  have e1 : decide (a = b) = (a.f == b.f && (a.t == b.t && a.a == b.a)) := by
    rcases a with ⟨a1, a2, a3⟩
    rcases b with ⟨b1, b2, b3⟩
    rw [Bool.eq_iff_iff]
    simp
  rw [h, e1]
  cases a.f == b.f <;> cases a.t == b.t <;> cases a.a == b.a <;> rfl
theorem edgP_all (e : Edg) (σ : Store) : (loadN σ 3 (.pptr (eEdgP e) 0)).map DV.agg = some (.agg (edgD e)) := rfl
theorem L162 {g : Gr} (he : (L g.edges).length ≤ 10000) (e : Edg) : ∀ (k i : Nat) (σ : Store), (L g.edges).length - i = k → i ≤ (L g.edges).length →
    f162_L0 guardT 0 (.pptr (eGrP g) 0) (.pptr (eEdgP e) 0) (N i) σ = some (.p (.bool (((L g.edges).drop i).any fun b => decide (b = e))), σ)
  | 0, i, σ, hk, hi => by
    rw [f162_L0_eq guardT rfl, List.drop_eq_nil_of_le (by omega)]
    simp (disch := omega) only [N, fa45_2, shift_ptr, shift_pptr, Nat.zero_add, Nat.add_zero, pureFn_fn, List.append_nil, List.singleton_append, List.cons_append, List.nil_append, load43, gr_2, len43, b_lss, ltF, gG, List.any_nil]
  | k + 1, i, σ, hk, hi => by
    have h : i < (L g.edges).length := by omega
    have ih := L162 he e k (i + 1) σ (by omega) (by omega)
    have d := ld129 h σ
    simp only [N] at ih
    rw [f162_L0_eq guardT rfl, drop_edg h, List.any_cons]
    cases c : decide ((L g.edges).getD i default = e) with
    | true => simp (disch := omega) only [N, fa45_2, shift_ptr, shift_pptr, Nat.zero_add, Nat.add_zero, pureFn_fn, List.append_nil, List.singleton_append, List.cons_append, List.nil_append, load43, gr_2, len43, b_lss, ltT, gG, idx43 h, load129, d, edgP_all, eq129, c, Bool.true_or]
    | false => simp (disch := omega) only [N, fa45_2, shift_ptr, shift_pptr, Nat.zero_add, Nat.add_zero, pureFn_fn, List.append_nil, List.singleton_append, List.cons_append, List.nil_append, load43, gr_2, len43, b_lss, ltT, gG, idx43 h, load129, d, edgP_all, eq129, c, Bool.false_or, add1, ih]
theorem stA_iff (x : Lb) (s t a : Int) : stA x s t a = (!decide (s = t) && (L x.g.edges).any fun b => decide (b = (⟨s, t, a⟩ : Edg))) := by
  unfold stA actsL
  rw [Bool.eq_iff_iff, decide_eq_true_iff, Bool.and_eq_true, List.any_eq_true, List.mem_map, Bool.not_eq_true', decide_eq_false_iff_not]
  constructor
  · rintro ⟨e, he, rfl⟩
    rw [List.mem_filter] at he
    obtain ⟨h1, h2⟩ := he
    unfold qst at h2
    rw [Bool.and_eq_true, Bool.and_eq_true, decide_eq_true_iff, decide_eq_true_iff, Bool.not_eq_true', decide_eq_false_iff_not] at h2
    obtain ⟨h3, h4, h5⟩ := h2
    refine ⟨h5, e, h1, ?_⟩
    rw [decide_eq_true_iff, ← h3, ← h4]
  · rintro ⟨h1, e, h2, h3⟩
    rw [decide_eq_true_iff] at h3
    subst h3
    refine ⟨_, List.mem_filter.2 ⟨h2, ?_⟩, rfl⟩
    unfold qst
    rw [decide_eq_true rfl, decide_eq_true rfl, decide_eq_false h1]; rfl
theorem S162 {x : Lb} (he : (L x.g.edges).length ≤ 10000) (s t a : Int) (σ : Store) : pureV CC 162 [vGr x.g, .agg (edgD ⟨s, t, a⟩)] σ = some (.p (.bool (stA x s t a))) := by
  refine pureV_free (by simp only [List.map_cons, List.map_nil, gr_view, edg_view]) rfl (F162_call (r := (.p (.bool (stA x s t a)), [])) ?_) rfl
  have h := L162 he (⟨s, t, a⟩ : Edg) _ 0 [] rfl (Nat.zero_le _)
  rw [List.drop_zero] at h
  rw [F162_eq, stA_iff]
  simp only [N] at h
  have e0 := edg_0 (⟨s, t, a⟩ : Edg)
  have e1 := edg_1 (⟨s, t, a⟩ : Edg)
  simp only at e0 e1
  by_cases c : s = t
  · rw [decide_eq_true c]
    simp only [box_gr, box_edgP, gG, fa129_0, fa129_1, shift_ptr, shift_pptr, Nat.zero_add, Nat.add_zero, pureFn_fn, List.append_nil, List.singleton_append, List.cons_append, List.nil_append, load3, e0, e1, b_eql, eqT c, Bool.false_and]
  · rw [decide_eq_false c]
    simp only [box_gr, box_edgP, gG, fa129_0, fa129_1, shift_ptr, shift_pptr, Nat.zero_add, Nat.add_zero, pureFn_fn, List.append_nil, List.singleton_append, List.cons_append, List.nil_append, load3, e0, e1, b_eql, eqF c, Bool.true_and]
    exact h
theorem L164 {g : Gr} (he : (L g.edges).length ≤ 10000) (s a : Int) : ∀ (k i : Nat) (σ : Store), (L g.edges).length - i = k → i ≤ (L g.edges).length →
    ∃ σ', f164_L0 guardT 0 (.p (.int .i64 s)) (.p (.int .i64 a)) (.pptr (eGrP g) 0) (N i) σ = some (.p (.bool (((L g.edges).drop i).any (qE s a))), σ')
  | 0, i, σ, hk, hi => by
    refine ⟨σ, ?_⟩
    rw [f164_L0_eq guardT rfl, List.drop_eq_nil_of_le (by omega)]
    simp (disch := omega) only [N, fa45_2, shift_ptr, shift_pptr, Nat.zero_add, Nat.add_zero, pureFn_fn, List.append_nil, List.singleton_append, List.cons_append, List.nil_append, load43, gr_2, len43, b_lss, ltF, gG, List.any_nil]
  | k + 1, i, σ, hk, hi => by
    have h : i < (L g.edges).length := by omega
    have hr : (σ ++ [Row.mix (edgD ((L g.edges).getD i default))])[σ.length]? = some (.mix (edgD ((L g.edges).getD i default))) := get_snoc
    obtain ⟨σ', ih⟩ := L164 he s a k (i + 1) (σ ++ [Row.mix (edgD ((L g.edges).getD i default))]) (by omega) (by omega)
    have d := ld129 h σ
    have r0 := load1_ptr (off := 0) hr rfl
    have r1 := load1_ptr (off := 1) hr rfl
    have r2 := load1_ptr (off := 2) hr rfl
    simp only [N] at ih
    rw [f164_L0_eq guardT rfl, drop_edg h, List.any_cons]
    unfold qE at ih ⊢
    by_cases c1 : ((L g.edges).getD i default).f = s
    · by_cases c2 : ((L g.edges).getD i default).a = a
      · by_cases c3 : ((L g.edges).getD i default).t = s
        · refine ⟨σ', ?_⟩
          simp (disch := omega) only [N, fa45_2, shift_ptr, shift_pptr, Nat.zero_add, Nat.add_zero, pureFn_fn, List.append_nil, List.singleton_append, List.cons_append, List.nil_append, load43, gr_2, len43, b_lss, ltT, gG, idx43 h, load129, d, zero129, st129, fa129_0, fa129_1, fa129_2, load3, r0, r1, r2, b_eql, b_neq, eqT c1, eqT c2, eqT c3, decide_eq_true c1, decide_eq_true c2, decide_eq_true c3, Bool.true_and, Bool.false_and, Bool.false_or, add1, ih]
        · refine ⟨σ ++ [Row.mix (edgD ((L g.edges).getD i default))], ?_⟩
          simp (disch := omega) only [N, fa45_2, shift_ptr, shift_pptr, Nat.zero_add, Nat.add_zero, pureFn_fn, List.append_nil, List.singleton_append, List.cons_append, List.nil_append, load43, gr_2, len43, b_lss, ltT, gG, idx43 h, load129, d, zero129, st129, fa129_0, fa129_1, fa129_2, load3, r0, r1, r2, b_eql, b_neq, eqT c1, eqT c2, eqF c3, decide_eq_true c1, decide_eq_true c2, decide_eq_false c3, Bool.true_and, Bool.true_or]
      · refine ⟨σ', ?_⟩
        simp (disch := omega) only [N, fa45_2, shift_ptr, shift_pptr, Nat.zero_add, Nat.add_zero, pureFn_fn, List.append_nil, List.singleton_append, List.cons_append, List.nil_append, load43, gr_2, len43, b_lss, ltT, gG, idx43 h, load129, d, zero129, st129, fa129_0, fa129_1, fa129_2, load3, r0, r1, r2, b_eql, b_neq, eqT c1, eqF c2, decide_eq_true c1, decide_eq_false c2, Bool.and_false, Bool.false_and, Bool.false_or, add1, ih]
    · refine ⟨σ', ?_⟩
      simp (disch := omega) only [N, fa45_2, shift_ptr, shift_pptr, Nat.zero_add, Nat.add_zero, pureFn_fn, List.append_nil, List.singleton_append, List.cons_append, List.nil_append, load43, gr_2, len43, b_lss, ltT, gG, idx43 h, load129, d, zero129, st129, fa129_0, fa129_1, fa129_2, load3, r0, r1, r2, b_eql, b_neq, eqF c1, decide_eq_false c1, Bool.and_false, Bool.false_and, Bool.false_or, add1, ih]
theorem S164 {x : Lb} (he : (L x.g.edges).length ≤ 10000) (s a : Int) (σ : Store) : pureV CC 164 [vGr x.g, .p (.int .i64 s), .p (.int .i64 a)] σ = some (.p (.bool (enb x s a))) := by
  obtain ⟨σ', h⟩ := L164 he s a _ 0 [] rfl (Nat.zero_le _)
  rw [List.drop_zero] at h
  refine pureV_free (by simp only [List.map_cons, List.map_nil, gr_view, int_view]) rfl (F164_call (r := (.p (.bool (enb x s a)), σ')) ?_) rfl
  rw [F164_eq]
  simp only [box_gr, gG]
  exact h
theorem nx0 {n i : Nat} (h : i < n) : (i + 1) % n = nx n 0 i := by
  unfold nx
  by_cases e : i = n - 1
  · rw [if_pos e]
    have : i + 1 = n := by omega
    rw [this, Nat.mod_self]
  · rw [if_neg e, Nat.mod_eq_of_lt (by omega)]
section
variable {x : Lb} (hx : LSm x) {w : Wd} (hl : (L w.l).length ≤ 1000)
include hx hl
theorem L120 (a : Int) : ∀ (k i : Nat) (σ : Store), (L w.l).length - i = k → i ≤ (L w.l).length →
    f120_L0 guardT 0 (.p (.int .i64 a)) (.pptr (eLb x) 0) (.pptr (eWd w) 0) (N i) σ = some (.p (.bool (anyF (fun i => stA x ((L w.l).getD i 0) ((L w.l).getD (nx (L w.l).length 0 i) 0) a) i k)), σ)
  | 0, i, σ, hk, hi => by
    rw [f120_L0_eq guardT rfl]
    simp (disch := omega) only [N, fa52_1, shift_ptr, shift_pptr, Nat.zero_add, Nat.add_zero, pureFn_fn, List.append_nil, List.singleton_append, List.cons_append, List.nil_append, load24, wd_1, len24, b_lss, ltF, gG, anyF]
  | k + 1, i, σ, hk, hi => by
    have h : i < (L w.l).length := by omega
    have ih := L120 a k (i + 1) σ (by omega) (by omega)
    have hnx : nx (L w.l).length 0 i < (L w.l).length := nx_lt (by omega) h
    have rm := remN (a := i + 1) (b := (L w.l).length) (by omega)
    rw [nx0 h] at rm
    have bb : ∀ u v w : Int, build PP 129 [(0, .p (.int .i64 u)), (1, .p (.int .i64 v)), (2, .p (.int .i64 w))] = some (.agg (edgD ⟨u, v, w⟩)) := fun u v w => Eq.trans (by kernel_rfl) rfl
    have s162 := fun s t a σ => S162 (x := x) hx.e s t a σ
    simp only [N] at ih
    rw [f120_L0_eq guardT rfl]
    unfold anyF
    cases c : stA x ((L w.l).getD i 0) ((L w.l).getD (nx (L w.l).length 0 i) 0) a with
    | true => simp (disch := omega) only [N, fa52_1, shift_ptr, shift_pptr, Nat.zero_add, Nat.add_zero, pureFn_fn, List.append_nil, List.singleton_append, List.cons_append, List.nil_append, load24, wd_1, len24, b_lss, ltT, gG, fa47_0, load45, lb_g, (PL.sl w.l).idx h, load3, load1_getD h, add1, rm, (PL.sl w.l).idx hnx, load1_getD hnx, bb, s162, c, Bool.true_or]
    | false => simp (disch := omega) only [N, fa52_1, shift_ptr, shift_pptr, Nat.zero_add, Nat.add_zero, pureFn_fn, List.append_nil, List.singleton_append, List.cons_append, List.nil_append, load24, wd_1, len24, b_lss, ltT, gG, fa47_0, load45, lb_g, (PL.sl w.l).idx h, load3, load1_getD h, add1, rm, (PL.sl w.l).idx hnx, load1_getD hnx, bb, s162, c, Bool.false_or, ih]
theorem S120 (a : Int) (σ : Store) : pureV CC 120 [vLb x, vWd w, .p (.int .i64 a)] σ = some (.p (.bool (tkn x (L w.l) a))) := by
  refine pureV_free (by simp only [List.map_cons, List.map_nil, lb_view, wd_view, int_view]) rfl (F120_call (r := (.p (.bool (tkn x (L w.l) a)), [])) ?_) rfl
  rw [F120_eq]
  simp only [box_lb, box_wd, gG]
  exact L120 hx hl a _ 0 [] rfl (Nat.zero_le _)
theorem L121 (a : Int) : ∀ (k i c : Nat) (σ : Store), (L w.l).length - i = k → i ≤ (L w.l).length → c ≤ i →
    f121_L0 guardT 0 (.p (.int .i64 a)) (.pptr (eLb x) 0) (.pptr (eWd w) 0) (N c) (N i) σ = some (N (c + ((L w.l).drop i).countP fun s => enb x s a), σ)
  | 0, i, c, σ, hk, hi, hc => by
    rw [f121_L0_eq guardT rfl, List.drop_eq_nil_of_le (by omega)]
    simp (disch := omega) only [N, fa52_1, shift_ptr, shift_pptr, Nat.zero_add, Nat.add_zero, pureFn_fn, List.append_nil, List.singleton_append, List.cons_append, List.nil_append, load24, wd_1, len24, b_lss, ltF, gG, List.countP_nil]
  | k + 1, i, c, σ, hk, hi, hc => by
    have h : i < (L w.l).length := by omega
    have s164 := fun s a σ => S164 (x := x) hx.e s a σ
    rw [f121_L0_eq guardT rfl, drop_cons h, List.countP_cons]
    cases e : enb x ((L w.l).getD i 0) a with
    | true =>
      have ih := L121 a k (i + 1) (c + 1) σ (by omega) (by omega) (by omega)
      simp only [N] at ih
      have ad := addN (a := c) (b := 1) (by omega)
      have z1 : (.p (.int .i64 ((1 : Nat) : Int)) : DV) = .p (.int .i64 1) := rfl
      rw [z1] at ad
      rw [if_pos rfl, Nat.add_comm (List.countP _ _) 1, ← Nat.add_assoc]
      simp (disch := omega) only [N, fa52_1, shift_ptr, shift_pptr, Nat.zero_add, Nat.add_zero, pureFn_fn, List.append_nil, List.singleton_append, List.cons_append, List.nil_append, load24, wd_1, len24, b_lss, ltT, gG, fa47_0, load45, lb_g, (PL.sl w.l).idx h, load3, load1_getD h, s164, e, S165, if_true, ad, add1]
      exact ih
    | false =>
      have ih := L121 a k (i + 1) c σ (by omega) (by omega) (by omega)
      simp only [N] at ih
      have ad := addN (a := c) (b := 0) (by omega)
      have z1 : (.p (.int .i64 ((0 : Nat) : Int)) : DV) = .p (.int .i64 0) := rfl
      rw [z1, Nat.add_zero] at ad
      rw [if_neg (by simp), Nat.add_zero]
      simp (disch := omega) only [N, fa52_1, shift_ptr, shift_pptr, Nat.zero_add, Nat.add_zero, pureFn_fn, List.append_nil, List.singleton_append, List.cons_append, List.nil_append, load24, wd_1, len24, b_lss, ltT, gG, fa47_0, load45, lb_g, (PL.sl w.l).idx h, load3, load1_getD h, s164, e, S165, Bool.false_eq_true, if_false, ad, add1]
      exact ih
theorem S121 (a : Int) (σ : Store) : pureV CC 121 [vLb x, vWd w, .p (.int .i64 a)] σ = some (.p (.int .i64 (((L w.l).countP fun s => enb x s a : Nat) : Int))) := by
  have h := L121 hx hl a _ 0 0 [] rfl (Nat.zero_le _) (Nat.zero_le _)
  rw [List.drop_zero, Nat.zero_add] at h
  refine pureV_free (by simp only [List.map_cons, List.map_nil, lb_view, wd_view, int_view]) rfl (F121_call (r := (N ((L w.l).countP fun s => enb x s a), [])) ?_) rfl
  rw [F121_eq]
  simp only [box_lb, box_wd, gG]
  exact h
omit hx hl in
theorem okW_count (x : Lb) (Q : List Int) (a : Int) : okW x Q a = !(!tkn x Q a && decide (((Q.countP fun s => enb x s a : Nat) : Int) = (Q.length : Nat))) := by
  have e : (Q.any fun s => !enb x s a) = !decide (((Q.countP fun s => enb x s a : Nat) : Int) = (Q.length : Nat)) := by
    rw [Bool.eq_iff_iff, List.any_eq_true, Bool.not_eq_true', decide_eq_false_iff_not]
    have h1 : Q.countP (fun s => enb x s a) = Q.length ↔ ∀ s ∈ Q, enb x s a = true := List.countP_eq_length
    constructor
    · rintro ⟨s, hs, h2⟩ h3
      have := h1.1 (by omega) s hs
      rw [this] at h2; exact absurd h2 (by simp)
    · intro h2
      by_cases h3 : ∃ s ∈ Q, enb x s a = false
      · obtain ⟨s, h4, h5⟩ := h3
        exact ⟨s, h4, by rw [h5]; rfl⟩
      · have : Q.countP (fun s => enb x s a) = Q.length := h1.2 fun s hs => by
          cases h6 : enb x s a with
          | true => rfl
          | false => exact absurd ⟨s, hs, h6⟩ h3
        exact absurd (by rw [this]) h2
  unfold okW
  rw [e]
  cases tkn x Q a <;> cases decide (((Q.countP fun s => enb x s a : Nat) : Int) = (Q.length : Nat)) <;> rfl
omit hx hl in
theorem okS_count (x : Lb) (Q : List Int) (a : Int) : okS x Q a = !(!tkn x Q a && decide (((Q.countP fun s => enb x s a : Nat) : Int) > 0)) := by
  have e : (Q.any fun s => enb x s a) = decide (((Q.countP fun s => enb x s a : Nat) : Int) > 0) := by
    rw [Bool.eq_iff_iff, List.any_eq_true, decide_eq_true_iff]
    have h1 : 0 < Q.countP (fun s => enb x s a) ↔ ∃ s ∈ Q, enb x s a = true := List.countP_pos_iff
    constructor
    · intro h2; have := h1.2 h2; omega
    · intro h2; exact h1.1 (by omega)
  unfold okS
  rw [e]
  cases tkn x Q a <;> cases decide (((Q.countP fun s => enb x s a : Nat) : Int) > 0) <;> rfl
theorem L59_1 : ∀ (k i : Nat) (σ : Store), (L x.sr).length - i = k → i ≤ (L x.sr).length → f59_L1 guardT 0 (.pptr (eLb x) 0) (.pptr (eWd w) 0) (N i) σ = some (.p (.bool (((L x.sr).drop i).all (okS x (L w.l)))), σ)
  | 0, i, σ, hk, hi => by
    rw [f59_L1_eq guardT rfl, List.drop_eq_nil_of_le (by omega)]
    simp (disch := omega) only [N, fa47_5, shift_ptr, shift_pptr, Nat.zero_add, Nat.add_zero, pureFn_fn, List.append_nil, List.singleton_append, List.cons_append, List.nil_append, load24, lb_7, len24, b_lss, ltF, gG, List.all_nil]
  | k + 1, i, σ, hk, hi => by
    have he := hx.sr
    have h : i < (L x.sr).length := by omega
    have ih := L59_1 k (i + 1) σ (by omega) (by omega)
    have s120 := fun a σ => S120 hx hl a σ
    have s121 := fun a σ => S121 hx hl a σ
    simp only [N] at ih
    rw [f59_L1_eq guardT rfl, drop_cons h, List.all_cons, okS_count]
    cases c1 : tkn x (L w.l) ((L x.sr).getD i 0) with
    | true => simp (disch := omega) only [N, fa47_5, shift_ptr, shift_pptr, Nat.zero_add, Nat.add_zero, pureFn_fn, List.append_nil, List.singleton_append, List.cons_append, List.nil_append, load24, lb_7, len24, b_lss, ltT, gG, load47, lb_all, load52, ws_all, (PL.sl x.sr).idx h, load3, load1_getD h, s120, c1, Bool.false_and, Bool.true_and, add1, ih]
    | false =>
      cases c2 : decide ((((L w.l).countP fun s => enb x s ((L x.sr).getD i 0) : Nat) : Int) > 0) with
      | true => simp (disch := omega) only [N, fa47_5, shift_ptr, shift_pptr, Nat.zero_add, Nat.add_zero, pureFn_fn, List.append_nil, List.singleton_append, List.cons_append, List.nil_append, load24, lb_7, len24, b_lss, ltT, gG, load47, lb_all, load52, ws_all, (PL.sl x.sr).idx h, load3, load1_getD h, s120, c1, s121, b_gtr, c2, Bool.and_self, Bool.false_and]
      | false => simp (disch := omega) only [N, fa47_5, shift_ptr, shift_pptr, Nat.zero_add, Nat.add_zero, pureFn_fn, List.append_nil, List.singleton_append, List.cons_append, List.nil_append, load24, lb_7, len24, b_lss, ltT, gG, load47, lb_all, load52, ws_all, (PL.sl x.sr).idx h, load3, load1_getD h, s120, c1, s121, b_gtr, c2, Bool.and_false, Bool.true_and, add1, ih]
theorem L59_0 : ∀ (k i : Nat) (σ : Store), (L x.we).length - i = k → i ≤ (L x.we).length → f59_L0 guardT 0 (.pptr (eLb x) 0) (.pptr (eWd w) 0) (N i) σ = some (.p (.bool (((L x.we).drop i).all (okW x (L w.l)) && (L x.sr).all (okS x (L w.l)))), σ)
  | 0, i, σ, hk, hi => by
    have h1 := L59_1 hx hl _ 0 σ rfl (Nat.zero_le _)
    rw [List.drop_zero] at h1
    rw [f59_L0_eq guardT rfl, List.drop_eq_nil_of_le (by omega)]
    simp (disch := omega) only [N, fa47_4, shift_ptr, shift_pptr, Nat.zero_add, Nat.add_zero, pureFn_fn, List.append_nil, List.singleton_append, List.cons_append, List.nil_append, load24, lb_6, len24, b_lss, ltF, gG, List.all_nil, Bool.true_and]
    exact h1
  | k + 1, i, σ, hk, hi => by
    have he := hx.we
    have h : i < (L x.we).length := by omega
    have ih := L59_0 k (i + 1) σ (by omega) (by omega)
    have s120 := fun a σ => S120 hx hl a σ
    have s121 := fun a σ => S121 hx hl a σ
    simp only [N] at ih
    rw [f59_L0_eq guardT rfl, drop_cons h, List.all_cons, okW_count]
    cases c1 : tkn x (L w.l) ((L x.we).getD i 0) with
    | true => simp (disch := omega) only [N, fa47_4, shift_ptr, shift_pptr, Nat.zero_add, Nat.add_zero, pureFn_fn, List.append_nil, List.singleton_append, List.cons_append, List.nil_append, load24, lb_6, len24, b_lss, ltT, gG, load47, lb_all, load52, ws_all, (PL.sl x.we).idx h, load3, load1_getD h, s120, c1, Bool.false_and, Bool.true_and, add1, ih]
    | false =>
      cases c2 : decide ((((L w.l).countP fun s => enb x s ((L x.we).getD i 0) : Nat) : Int) = ((L w.l).length : Nat)) with
      | true => simp (disch := omega) only [N, fa47_4, shift_ptr, shift_pptr, Nat.zero_add, Nat.add_zero, pureFn_fn, List.append_nil, List.singleton_append, List.cons_append, List.nil_append, load24, lb_6, len24, b_lss, ltT, gG, load47, lb_all, load52, ws_all, (PL.sl x.we).idx h, load3, load1_getD h, s120, c1, s121, fa52_1, wd_1, b_eql, c2, Bool.and_self, Bool.false_and]
      | false => simp (disch := omega) only [N, fa47_4, shift_ptr, shift_pptr, Nat.zero_add, Nat.add_zero, pureFn_fn, List.append_nil, List.singleton_append, List.cons_append, List.nil_append, load24, lb_6, len24, b_lss, ltT, gG, load47, lb_all, load52, ws_all, (PL.sl x.we).idx h, load3, load1_getD h, s120, c1, s121, fa52_1, wd_1, b_eql, c2, Bool.and_false, Bool.true_and, add1, ih]
theorem S59 (σ : Store) : pureV CC 59 [vLb x, vWd w] σ = some (.p (.bool (isF x (L w.l)))) := by
  refine pureV_free (by simp only [List.map_cons, List.map_nil, lb_view, wd_view]) rfl (F59_call (r := (.p (.bool (isF x (L w.l))), [])) ?_) rfl
  have h := L59_0 hx hl _ 0 [] rfl (Nat.zero_le _)
  rw [List.drop_zero] at h
  rw [F59_eq]
  simp only [box_lb, box_wd, gG]
  exact h
end
end Go.D
end
/- Chapter 13: TruthsOn and HoldsOn of the program. -/
section
set_option linter.unusedVariables false
set_option linter.unusedSimpArgs false
set_option maxRecDepth 8000
namespace Go.D
open Las
theorem oddB_ok {v : Int} (h : oddB v = false) : 0 ≤ v ∧ v ≤ 4095 := by
  unfold oddB at h
  rw [Bool.not_eq_false', inR_iff] at h
  exact h
theorem ar_zero {k : Int} (h : ar k = 0) : k = 0 ∨ k = 1 := by
  unfold ar at h
  by_cases c : k = 0 ∨ k = 1
  · exact c
  · rw [if_neg c] at h
    split at h <;> exact absurd h (by decide)
section
variable {n back : Nat} {W : List Int} (hb : back < n) (hn : n ≤ 1000) (hW : W.length = n) (hWb : ∀ j, j < n → 0 ≤ W.getD j 0 ∧ W.getD j 0 ≤ 4095) {f : Fm} (hf : FSm f) (hk : Ok (L f))
include hb hn hW hWb hf hk
theorem L72 : ∀ (d i : Nat) (y : DV) (σ : Store), (L f).length - i = d → i ≤ (L f).length → σ[0]? = some (.mix (rgD n back)) → Out σ 0 1 i (lvs (tv (tk n back W) (L f)) n i) y →
    ∃ σ', f72_L0 guardT 0 (.p (eSl (some W))) (.ptr 0 0) y (.p (eFm f)) (N (L f).length) (N i) σ = some (BV (tab n (tv (tk n back W) (L f) ((L f).length - 1))), σ')
  | 0, i, y, σ, hd, hi, g0, ho => by
    have hp := hk.pos
    have hle := hk.le
    have e : i = (L f).length := by omega
    subst e
    have i1 := ho.idx162 (j := (L f).length - 1) (by omega)
    have l1 := load1_pptr (lvs_get (T := tv (tk n back W) (L f)) (n := n) (i := (L f).length) (j := (L f).length - 1) (by omega)) σ
    have hl := ho.len162 σ
    refine ⟨σ, ?_⟩
    rw [f72_L0_eq guardT rfl]
    simp (disch := omega) only [N, b_lss, ltF, gG, hl, sub1, i1, load34, l1]
    rfl
  | d + 1, i, y, σ, hd, hi, g0, ho => by
    have hp := hk.pos
    have hle := hk.le
    have hlt : i < (L f).length := by omega
    have hg := hk.good i hlt
    have h3 := hf.2 i
    have ha : L ((L f).getD i default).a = nA (L f) i := rfl
    have hnd := nd_all hlt
    have hga := hg.a
    have hgk := hg.k
    have hgb := hg.b
    have hs0 := get_lt g0
    have key : ∀ a b : NB, tv (tk n back W) (L f) i = tk n back W ((L f).getD i default).k ((L f).getD i default).n a b →
        ∀ (y' : DV) (σ' : Store), σ'[0]? = some (.mix (rgD n back)) → Out σ' 0 1 (i + 1) (lvs (tv (tk n back W) (L f)) n i ++ [bvP (tab n (tk n back W ((L f).getD i default).k ((L f).getD i default).n a b))]) y' →
        ∃ σ'', f72_L0 guardT 0 (.p (eSl (some W))) (.ptr 0 0) y' (.p (eFm f)) (N (L f).length) (N (i + 1)) σ' = some (BV (tab n (tv (tk n back W) (L f) ((L f).length - 1))), σ'') := fun a b hab y' σ' g0' ho' => by
      rw [← hab, ← lvs_succ] at ho'
      exact L72 d (i + 1) y' σ' (by omega) (by omega) g0' ho'
    have hleaf : nA (L f) i = [] → ∀ a b : NB, tv (tk n back W) (L f) i = tk n back W ((L f).getD i default).k ((L f).getD i default).n a b := fun h0 a b => by
      rw [h0] at hga
      exact tv_leaf (ar_zero hga.symm) a b
    have hnode : nA (L f) i ≠ [] → tv (tk n back W) (L f) i = tk n back W ((L f).getD i default).k ((L f).getD i default).n (opA (tk n back W) (L f) i) (opB (tk n back W) (L f) i) := fun h0 => tv_eq hg h0
    have hargs := fun h0 => hg.args h0
    generalize hx : (L f).getD i default = x at *
    have st := st67 (σ := σ) (lo := 0) (z := [.p (pI 0), .p (pI 0), .p .nilsl]) x rfl (Nat.zero_le _)
    have g : (σ ++ [Row.mix (ndD x)])[σ.length]? = some (.mix (ndD x)) := get_snoc
    have g02 : (σ ++ [Row.mix (ndD x)])[0]? = some (.mix (rgD n back)) := get_old g0
    have ho2 : Out (σ ++ [Row.mix (ndD x)]) 0 1 i (lvs (tv (tk n back W) (L f)) n i) y := ho.keep fun r v hr => get_old hr
    by_cases h0 : nA (L f) i = []
    · have hz : ¬ (((nA (L f) i).length : Nat) : Int) > 0 := by rw [h0]; decide
      have har : ar x.k = 0 := by rw [← hga, h0]; rfl
      obtain ⟨y', σ', r1, r2, r3⟩ := J72 hb hn hW hWb (x27 := .p (eFm f)) (x28 := N (L f).length) (x10 := .p .nilsl) (x11 := .p .nilsl) (a := fun _ => false) (b := fun _ => false) (i := i) (by omega) hgk hgb (fun h => absurd har h) g g02 ho2
        (.p (.bool true)) (.pptr (eNds (L f)) (i * 3)) (.agg (ndD x)) (.ptr σ.length 2) (.p (eSl x.a)) (.p (.int .i64 ((nA (L f) i).length : Nat))) (.p (.bool false)) Z Z Z Z Z Z Z Z Z Z Z Z Z Z Z Z Z Z
      obtain ⟨σ'', r4⟩ := key _ _ (hleaf h0 _ _) y' σ' r2 r3
      refine ⟨σ'', ?_⟩
      rw [← r4, ← r1, f72_L0_eq guardT rfl]
      simp (disch := omega) only [N, b_lss, ltT, gG, idx23 hlt, load67, hnd, zero67, st, fa67_2, shift_ptr, shift_pptr, Nat.zero_add, Nat.add_zero, pureFn_fn, List.append_nil, List.singleton_append, List.cons_append, List.nil_append, load24, row_a g, (PL.sl _).len, ha, b_gtr, gtF hz]
    · obtain ⟨a1, a2, a3, a4⟩ := hargs h0
      have hpa := List.length_pos_iff.2 h0
      have hz : (((nA (L f) i).length : Nat) : Int) > 0 := by omega
      have i1 := (PL.sl x.a).idx (i := 0) (by rw [ha]; exact hpa)
      have i2 := (PL.sl x.a).idx (i := (nA (L f) i).length - 1) (by rw [ha]; omega)
      have l1 := load1_getD (l := nA (L f) i) hpa (σ ++ [Row.mix (ndD x)])
      have l2 := load1_getD (l := nA (L f) i) (i := (nA (L f) i).length - 1) (by omega) (σ ++ [Row.mix (ndD x)])
      have z0 : (.p (.int .i64 ((0 : Nat) : Int)) : DV) = .p (.int .i64 0) := rfl
      rw [z0, ha] at i1
      rw [ha] at i2
      have j1 := ho2.idx162 (j := ((nA (L f) i).getD 0 0).toNat) (by omega)
      have j2 := ho2.idx162 (j := ((nA (L f) i).getD ((nA (L f) i).length - 1) 0).toNat) (by omega)
      rw [Int.toNat_of_nonneg a2] at j1
      rw [Int.toNat_of_nonneg (by omega)] at j2
      have m1 := load1_pptr (lvs_get (T := tv (tk n back W) (L f)) (n := n) (i := i) (j := ((nA (L f) i).getD 0 0).toNat) (by omega)) (σ ++ [Row.mix (ndD x)])
      have m2 := load1_pptr (lvs_get (T := tv (tk n back W) (L f)) (n := n) (i := i) (j := ((nA (L f) i).getD ((nA (L f) i).length - 1) 0).toNat) (by omega)) (σ ++ [Row.mix (ndD x)])
      obtain ⟨y', σ', r1, r2, r3⟩ := J72 hb hn hW hWb (x27 := .p (eFm f)) (x28 := N (L f).length) (x10 := BV (tab n (opA (tk n back W) (L f) i))) (x11 := BV (tab n (opB (tk n back W) (L f) i))) (a := opA (tk n back W) (L f) i) (b := opB (tk n back W) (L f) i) (i := i) (by omega) hgk hgb (fun _ => ⟨rfl, rfl⟩) g g02 ho2
        (.p (.bool true)) (.pptr (eNds (L f)) (i * 3)) (.agg (ndD x)) (.ptr σ.length 2) (.p (eSl x.a)) (.p (.int .i64 ((nA (L f) i).length : Nat))) (.p (.bool true)) y (.ptr σ.length 2) (.p (eSl x.a)) (.pptr (eInts (nA (L f) i)) 0) (.p (.int .i64 ((nA (L f) i).getD 0 0))) (.pptr (lvs (tv (tk n back W) (L f)) n i) ((nA (L f) i).getD 0 0).toNat) (BV (tab n (opA (tk n back W) (L f) i)))
        y (.ptr σ.length 2) (.p (eSl x.a)) (.ptr σ.length 2) (.p (eSl x.a)) (.p (.int .i64 ((nA (L f) i).length : Nat))) (.p (.int .i64 (((nA (L f) i).length - 1 : Nat)))) (.pptr (eInts (nA (L f) i)) ((nA (L f) i).length - 1)) (.p (.int .i64 ((nA (L f) i).getD ((nA (L f) i).length - 1) 0))) (.pptr (lvs (tv (tk n back W) (L f)) n i) ((nA (L f) i).getD ((nA (L f) i).length - 1) 0).toNat) (BV (tab n (opB (tk n back W) (L f) i)))
      obtain ⟨σ'', r4⟩ := key _ _ (hnode h0) y' σ' r2 r3
      refine ⟨σ'', ?_⟩
      rw [← r4, ← r1, f72_L0_eq guardT rfl]
      simp (disch := omega) only [N, b_lss, ltT, gG, idx23 hlt, load67, hnd, zero67, st, fa67_2, shift_ptr, shift_pptr, Nat.zero_add, Nat.add_zero, pureFn_fn, List.append_nil, List.singleton_append, List.cons_append, List.nil_append, load24, row_a g, (PL.sl _).len, ha, b_gtr, gtT hz, i1, load3, l1, j1, load34, m1, sub1, i2, l2, j2, m2]
      rfl
end
end Go.D
end
/- Chapter 13: TruthsOn and HoldsOn of the program; the errors of both. -/
section
set_option linter.unusedVariables false
set_option linter.unusedSimpArgs false
set_option maxRecDepth 8000
namespace Go.D
open Las
structure WOk (P Q : List Int) : Prop where
  ne : 0 < Q.length
  le : P.length + Q.length ≤ 60
  rng : ∀ j, j < P.length + Q.length → 0 ≤ (P ++ Q).getD j 0 ∧ (P ++ Q).getD j 0 ≤ 4095
theorem wErr_ok {P Q : List Int} (h : wErr P Q = 0) : WOk P Q := by
  obtain ⟨h1, h2, h3, h4⟩ := wErr_zero h
  refine ⟨List.length_pos_iff.2 h1, h2, fun j hj => ?_⟩
  have hl : j < (P ++ Q).length := by rw [List.length_append]; exact hj
  have hm : (P ++ Q).getD j 0 ∈ P ++ Q := by
    rw [List.getD_eq_getElem?_getD, List.getElem?_eq_getElem hl]
    exact List.getElem_mem hl
  rcases List.mem_append.1 hm with hm | hm
  · exact oddB_ok (h3 _ hm)
  · exact oddB_ok (h4 _ hm)
def says (F : List Nd) (P Q : List Int) : List Bool := tab (P.length + Q.length) (tv (tk (P.length + Q.length) P.length (P ++ Q)) F (F.length - 1))
theorem says_len (F : List Nd) (P Q : List Int) : (says F P Q).length = P.length + Q.length := tab_len _ _
section
variable {f : Fm} {w : Wd} (hf : FSm f)
include hf
theorem S72 (hk : Ok (L f)) (hw : WOk (L w.p) (L w.l)) (σ : Store) : pureV CC 72 [.p (eFm f), vWd w] σ = some (BV (says (L f) (L w.p) (L w.l))) := by
  have h1 := hw.ne
  have h2 := hw.le
  have hl : (L w.p ++ L w.l).length = (L w.p).length + (L w.l).length := List.length_append
  obtain ⟨σ', h⟩ := L72 (n := (L w.p).length + (L w.l).length) (back := (L w.p).length) (W := L w.p ++ L w.l) (by omega) (by omega) hl hw.rng hf hk _ 0 (.p .nilsl) [.mix (rgD ((L w.p).length + (L w.l).length) (L w.p).length)] rfl (Nat.zero_le _) rfl Out.zero
  refine pureV_free (by simp [wd_view, fm_view]) rfl (F72_call (r := (BV (says (L f) (L w.p) (L w.l)), σ')) ?_) (by simp [thawAll, thawPart, thaw, thaw1, thawP, BV, loosen, loosens_bools])
  have b := b135 ((L w.p).length + (L w.l).length) (L w.p).length
  have st := st135 ((L w.p).length + (L w.l).length) (L w.p).length
  have lW := (PL.some (L w.p ++ L w.l)).len []
  rw [hl] at lW
  simp only [N] at b
  rw [F72_eq]
  simp only [box_wd, gG, fa26_0, fa26_1, shift_ptr, shift_pptr, Nat.zero_add, Nat.add_zero, pureFn_fn, List.append_nil, List.singleton_append, List.cons_append, List.nil_append, load24, wd_0, wd_1, bs130_2, S84p (show 0 < (L w.p).length + (L w.l).length by omega) (show (L w.p).length + (L w.l).length ≤ 10000 by omega), lW, (PL.sl w.p).len, b, zero135, List.length_nil, st, len23]
  exact h
end
end Go.D
end
/- Chapter 13: truths of the reference. -/
section
set_option linter.unusedVariables false
set_option linter.unusedSimpArgs false
set_option maxRecDepth 8000
namespace Go.D
open Las
theorem S60 {x m : Int} (hx : 0 ≤ x ∧ x ≤ 4095) (hm : 0 ≤ m ∧ m ≤ 11) (σ : Store) : pureV CC 60 [.p (.int .i64 x), .p (.int .i64 m)] σ = some (.p (.bool (bit x m))) := by
  have ex : x = ((x.toNat : Nat) : Int) := by omega
  have em : m = ((m.toNat : Nat) : Int) := by omega
  have sh := shrN (a := x.toNat) (m := m.toNat) (by omega) 3
  rw [← ex, ← em] at sh
  have rm := remN (a := x.toNat / 2 ^ m.toNat) (b := 2) (by decide)
  have e2 : (.p (.int .i64 ((2 : Nat) : Int)) : DV) = .p (.int .i64 2) := rfl
  rw [e2] at rm
  refine pureV_free rfl rfl (F60_call (r := (.p (.bool (bit x m)), [])) ?_) rfl
  rw [F60_eq]
  simp only [sh, gG, rm, b_eql, bit_dec]
theorem b_eqB (a b : Bool) : binOp PP .eql 4 (.p (.bool a)) (.p (.bool b)) = some (.p (.bool (a == b))) := Eq.trans (by kernel_rfl) rfl
theorem pl_bd {n back t : Nat} (hb : back < n) : pl n back t < n := by
  by_cases h : t < n
  · rw [pl_lt h]; exact h
  · exact (pl_in hb (by omega)).2
theorem laR_congr {n back : Nat} {f g : NB} (hb : back < n) (h : ∀ j, j < n → f j = g j) : ∀ d t, laR n back f d t = laR n back g d t
  | 0, _ => rfl
  | d + 1, t => by unfold laR; rw [h _ (pl_bd hb), laR_congr hb h d]
theorem atW_app {P Q : List Int} {i : Nat} (h : i < P.length + Q.length) : atW P Q i = (P ++ Q).getD i 0 := by
  unfold atW
  by_cases h1 : i < P.length
  · rw [if_pos h1, List.getD_eq_getElem?_getD, List.getD_eq_getElem?_getD, List.getElem?_append_left h1]
  · rw [if_neg h1, Nat.mod_eq_of_lt (by omega), List.getD_eq_getElem?_getD, List.getD_eq_getElem?_getD, List.getElem?_append_right (by omega)]
section
variable {w : Wd} (hw : WOk (L w.p) (L w.l))
include hw
theorem S132 (σ : Store) : pureV CC 132 [vWd w] σ = some (N ((L w.p).length + (L w.l).length)) := by
  have hle := hw.le
  refine pureV_free (by simp [wd_view]) rfl (F132_call (r := (N ((L w.p).length + (L w.l).length), [])) ?_) rfl
  rw [F132_eq]
  simp (disch := omega) only [box_wd, gG, fa26_0, fa26_1, shift_ptr, shift_pptr, Nat.zero_add, Nat.add_zero, pureFn_fn, List.append_nil, List.singleton_append, List.cons_append, List.nil_append, load24, wd_0, wd_1, (PL.sl _).len, addN, N]
theorem S133 {t : Nat} (ht : t ≤ 1000) (σ : Store) : pureV CC 133 [vWd w, N t] σ = some (N (pl ((L w.p).length + (L w.l).length) (L w.p).length t)) := by
  have hle := hw.le
  have hne := hw.ne
  refine pureV_free (by simp only [List.map_cons, List.map_nil, wd_view]; rfl) rfl (F133_call (r := (N (pl ((L w.p).length + (L w.l).length) (L w.p).length t), [])) ?_) rfl
  rw [F133_eq]
  unfold pl
  rw [show (L w.p).length + (L w.l).length - (L w.p).length = (L w.l).length by omega]
  have hmod := Nat.mod_lt (t - (L w.p).length) hne
  by_cases h : t < (L w.p).length
  · rw [if_pos h]
    simp (disch := omega) only [box_wd, gG, fa26_0, shift_ptr, shift_pptr, Nat.zero_add, Nat.add_zero, pureFn_fn, List.append_nil, List.singleton_append, List.cons_append, List.nil_append, load24, wd_0, (PL.sl _).len, N, b_lss, ltT]
  · rw [if_neg h]
    simp (disch := omega) only [box_wd, gG, fa26_0, fa26_1, shift_ptr, shift_pptr, Nat.zero_add, Nat.add_zero, pureFn_fn, List.append_nil, List.singleton_append, List.cons_append, List.nil_append, load24, wd_0, wd_1, (PL.sl _).len, N, b_lss, ltF, subN, remN, addN]
theorem L73 {g : NB} {b : Bool} {i : Nat} (hi : i < (L w.p).length + (L w.l).length) : ∀ (d t : Nat), t + d = i + ((L w.p).length + (L w.l).length) →
    f73_L0 guardT 0 (N i) (BV (tab ((L w.p).length + (L w.l).length) g)) (.p (.bool b)) (.pptr (eWd w) 0) (N t) [] = some (.p (.bool (laR ((L w.p).length + (L w.l).length) (L w.p).length (fun j => g j == b) d t)), [])
  | 0, t, ht => by
    have hle := hw.le
    rw [f73_L0_eq guardT rfl]
    have h132 := S132 hw []
    simp only [N] at h132
    simp (disch := omega) only [N, load26, wd_all, gG, shift_ptr, shift_pptr, Nat.zero_add, Nat.add_zero, pureFn_fn, List.append_nil, List.singleton_append, List.cons_append, List.nil_append, h132, addN, b_lss, ltF, laR]
  | d + 1, t, ht => by
    have hle := hw.le
    have hne := hw.ne
    have hpl : pl ((L w.p).length + (L w.l).length) (L w.p).length t < (L w.p).length + (L w.l).length := pl_bd (by omega)
    have h132 := S132 hw []
    have h133 := S133 hw (t := t) (by omega) []
    have ix := BV_idx (l := tab ((L w.p).length + (L w.l).length) g) (i := pl ((L w.p).length + (L w.l).length) (L w.p).length t) (by rw [tab_len]; exact hpl)
    have ld := BV_ld (l := tab ((L w.p).length + (L w.l).length) g) (i := pl ((L w.p).length + (L w.l).length) (L w.p).length t) (by rw [tab_len]; exact hpl) []
    rw [tab_get hpl] at ld
    have ih := L73 (g := g) (b := b) hi d (t + 1) (by omega)
    simp only [N] at h132 h133 ih
    rw [f73_L0_eq guardT rfl]
    unfold laR
    cases hg : (g (pl ((L w.p).length + (L w.l).length) (L w.p).length t) == b) with
    | true =>
      simp (disch := omega) only [N, load26, wd_all, gG, shift_ptr, shift_pptr, Nat.zero_add, Nat.add_zero, pureFn_fn, List.append_nil, List.singleton_append, List.cons_append, List.nil_append, h132, addN, b_lss, ltT, h133, ix, load4, ld, b_eqB, hg, if_true]
    | false =>
      simp (disch := omega) only [N, load26, wd_all, gG, shift_ptr, shift_pptr, Nat.zero_add, Nat.add_zero, pureFn_fn, List.append_nil, List.singleton_append, List.cons_append, List.nil_append, h132, addN, b_lss, ltT, h133, ix, load4, ld, b_eqB, hg, add1, ih, Bool.false_eq_true, if_false]
theorem S73 {g : NB} {b : Bool} {i : Nat} (hi : i < (L w.p).length + (L w.l).length) (σ : Store) :
    pureV CC 73 [vWd w, N i, BV (tab ((L w.p).length + (L w.l).length) g), .p (.bool b)] σ = some (.p (.bool (laR ((L w.p).length + (L w.l).length) (L w.p).length (fun j => g j == b) ((L w.p).length + (L w.l).length) i))) := by
  refine pureV_free (by simp only [List.map_cons, List.map_nil, wd_view, BV_view]; rfl) rfl (F73_call (r := (.p (.bool (laR ((L w.p).length + (L w.l).length) (L w.p).length (fun j => g j == b) ((L w.p).length + (L w.l).length) i)), [])) ?_) rfl
  rw [F73_eq]
  simp only [box_wd, gG]
  exact L73 hw hi _ i rfl
end
def prP (a b : List Bool) : List PV := [bvP a, bvP b]
theorem box_pr (a b : List Bool) : boxP (.agg [BV a, BV b]) = some (.pptr (prP a b) 0) := rfl
theorem pr_view (a b : List Bool) : view (.agg [BV a, BV b]) = .agg [BV a, BV b] := by simp [BV, view, viewCell, loosen, loosens_bools]
theorem fa115_0 (x : DV) : fieldAddr PP 115 x 0 = shiftPtr x 0 := Eq.trans (by kernel_rfl) rfl
theorem fa115_1 (x : DV) : fieldAddr PP 115 x 1 = shiftPtr x 1 := Eq.trans (by kernel_rfl) rfl
theorem pr_0 (a b : List Bool) (σ : Store) : load1 (.pptr (prP a b) 0) σ = some (BV a) := load1_pptr rfl σ
theorem pr_1 (a b : List Bool) (σ : Store) : load1 (.pptr (prP a b) 1) σ = some (BV b) := load1_pptr rfl σ
theorem b115 (a b : List Bool) : build PP 115 [(0, BV a), (1, BV b)] = some (.agg [BV a, BV b]) := Eq.trans (by kernel_rfl) rfl
section
variable {w : Wd} (hw : WOk (L w.p) (L w.l)) {a b : NB} {i : Nat} (hi : i < (L w.p).length + (L w.l).length)
include hw hi
theorem L74 : ∀ (d t : Nat), t + d = i + ((L w.p).length + (L w.l).length) →
    f74_L0 guardT 0 (N i) (.pptr (eWd w) 0) (.pptr (prP (tab ((L w.p).length + (L w.l).length) a) (tab ((L w.p).length + (L w.l).length) b)) 0) (N t) [] =
      some (.p (.bool (leR ((L w.p).length + (L w.l).length) (L w.p).length a (fun j => laR ((L w.p).length + (L w.l).length) (L w.p).length (fun j => b j == true) ((L w.p).length + (L w.l).length) j) d t)), [])
  | 0, t, ht => by
    have hle := hw.le
    rw [f74_L0_eq guardT rfl]
    have h132 := S132 hw []
    simp only [N] at h132
    simp (disch := omega) only [N, load26, wd_all, gG, shift_ptr, shift_pptr, Nat.zero_add, Nat.add_zero, pureFn_fn, List.append_nil, List.singleton_append, List.cons_append, List.nil_append, h132, addN, b_lss, ltF, leR]
  | d + 1, t, ht => by
    have hle := hw.le
    have hne := hw.ne
    have hpl : pl ((L w.p).length + (L w.l).length) (L w.p).length t < (L w.p).length + (L w.l).length := pl_bd (by omega)
    have h132 := S132 hw []
    have h133 := S133 hw (t := t) (by omega) []
    have ix := BV_idx (l := tab ((L w.p).length + (L w.l).length) a) (i := pl ((L w.p).length + (L w.l).length) (L w.p).length t) (by rw [tab_len]; exact hpl)
    have ld := BV_ld (l := tab ((L w.p).length + (L w.l).length) a) (i := pl ((L w.p).length + (L w.l).length) (L w.p).length t) (by rw [tab_len]; exact hpl) []
    rw [tab_get hpl] at ld
    have h73 := S73 hw (g := b) (b := true) hpl []
    have ih := L74 d (t + 1) (by omega)
    simp only [N] at h132 h133 ih h73
    rw [f74_L0_eq guardT rfl]
    unfold leR
    cases hg : a (pl ((L w.p).length + (L w.l).length) (L w.p).length t) with
    | false =>
      rw [hg] at ld
      simp (disch := omega) only [N, load26, wd_all, gG, shift_ptr, shift_pptr, Nat.zero_add, Nat.add_zero, pureFn_fn, List.append_nil, List.singleton_append, List.cons_append, List.nil_append, h132, addN, b_lss, ltT, fa115_0, load34, pr_0, h133, ix, load4, ld, add1, ih, Bool.false_and, Bool.false_eq_true, if_false]
    | true =>
      rw [hg] at ld
      cases hq : laR ((L w.p).length + (L w.l).length) (L w.p).length (fun j => b j == true) ((L w.p).length + (L w.l).length) (pl ((L w.p).length + (L w.l).length) (L w.p).length t) with
      | true =>
        rw [hq] at h73
        simp (disch := omega) only [N, load26, wd_all, gG, shift_ptr, shift_pptr, Nat.zero_add, Nat.add_zero, pureFn_fn, List.append_nil, List.singleton_append, List.cons_append, List.nil_append, h132, addN, b_lss, ltT, fa115_0, fa115_1, load34, pr_0, pr_1, h133, ix, load4, ld, h73, add1, ih, Bool.and_false, Bool.false_eq_true, if_false]
      | false =>
        rw [hq] at h73
        simp (disch := omega) only [N, load26, wd_all, gG, shift_ptr, shift_pptr, Nat.zero_add, Nat.add_zero, pureFn_fn, List.append_nil, List.singleton_append, List.cons_append, List.nil_append, h132, addN, b_lss, ltT, fa115_0, fa115_1, load34, pr_0, pr_1, h133, ix, load4, ld, h73, Bool.and_true, if_true]
theorem S74 (σ : Store) : pureV CC 74 [vWd w, N i, .agg [BV (tab ((L w.p).length + (L w.l).length) a), BV (tab ((L w.p).length + (L w.l).length) b)]] σ =
    some (.p (.bool (leR ((L w.p).length + (L w.l).length) (L w.p).length a (fun j => laR ((L w.p).length + (L w.l).length) (L w.p).length (fun j => b j == true) ((L w.p).length + (L w.l).length) j) ((L w.p).length + (L w.l).length) i))) := by
  refine pureV_free (by simp only [List.map_cons, List.map_nil, wd_view, pr_view]; rfl) rfl (F74_call (r := (.p (.bool _), [])) ?_) rfl
  rw [F74_eq]
  simp only [box_wd, gG, box_pr]
  exact L74 hw hi _ i rfl
theorem L75 : ∀ (d t : Nat), t + d = i + ((L w.p).length + (L w.l).length) →
    f75_L0 guardT 0 (N i) (.pptr (eWd w) 0) (.pptr (prP (tab ((L w.p).length + (L w.l).length) a) (tab ((L w.p).length + (L w.l).length) b)) 0) (N t) [] =
      some (.p (.bool (untR ((L w.p).length + (L w.l).length) (L w.p).length a b d t)), [])
  | 0, t, ht => by
    have hle := hw.le
    rw [f75_L0_eq guardT rfl]
    have h132 := S132 hw []
    simp only [N] at h132
    simp (disch := omega) only [N, load26, wd_all, gG, shift_ptr, shift_pptr, Nat.zero_add, Nat.add_zero, pureFn_fn, List.append_nil, List.singleton_append, List.cons_append, List.nil_append, h132, addN, b_lss, ltF, untR]
  | d + 1, t, ht => by
    have hle := hw.le
    have hne := hw.ne
    have hpl : pl ((L w.p).length + (L w.l).length) (L w.p).length t < (L w.p).length + (L w.l).length := pl_bd (by omega)
    have h132 := S132 hw []
    have h133 := S133 hw (t := t) (by omega) []
    have ix := fun g : NB => BV_idx (l := tab ((L w.p).length + (L w.l).length) g) (i := pl ((L w.p).length + (L w.l).length) (L w.p).length t) (by rw [tab_len]; exact hpl)
    have ld := BV_ld (l := tab ((L w.p).length + (L w.l).length) a) (i := pl ((L w.p).length + (L w.l).length) (L w.p).length t) (by rw [tab_len]; exact hpl) []
    have ldb := BV_ld (l := tab ((L w.p).length + (L w.l).length) b) (i := pl ((L w.p).length + (L w.l).length) (L w.p).length t) (by rw [tab_len]; exact hpl) []
    rw [tab_get hpl] at ld ldb
    have ih := L75 d (t + 1) (by omega)
    simp only [N] at h132 h133 ih
    rw [f75_L0_eq guardT rfl]
    unfold untR
    cases hg : b (pl ((L w.p).length + (L w.l).length) (L w.p).length t) with
    | true =>
      rw [hg] at ldb
      simp (disch := omega) only [N, load26, wd_all, gG, shift_ptr, shift_pptr, Nat.zero_add, Nat.add_zero, pureFn_fn, List.append_nil, List.singleton_append, List.cons_append, List.nil_append, h132, addN, b_lss, ltT, fa115_1, load34, pr_1, h133, ix, load4, ldb, if_true]
    | false =>
      rw [hg] at ldb
      cases hq : a (pl ((L w.p).length + (L w.l).length) (L w.p).length t) with
      | true =>
        rw [hq] at ld
        simp (disch := omega) only [N, load26, wd_all, gG, shift_ptr, shift_pptr, Nat.zero_add, Nat.add_zero, pureFn_fn, List.append_nil, List.singleton_append, List.cons_append, List.nil_append, h132, addN, b_lss, ltT, fa115_0, fa115_1, load34, pr_0, pr_1, h133, ix, load4, ldb, ld, add1, ih, Bool.false_eq_true, if_false, Bool.true_eq_false]
      | false =>
        rw [hq] at ld
        simp (disch := omega) only [N, load26, wd_all, gG, shift_ptr, shift_pptr, Nat.zero_add, Nat.add_zero, pureFn_fn, List.append_nil, List.singleton_append, List.cons_append, List.nil_append, h132, addN, b_lss, ltT, fa115_0, fa115_1, load34, pr_0, pr_1, h133, ix, load4, ldb, ld, Bool.false_eq_true, if_false, if_true]
theorem S75 (σ : Store) : pureV CC 75 [vWd w, N i, .agg [BV (tab ((L w.p).length + (L w.l).length) a), BV (tab ((L w.p).length + (L w.l).length) b)]] σ =
    some (.p (.bool (untR ((L w.p).length + (L w.l).length) (L w.p).length a b ((L w.p).length + (L w.l).length) i))) := by
  refine pureV_free (by simp only [List.map_cons, List.map_nil, wd_view, pr_view]; rfl) rfl (F75_call (r := (.p (.bool _), [])) ?_) rfl
  rw [F75_eq]
  simp only [box_wd, gG, box_pr]
  exact L75 hw hi _ i rfl
end
end Go.D
end
/- Chapter 13: letters of steps: plain terms, and atoms put into letters. -/
section
set_option linter.unusedVariables false
set_option linter.unusedSimpArgs false
set_option maxRecDepth 8000
namespace Go.D
open Las
def wA (c n : Int) : Int := if n = -1 then c else ((c.toNat ||| 2 ^ n.toNat : Nat) : Int)
def okL (c : Int) : Prop := 0 ≤ c ∧ c ≤ 4095
def okAt (n : Int) : Prop := -1 ≤ n ∧ n ≤ 11
theorem pow_le {m : Nat} (h : m ≤ 11) : 2 ^ m < 4096 := by
  have : 2 ^ m ≤ 2 ^ 11 := Nat.pow_le_pow_right (by decide) h
  omega
theorem wA_ok {c n : Int} (hc : okL c) (hn : okAt n) : okL (wA c n) := by
  unfold wA
  split
  · exact hc
  · obtain ⟨h0, h1⟩ := hc
    obtain ⟨h2, h3⟩ := hn
    have h4 : c.toNat < 2 ^ 12 := by omega
    have h5 : 2 ^ n.toNat < 2 ^ 12 := pow_le (by omega)
    have := Nat.or_lt_two_pow h4 h5
    unfold okL
    omega
def tb (c : Int) (k : Nat) : Bool := c.toNat.testBit k
theorem wA_tb {c n : Int} (hn : okAt n) (k : Nat) : tb (wA c n) k = (tb c k || decide (n = (k : Int))) := by
  unfold wA tb
  split
  · rename_i h
    have : ¬ n = (k : Int) := by omega
    rw [decide_eq_false this, Bool.or_false]
  · rename_i h
    obtain ⟨h2, h3⟩ := hn
    rw [Int.toNat_natCast, Nat.testBit_or, Nat.testBit_two_pow]
    congr 1
    rw [decide_eq_decide]
    omega
theorem okL_ext {a b : Int} (ha : okL a) (hb : okL b) (h : ∀ k, tb a k = tb b k) : a = b := by
  have : a.toNat = b.toNat := Nat.eq_of_testBit_eq h
  obtain ⟨h1, _⟩ := ha
  obtain ⟨h2, _⟩ := hb
  omega
theorem orN {a b : Nat} (ha : a < 4096) (hb : b < 4096) (t : TypeId) : binOp PP .or t (.p (.int .i64 (a : Nat))) (.p (.int .i64 (b : Nat))) = some (.p (.int .i64 ((a ||| b : Nat) : Int))) := by
  have e : (BitVec.ofInt IntKind.i64.bits (a : Int) ||| BitVec.ofInt IntKind.i64.bits (b : Int)).toNat = (a ||| b) := by
    have h1 : IntKind.i64.bits = 64 := rfl
    rw [h1, BitVec.ofInt_natCast, BitVec.ofInt_natCast, BitVec.toNat_or, BitVec.toNat_ofNat, BitVec.toNat_ofNat, Nat.mod_eq_of_lt (by omega), Nat.mod_eq_of_lt (by omega)]
  have hlt : a ||| b < 2 ^ 12 := Nat.or_lt_two_pow ha hb
  show ((some (PV.int .i64 (IntKind.wrap .i64 ((BitVec.ofInt IntKind.i64.bits (a : Int) ||| BitVec.ofInt IntKind.i64.bits (b : Int)).toNat : Int)))) : Option PV).map DV.p = _
  rw [e, wrap_ok (by omega) (by omega)]
  rfl
theorem shlN {m : Nat} (hm : m ≤ 11) (t : TypeId) : binOp PP .shl t (.p (.int .i64 1)) (.p (.int .i64 (m : Nat))) = some (.p (.int .i64 ((2 ^ m : Nat) : Int))) := by
  have hm0 : ¬ ((m : Int) < 0) := by omega
  have e1 : min (m : Int).toNat IntKind.i64.bits = m := by
    have : IntKind.i64.bits = 64 := rfl
    rw [this]; omega
  have hp := pow_le hm
  have e : (1 : Int) * 2 ^ m = ((2 ^ m : Nat) : Int) := by norm_cast; omega
  show (binShift .shl .i64 1 (m : Int)).map DV.p = _
  unfold binShift
  rw [if_neg hm0]
  simp only [e1, e, Option.map_some]
  rw [wrap_ok (Int.le_trans (by decide) (Int.natCast_nonneg _)) (Int.le_trans (Int.ofNat_le.2 (Nat.le_of_lt hp)) (by decide))]
theorem S157 {c n : Int} (hc : okL c) (hn : okAt n) (σ : Store) : pureV CC 157 [.p (.int .i64 c), .p (.int .i64 n)] σ = some (.p (.int .i64 (wA c n))) := by
  refine pureV_free rfl rfl (F157_call (r := (.p (.int .i64 (wA c n)), [])) ?_) rfl
  rw [F157_eq]
  unfold wA
  by_cases h : n = -1
  · rw [if_pos h]
    simp only [b_eql, eqT h, gG]
  · rw [if_neg h]
    obtain ⟨h0, h1⟩ := hc
    obtain ⟨h2, h3⟩ := hn
    have en : n = ((n.toNat : Nat) : Int) := by omega
    have ec : c = ((c.toNat : Nat) : Int) := by omega
    have s1 := shlN (m := n.toNat) (by omega) 3
    have o1 := orN (a := c.toNat) (b := 2 ^ n.toNat) (by omega) (pow_le (by omega)) 3
    rw [← en] at s1
    rw [← ec] at o1
    simp only [b_eql, eqF h, gG, s1, o1]
theorem bit_tb {c m : Int} : bit c m = c.toNat.testBit m.toNat := by
  unfold bit
  rw [Nat.testBit_eq_decide_div_mod_eq]
theorem add_or {c n : Nat} (h : c.testBit n = false) : c + 2 ^ n = c ||| 2 ^ n := by
  have hr : c % 2 ^ (n + 1) < 2 ^ n := by
    have h1 : c / 2 ^ n % 2 = 0 := by
      rw [Nat.testBit_eq_decide_div_mod_eq, decide_eq_false_iff_not] at h
      omega
    rw [Nat.pow_succ, Nat.mod_mul, h1, Nat.mul_zero, Nat.add_zero]
    exact Nat.mod_lt _ (Nat.two_pow_pos n)
  have hc : c = 2 ^ (n + 1) * (c / 2 ^ (n + 1)) + c % 2 ^ (n + 1) := (Nat.div_add_mod _ _).symm
  generalize c / 2 ^ (n + 1) = q at hc
  generalize c % 2 ^ (n + 1) = r at hc hr
  have hr2 : r < 2 ^ (n + 1) := by rw [Nat.pow_succ]; omega
  have e1 : c = 2 ^ (n + 1) * q ||| r := by rw [hc, Nat.two_pow_add_eq_or_of_lt hr2]
  have h3 : 2 ^ n * 1 + r = 2 ^ n * 1 ||| r := Nat.two_pow_add_eq_or_of_lt hr 1
  rw [Nat.mul_one] at h3
  have hlt : 2 ^ n + r < 2 ^ (n + 1) := by rw [Nat.pow_succ]; omega
  have e2 : c + 2 ^ n = 2 ^ (n + 1) * q ||| (2 ^ n ||| r) := by
    rw [← h3, ← Nat.two_pow_add_eq_or_of_lt hlt, hc]; omega
  rw [e2, e1, Nat.or_assoc, Nat.or_comm (2 ^ n) r]
theorem S163 {c n : Int} (hc : okL c) (hn : 0 ≤ n ∧ n ≤ 11) (σ : Store) : pureV CC 163 [.p (.int .i64 c), .p (.int .i64 n)] σ = some (.p (.int .i64 (wA c n))) := by
  refine pureV_free rfl rfl (F163_call (r := (.p (.int .i64 (wA c n)), [])) ?_) rfl
  have s60 := fun σ => S60 (x := c) (m := n) hc hn σ
  rw [F163_eq]
  unfold wA
  obtain ⟨h0, h1⟩ := hc
  obtain ⟨h2, h3⟩ := hn
  rw [if_neg (by omega)]
  have en : n = ((n.toNat : Nat) : Int) := by omega
  have ec : c = ((c.toNat : Nat) : Int) := by omega
  cases hb : bit c n with
  | true =>
    have e : ((c.toNat ||| 2 ^ n.toNat : Nat) : Int) = c := by
      have h5 : c.toNat ||| 2 ^ n.toNat = c.toNat := by
        refine Nat.eq_of_testBit_eq fun k => ?_
        rw [Nat.testBit_or, Nat.testBit_two_pow]
        by_cases hk : n.toNat = k
        · subst hk
          rw [bit_tb] at hb
          rw [hb, Bool.true_or]
        · rw [decide_eq_false hk, Bool.or_false]
      omega
    rw [e]
    simp only [shift_ptr, shift_pptr, Nat.zero_add, Nat.add_zero, pureFn_fn, List.append_nil, List.singleton_append, List.cons_append, List.nil_append, s60, hb, gG]
  | false =>
    have s1 := shlN (m := n.toNat) (by omega) 3
    have hp := pow_le (m := n.toNat) (by omega)
    have a1 := addN (a := c.toNat) (b := 2 ^ n.toNat) (by omega)
    rw [bit_tb] at hb
    rw [add_or hb, ← ec] at a1
    rw [← en] at s1
    rw [← bit_tb] at hb
    simp only [shift_ptr, shift_pptr, Nat.zero_add, Nat.add_zero, pureFn_fn, List.append_nil, List.singleton_append, List.cons_append, List.nil_append, s60, hb, gG, s1, a1]
def lt1 (x : Lb) (l : List Int) (c : Int) : Int := l.foldl (fun c a => wA c ((L x.st).getD a.toNat 0)) c
def lt2 (x : Lb) (s : Int) : Nat → Nat → Int → Int
  | _, 0, c => c
  | i, k + 1, c => lt2 x s (i + 1) k (if enb x s (i : Nat) = true then wA c ((L x.en).getD i 0) else c)
def ltR (x : Lb) (s t : Int) : Nat → Nat → Int → Int
  | _, 0, c => c
  | i, k + 1, c => ltR x s t (i + 1) k (let c1 := if stA x s t (i : Nat) = true then wA c ((L x.st).getD i 0) else c; if enb x s (i : Nat) = true then wA c1 ((L x.en).getD i 0) else c1)
def ltr (x : Lb) (s t : Int) : Int := lt2 x s 0 (L x.en).length (lt1 x (actsL (L x.g.edges) s t) ((L x.la).getD s.toNat 0))
structure LbOk (x : Lb) : Prop where
  g : isG x.g = true
  n : x.g.n ≤ 60
  la : ((L x.la).length : Int) = x.g.n
  se : (L x.st).length = (L x.en).length
  s12 : (L x.st).length ≤ 12
  lv : ∀ i, i < (L x.la).length → okL ((L x.la).getD i 0)
  sv : ∀ i, i < (L x.st).length → okAt ((L x.st).getD i 0)
  ev : ∀ i, i < (L x.en).length → okAt ((L x.en).getD i 0)
  av : ∀ i, i < (L x.g.edges).length → 0 ≤ ((L x.g.edges).getD i default).a ∧ ((L x.g.edges).getD i default).a < (L x.st).length
theorem scnP_zero {p : Nat → Bool} {e : Int} {s : Int × Int} (he : e ≠ 0) : ∀ (k i : Nat), (scnP p e s i k).2 = 0 → s.2 = 0 ∧ ∀ j, i ≤ j → j < i + k → p j = false
  | 0, i, h => ⟨h, fun j h1 h2 => by omega⟩
  | k + 1, i, h => by
    unfold scnP at h
    split at h
    · exact absurd h he
    · rename_i hp
      obtain ⟨h1, h2⟩ := scnP_zero he k (i + 1) h
      refine ⟨h1, fun j h3 h4 => ?_⟩
      rcases Nat.eq_or_lt_of_le h3 with rfl | h5
      · exact eq_false_of_ne_true hp
      · exact h2 j h5 (by omega)
theorem lbOk {x : Lb} (h : (chkLb x).2 = 0) : LbOk x := by
  have hg := chkLb_g h
  unfold chkLb at h
  rw [hg, if_neg (by simp)] at h
  split at h
  · exact absurd h (by decide)
  rename_i hn
  split at h
  · exact absurd h (by decide)
  rename_i hs
  obtain ⟨h1, h2⟩ := scnP_zero (by decide) _ _ h
  obtain ⟨h3, h4⟩ := scnP_zero (by decide) _ _ h1
  obtain ⟨h5, h6⟩ := scnP_zero (by decide) _ _ h3
  unfold shp at hs
  simp only [Bool.or_eq_true, Bool.not_eq_true', decide_eq_false_iff_not, decide_eq_true_iff, not_or, Decidable.not_not] at hs
  obtain ⟨s1, s2, s3⟩ := hs
  have hok : ∀ a b : Int, inR a b 4095 = inR a b 4095 := fun _ _ => rfl
  refine ⟨hg, by omega, s1, by omega, by omega, fun i hi => ?_, fun i hi => ?_, fun i hi => ?_, fun i hi => ?_⟩
  · have := h2 i (Nat.zero_le _) (by omega)
    unfold badL at this
    rw [Bool.not_eq_false'] at this
    exact (inR_iff _ _ _).1 this
  · have := h4 i (Nat.zero_le _) (by omega)
    unfold badS at this
    rw [Bool.or_eq_false_iff, Bool.not_eq_false', Bool.not_eq_false'] at this
    exact (inR_iff _ _ _).1 this.1
  · have := h4 i (Nat.zero_le _) (by omega)
    unfold badS at this
    rw [Bool.or_eq_false_iff, Bool.not_eq_false', Bool.not_eq_false'] at this
    exact (inR_iff _ _ _).1 this.2
  · have h7 := h6 i (Nat.zero_le _) (by omega)
    unfold badE at h7
    rw [decide_eq_false_iff_not] at h7
    unfold isG at hg
    rw [Bool.and_eq_true, Bool.and_eq_true, Bool.and_eq_true] at hg
    have h8 := (allFrom_iff _ _).1 hg.2 i (Nat.zero_le _) (by omega)
    unfold okE at h8
    rw [Bool.and_eq_true, Bool.and_eq_true, Bool.and_eq_true] at h8
    have h9 := (inR_iff _ _ _).1 h8.2.2.1
    omega
section
variable {x : Lb} (hk : LbOk x)
include hk
theorem acts_in {s t a : Int} (h : a ∈ actsL (L x.g.edges) s t) : 0 ≤ a ∧ a < (L x.st).length := by
  unfold actsL at h
  obtain ⟨e, he, rfl⟩ := List.mem_map.1 h
  have h1 := (List.mem_filter.1 he).1
  obtain ⟨i, hi, rfl⟩ := List.getElem_of_mem h1
  have := hk.av i hi
  rwa [List.getD_eq_getElem?_getD, List.getElem?_eq_getElem hi] at this
theorem lt1_ok : ∀ (l : List Int) (c : Int), (∀ a ∈ l, 0 ≤ a ∧ a < (L x.st).length) → okL c → okL (lt1 x l c) ∧ ∀ k, tb (lt1 x l c) k = (tb c k || l.any fun a => decide ((L x.st).getD a.toNat 0 = (k : Int)))
  | [], c, _, hc => ⟨hc, fun k => by simp [lt1]⟩
  | a :: l, c, ha, hc => by
    have h1 := ha a List.mem_cons_self
    have h2 := hk.sv a.toNat (by omega)
    obtain ⟨h3, h4⟩ := lt1_ok l (wA c ((L x.st).getD a.toNat 0)) (fun b hb => ha b (List.mem_cons_of_mem _ hb)) (wA_ok hc h2)
    refine ⟨h3, fun k => ?_⟩
    have h5 := h4 k
    have e : lt1 x (a :: l) c = lt1 x l (wA c ((L x.st).getD a.toNat 0)) := rfl
    rw [e, h5, wA_tb h2, List.any_cons, Bool.or_assoc]
theorem lt2_ok (s : Int) : ∀ (k i : Nat) (c : Int), i + k ≤ (L x.en).length → okL c → okL (lt2 x s i k c) ∧ ∀ j, tb (lt2 x s i k c) j = (tb c j || anyF (fun i => enb x s (i : Nat) && decide ((L x.en).getD i 0 = (j : Int))) i k)
  | 0, i, c, _, hc => ⟨hc, fun k => by simp [lt2, anyF]⟩
  | k + 1, i, c, hi, hc => by
    have h2 := hk.ev i (by omega)
    unfold lt2 anyF
    cases he : enb x s (i : Nat) with
    | true =>
      obtain ⟨h3, h4⟩ := lt2_ok s k (i + 1) (wA c ((L x.en).getD i 0)) (by omega) (wA_ok hc h2)
      refine ⟨by rw [if_pos rfl]; exact h3, fun j => ?_⟩
      rw [if_pos rfl, h4 j, wA_tb h2, Bool.true_and, Bool.or_assoc]
    | false =>
      obtain ⟨h3, h4⟩ := lt2_ok s k (i + 1) c (by omega) hc
      refine ⟨by rw [if_neg (by simp)]; exact h3, fun j => ?_⟩
      rw [if_neg (by simp), h4 j, Bool.false_and, Bool.false_or]
theorem ltR_ok (s t : Int) : ∀ (k i : Nat) (c : Int), i + k ≤ (L x.st).length → okL c → okL (ltR x s t i k c) ∧ ∀ j, tb (ltR x s t i k c) j = (tb c j || anyF (fun i => (stA x s t (i : Nat) && decide ((L x.st).getD i 0 = (j : Int))) || (enb x s (i : Nat) && decide ((L x.en).getD i 0 = (j : Int)))) i k)
  | 0, i, c, _, hc => ⟨hc, fun k => by simp [ltR, anyF]⟩
  | k + 1, i, c, hi, hc => by
    have hse := hk.se
    have h1 := hk.sv i (by omega)
    have h2 := hk.ev i (by omega)
    unfold ltR anyF
    have step : ∀ c', okL c' → (∀ j, tb c' j = (tb c j || ((stA x s t (i : Nat) && decide ((L x.st).getD i 0 = (j : Int))) || (enb x s (i : Nat) && decide ((L x.en).getD i 0 = (j : Int)))))) →
        okL (ltR x s t (i + 1) k c') ∧ ∀ j, tb (ltR x s t (i + 1) k c') j = (tb c j || (((stA x s t (i : Nat) && decide ((L x.st).getD i 0 = (j : Int))) || (enb x s (i : Nat) && decide ((L x.en).getD i 0 = (j : Int)))) || anyF (fun i => (stA x s t (i : Nat) && decide ((L x.st).getD i 0 = (j : Int))) || (enb x s (i : Nat) && decide ((L x.en).getD i 0 = (j : Int)))) (i + 1) k)) := by
      intro c' g1 g2
      obtain ⟨h3, h4⟩ := ltR_ok s t k (i + 1) c' (by omega) g1
      exact ⟨h3, fun j => by rw [h4 j, g2 j, Bool.or_assoc]⟩
    refine step _ ?_ fun j => ?_
    · cases stA x s t (i : Nat) <;> cases enb x s (i : Nat) <;> simp only [Bool.false_eq_true, if_true, if_false]
      · exact hc
      · exact wA_ok hc h2
      · exact wA_ok hc h1
      · exact wA_ok (wA_ok hc h1) h2
    · cases stA x s t (i : Nat) <;> cases enb x s (i : Nat) <;> simp only [Bool.false_eq_true, if_true, if_false, Bool.false_and, Bool.true_and, Bool.or_false, Bool.false_or]
      · rw [wA_tb h2]
      · rw [wA_tb h1]
      · rw [wA_tb h2, wA_tb h1, Bool.or_assoc]
omit hk in
theorem anyF_iff {p : Nat → Bool} : ∀ (k i : Nat), anyF p i k = true ↔ ∃ j, i ≤ j ∧ j < i + k ∧ p j = true
  | 0, i => by simp [anyF]; omega
  | k + 1, i => by
    simp only [anyF, Bool.or_eq_true, anyF_iff k (i + 1)]
    constructor
    · rintro (h | ⟨j, h1, h2, h3⟩)
      · exact ⟨i, Nat.le_refl _, by omega, h⟩
      · exact ⟨j, by omega, by omega, h3⟩
    · rintro ⟨j, h1, h2, h3⟩
      rcases Nat.eq_or_lt_of_le h1 with rfl | h4
      · exact .inl h3
      · exact .inr ⟨j, h4, by omega, h3⟩
theorem ltr_eq {s : Int} (t : Int) (hs : 0 ≤ s ∧ s < x.g.n) : ltR x s t 0 (L x.st).length ((L x.la).getD s.toNat 0) = ltr x s t ∧ okL (ltr x s t) := by
  have hla := hk.la
  have hse := hk.se
  have h0 := hk.lv s.toNat (by omega)
  obtain ⟨r1, r2⟩ := ltR_ok hk s t (L x.st).length 0 _ (by omega) h0
  obtain ⟨p1, p2⟩ := lt1_ok hk (actsL (L x.g.edges) s t) _ (fun a ha => acts_in hk ha) h0
  obtain ⟨q1, q2⟩ := lt2_ok hk s (L x.en).length 0 _ (by omega) p1
  refine ⟨okL_ext r1 q1 fun k => ?_, q1⟩
  rw [r2, show tb (ltr x s t) k = _ from q2 k, p2, Bool.or_assoc]
  congr 1
  rw [Bool.eq_iff_iff, Bool.or_eq_true, anyF_iff, anyF_iff, List.any_eq_true]
  constructor
  · rintro ⟨j, h1, h2, h3⟩
    rw [Bool.or_eq_true] at h3
    rcases h3 with h3 | h3
    · rw [Bool.and_eq_true] at h3
      refine .inl ⟨(j : Int), by unfold stA at h3; exact decide_eq_true_iff.1 h3.1, by simpa using h3.2⟩
    · exact .inr ⟨j, h1, by omega, h3⟩
  · rintro (⟨a, h1, h2⟩ | ⟨j, h1, h2, h3⟩)
    · obtain ⟨h3, h4⟩ := acts_in hk h1
      refine ⟨a.toNat, Nat.zero_le _, by omega, ?_⟩
      have e : ((a.toNat : Nat) : Int) = a := by omega
      rw [e]
      unfold stA
      rw [decide_eq_true h1, h2]; rfl
    · exact ⟨j, h1, by omega, by rw [h3, Bool.or_true]⟩
end
end Go.D
end
/- Chapter 13: the word of a behaviour, by the program and by the reference. -/
section
set_option linter.unusedVariables false
set_option linter.unusedSimpArgs false
set_option maxRecDepth 8000
namespace Go.D
open Las
def wl (x : Lb) (A : List Int) (b : Nat) : List Int := (List.range A.length).map fun i => ltr x (A.getD i 0) (A.getD (nx A.length b i) 0)
theorem wl_len (x : Lb) (A : List Int) (b : Nat) : (wl x A b).length = A.length := by simp [wl]
theorem wl_get (x : Lb) (A : List Int) (b : Nat) {i : Nat} (h : i < A.length) : (wl x A b).getD i 0 = ltr x (A.getD i 0) (A.getD (nx A.length b i) 0) := by
  simp [wl, List.getD_eq_getElem?_getD, h]
theorem take_getD {l : List Int} {i : Nat} (h : i < l.length) : l.take (i + 1) = l.take i ++ [l.getD i 0] := by
  rw [List.take_add_one, List.getElem?_eq_getElem h, List.getD_eq_getElem?_getD, List.getElem?_eq_getElem h]; rfl
theorem pl_drop {x : DV} {l : List Int} (h : PL x l) {k : Nat} (hk : k ≤ l.length) : ∃ y, sliceOp PP 24 x (some (.p (.int .i64 (k : Nat)))) none none = some y ∧ PL y (l.drop k) := by
  have hl : (l.drop k).length = l.length - k := by simp
  have ht : (l.drop k).take (l.length - k) = l.drop k := List.take_of_length_le (by rw [hl]; exact Nat.le_refl _)
  have hb : ∀ d, bound (some (.p (.int .i64 (k : Nat)))) d l.length = some k := fun d => bound_nat hk d
  rcases h with ⟨rfl, rfl⟩ | ⟨ex, rfl⟩ | ⟨r, v, rfl⟩
  · have : k = 0 := by simpa using hk
    subst this
    exact ⟨.p .nilsl, by simp [sliceOp, u24, s3, bound], .inl ⟨rfl, by simp⟩⟩
  · refine ⟨.p (.sl ex (l.length - k) (eInts (l.drop k))), ?_, .inr (.inl ⟨ex, by rw [hl]⟩)⟩
    simp only [sliceOp, u24, s3, Option.isSome_none, Bool.false_and, if_false, Bool.false_eq_true, show bound none l.length l.length = some l.length from rfl, hb, Nat.mul_one, eInts_drop, eInts_take, ht, beq_self_eq_true, Bool.and_true]
  · by_cases hf : k < l.length
    · refine ⟨.osl r v 1 (l.length - k) (eInts (l.drop k)), ?_, .inr (.inr ⟨r, v, by rw [hl]⟩)⟩
      simp only [sliceOp, u24, s3, Option.isSome_none, Bool.false_and, if_false, Bool.false_eq_true, show bound none l.length l.length = some l.length from rfl, hb, Nat.mul_one, eInts_drop, ne_eq, not_true_eq_false, beq_self_eq_true, Bool.true_and, decide_eq_true hf, if_true]
    · refine ⟨.p (.sl false (l.length - k) (eInts (l.drop k))), ?_, .inr (.inl ⟨false, by rw [hl]⟩)⟩
      simp only [sliceOp, u24, s3, Option.isSome_none, Bool.false_and, if_false, Bool.false_eq_true, show bound none l.length l.length = some l.length from rfl, hb, Nat.mul_one, eInts_drop, eInts_take, ht, ne_eq, not_true_eq_false, beq_self_eq_true, Bool.true_and, decide_eq_false hf]
theorem S78p {y : DV} {l : List Int} (h : PL y l) (hl : l.length ≤ 1000000) (σ : Store) : ∃ o, pureV CC 78 [y] σ = some (.p (eSl o)) ∧ L o = l := by
  obtain ⟨o, h1, h2⟩ := h.vw
  refine ⟨o, ?_, h2⟩
  rw [pureV_view (args' := [.p (eSl o)]) (by simp [h1]) (by simp [sl_view])]
  exact S78 (by rw [h2]; exact hl) σ
section
variable {x : Lb} (hx : LSm x) (hk : LbOk x)
include hx hk
theorem L117_2 {lo : Nat} {x4 x5 x6 x7 x27 : DV} {n j : Nat} (s : Int) : ∀ (k i : Nat) (c : Int) (σ : Store), (L x.en).length - i = k → i ≤ (L x.en).length → okL c →
    f117_L2 guardT lo (.pptr (eLb x) 0) x4 x5 x6 x7 (.p (.int .i64 s)) (.p (.int .i64 c)) x27 (N n) (N j) (.p (eSl x.en)) (N (L x.en).length) (N i) σ =
    f117_L2 guardT lo (.pptr (eLb x) 0) x4 x5 x6 x7 (.p (.int .i64 s)) (.p (.int .i64 (lt2 x s i k c))) x27 (N n) (N j) (.p (eSl x.en)) (N (L x.en).length) (N (L x.en).length) σ
  | 0, i, c, σ, hd, hi, hc => by
    have e : i = (L x.en).length := by omega
    rw [e]; rfl
  | k + 1, i, c, σ, hd, hi, hc => by
    have he := hx.en
    have h : i < (L x.en).length := by omega
    have hev := hk.ev i h
    have s158 := fun σ => S158 hx s (i : Nat) σ
    have s157 := fun σ => S157 hc hev σ
    rw [f117_L2_eq guardT rfl]
    unfold lt2
    cases c1 : enb x s (i : Nat) with
    | true =>
      have ih := L117_2 (lo := lo) (x4 := x4) (x5 := x5) (x6 := x6) (x7 := x7) (x27 := x27) (n := n) (j := j) s k (i + 1) (wA c ((L x.en).getD i 0)) σ (by omega) (by omega) (wA_ok hc hev)
      simp only [N] at ih
      rw [if_pos rfl, N, N, N, N, ← ih]
      simp (disch := omega) only [b_lss, ltT, gG, (PL.sl x.en).idx h, load3, load1_getD h, load47, lb_all, shift_ptr, shift_pptr, Nat.zero_add, Nat.add_zero, pureFn_fn, List.append_nil, List.singleton_append, List.cons_append, List.nil_append, s158, c1, s157, f117_J0_eq, add1]
    | false =>
      have ih := L117_2 (lo := lo) (x4 := x4) (x5 := x5) (x6 := x6) (x7 := x7) (x27 := x27) (n := n) (j := j) s k (i + 1) c σ (by omega) (by omega) hc
      simp only [N] at ih
      rw [if_neg (by simp), N, N, N, N, ← ih]
      simp (disch := omega) only [b_lss, ltT, gG, (PL.sl x.en).idx h, load3, load1_getD h, load47, lb_all, shift_ptr, shift_pptr, Nat.zero_add, Nat.add_zero, pureFn_fn, List.append_nil, List.singleton_append, List.cons_append, List.nil_append, s158, c1, f117_J0_eq, add1]
omit hx in
theorem L117_1 {lo : Nat} {x4 x5 x6 x7 x9 x27 x28 x29 : DV} {l : List Int} (hl : l.length ≤ 100000) (ha : ∀ a ∈ l, 0 ≤ a ∧ a < (L x.st).length) : ∀ (k i : Nat) (c : Int) (σ : Store), l.length - i = k → i ≤ l.length → okL c →
    f117_L1 guardT lo (.pptr (eLb x) 0) x4 x5 x6 x7 x9 (.p (.int .i64 c)) x27 x28 x29 (.p (eSl (oI l))) (N l.length) (N i) σ =
    f117_L1 guardT lo (.pptr (eLb x) 0) x4 x5 x6 x7 x9 (.p (.int .i64 (lt1 x (l.drop i) c))) x27 x28 x29 (.p (eSl (oI l))) (N l.length) (N l.length) σ
  | 0, i, c, σ, hd, hi, hc => by
    have e : i = l.length := by omega
    rw [e, List.drop_length]; rfl
  | k + 1, i, c, σ, hd, hi, hc => by
    have h : i < l.length := by omega
    have hm : l.getD i 0 ∈ l := by rw [List.getD_eq_getElem?_getD, List.getElem?_eq_getElem h]; exact List.getElem_mem h
    obtain ⟨a0, a1⟩ := ha _ hm
    have hsv := hk.sv (l.getD i 0).toNat (by omega)
    have ih := L117_1 (lo := lo) (x4 := x4) (x5 := x5) (x6 := x6) (x7 := x7) (x9 := x9) (x27 := x27) (x28 := x28) (x29 := x29) hl ha k (i + 1) (wA c ((L x.st).getD (l.getD i 0).toNat 0)) σ (by omega) (by omega) (wA_ok hc hsv)
    have s157 := fun σ => S157 hc hsv σ
    have ix := (PL.sl (oI l)).idx (i := i) (by rw [L_oI]; exact h)
    rw [L_oI] at ix
    have ix2 := (PL.sl x.st).idx (i := (l.getD i 0).toNat) (by omega)
    have ld2 := load1_getD (l := L x.st) (i := (l.getD i 0).toNat) (by omega)
    rw [Int.toNat_of_nonneg a0] at ix2
    have e : lt1 x (l.drop i) c = lt1 x (l.drop (i + 1)) (wA c ((L x.st).getD (l.getD i 0).toNat 0)) := by rw [drop_cons h]; rfl
    simp only [N] at ih
    rw [f117_L1_eq guardT rfl, e, N, N, ← ih]
    simp (disch := omega) only [b_lss, ltT, gG, ix, load3, load1_getD h, fa47_2, shift_ptr, shift_pptr, Nat.zero_add, Nat.add_zero, pureFn_fn, List.append_nil, List.singleton_append, List.cons_append, List.nil_append, load24, lb_4, ix2, ld2, s157, add1]
theorem L117_0 {lo rw rr : Nat} {A : List Int} {b : Nat} (hA : A.length ≤ 1000) (hb : b < A.length) (hin : ∀ i, i < A.length → 0 ≤ A.getD i 0 ∧ A.getD i 0 < x.g.n) (z : List DV) (hz : z.length = 2) (hlw : lo ≤ rw) :
    ∀ (k i : Nat) (y : DV) (σ : Store), A.length - i = k → i ≤ A.length → lo ≤ σ.length → Out σ lo 1 ((wl x A b).take i).length (eInts ((wl x A b).take i)) y → σ[rr]? = some (.mix (rgD A.length b)) → σ[rw]? = some (.mix z) →
    ∃ (o1 o2 : OI) (σ' : Store), f117_L0 guardT lo (.pptr (eLb x) 0) (.ptr rw 0) (.p (eSl (some A))) (.ptr rr 0) y (.p (eSl (some A))) (N A.length) (N i) σ = some (vWd ⟨o1, o2⟩, σ') ∧ L o1 = (wl x A b).take b ∧ L o2 = (wl x A b).drop b
  | 0, i, y, σ, hd, hi, hlo, ho, hr, hw => by
    have hwl := wl_len x A b
    rw [List.take_of_length_le (by omega)] at ho
    have hy := out_pl ho
    obtain ⟨y1, t1, t2⟩ := hy.take (k := b) (by omega)
    obtain ⟨y2, d1, d2⟩ := pl_drop hy (k := b) (by omega)
    obtain ⟨o1, c1, c2⟩ := S78p t2 (by simp; omega) σ
    obtain ⟨o2, e1, e2⟩ := S78p d2 (by simp; omega) σ
    have lr : load1 (.ptr rr 1) σ = some (.p (.int .i64 (b : Nat))) := load1_ptr hr rfl
    have bl := bld26 (x := .p (eSl o1)) (y := .p (eSl o2)) rfl rfl
    have sw := st_wd (lo := lo) (⟨o1, o2⟩ : Wd) hw hlw hz
    have cw := ce_wd (⟨o1, o2⟩ : Wd) (get_lt hw)
    refine ⟨o1, o2, σ.set rw (.mix [.p (eSl o1), .p (eSl o2)]), ?_, c2, e2⟩
    rw [f117_L0_eq guardT rfl]
    simp (disch := omega) only [N, b_lss, ltF, gG, fa135_1, shift_ptr, shift_pptr, Nat.zero_add, Nat.add_zero, pureFn_fn, List.append_nil, List.singleton_append, List.cons_append, List.nil_append, load3, lr, t1, c1, d1, e1, bl]
    have e3 : (DV.agg [.p (eSl o1), .p (eSl o2)]) = vWd ⟨o1, o2⟩ := rfl
    rw [e3, sw]
    simp only [obind, cw]
  | k + 1, i, y, σ, hd, hi, hlo, ho, hr, hw => by
    have h : i < A.length := by omega
    have hwl := wl_len x A b
    have hnx : nx A.length b i < A.length := nx_lt hb h
    obtain ⟨i0, i1⟩ := hin i h
    have hla := hk.la
    have ld : (loadN σ 2 (.ptr rr 0)).map DV.agg = some (vRg A.length b) := by
      rw [loadN_ptr (off := 0) (n := 2) (vs := rgD A.length b) hr rfl (by simp [rgD])]; rfl
    have s93 := fun σ => S93 (n := A.length) (back := b) (i := i) (by omega) hA h σ
    have s142 := fun s t σ => S142 hx s t σ
    have ix := (PL.some A).idx h
    have ix2 := (PL.some A).idx hnx
    have ix3 := (PL.sl x.la).idx (i := (A.getD i 0).toNat) (by omega)
    have ld3 := load1_getD (l := L x.la) (i := (A.getD i 0).toNat) (by omega)
    rw [Int.toNat_of_nonneg i0] at ix3
    have hlv := hk.lv (A.getD i 0).toNat (by omega)
    have hall : ∀ a ∈ actsL (L x.g.edges) (A.getD i 0) (A.getD (nx A.length b i) 0), 0 ≤ a ∧ a < (L x.st).length := fun a ha => acts_in hk ha
    have hle : (actsL (L x.g.edges) (A.getD i 0) (A.getD (nx A.length b i) 0)).length ≤ 100000 := by
      have h1 : (actsL (L x.g.edges) (A.getD i 0) (A.getD (nx A.length b i) 0)).length ≤ (L x.g.edges).length := by
        unfold actsL; rw [List.length_map]; exact List.length_filter_le _ _
      have := hx.e
      omega
    have len3 := fun σ => len24 (oI (actsL (L x.g.edges) (A.getD i 0) (A.getD (nx A.length b i) 0))) σ
    rw [L_oI] at len3
    obtain ⟨p1, _⟩ := lt1_ok hk _ _ hall hlv
    have hll : ((wl x A b).take i).length = i := by simp; omega
    obtain ⟨y2, σ2, a1, a2, a3, a4⟩ := Out.pushI (v := ltr x (A.getD i 0) (A.getD (nx A.length b i) 0)) ho (by omega) hlo
    rw [← wl_get x A b h, ← take_getD (by omega)] at a2
    have hr2 := a3.mix ho hr (fun v hv => by cases hv)
    have hw2 := a3.mix ho hw (fun v hv => by cases hv)
    obtain ⟨o1, o2, σ', g1, g2, g3⟩ := L117_0 hA hb hin z hz hlw k (i + 1) y2 σ2 (by omega) (by omega) (by omega) a2 hr2 hw2
    refine ⟨o1, o2, σ', ?_, g2, g3⟩
    simp only [N] at g1
    rw [f117_L0_eq guardT rfl]
    simp (disch := omega) only [N, b_lss, ltT, gG, ix, load3, load1_getD h, fa47_1, shift_ptr, shift_pptr, Nat.zero_add, Nat.add_zero, pureFn_fn, List.append_nil, List.singleton_append, List.cons_append, List.nil_append, load24, lb_3, ix3, ld3, load47, lb_all, load135, ld, s93, ix2, load1_getD hnx, s142, len3]
    have q1 := L117_1 hk (lo := lo) (x4 := .ptr rw 0) (x5 := .p (eSl (some A))) (x6 := .ptr rr 0) (x7 := y) (x9 := .p (.int .i64 (A.getD i 0))) (x27 := .p (eSl (some A))) (x28 := N A.length) (x29 := N i) hle hall _ 0 ((L x.la).getD (A.getD i 0).toNat 0) σ rfl (Nat.zero_le _) hlv
    simp only [N] at q1
    have q1' := q1
    rw [show (((0 : Nat) : Int)) = 0 from rfl] at q1'
    rw [q1', f117_L1_eq guardT rfl]
    have hnlt : ∀ m : Nat, ¬ (m : Int) < (m : Nat) := fun m => by omega
    simp (disch := omega) only [b_lss, ltF (hnlt _), gG, fa47_3, shift_ptr, shift_pptr, Nat.zero_add, Nat.add_zero, pureFn_fn, List.append_nil, List.singleton_append, List.cons_append, List.nil_append, load24, lb_5, len24, List.drop_zero]
    have q2 := L117_2 hx hk (lo := lo) (x4 := .ptr rw 0) (x5 := .p (eSl (some A))) (x6 := .ptr rr 0) (x7 := y) (x27 := .p (eSl (some A))) (n := A.length) (j := i) (A.getD i 0) _ 0 (lt1 x (actsL (L x.g.edges) (A.getD i 0) (A.getD (nx A.length b i) 0)) ((L x.la).getD (A.getD i 0).toNat 0)) σ rfl (Nat.zero_le _) p1
    simp only [N] at q2
    rw [show (((0 : Nat) : Int)) = 0 from rfl] at q2
    rw [q2, f117_L2_eq guardT rfl]
    have e5 : lt2 x (A.getD i 0) 0 ((L x.en).length - 0) (lt1 x (actsL (L x.g.edges) (A.getD i 0) (A.getD (nx A.length b i) 0)) ((L x.la).getD (A.getD i 0).toNat 0)) = ltr x (A.getD i 0) (A.getD (nx A.length b i) 0) := rfl
    simp (disch := omega) only [b_lss, ltF (hnlt _), gG, e5, bs24_1, a1, add1]
    exact g1
end
end Go.D
end
/- Equations of functions 12, printed by gen.py. -/
section
set_option linter.unusedVariables false
set_option maxRecDepth 10000
namespace Go.D
open Go.Proofs
noncomputable section
variable (G : GuardT) (lo : Nat) {σ : Store} {r : DV × Store}
open _root_.Go.D.Code (fstC sndC)
open _root_.Go.D.Ann (left right)
def lstr0 : ByteArray := ⟨#[40, 112, 48, 32, 126, 62, 32, 60, 62, 112, 49, 41]⟩
def c12_0 : Code := bodyOf Tryz.f12
def a12_0 : Ann := (pol 12).ann
def F12 (σ : Store) : RS :=
 codeF G PP (pol 12) CC lo c12_0 a12_0 (zn 80 []) σ (finR PP Tryz.f12.results.toList)
theorem F12_eq (G : GuardT) (lo : Nat) (σ : Store) : F12 G lo σ =
 (pureFn CC (DV.fn 48 []) [(DV.p (PV.str lstr0))] σ).bind fun x11 =>
 (extractV x11 0).bind fun x12 =>
 (extractV x11 1).bind fun x13 =>
 (extractV x11 2).bind fun x14 =>
 (pureFn CC (DV.fn 62 []) [I0] σ).bind fun x16 =>
 (pureFn CC (DV.fn 62 []) [I1] σ).bind fun x17 =>
 (buildSlice PP none 64 2 [(0, x16), (1, x17)] σ).bind fun r18_1 =>
 (pureFn CC (DV.fn 38 []) [(DV.p (PV.int IntKind.i64 (8))), r18_1.1] r18_1.2).bind fun x19 =>
 (buildSlice PP none 24 2 [(0, I0), (1, I1)] r18_1.2).bind fun r20_2 =>
 (buildSlice PP none 24 2 [(0, (DV.p (PV.int IntKind.i64 (2)))), (1, I0)] r20_2.2).bind fun r21_3 =>
 (build PP 26 [(0, r20_2.1), (1, r21_3.1)]).bind fun x22 =>
 (pureFn CC (DV.fn 20 []) [x19, x22] r21_3.2).bind fun x23 =>
 (extractV x23 0).bind fun x24 =>
 (extractV x23 1).bind fun x25 =>
 (buildSlice PP none 24 3 [(0, I1), (1, I1), (2, (DV.p (PV.int IntKind.i64 (2))))] r21_3.2).bind fun r27_4 =>
 (buildSlice PP none 24 3 [(0, (DV.p (PV.int IntKind.i64 (3)))), (1, (DV.p (PV.int IntKind.i64 (2)))), (2, (DV.p (PV.int IntKind.i64 (2))))] r27_4.2).bind fun r28_5 =>
 (build PP 26 [(0, r27_4.1), (1, r28_5.1)]).bind fun x29 =>
 (pureFn CC (DV.fn 32 []) [x29] r28_5.2).bind fun x30 =>
 (extractV x30 0).bind fun x31 =>
 (extractV x30 1).bind fun x32 =>
 (zeroOf PP 26).bind fun z6 =>
 (store PP lo 26 (DV.ptr (List.length r28_5.2) 0) x31 (r28_5.2 ++ [Row.mix z6])).bind fun σ6 =>
 (pureFn CC (DV.fn 63 []) [(DV.p PV.nilsl)] σ6).bind fun x34 =>
 (pureFn CC (DV.fn 62 []) [I0] σ6).bind fun x35 =>
 (buildSlice PP none 64 1 [(0, x35)] σ6).bind fun r36_7 =>
 (pureFn CC (DV.fn 38 []) [(DV.p (PV.int IntKind.i64 (7))), r36_7.1] r36_7.2).bind fun x37 =>
 (pureFn CC (DV.fn 27 []) [x34, x37, (DV.p (PV.int IntKind.i64 (2)))] r36_7.2).bind fun x38 =>
 (extractV x38 0).bind fun x39 =>
 (extractV x38 1).bind fun x40 =>
 (zeroOf PP 52).bind fun z8 =>
 (store PP lo 52 (DV.ptr (List.length r36_7.2) 0) x39 (r36_7.2 ++ [Row.mix z8])).bind fun σ8 =>
 (binOp PP .eql 30 x14 I0).bind fun x42 =>
 G _ x42 true (some (x13, σ8)) σ8 fun x44 σ9 =>
 G _ x42 true ((binOp PP .eql 3 x44 (DV.p (PV.int IntKind.i64 (12)))).bind fun v => some (v, σ9)) σ9 fun x45 σ10 =>
 (pickV x42 x45 (DV.p (PV.bool false))).bind fun x46 =>
 G _ x46 true (some (x12, σ10)) σ10 fun x48 σ11 =>
 G _ x46 true ((len PP 23 x48 σ11).bind fun v => some (v, σ11)) σ11 fun x49 σ12 =>
 G _ x46 true ((binOp PP .eql 3 x49 (DV.p (PV.int IntKind.i64 (4)))).bind fun v => some (v, σ12)) σ12 fun x50 σ13 =>
 (pickV x46 x50 (DV.p (PV.bool false))).bind fun x51 =>
 G _ x51 true (some (x25, σ13)) σ13 fun x53 σ14 =>
 G _ x51 true ((binOp PP .eql 30 x53 I0).bind fun v => some (v, σ14)) σ14 fun x54 σ15 =>
 (pickV x51 x54 (DV.p (PV.bool false))).bind fun x55 =>
 G _ x55 true (some (x24, σ15)) σ15 fun x57 σ16 =>
 (pickV x55 x57 (DV.p (PV.bool false))).bind fun x58 =>
 G _ x58 true (some (x32, σ16)) σ16 fun x60 σ17 =>
 G _ x58 true ((binOp PP .eql 30 x60 I0).bind fun v => some (v, σ17)) σ17 fun x61 σ18 =>
 (pickV x58 x61 (DV.p (PV.bool false))).bind fun x62 =>
 G _ x62 true ((load PP 26 (DV.ptr (List.length r28_5.2) 0) σ18).bind fun v => some (v, σ18)) σ18 fun x64 σ19 =>
 G _ x62 true ((buildSlice PP none 24 1 [(0, I1)] σ19).bind fun r => some (r.1, r.2)) σ19 fun x65 σ20 =>
 G _ x62 true ((buildSlice PP none 24 2 [(0, (DV.p (PV.int IntKind.i64 (2)))), (1, (DV.p (PV.int IntKind.i64 (3))))] σ20).bind fun r => some (r.1, r.2)) σ20 fun x66 σ21 =>
 G _ x62 true ((build PP 26 [(0, x65), (1, x66)]).bind fun v => some (v, σ21)) σ21 fun x67 σ22 =>
 G _ x62 true ((pureFn CC (DV.fn 33 []) [x64, x67] σ22).bind fun v => some (v, σ22)) σ22 fun x68 σ23 =>
 (pickV x62 x68 (DV.p (PV.bool false))).bind fun x69 =>
 G _ x69 true (some (x40, σ23)) σ23 fun x71 σ24 =>
 G _ x69 true ((binOp PP .eql 30 x71 I0).bind fun v => some (v, σ24)) σ24 fun x72 σ25 =>
 (pickV x69 x72 (DV.p (PV.bool false))).bind fun x73 =>
 G _ x73 true ((load PP 52 (DV.ptr (List.length r36_7.2) 0) σ25).bind fun v => some (v, σ25)) σ25 fun x75 σ26 =>
 G _ x73 true ((buildSlice PP none 24 1 [(0, I0)] σ26).bind fun r => some (r.1, r.2)) σ26 fun x76 σ27 =>
 G _ x73 true ((build PP 52 [(1, x76)]).bind fun v => some (v, σ27)) σ27 fun x77 σ28 =>
 G _ x73 true ((pureFn CC (DV.fn 29 []) [x75, x77] σ28).bind fun v => some (v, σ28)) σ28 fun x78 σ29 =>
 (pickV x73 x78 (DV.p (PV.bool false))).bind fun x79 =>
 some (x79, σ29) := by kernel_rfl
theorem F12_call {lo : Nat} (h : F12 guardT lo σ = some r) : CC lo 12 [] σ = some r :=
 callL_run Tryz.func12 (by decide +kernel) rfl (by decide +kernel) h
end
end Go.D
end
