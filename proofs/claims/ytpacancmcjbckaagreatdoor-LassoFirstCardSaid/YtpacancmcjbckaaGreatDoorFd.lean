/- Equations of functions 13, 19, 46, 25, 103, 104, 105, 99, 44, 70, printed by gen.py. -/
import Derived.Test.YtpacancmcjbckaaGreatDoorFc
import Derived.Orders
section
set_option linter.unusedVariables false
set_option maxRecDepth 10000
namespace Go.D
open Go.Proofs
noncomputable section
variable (G : GuardT) (lo : Nat) {σ : Store} {r : DV × Store}
open _root_.Go.D.Code (fstC sndC)
open _root_.Go.D.Ann (left right)
def c13_0 : Code := bodyOf Tryz.f13
def a13_0 : Ann := (pol 13).ann
def a13_13 : Ann := right (left (right (right a13_0)))
def a13_14 : Ann := left a13_13
def c13_15 : Code := fstC (fstC (sndC (fstC (sndC (sndC c13_0)))))
def c13_31 : Code := sndC (sndC (sndC c13_0))
def a13_31 : Ann := right (right (right a13_0))
def f13_L0 (x0 x3 : DV) (σ : Store) : RS :=
 codeF G PP (pol 13) CC lo (.loop c13_15) a13_14 (x0 :: Z :: Z :: x3 :: zn 16 []) σ
 (blockC 0 a13_13 (seqC G PP (pol 13) CC lo c13_31 a13_31 (finR PP Tryz.f13.results.toList)))
def F13 (x0 : DV) (σ : Store) : RS :=
 codeF G PP (pol 13) CC lo c13_0 a13_0 (x0 :: zn 19 []) σ (finR PP Tryz.f13.results.toList)
theorem f13_L0_eq (G : GuardT) (hG : GuardOk G) (lo : Nat) (x0 x3 : DV) (σ : Store) : f13_L0 G lo x0 x3 σ =
 (len PP 23 x0 σ).bind fun x9 =>
 (binOp PP .lss 3 x3 x9).bind fun x10 =>
 condK x10
 (
 (indexAddr PP 23 x0 x3).bind fun x15 =>
 (fieldAddr PP 67 x15 2).bind fun x16 =>
 (load PP 24 x16 σ).bind fun x17 =>
 (len PP 24 x17 σ).bind fun x18 =>
 (binOp PP .gtr 3 x18 (DV.p (PV.int IntKind.i64 (45)))).bind fun x19 =>
 condK x19
 (
 some ((DV.p (PV.bool false)), σ)
 )
 (
 (binOp PP .add 3 x3 I1).bind fun x12 =>
 f13_L0 G lo x0 x12 σ
 )
 )
 (
 some ((DV.p (PV.bool true)), σ)
 ) := (loopF_eq G hG).trans (by kernel_rfl)
theorem F13_eq (G : GuardT) (lo : Nat) (x0 : DV) (σ : Store) : F13 G lo x0 σ =
 (len PP 23 x0 σ).bind fun x5 =>
 (binOp PP .gtr 3 x5 (DV.p (PV.int IntKind.i64 (45)))).bind fun x6 =>
 condK x6
 (
 some ((DV.p (PV.bool false)), σ)
 )
 (
 f13_L0 G lo x0 I0 σ
 ) := by kernel_rfl
theorem F13_call {lo : Nat} {x0 : DV} (h : F13 guardT lo x0 σ = some r) : CC lo 13 [x0] σ = some r :=
 callL_run Tryz.func13 (by decide +kernel) rfl (by decide +kernel) h
def c19_0 : Code := bodyOf Tryz.f19
def a19_0 : Ann := (pol 19).ann
def a19_7 : Ann := right (left (right (right a19_0)))
def a19_8 : Ann := left a19_7
def c19_9 : Code := fstC (fstC (sndC (fstC (sndC (sndC c19_0)))))
def c19_23 : Code := sndC (sndC (sndC c19_0))
def a19_23 : Ann := right (right (right a19_0))
def f19_L0 (x0 x3 x4 : DV) (σ : Store) : RS :=
 codeF G PP (pol 19) CC lo (.loop c19_9) a19_8 (x0 :: Z :: Z :: x3 :: x4 :: zn 20 []) σ
 (blockC 0 a19_7 (seqC G PP (pol 19) CC lo c19_23 a19_23 (finR PP Tryz.f19.results.toList)))
def F19 (x0 : DV) (σ : Store) : RS :=
 codeF G PP (pol 19) CC lo c19_0 a19_0 (x0 :: zn 24 []) σ (finR PP Tryz.f19.results.toList)
theorem f19_L0_eq (G : GuardT) (hG : GuardOk G) (lo : Nat) (x0 x3 x4 : DV) (σ : Store) : f19_L0 G lo x0 x3 x4 σ =
 (len PP 23 x0 σ).bind fun x8 =>
 (binOp PP .lss 3 x4 x8).bind fun x9 =>
 condK x9
 (
 (indexAddr PP 23 x0 x4).bind fun x14 =>
 (load PP 67 x14 σ).bind fun x15 =>
 (zeroOf PP 67).bind fun z5 =>
 (store PP lo 67 (DV.ptr (List.length σ) 0) x15 (σ ++ [Row.mix z5])).bind fun σ1 =>
 (fieldAddr PP 67 (DV.ptr (List.length σ) 0) 2).bind fun x16 =>
 (load PP 24 x16 σ1).bind fun x17 =>
 (pureFn CC (DV.fn 52 []) [x17] σ1).bind fun x18 =>
 (fieldAddr PP 67 (DV.ptr (List.length σ) 0) 2).bind fun x19 =>
 (store PP lo 24 x19 x18 σ1).bind fun σ2 =>
 (load PP 67 (DV.ptr (List.length σ) 0) σ2).bind fun x21 =>
 (buildSlice PP none 23 1 [(0, x21)] σ2).bind fun r22_3 =>
 (append PP lo false 23 23 x3 r22_3.1 r22_3.2).bind fun r23_4 =>
 (binOp PP .add 3 x4 I1).bind fun x11 =>
 f19_L0 G lo x0 r23_4.1 x11 r23_4.2
 )
 (
 some (x3, σ)
 ) := (loopF_eq G hG).trans (by kernel_rfl)
theorem F19_eq (G : GuardT) (lo : Nat) (x0 : DV) (σ : Store) : F19 G lo x0 σ =
 f19_L0 G lo x0 (DV.p PV.nilsl) I0 σ := by kernel_rfl
theorem F19_call {lo : Nat} {x0 : DV} (h : F19 guardT lo x0 σ = some r) : CC lo 19 [x0] σ = some r :=
 callL_run Tryz.func19 (by decide +kernel) rfl (by decide +kernel) h
def c46_0 : Code := bodyOf Tryz.f46
def a46_0 : Ann := (pol 46).ann
def a46_21 : Ann := right (left (right (right (right a46_0))))
def a46_22 : Ann := left a46_21
def c46_23 : Code := fstC (fstC (sndC (fstC (sndC (sndC (sndC c46_0))))))
def c46_57 : Code := sndC (sndC (sndC (sndC c46_0)))
def a46_57 : Ann := right (right (right (right a46_0)))
def f46_L0 (x0 x4 : DV) (σ : Store) : RS :=
 codeF G PP (pol 46) CC lo (.loop c46_23) a46_22 (x0 :: Z :: Z :: Z :: x4 :: zn 65 []) σ
 (blockC 0 a46_21 (seqC G PP (pol 46) CC lo c46_57 a46_57 (finR PP Tryz.f46.results.toList)))
def F46 (x0 : DV) (σ : Store) : RS :=
 codeF G PP (pol 46) CC lo c46_0 a46_0 (x0 :: zn 69 []) σ (finR PP Tryz.f46.results.toList)
theorem f46_L0_eq (G : GuardT) (hG : GuardOk G) (lo : Nat) (x0 x4 : DV) (σ : Store) : f46_L0 G lo x0 x4 σ =
 (len PP 23 x0 σ).bind fun x14 =>
 (binOp PP .lss 3 x4 x14).bind fun x15 =>
 condK x15
 (
 (indexAddr PP 23 x0 x4).bind fun x20 =>
 (load PP 67 x20 σ).bind fun x21 =>
 (zeroOf PP 67).bind fun z5 =>
 (store PP lo 67 (DV.ptr (List.length σ) 0) x21 (σ ++ [Row.mix z5])).bind fun σ1 =>
 (fieldAddr PP 67 (DV.ptr (List.length σ) 0) 0).bind fun x22 =>
 (load PP 3 x22 σ1).bind fun x23 =>
 (pureFn CC (DV.fn 26 []) [x23, I0, (DV.p (PV.int IntKind.i64 (9)))] σ1).bind fun x24 =>
 (unOp .not x24).bind fun x25 =>
 condK x25
 (
 some ((DV.tuple [x4, (DV.p (PV.int IntKind.i64 (4)))]), σ1)
 )
 (
 (fieldAddr PP 67 (DV.ptr (List.length σ) 0) 2).bind fun x27 =>
 (load PP 24 x27 σ1).bind fun x28 =>
 (len PP 24 x28 σ1).bind fun x29 =>
 (fieldAddr PP 67 (DV.ptr (List.length σ) 0) 0).bind fun x30 =>
 (load PP 3 x30 σ1).bind fun x31 =>
 (pureFn CC (DV.fn 103 []) [x31] σ1).bind fun x32 =>
 (binOp PP .neq 3 x29 x32).bind fun x33 =>
 G _ x33 false (some (x0, σ1)) σ1 fun x35 σ2 =>
 G _ x33 false (some (x4, σ2)) σ2 fun x36 σ3 =>
 G _ x33 false ((pureFn CC (DV.fn 104 []) [x35, x36] σ3).bind fun v => some (v, σ3)) σ3 fun x37 σ4 =>
 G _ x33 false ((unOp .not x37).bind fun v => some (v, σ4)) σ4 fun x38 σ5 =>
 (pickV x33 (DV.p (PV.bool true)) x38).bind fun x39 =>
 condK x39
 (
 some ((DV.tuple [x4, (DV.p (PV.int IntKind.i64 (6)))]), σ5)
 )
 (
 (fieldAddr PP 67 (DV.ptr (List.length σ) 0) 0).bind fun x41 =>
 (load PP 3 x41 σ5).bind fun x42 =>
 (binOp PP .eql 3 x42 I1).bind fun x43 =>
 G _ x43 true ((fieldAddr PP 67 (DV.ptr (List.length σ) 0) 1).bind fun v => some (v, σ5)) σ5 fun x45 σ6 =>
 G _ x43 true ((load PP 3 x45 σ6).bind fun v => some (v, σ6)) σ6 fun x46 σ7 =>
 G _ x43 true ((pureFn CC (DV.fn 26 []) [x46, I0, (DV.p (PV.int IntKind.i64 (11)))] σ7).bind fun v => some (v, σ7)) σ7 fun x47 σ8 =>
 G _ x43 true ((unOp .not x47).bind fun v => some (v, σ8)) σ8 fun x48 σ9 =>
 (pickV x43 x48 (DV.p (PV.bool false))).bind fun x49 =>
 G _ x49 false ((fieldAddr PP 67 (DV.ptr (List.length σ) 0) 0).bind fun v => some (v, σ9)) σ9 fun x51 σ10 =>
 G _ x49 false ((load PP 3 x51 σ10).bind fun v => some (v, σ10)) σ10 fun x52 σ11 =>
 G _ x49 false ((binOp PP .neq 3 x52 I1).bind fun v => some (v, σ11)) σ11 fun x53 σ12 =>
 G _ x49 false (some (x53, σ12)) σ12 fun x54 σ13 =>
 G _ x54 true ((fieldAddr PP 67 (DV.ptr (List.length σ) 0) 1).bind fun v => some (v, σ13)) σ13 fun x55 σ14 =>
 G _ x54 true ((load PP 3 x55 σ14).bind fun v => some (v, σ14)) σ14 fun x56 σ15 =>
 G _ x54 true ((binOp PP .neq 3 x56 I0).bind fun v => some (v, σ15)) σ15 fun x57 σ16 =>
 G _ x49 false ((pickV x54 x57 (DV.p (PV.bool false))).bind fun v => some (v, σ16)) σ16 fun x58 σ17 =>
 (pickV x49 (DV.p (PV.bool true)) x58).bind fun x59 =>
 condK x59
 (
 some ((DV.tuple [x4, (DV.p (PV.int IntKind.i64 (3)))]), σ17)
 )
 (
 (binOp PP .add 3 x4 I1).bind fun x17 =>
 f46_L0 G lo x0 x17 σ17
 )
 )
 )
 )
 (
 (len PP 23 x0 σ).bind fun x63 =>
 (binOp PP .sub 3 x63 I1).bind fun x64 =>
 (pureFn CC (DV.fn 105 []) [x0, x64] σ).bind fun x65 =>
 (binOp PP .neq 3 x65 I0).bind fun x66 =>
 condK x66
 (
 (len PP 23 x0 σ).bind fun x68 =>
 (binOp PP .sub 3 x68 I1).bind fun x69 =>
 some ((DV.tuple [x69, (DV.p (PV.int IntKind.i64 (15)))]), σ)
 )
 (
 some ((DV.tuple [I0, I0]), σ)
 )
 ) := (loopF_eq G hG).trans (by kernel_rfl)
theorem F46_eq (G : GuardT) (lo : Nat) (x0 : DV) (σ : Store) : F46 G lo x0 σ =
 (len PP 23 x0 σ).bind fun x7 =>
 (binOp PP .eql 3 x7 I0).bind fun x8 =>
 condK x8
 (
 some ((DV.tuple [I0, I1]), σ)
 )
 (
 (len PP 23 x0 σ).bind fun x10 =>
 (binOp PP .gtr 3 x10 (DV.p (PV.int IntKind.i64 (40)))).bind fun x11 =>
 condK x11
 (
 some ((DV.tuple [I0, (DV.p (PV.int IntKind.i64 (2)))]), σ)
 )
 (
 f46_L0 G lo x0 I0 σ
 )
 ) := by kernel_rfl
theorem F46_call {lo : Nat} {x0 : DV} (h : F46 guardT lo x0 σ = some r) : CC lo 46 [x0] σ = some r :=
 callL_run Tryz.func46 (by decide +kernel) rfl (by decide +kernel) h
def c25_0 : Code := bodyOf Tryz.f25
def a25_0 : Ann := (pol 25).ann
def F25 (x0 : DV) (σ : Store) : RS :=
 codeF G PP (pol 25) CC lo c25_0 a25_0 (x0 :: zn 10 []) σ (finR PP Tryz.f25.results.toList)
theorem F25_eq (G : GuardT) (lo : Nat) (x0 : DV) (σ : Store) : F25 G lo x0 σ =
 (pureFn CC (DV.fn 46 []) [x0] σ).bind fun x7 =>
 (extractV x7 0).bind fun x8 =>
 (extractV x7 1).bind fun x9 =>
 some (x9, σ) := by kernel_rfl
theorem F25_call {lo : Nat} {x0 : DV} (h : F25 guardT lo x0 σ = some r) : CC lo 25 [x0] σ = some r :=
 callL_run Tryz.func25 (by decide +kernel) rfl (by decide +kernel) h
def c103_0 : Code := bodyOf Tryz.f103
def a103_0 : Ann := (pol 103).ann
def a103_5 : Ann := right (left (right a103_0))
def c103_12 : Code := sndC (fstC (sndC (fstC (sndC c103_0))))
def a103_12 : Ann := right (left a103_5)
def c103_26 : Code := sndC (sndC c103_12)
def a103_26 : Ann := right (right a103_12)
def c103_31 : Code := sndC (sndC c103_0)
def a103_31 : Ann := right (right a103_0)
def f103_J0_fr (x0 x2 x3 x4 x5 x6 : DV) : Frame := [x0, Z, x2, x3, x4, x5, x6, Z, Z, Z, Z]
def f103_J0 (x0 x2 x3 x4 x5 x6 : DV) (σ : Store) : RS :=
 (seqC G PP (pol 103) CC lo c103_12 a103_12 (blockC 0 a103_5 (seqC G PP (pol 103) CC lo c103_31 a103_31 (finR PP Tryz.f103.results.toList)))) .normal (f103_J0_fr x0 x2 x3 x4 x5 x6) σ
def f103_J1_fr (x0 x2 x3 x4 x5 x6 x7 x8 x9 x10 : DV) : Frame := [x0, Z, x2, x3, x4, x5, x6, x7, x8, x9, x10]
def f103_J1 (x0 x2 x3 x4 x5 x6 x7 x8 x9 x10 : DV) (σ : Store) : RS :=
 (seqC G PP (pol 103) CC lo c103_26 a103_26 (blockC 0 a103_5 (seqC G PP (pol 103) CC lo c103_31 a103_31 (finR PP Tryz.f103.results.toList)))) .normal (f103_J1_fr x0 x2 x3 x4 x5 x6 x7 x8 x9 x10) σ
def F103 (x0 : DV) (σ : Store) : RS :=
 codeF G PP (pol 103) CC lo c103_0 a103_0 (x0 :: zn 10 []) σ (finR PP Tryz.f103.results.toList)
theorem f103_J0_eq (G : GuardT) (lo : Nat) (x0 x2 x3 x4 x5 x6 : DV) (σ : Store) : f103_J0 G lo x0 x2 x3 x4 x5 x6 σ =
 condK x4
 (
 some (I0, σ)
 )
 (
 (binOp PP .eql 3 x3 (DV.p (PV.int IntKind.i64 (2)))).bind fun x8 =>
 condK x8
 (
 f103_J1 G lo x0 x2 x3 x4 x5 x6 x8 x8 Z Z σ
 )
 (
 (binOp PP .eql 3 x3 (DV.p (PV.int IntKind.i64 (6)))).bind fun x9 =>
 condK x9
 (
 f103_J1 G lo x0 x2 x3 x4 x5 x6 x9 x8 x9 Z σ
 )
 (
 (binOp PP .eql 3 x3 (DV.p (PV.int IntKind.i64 (7)))).bind fun x10 =>
 f103_J1 G lo x0 x2 x3 x4 x5 x6 x10 x8 x9 x10 σ
 )
 )
 ) := by kernel_rfl
theorem f103_J1_eq (G : GuardT) (lo : Nat) (x0 x2 x3 x4 x5 x6 x7 x8 x9 x10 : DV) (σ : Store) : f103_J1 G lo x0 x2 x3 x4 x5 x6 x7 x8 x9 x10 σ =
 condK x7
 (
 some (I1, σ)
 )
 (
 some ((DV.p (PV.int IntKind.i64 (2))), σ)
 ) := by kernel_rfl
theorem F103_eq (G : GuardT) (lo : Nat) (x0 : DV) (σ : Store) : F103 G lo x0 σ =
 (binOp PP .eql 3 x0 I0).bind fun x5 =>
 condK x5
 (
 f103_J0 G lo x0 I0 x0 x5 x5 Z σ
 )
 (
 (binOp PP .eql 3 x0 I1).bind fun x6 =>
 f103_J0 G lo x0 I0 x0 x6 x5 x6 σ
 ) := by kernel_rfl
theorem F103_call {lo : Nat} {x0 : DV} (h : F103 guardT lo x0 σ = some r) : CC lo 103 [x0] σ = some r :=
 callL_run Tryz.func103 (by decide +kernel) rfl (by decide +kernel) h
def c104_0 : Code := bodyOf Tryz.f104
def a104_0 : Ann := (pol 104).ann
def a104_7 : Ann := right (left (right (right a104_0)))
def a104_8 : Ann := left a104_7
def c104_9 : Code := fstC (fstC (sndC (fstC (sndC (sndC c104_0)))))
def c104_35 : Code := sndC (sndC (sndC c104_0))
def a104_35 : Ann := right (right (right a104_0))
def f104_L0 (x0 x1 x5 x6 : DV) (σ : Store) : RS :=
 codeF G PP (pol 104) CC lo (.loop c104_9) a104_8 (x0 :: x1 :: Z :: Z :: Z :: x5 :: x6 :: zn 29 []) σ
 (blockC 0 a104_7 (seqC G PP (pol 104) CC lo c104_35 a104_35 (finR PP Tryz.f104.results.toList)))
def F104 (x0 x1 : DV) (σ : Store) : RS :=
 codeF G PP (pol 104) CC lo c104_0 a104_0 (x0 :: x1 :: zn 34 []) σ (finR PP Tryz.f104.results.toList)
theorem f104_L0_eq (G : GuardT) (hG : GuardOk G) (lo : Nat) (x0 x1 x5 x6 : DV) (σ : Store) : f104_L0 G lo x0 x1 x5 x6 σ =
 (binOp PP .geq 3 x6 I0).bind fun x16 =>
 condK x16
 (
 (indexAddr PP 23 x0 x1).bind fun x21 =>
 (fieldAddr PP 67 x21 2).bind fun x22 =>
 (load PP 24 x22 σ).bind fun x23 =>
 (indexAddr PP 24 x23 x6).bind fun x25 =>
 (load PP 3 x25 σ).bind fun x26 =>
 (binOp PP .sub 3 x5 I1).bind fun x28 =>
 (binOp PP .neq 3 x26 x28).bind fun x29 =>
 condK x29
 (
 some ((DV.p (PV.bool false)), σ)
 )
 (
 (binOp PP .sub 3 x5 I1).bind fun x32 =>
 (pureFn CC (DV.fn 105 []) [x0, x32] σ).bind fun x33 =>
 (binOp PP .lss 3 x33 I0).bind fun x35 =>
 condK x35
 (
 some ((DV.p (PV.bool false)), σ)
 )
 (
 (binOp PP .sub 3 x6 I1).bind fun x18 =>
 f104_L0 G lo x0 x1 x33 x18 σ
 )
 )
 )
 (
 some ((DV.p (PV.bool true)), σ)
 ) := (loopF_eq G hG).trans (by kernel_rfl)
theorem F104_eq (G : GuardT) (lo : Nat) (x0 x1 : DV) (σ : Store) : F104 G lo x0 x1 σ =
 (indexAddr PP 23 x0 x1).bind fun x10 =>
 (fieldAddr PP 67 x10 2).bind fun x11 =>
 (load PP 24 x11 σ).bind fun x12 =>
 (len PP 24 x12 σ).bind fun x13 =>
 (binOp PP .sub 3 x13 I1).bind fun x14 =>
 f104_L0 G lo x0 x1 x1 x14 σ := by kernel_rfl
theorem F104_call {lo : Nat} {x0 x1 : DV} (h : F104 guardT lo x0 x1 σ = some r) : CC lo 104 [x0, x1] σ = some r :=
 callL_run Tryz.func104 (by decide +kernel) rfl (by decide +kernel) h
def c105_0 : Code := bodyOf Tryz.f105
def a105_0 : Ann := (pol 105).ann
def a105_11 : Ann := left (right (right a105_0))
def a105_12 : Ann := left a105_11
def c105_13 : Code := fstC (fstC (fstC (sndC (sndC c105_0))))
def c105_31 : Code := sndC (sndC (sndC c105_0))
def a105_31 : Ann := right (right (right a105_0))
def f105_L0 (x0 x1 : DV) (σ : Store) : RS :=
 codeF G PP (pol 105) CC lo (.loop c105_13) a105_12 (x0 :: x1 :: zn 27 []) σ
 (blockC 0 a105_11 (seqC G PP (pol 105) CC lo c105_31 a105_31 (finR PP Tryz.f105.results.toList)))
def F105 (x0 x1 : DV) (σ : Store) : RS :=
 codeF G PP (pol 105) CC lo c105_0 a105_0 (x0 :: x1 :: zn 27 []) σ (finR PP Tryz.f105.results.toList)
theorem f105_L0_eq (G : GuardT) (hG : GuardOk G) (lo : Nat) (x0 x1 : DV) (σ : Store) : f105_L0 G lo x0 x1 σ =
 (indexAddr PP 23 x0 x1).bind fun x10 =>
 (fieldAddr PP 67 x10 2).bind fun x11 =>
 (load PP 24 x11 σ).bind fun x12 =>
 (len PP 24 x12 σ).bind fun x13 =>
 (binOp PP .gtr 3 x13 I0).bind fun x14 =>
 condK x14
 (
 (indexAddr PP 23 x0 x1).bind fun x17 =>
 (fieldAddr PP 67 x17 2).bind fun x18 =>
 (load PP 24 x18 σ).bind fun x19 =>
 (indexAddr PP 24 x19 I0).bind fun x20 =>
 (load PP 3 x20 σ).bind fun x21 =>
 (binOp PP .sub 3 x1 I1).bind fun x24 =>
 (pureFn CC (DV.fn 26 []) [x21, I0, x24] σ).bind fun x25 =>
 (unOp .not x25).bind fun x26 =>
 condK x26
 (
 some ((DV.p (PV.int IntKind.i64 (-1))), σ)
 )
 (
 f105_L0 G lo x0 x21 σ
 )
 )
 (
 some (x1, σ)
 ) := (loopF_eq G hG).trans (by kernel_rfl)
theorem F105_eq (G : GuardT) (lo : Nat) (x0 x1 : DV) (σ : Store) : F105 G lo x0 x1 σ =
 (binOp PP .lss 3 x1 I0).bind fun x7 =>
 condK x7
 (
 some ((DV.p (PV.int IntKind.i64 (-1))), σ)
 )
 (
 f105_L0 G lo x0 x1 σ
 ) := by kernel_rfl
theorem F105_call {lo : Nat} {x0 x1 : DV} (h : F105 guardT lo x0 x1 σ = some r) : CC lo 105 [x0, x1] σ = some r :=
 callL_run Tryz.func105 (by decide +kernel) rfl (by decide +kernel) h
def c99_0 : Code := bodyOf Tryz.f99
def a99_0 : Ann := (pol 99).ann
def a99_5 : Ann := right (left (right a99_0))
def c99_12 : Code := sndC (fstC (sndC (fstC (sndC c99_0))))
def a99_12 : Ann := right (left a99_5)
def c99_26 : Code := sndC (sndC c99_12)
def a99_26 : Ann := right (right a99_12)
def c99_31 : Code := sndC (sndC c99_0)
def a99_31 : Ann := right (right a99_0)
def f99_J0_fr (x0 x2 x3 x4 x5 x6 : DV) : Frame := [x0, Z, x2, x3, x4, x5, x6, Z, Z, Z, Z]
def f99_J0 (x0 x2 x3 x4 x5 x6 : DV) (σ : Store) : RS :=
 (seqC G PP (pol 99) CC lo c99_12 a99_12 (blockC 0 a99_5 (seqC G PP (pol 99) CC lo c99_31 a99_31 (finR PP Tryz.f99.results.toList)))) .normal (f99_J0_fr x0 x2 x3 x4 x5 x6) σ
def f99_J1_fr (x0 x2 x3 x4 x5 x6 x7 x8 x9 x10 : DV) : Frame := [x0, Z, x2, x3, x4, x5, x6, x7, x8, x9, x10]
def f99_J1 (x0 x2 x3 x4 x5 x6 x7 x8 x9 x10 : DV) (σ : Store) : RS :=
 (seqC G PP (pol 99) CC lo c99_26 a99_26 (blockC 0 a99_5 (seqC G PP (pol 99) CC lo c99_31 a99_31 (finR PP Tryz.f99.results.toList)))) .normal (f99_J1_fr x0 x2 x3 x4 x5 x6 x7 x8 x9 x10) σ
def F99 (x0 : DV) (σ : Store) : RS :=
 codeF G PP (pol 99) CC lo c99_0 a99_0 (x0 :: zn 10 []) σ (finR PP Tryz.f99.results.toList)
theorem f99_J0_eq (G : GuardT) (lo : Nat) (x0 x2 x3 x4 x5 x6 : DV) (σ : Store) : f99_J0 G lo x0 x2 x3 x4 x5 x6 σ =
 condK x4
 (
 some (I0, σ)
 )
 (
 (binOp PP .eql 3 x3 (DV.p (PV.int IntKind.i64 (2)))).bind fun x8 =>
 condK x8
 (
 f99_J1 G lo x0 x2 x3 x4 x5 x6 x8 x8 Z Z σ
 )
 (
 (binOp PP .eql 3 x3 (DV.p (PV.int IntKind.i64 (6)))).bind fun x9 =>
 condK x9
 (
 f99_J1 G lo x0 x2 x3 x4 x5 x6 x9 x8 x9 Z σ
 )
 (
 (binOp PP .eql 3 x3 (DV.p (PV.int IntKind.i64 (7)))).bind fun x10 =>
 f99_J1 G lo x0 x2 x3 x4 x5 x6 x10 x8 x9 x10 σ
 )
 )
 ) := by kernel_rfl
theorem f99_J1_eq (G : GuardT) (lo : Nat) (x0 x2 x3 x4 x5 x6 x7 x8 x9 x10 : DV) (σ : Store) : f99_J1 G lo x0 x2 x3 x4 x5 x6 x7 x8 x9 x10 σ =
 condK x7
 (
 some (I1, σ)
 )
 (
 some ((DV.p (PV.int IntKind.i64 (2))), σ)
 ) := by kernel_rfl
theorem F99_eq (G : GuardT) (lo : Nat) (x0 : DV) (σ : Store) : F99 G lo x0 σ =
 (binOp PP .eql 3 x0 I0).bind fun x5 =>
 condK x5
 (
 f99_J0 G lo x0 I0 x0 x5 x5 Z σ
 )
 (
 (binOp PP .eql 3 x0 I1).bind fun x6 =>
 f99_J0 G lo x0 I0 x0 x6 x5 x6 σ
 ) := by kernel_rfl
theorem F99_call {lo : Nat} {x0 : DV} (h : F99 guardT lo x0 σ = some r) : CC lo 99 [x0] σ = some r :=
 callL_run Tryz.func99 (by decide +kernel) rfl (by decide +kernel) h
def c44_0 : Code := bodyOf Tryz.f44
def a44_0 : Ann := (pol 44).ann
def a44_17 : Ann := right (left (right (right (right a44_0))))
def a44_18 : Ann := left a44_17
def c44_19 : Code := fstC (fstC (sndC (fstC (sndC (sndC (sndC c44_0))))))
def a44_26 : Ann := left (right (right (left a44_18)))
def a44_42 : Ann := right (left (right (right (right (left a44_26)))))
def a44_43 : Ann := left a44_42
def c44_44 : Code := fstC (fstC (sndC (fstC (sndC (sndC (sndC (fstC (fstC (sndC (sndC c44_19))))))))))
def c44_45 : Code := sndC (fstC (sndC (fstC (sndC (sndC (sndC (fstC (fstC (sndC (sndC c44_19))))))))))
def c44_55 : Code := sndC (sndC (sndC (sndC (fstC (fstC (sndC (sndC c44_19)))))))
def a44_55 : Ann := right (right (right (right (left a44_26))))
def c44_63 : Code := sndC (sndC c44_55)
def a44_63 : Ann := right (right a44_55)
def c44_74 : Code := sndC (sndC (sndC c44_19))
def a44_74 : Ann := right (right (right (left a44_18)))
def c44_75 : Code := sndC (sndC (sndC (sndC c44_0)))
def a44_75 : Ann := right (right (right (right a44_0)))
def f44_L0 (x0 x2 x3 x5 x27 x28 x29 : DV) (σ : Store) : RS :=
 codeF G PP (pol 44) CC lo (.loop c44_19) a44_18 (x0 :: Z :: x2 :: x3 :: Z :: x5 :: zn 21 (x27 :: x28 :: x29 :: zn 71 [])) σ
 (blockC 0 a44_17 (seqC G PP (pol 44) CC lo c44_75 a44_75 (finR PP Tryz.f44.results.toList)))
def f44_R0 (G : GuardT) (lo : Nat) (x0 x2 x3 x5 x6 x7 x8 x27 x28 x29 x30 x31 x32 x33 x34 x35 x36 x37 x39 x40 x41 x42 : DV) (xs : List DV) (σ : Store) (K' : Ex → Store → Option (DV × Store)) : RS :=
 roundC G PP (pol 44) CC lo c44_44 c44_45 (Ann.left a44_43) [43, 44] (x0 :: Z :: x2 :: x3 :: Z :: x5 :: x6 :: x7 :: x8 :: zn 18 (x27 :: x28 :: x29 :: x30 :: x31 :: x32 :: x33 :: x34 :: x35 :: x36 :: x37 :: Z :: x39 :: x40 :: x41 :: x42 :: zn 58 [])) xs σ K'
def f44_X0 (G : GuardT) (lo : Nat) (ex : Ex) (x0 x2 x3 x5 x6 x7 x8 x27 x28 x29 x30 x31 x32 x33 x34 x35 x36 x37 x39 x40 x41 x42 : DV) (σ : Store) : RS :=
 (blockC 2 a44_42 (seqC G PP (pol 44) CC lo c44_55 a44_55 (blockC 1 a44_26 (seqC G PP (pol 44) CC lo c44_74 a44_74 (loopC G PP (pol 44) CC lo c44_19 a44_18 (blockC 0 a44_17 (seqC G PP (pol 44) CC lo c44_75 a44_75 (finR PP Tryz.f44.results.toList)))))))) ex (x0 :: Z :: x2 :: x3 :: Z :: x5 :: x6 :: x7 :: x8 :: zn 18 (x27 :: x28 :: x29 :: x30 :: x31 :: x32 :: x33 :: x34 :: x35 :: x36 :: x37 :: Z :: x39 :: x40 :: x41 :: x42 :: zn 58 [])) σ
def f44_J0_fr (x0 x2 x3 x5 x6 x7 x8 x27 x28 x29 : DV) : Frame := (x0 :: Z :: x2 :: x3 :: Z :: x5 :: x6 :: x7 :: x8 :: zn 18 (x27 :: x28 :: x29 :: zn 71 []))
def f44_J0 (x0 x2 x3 x5 x6 x7 x8 x27 x28 x29 : DV) (σ : Store) : RS :=
 (seqC G PP (pol 44) CC lo c44_55 a44_55 (blockC 1 a44_26 (seqC G PP (pol 44) CC lo c44_74 a44_74 (loopC G PP (pol 44) CC lo c44_19 a44_18 (blockC 0 a44_17 (seqC G PP (pol 44) CC lo c44_75 a44_75 (finR PP Tryz.f44.results.toList))))))) .normal (f44_J0_fr x0 x2 x3 x5 x6 x7 x8 x27 x28 x29) σ
def f44_J1_fr (x0 x2 x3 x5 x6 x7 x8 x11 x27 x28 x29 x57 x58 x59 x60 x61 x62 x63 x64 x65 x66 : DV) : Frame := (x0 :: Z :: x2 :: x3 :: Z :: x5 :: x6 :: x7 :: x8 :: Z :: Z :: x11 :: zn 15 (x27 :: x28 :: x29 :: zn 27 (x57 :: x58 :: x59 :: x60 :: x61 :: x62 :: x63 :: x64 :: x65 :: x66 :: zn 34 [])))
def f44_J1 (x0 x2 x3 x5 x6 x7 x8 x11 x27 x28 x29 x57 x58 x59 x60 x61 x62 x63 x64 x65 x66 : DV) (σ : Store) : RS :=
 (seqC G PP (pol 44) CC lo c44_63 a44_63 (blockC 1 a44_26 (seqC G PP (pol 44) CC lo c44_74 a44_74 (loopC G PP (pol 44) CC lo c44_19 a44_18 (blockC 0 a44_17 (seqC G PP (pol 44) CC lo c44_75 a44_75 (finR PP Tryz.f44.results.toList))))))) .normal (f44_J1_fr x0 x2 x3 x5 x6 x7 x8 x11 x27 x28 x29 x57 x58 x59 x60 x61 x62 x63 x64 x65 x66) σ
def F44 (x0 : DV) (σ : Store) : RS :=
 codeF G PP (pol 44) CC lo c44_0 a44_0 (x0 :: zn 100 []) σ (finR PP Tryz.f44.results.toList)
theorem f44_L0_eq (G : GuardT) (hG : GuardOk G) (lo : Nat) (x0 x2 x3 x5 x27 x28 x29 : DV) (σ : Store) : f44_L0 G lo x0 x2 x3 x5 x27 x28 x29 σ =
 (binOp PP .lss 3 x29 x28).bind fun x30 =>
 condK x30
 (
 (indexAddr PP 23 x27 x29).bind fun x32 =>
 (load PP 67 x32 σ).bind fun x33 =>
 (zeroOf PP 67).bind fun z7 =>
 (store PP lo 67 (DV.ptr (List.length σ) 0) x33 (σ ++ [Row.mix z7])).bind fun σ2 =>
 (fieldAddr PP 67 (DV.ptr (List.length σ) 0) 0).bind fun x34 =>
 (load PP 3 x34 σ2).bind fun x35 =>
 (pureFn CC (DV.fn 65 []) [x35, I0, (DV.p (PV.int IntKind.i64 (9)))] σ2).bind fun x36 =>
 (unOp .not x36).bind fun x37 =>
 condK x37
 (
 some ((DV.tuple [x29, (DV.p (PV.int IntKind.i64 (4)))]), σ2)
 )
 (
 (zeroOf PP 3).bind fun z8 =>
 (store PP lo 3 (DV.ptr (List.length σ2) 0) x29 (σ2 ++ [Row.mix z8])).bind fun σ3 =>
 (fieldAddr PP 67 (DV.ptr (List.length σ) 0) 2).bind fun x40 =>
 (load PP 24 x40 σ3).bind fun x41 =>
 (pureFn CC (DV.fn 98 []) [x41] σ3).bind fun x42 =>
 rangeK (pol 44) x42 2 true true (fun xs ρ K' => f44_R0 G lo x0 x2 x3 x5 x29 (DV.ptr (List.length σ) 0) (DV.ptr (List.length σ2) 0) x27 x28 x29 x30 x29 x32 x33 x34 x35 x36 x37 x29 x40 x41 x42 xs ρ K') σ3 fun ex ρ => f44_X0 G lo ex x0 x2 x3 x5 x29 (DV.ptr (List.length σ) 0) (DV.ptr (List.length σ2) 0) x27 x28 x29 x30 x29 x32 x33 x34 x35 x36 x37 x29 x40 x41 x42 ρ
 )
 )
 (
 (len PP 23 x0 σ).bind fun x93 =>
 (binOp PP .sub 3 x93 I1).bind fun x94 =>
 (load PP 24 x5 σ).bind fun x95 =>
 (indexAddr PP 24 x95 x94).bind fun x97 =>
 (load PP 3 x97 σ).bind fun x98 =>
 (binOp PP .neq 3 x98 I0).bind fun x99 =>
 condK x99
 (
 some ((DV.tuple [x94, (DV.p (PV.int IntKind.i64 (15)))]), σ)
 )
 (
 some ((DV.tuple [I0, I0]), σ)
 )
 ) := (loopF_eq G hG).trans (by kernel_rfl)
theorem f44_R0_eq (G : GuardT) (lo : Nat) (x0 x2 x3 x5 x6 x7 x8 x27 x28 x29 x30 x31 x32 x33 x34 x35 x36 x37 x39 x40 x41 x42 : DV) (x43 x44 : DV) (σ : Store) (K' : Ex → Store → Option (DV × Store)) : f44_R0 G lo x0 x2 x3 x5 x6 x7 x8 x27 x28 x29 x30 x31 x32 x33 x34 x35 x36 x37 x39 x40 x41 x42 [x43, x44] σ K' =
 (load PP 3 x8 σ).bind fun x46 =>
 (binOp PP .sub 3 x46 I1).bind fun x47 =>
 (binOp PP .neq 3 x44 x47).bind fun x48 =>
 G _ x48 false (some (x44, σ)) σ fun x50 σ4 =>
 G _ x48 false ((binOp PP .lss 3 x50 I0).bind fun v => some (v, σ4)) σ4 fun x51 σ5 =>
 (pickV x48 (DV.p (PV.bool true)) x51).bind fun x52 =>
 condK x52
 (
 (store PP lo 3 x8 (DV.p (PV.int IntKind.i64 (-1))) σ5).bind fun σ6 =>
 K' (.exit 2) σ6
 )
 (
 (load PP 24 x5 σ5).bind fun x53 =>
 (indexAddr PP 24 x53 x44).bind fun x55 =>
 (load PP 3 x55 σ5).bind fun x56 =>
 (store PP lo 3 x8 x56 σ5).bind fun σ7 =>
 K' .normal σ7
 ) := by kernel_rfl
theorem f44_X0_normal (G : GuardT) (lo : Nat) (x0 x2 x3 x5 x6 x7 x8 x27 x28 x29 x30 x31 x32 x33 x34 x35 x36 x37 x39 x40 x41 x42 : DV) (σ : Store) : f44_X0 G lo .normal x0 x2 x3 x5 x6 x7 x8 x27 x28 x29 x30 x31 x32 x33 x34 x35 x36 x37 x39 x40 x41 x42 σ =
 f44_J0 G lo x0 x2 x3 x5 x6 x7 x8 x27 x28 x29 σ := by kernel_rfl
theorem f44_J0_eq (G : GuardT) (lo : Nat) (x0 x2 x3 x5 x6 x7 x8 x27 x28 x29 : DV) (σ : Store) : f44_J0 G lo x0 x2 x3 x5 x6 x7 x8 x27 x28 x29 σ =
 (fieldAddr PP 67 x7 1).bind fun x57 =>
 (load PP 3 x57 σ).bind fun x58 =>
 (binOp PP .neq 3 x58 I0).bind fun x59 =>
 (fieldAddr PP 67 x7 0).bind fun x60 =>
 (load PP 3 x60 σ).bind fun x61 =>
 (binOp PP .eql 3 x61 I1).bind fun x62 =>
 condK x62
 (
 (fieldAddr PP 67 x7 1).bind fun x63 =>
 (load PP 3 x63 σ).bind fun x64 =>
 (pureFn CC (DV.fn 65 []) [x64, I0, (DV.p (PV.int IntKind.i64 (11)))] σ).bind fun x65 =>
 (unOp .not x65).bind fun x66 =>
 f44_J1 G lo x0 x2 x3 x5 x6 x7 x8 x66 x27 x28 x29 x57 x58 x59 x60 x61 x62 x63 x64 x65 x66 σ
 )
 (
 f44_J1 G lo x0 x2 x3 x5 x6 x7 x8 x59 x27 x28 x29 x57 x58 x59 x60 x61 x62 Z Z Z Z σ
 ) := by kernel_rfl
theorem f44_J1_eq (G : GuardT) (lo : Nat) (x0 x2 x3 x5 x6 x7 x8 x11 x27 x28 x29 x57 x58 x59 x60 x61 x62 x63 x64 x65 x66 : DV) (σ : Store) : f44_J1 G lo x0 x2 x3 x5 x6 x7 x8 x11 x27 x28 x29 x57 x58 x59 x60 x61 x62 x63 x64 x65 x66 σ =
 (load PP 3 x8 σ).bind fun x67 =>
 (binOp PP .lss 3 x67 I0).bind fun x68 =>
 G _ x68 false ((fieldAddr PP 67 x7 2).bind fun v => some (v, σ)) σ fun x70 σ8 =>
 G _ x68 false ((load PP 24 x70 σ8).bind fun v => some (v, σ8)) σ8 fun x71 σ9 =>
 G _ x68 false ((len PP 24 x71 σ9).bind fun v => some (v, σ9)) σ9 fun x72 σ10 =>
 G _ x68 false ((fieldAddr PP 67 x7 0).bind fun v => some (v, σ10)) σ10 fun x73 σ11 =>
 G _ x68 false ((load PP 3 x73 σ11).bind fun v => some (v, σ11)) σ11 fun x74 σ12 =>
 G _ x68 false ((pureFn CC (DV.fn 99 []) [x74] σ12).bind fun v => some (v, σ12)) σ12 fun x75 σ13 =>
 G _ x68 false ((binOp PP .neq 3 x72 x75).bind fun v => some (v, σ13)) σ13 fun x76 σ14 =>
 (pickV x68 (DV.p (PV.bool true)) x76).bind fun x77 =>
 (pureFn CC (DV.fn 67 []) [x77, (DV.p (PV.int IntKind.i64 (6)))] σ14).bind fun x78 =>
 (pureFn CC (DV.fn 67 []) [x11, (DV.p (PV.int IntKind.i64 (3)))] σ14).bind fun x80 =>
 (buildSlice PP none 160 2 [(0, x78), (1, x80)] σ14).bind fun r81_15 =>
 (pureFn CC (DV.fn 66 []) [r81_15.1] r81_15.2).bind fun x82 =>
 (binOp PP .neq 30 x82 I0).bind fun x84 =>
 condK x84
 (
 some ((DV.tuple [x6, x82]), r81_15.2)
 )
 (
 (load PP 24 x5 r81_15.2).bind fun x87 =>
 (load PP 3 x8 r81_15.2).bind fun x88 =>
 (buildSlice PP none 24 1 [(0, x88)] r81_15.2).bind fun r89_16 =>
 (append PP lo false 24 24 x87 r89_16.1 r89_16.2).bind fun r90_17 =>
 (store PP lo 24 x5 r90_17.1 r90_17.2).bind fun σ18 =>
 (binOp PP .add 3 x29 I1).bind fun x91 =>
 f44_L0 G lo x0 x2 x3 x5 x27 x28 x91 σ18
 ) := by kernel_rfl
theorem F44_eq (G : GuardT) (lo : Nat) (x0 : DV) (σ : Store) : F44 G lo x0 σ =
 (len PP 23 x0 σ).bind fun x15 =>
 (binOp PP .eql 3 x15 I0).bind fun x16 =>
 (pureFn CC (DV.fn 67 []) [x16, I1] σ).bind fun x17 =>
 (len PP 23 x0 σ).bind fun x19 =>
 (binOp PP .gtr 3 x19 (DV.p (PV.int IntKind.i64 (40)))).bind fun x20 =>
 (pureFn CC (DV.fn 67 []) [x20, (DV.p (PV.int IntKind.i64 (2)))] σ).bind fun x21 =>
 (buildSlice PP none 160 2 [(0, x17), (1, x21)] σ).bind fun r22_1 =>
 (pureFn CC (DV.fn 66 []) [r22_1.1] r22_1.2).bind fun x23 =>
 (binOp PP .neq 30 x23 I0).bind fun x25 =>
 condK x25
 (
 some ((DV.tuple [I0, x23]), r22_1.2)
 )
 (
 (zeroOf PP 24).bind fun z5 =>
 (len PP 23 x0 (r22_1.2 ++ [Row.mix z5])).bind fun x28 =>
 f44_L0 G lo x0 I0 I0 (DV.ptr (List.length r22_1.2) 0) x0 x28 I0 (r22_1.2 ++ [Row.mix z5])
 ) := by kernel_rfl
theorem F44_call {lo : Nat} {x0 : DV} (h : F44 guardT lo x0 σ = some r) : CC lo 44 [x0] σ = some r :=
 callL_run Tryz.func44 (by decide +kernel) rfl (by decide +kernel) h
def c70_0 : Code := bodyOf Tryz.f70
def a70_0 : Ann := (pol 70).ann
def F70 (x0 : DV) (σ : Store) : RS :=
 codeF G PP (pol 70) CC lo c70_0 a70_0 (x0 :: zn 10 []) σ (finR PP Tryz.f70.results.toList)
theorem F70_eq (G : GuardT) (lo : Nat) (x0 : DV) (σ : Store) : F70 G lo x0 σ =
 (pureFn CC (DV.fn 44 []) [x0] σ).bind fun x7 =>
 (extractV x7 0).bind fun x8 =>
 (extractV x7 1).bind fun x9 =>
 some (x9, σ) := by kernel_rfl
theorem F70_call {lo : Nat} {x0 : DV} (h : F70 guardT lo x0 σ = some r) : CC lo 70 [x0] σ = some r :=
 callL_run Tryz.func70 (by decide +kernel) rfl (by decide +kernel) h
end
end Go.D
end
/- Chapter 13: errors of words, copies, comparisons, in the program and in the reference. -/
section
set_option linter.unusedVariables false
set_option linter.unusedSimpArgs false
namespace Go.D
open Las
theorem fn_view (f : FuncId) (caps : List DV) : view (.fn f caps) = .fn f caps := rfl
def idxFrom {α : Type} (q : α → Bool) : List α → Nat → Int
  | [], _ => -1
  | v :: l, i => if q v = true then (i : Int) else idxFrom q l (i + 1)
theorem idxFrom_ge {α : Type} (q : α → Bool) : ∀ (l : List α) (i : Nat), decide (idxFrom q l i ≥ 0) = l.any q
  | [], i => by simp [idxFrom]
  | v :: l, i => by
    unfold idxFrom
    by_cases h : q v = true
    · rw [if_pos h, List.any_cons, h]
      simp
    · rw [if_neg h, List.any_cons, (Bool.not_eq_true _).mp h, Bool.false_or]
      exact idxFrom_ge q l (i + 1)
def oddB (n : Int) : Bool := !inR n 0 4095
def wErr (P Q : List Int) : Int := if Q.length = 0 then 1 else if P.length + Q.length > 60 then 2 else if (P.any oddB || Q.any oddB) = true then 3 else 0
theorem app24 {x : DV} {l : List Int} (h : PL x l) (hl : l.length ≤ 1000000) (lo : Nat) (σ : Store) : ∃ y σ', append PP lo false 24 24 (.p (.sl true 0 [])) x σ = some (y, σ') ∧ PL y l ∧ thawAll lo σ' y = some (.p (eSl (some l))) := by
  by_cases hb : l = []
  · subst hb
    refine ⟨.p (.sl true 0 []), σ, ?_, .inr (.inl ⟨true, by simp; rfl⟩), rfl⟩
    simp [append, src24, u24, s3, bytes3, zero3, h.src σ, appLit]
  · have hb0 : ¬ (l.length = 0) := fun e => hb (List.length_eq_zero_iff.1 e)
    refine ⟨.osl σ.length 0 1 l.length (eInts l), σ ++ [.tok 0], ?_, .inr (.inr ⟨σ.length, 0, rfl⟩), by simp [thawAll, thawPart, thaw, thaw1, thawP, loosens_ints, eSl]⟩
    simp [append, src24, u24, s3, bytes3, zero3, h.src σ, appLit, hb0, pures_map, hb]
    omega
theorem S52 {o : OI} (hl : (L o).length ≤ 1000000) (σ : Store) : pureV CC 52 [.p (eSl o)] σ = some (.p (eSl (some (L o)))) := by
  obtain ⟨y, σ', h1, h2, h3⟩ := app24 (PL.sl o) hl 0 []
  refine pureV_free (by simp [sl_view]) rfl (F52_call (r := (y, σ')) ?_) h3
  rw [F52_eq]
  simp only [bs24_0, gG, h1]
theorem isnil_none (σ : Store) : binOp PP .eql 24 (.p (eSl none)) (.p .nilsl) = some (.p (.bool true)) := Eq.trans (by kernel_rfl) rfl
theorem isnil_some (n : Nat) (cs : List PV) : binOp PP .eql 24 (.p (.sl false n cs)) (.p .nilsl) = some (.p (.bool false)) := Eq.trans (by kernel_rfl) rfl
theorem isnil_rsl (r s o n : Nat) : binOp PP .eql 24 (.rsl r s o n) (.p .nilsl) = some (.p (.bool false)) := Eq.trans (by kernel_rfl) rfl
theorem S78 {o : OI} (hl : (L o).length ≤ 1000000) (σ : Store) : pureV CC 78 [.p (eSl o)] σ = some (.p (eSl o)) := by
  cases o with
  | none =>
    refine pureV_free rfl rfl (F78_call (r := (.p .nilsl, [])) ?_) rfl
    rw [F78_eq]
    simp only [isnil_none [], gG]
  | some l =>
    obtain ⟨y, σ', h1, h2, h3⟩ := app24 (PL.some l) hl 0 []
    refine pureV_free (by simp [sl_view]) rfl (F78_call (r := (y, σ')) ?_) h3
    rw [F78_eq]
    have e : eSl (some l) = .sl false l.length (eInts l) := rfl
    rw [e] at h1 ⊢
    simp only [isnil_some, gG, bs24_0, h1]
theorem S69 {w : Wd} {i : Nat} (hi : i < (L w.p).length + (L w.l).length) (hl : (L w.p).length + (L w.l).length ≤ 100000) (σ : Store) : pureV CC 69 [vWd w, .p (.int .i64 (i : Nat))] σ = some (.p (.int .i64 (atW (L w.p) (L w.l) i))) := by
  refine pureV_free (by simp only [List.map_cons, List.map_nil, wd_view]; rfl) (by simp only [List.all_cons, wd_free]; rfl) (F69_call (r := (.p (.int .i64 (atW (L w.p) (L w.l) i)), [])) ?_) rfl
  rw [F69_eq]
  simp only [box_wd, gG, fa26_0, fa26_1, shift_ptr, shift_pptr, Nat.zero_add, Nat.add_zero, pureFn_fn, List.append_nil, List.singleton_append, List.cons_append, List.nil_append, load24, wd_0, wd_1, (PL.sl _).len, b_lss]
  unfold atW
  by_cases h : i < (L w.p).length
  · have h' : (i : Int) < ((L w.p).length : Nat) := by omega
    simp only [ltT h', gG, (PL.sl w.p).idx h, load3, load1_getD h, if_pos h]
  · have h' : ¬ (i : Int) < ((L w.p).length : Nat) := by omega
    have hm : (i - (L w.p).length) % (L w.l).length < (L w.l).length := Nat.mod_lt _ (by omega)
    simp (disch := omega) only [ltF h', gG, subN, remN, (PL.sl w.l).idx hm, load3, load1_getD hm, if_neg h]
def eqFrom (a b : List Int) : Nat → Nat → Bool
  | 0, _ => true
  | d + 1, i => decide (a.getD i 0 = b.getD i 0) && eqFrom a b d (i + 1)
theorem eqFrom_iff {a b : List Int} (h : a.length = b.length) : eqFrom a b a.length 0 = decide (a = b) := by
  have key : ∀ d i, a.length - i = d → i ≤ a.length → (eqFrom a b d i = true ↔ a.drop i = b.drop i) := by
    intro d
    induction d with
    | zero =>
      intro i hd hi
      rw [List.drop_eq_nil_of_le (by omega), List.drop_eq_nil_of_le (by omega)]
      simp [eqFrom]
    | succ d ih =>
      intro i hd hi
      rw [drop_cons (show i < a.length by omega), drop_cons (show i < b.length by omega), eqFrom, Bool.and_eq_true, decide_eq_true_iff, ih (i + 1) (by omega) (by omega), List.cons.injEq]
  rw [Bool.eq_iff_iff, key a.length 0 rfl (Nat.zero_le _), decide_eq_true_iff]
  simp
theorem L80 {o o' : OI} (h : (L o).length = (L o').length) (hl : (L o).length ≤ 100000) (lo : Nat) (σ : Store) : ∀ (d i : Nat), (L o).length - i = d → i ≤ (L o).length →
    f80_L0 guardT lo (.p (eSl o)) (.p (eSl o')) (N i) σ = some (.p (.bool (eqFrom (L o) (L o') d i)), σ)
  | 0, i, hd, hi => by
    rw [f80_L0_eq guardT rfl]
    simp (disch := omega) only [N, (PL.sl _).len, gG, b_lss, ltF, eqFrom]
  | d + 1, i, hd, hi => by
    have h1 : i < (L o).length := by omega
    have h2 : i < (L o').length := by omega
    have ih := L80 h hl lo σ d (i + 1) (by omega) (by omega)
    rw [f80_L0_eq guardT rfl]
    simp (disch := omega) only [N, (PL.sl _).len, gG, b_lss, ltT, (PL.sl o).idx h1, (PL.sl o').idx h2, load3, load1_getD h1, load1_getD h2, b_neq, eqFrom]
    by_cases e : (L o).getD i 0 = (L o').getD i 0
    · simp (disch := omega) only [eqT e, gG, add1, Bool.true_and]
      exact ih
    · simp only [eqF e, gG, Bool.false_and]
theorem S80 {o o' : OI} (hl : (L o).length ≤ 100000) (σ : Store) : pureV CC 80 [.p (eSl o), .p (eSl o')] σ = some (.p (.bool (decide (L o = L o')))) := by
  refine pureV_free (by simp [sl_view]) rfl (F80_call (r := (.p (.bool (decide (L o = L o'))), [])) ?_) rfl
  rw [F80_eq]
  simp only [(PL.sl _).len, gG, b_neq]
  by_cases h : (L o).length = (L o').length
  · have h' : ((L o).length : Int) = ((L o').length : Nat) := by omega
    have := L80 h hl 0 [] _ 0 rfl (Nat.zero_le _)
    rw [Nat.sub_zero, eqFrom_iff h] at this
    simp only [eqT h', gG]
    exact this
  · have h' : ¬ ((L o).length : Int) = ((L o').length : Nat) := by omega
    have hne : ¬ (L o = L o') := fun e => h (by rw [e])
    simp only [eqF h', gG, decide_eq_false hne]
theorem S33 {u w : Wd} (h0 : (L u.p).length ≤ 100000) (h1 : (L u.l).length ≤ 100000) (σ : Store) : pureV CC 33 [vWd u, vWd w] σ = some (.p (.bool (decide (L u.p = L w.p) && decide (L u.l = L w.l)))) := by
  refine pureV_free (by simp [wd_view]) (by simp [wd_free]) (F33_call (r := (.p (.bool (decide (L u.p = L w.p) && decide (L u.l = L w.l))), [])) ?_) rfl
  rw [F33_eq]
  simp only [box_wd, gG, fa26_0, fa26_1, shift_ptr, shift_pptr, Nat.zero_add, Nat.add_zero, pureFn_fn, List.append_nil, List.singleton_append, List.cons_append, List.nil_append, load24, wd_0, wd_1, S80 h0]
  cases decide (L u.p = L w.p) with
  | true => simp only [gG, shift_ptr, shift_pptr, Nat.zero_add, Nat.add_zero, pureFn_fn, List.append_nil, List.singleton_append, List.cons_append, List.nil_append, load24, wd_1, S80 h1, Bool.true_and]
  | false => simp only [gG, Bool.false_and]
end Go.D
end
/- Closed calls, worked out by the kernel one by one. -/
section
set_option linter.unusedVariables false
set_option maxRecDepth 100000
namespace Go.D

mutual
def eqPV : PV → PV → Bool
  | .bool a, .bool b => a == b
  | .int k n, .int k' m => k == k' && n == m
  | .nilsl, .nilsl => true
  | .sl a n cs, .sl b m ds => a == b && n == m && eqPVs cs ds
  | _, _ => false
def eqPVs : List PV → List PV → Bool
  | [], [] => true
  | a :: as', b :: bs => eqPV a b && eqPVs as' bs
  | _, _ => false
end
mutual
theorem eqPV_eq : ∀ (a b : PV), eqPV a b = true → a = b
  | .bool a, .bool b, h => by simp [eqPV] at h; rw [h]
  | .int k n, .int k' m, h => by
    simp [eqPV] at h
    rw [h.1, h.2]
  | .nilsl, .nilsl, h => rfl
  | .sl a n cs, .sl b m ds, h => by
    simp [eqPV] at h
    rw [h.1.1, h.1.2, eqPVs_eq cs ds h.2]
  | .bool _, .int .., h | .bool _, .str _, h | .bool _, .nilptr, h | .bool _, .nilsl, h | .bool _, .nilmap, h | .bool _, .nilfn, h | .bool _, .niliface, h | .bool _, .sl .., h => by simp [eqPV] at h
  | .int .., .bool _, h | .int .., .str _, h | .int .., .nilptr, h | .int .., .nilsl, h | .int .., .nilmap, h | .int .., .nilfn, h | .int .., .niliface, h | .int .., .sl .., h => by simp [eqPV] at h
  | .nilsl, .bool _, h | .nilsl, .int .., h | .nilsl, .str _, h | .nilsl, .nilptr, h | .nilsl, .nilmap, h | .nilsl, .nilfn, h | .nilsl, .niliface, h | .nilsl, .sl .., h => by simp [eqPV] at h
  | .sl .., .bool _, h | .sl .., .int .., h | .sl .., .str _, h | .sl .., .nilptr, h | .sl .., .nilsl, h | .sl .., .nilmap, h | .sl .., .nilfn, h | .sl .., .niliface, h => by simp [eqPV] at h
  | .str _, b, h | .nilptr, b, h | .nilmap, b, h | .nilfn, b, h | .niliface, b, h => by cases b <;> simp [eqPV] at h
theorem eqPVs_eq : ∀ (a b : List PV), eqPVs a b = true → a = b
  | [], [], h => rfl
  | a :: as', b :: bs, h => by
    simp [eqPVs] at h
    rw [eqPV_eq a b h.1, eqPVs_eq as' bs h.2]
  | [], _ :: _, h | _ :: _, [], h => by simp [eqPVs] at h
end

def flatD : DV → Option (List (Nat × PV))
  | .p v => some [(0, v)]
  | .agg cs => some (cs.filterMap fun c => match c with | .p v => some (1, v) | _ => none)
  | _ => none

def eqD1 : DV → DV → Bool
  | .p v, .p w => eqPV v w
  | _, _ => false
def eqD1s : List DV → List DV → Bool
  | [], [] => true
  | a :: as', b :: bs => eqD1 a b && eqD1s as' bs
  | _, _ => false
def eqD2 : DV → DV → Bool
  | .agg cs, .agg ds => eqD1s cs ds
  | a, b => eqD1 a b
def eqD2s : List DV → List DV → Bool
  | [], [] => true
  | a :: as', b :: bs => eqD2 a b && eqD2s as' bs
  | _, _ => false
def eqD : DV → DV → Bool
  | .tuple cs, .tuple ds => eqD2s cs ds
  | a, b => eqD2 a b

theorem eqD1_eq {a b : DV} (h : eqD1 a b = true) : a = b := by
  unfold eqD1 at h
  split at h
  · rw [eqPV_eq _ _ h]
  · exact absurd h (by simp)
theorem eqD1s_eq : ∀ {a b : List DV}, eqD1s a b = true → a = b
  | [], [], h => rfl
  | a :: as', b :: bs, h => by
    simp only [eqD1s, Bool.and_eq_true] at h
    rw [eqD1_eq h.1, eqD1s_eq h.2]
  | [], _ :: _, h => absurd h (by simp [eqD1s])
  | _ :: _, [], h => absurd h (by simp [eqD1s])
theorem eqD2_eq {a b : DV} (h : eqD2 a b = true) : a = b := by
  unfold eqD2 at h
  split at h
  · rw [eqD1s_eq h]
  · exact eqD1_eq h
theorem eqD2s_eq : ∀ {a b : List DV}, eqD2s a b = true → a = b
  | [], [], h => rfl
  | a :: as', b :: bs, h => by
    simp only [eqD2s, Bool.and_eq_true] at h
    rw [eqD2_eq h.1, eqD2s_eq h.2]
  | [], _ :: _, h => absurd h (by simp [eqD2s])
  | _ :: _, [], h => absurd h (by simp [eqD2s])
theorem eqD_eq {a b : DV} (h : eqD a b = true) : a = b := by
  unfold eqD at h
  split at h
  · rw [eqD2s_eq h]
  · exact eqD2_eq h

def runIs (P : Program) (pol : FuncId → FPol) (k : Nat) (f : FuncId) (args : List DV) (r : DV) : Bool :=
  match callK P pol k 0 f args [] with
  | some (v, σ) => match thawAll 0 σ v with
    | some v' => eqD v' r
    | none => false
  | none => false

theorem pureV_run {k : Nat} {f : FuncId} {args : List DV} {r : DV} {σ : Store} (h : runIs PP pol k f args r = true) (h1 : args.map view = args) (h2 : args.all rowFree = true) : pureV CC f args σ = some r := by
  unfold runIs at h
  split at h
  · rename_i v σ' hc
    split at h
    · rename_i v' ht
      exact pureV_free h1 h2 (callL_at hc) (ht.trans (by rw [eqD_eq h]))
    · exact absurd h (by simp)
  · exact absurd h (by simp)

end Go.D
end
/- Chapter 13: rows of numbers: concatenated, compacted in place, repeated. -/
section
set_option linter.unusedVariables false
set_option linter.unusedSimpArgs false
namespace Go.D
open Las
def ints (l : List Int) : List DV := (eInts l).map .p
theorem ints_len (l : List Int) : (ints l).length = l.length := by simp [ints, eInts]
theorem ints_app (a b : List Int) : ints a ++ ints b = ints (a ++ b) := by simp [ints, eInts]
theorem ints_take (l : List Int) (k : Nat) : (ints l).take k = ints (l.take k) := by simp [ints, eInts, List.map_take]
theorem ints_drop (l : List Int) (k : Nat) : (ints l).drop k = ints (l.drop k) := by simp [ints, eInts, List.map_drop]
theorem ints_all (l : List Int) : (ints l).all DV.one = true := by
  rw [List.all_eq_true]
  intro x hx
  simp only [ints, eInts, List.map_map, List.mem_map] at hx
  obtain ⟨v, _, rfl⟩ := hx
  rfl
theorem ints_pures (l : List Int) : pures (ints l) = some (eInts l) := pures_map _
theorem ints_get {l : List Int} {i : Nat} (h : i < l.length) : (ints l)[i]? = some (.p (.int .i64 (l.getD i 0))) := by
  simp [ints, eInts, List.getD_eq_getElem?_getD, h]
structure RowS (σ : Store) (r off : Nat) (l : List Int) : Prop where
  ex : ∃ A, σ[r]? = some (.mix (ints A)) ∧ (A.drop off).take l.length = l ∧ off + l.length ≤ A.length
theorem RowS.idx {σ : Store} {r off : Nat} {l : List Int} (h : RowS σ r off l) {i : Nat} (hi : i < l.length) : indexAddr PP 24 (.rsl r 1 off l.length) (.p (.int .i64 (i : Nat))) = some (.ptr r (off + i)) := by
  have h2 : (0 : Int) ≤ (i : Int) ∧ (i : Int) < (l.length : Nat) := by omega
  simp [indexAddr, u24, s3, h2]
theorem rs_len (r off n : Nat) (σ : Store) : len PP 24 (.rsl r 1 off n) σ = some (.p (.int .i64 (n : Nat))) := by simp [len, u24]
theorem rs_idx {r off n i : Nat} (hi : i < n) : indexAddr PP 24 (.rsl r 1 off n) (.p (.int .i64 (i : Nat))) = some (.ptr r (off + i)) := by
  have h2 : (0 : Int) ≤ (i : Int) ∧ (i : Int) < (n : Nat) := by omega
  simp [indexAddr, u24, s3, h2]
theorem rs_ld {σ : Store} {r i : Nat} {A : List Int} (h : σ[r]? = some (.mix (ints A))) (hi : i < A.length) : load1 (.ptr r i) σ = some (.p (.int .i64 (A.getD i 0))) :=
  load1_ptr h (ints_get hi)
theorem rs_take {r off n k : Nat} (hk : k ≤ n) : sliceOp PP 24 (.rsl r 1 off n) none (some (.p (.int .i64 (k : Nat)))) none = some (.rsl r 1 off k) := by
  have hb := bound_nat hk n
  simp [sliceOp, u24, s3, hb, show bound none 0 k = some 0 from rfl]
theorem rs_drop {r off n k : Nat} (hk : k ≤ n) : sliceOp PP 24 (.rsl r 1 off n) (some (.p (.int .i64 (k : Nat)))) none none = some (.rsl r 1 (off + k) (n - k)) := by
  have hb := bound_nat hk 0
  simp [sliceOp, u24, s3, hb, show bound none n n = some n from rfl]
theorem rs_app {σ : Store} {r k lo : Nat} {A l : List Int} {x : DV} (h : σ[r]? = some (.mix (ints A))) (hx : PL x l) (hk : k + l.length ≤ A.length) (hA : A.length ≤ 100000) (hlo : lo ≤ r) :
    append PP lo true 24 24 (.rsl r 1 0 k) x σ = some (.rsl r 1 0 (k + l.length), σ.set r (.mix (ints (A.take k ++ l ++ A.drop (k + l.length))))) := by
  have e : splice (ints A) k (ints l) = ints (A.take k ++ l ++ A.drop (k + l.length)) := by
    unfold splice
    rw [ints_take, ints_len, ints_drop, ints_app, ints_app]
  have h1 : 0 + (k + l.length) * 1 ≤ (ints A).length := by rw [ints_len]; omega
  have h2 : (k + l.length) * 8 ≤ 140737488355328 ∧ k + l.length ≤ 140737488355328 ∧ 0 < 8 ∧ 1 = 1 ∧ lo ≤ r := ⟨by omega, by omega, by decide, rfl, hlo⟩
  have hs : source σ 1 x = some (l.length, ints l) := hx.src σ
  simp only [append, src24, Bool.true_eq_false, if_false, u24, s3, bytes3, zero3, List.length_singleton, ne_eq, not_true_eq_false, Nat.one_ne_zero, or_self, hs, appRow, h, ints_all, if_true, Nat.zero_add, Nat.mul_one, e]
  rw [if_pos ⟨h2.1, h2.2.1, h2.2.2.1, trivial, hlo⟩, if_pos (by rw [ints_len]; omega)]
theorem dups_zero (n : Nat) : dups [DV.p (pI 0)] n = ints (List.replicate n 0) := by
  induction n with
  | zero => rfl
  | succ n ih => rw [dups, ih, List.replicate_succ]; rfl
theorem u3 : PP.underlying 3 = some (.int .i64) := Eq.trans (by kernel_rfl) rfl
theorem src3 : srcType PP 3 = false := Eq.trans (by kernel_rfl) rfl
theorem S137 {s : Nat} (h0 : 0 < s) (hs : s ≤ 100000) (lo : Nat) (σ : Store) : CC lo 137 [.p .nilsl, .p (.int .i64 (s : Nat))] σ = some (.rsl σ.length 1 0 0, σ ++ [.mix (ints (List.replicate s 0))]) := by
  refine F137_call ?_
  have q0 : ¬ ((s : Int) < 0) := by omega
  have q1 : (s : Int) > 0 := by omega
  have c1 : capOp PP 24 (.p .nilsl) = some (.p (.int .i64 0)) := Eq.trans (by kernel_rfl) rfl
  have l1 : ∀ σ, len PP 24 (.p .nilsl) σ = some (.p (.int .i64 0)) := fun σ => by simp [len, u24]
  have w1 : binOp PP .sub 3 (.p (.int .i64 0)) (.p (.int .i64 0)) = some (.p (.int .i64 0)) := Eq.trans (by kernel_rfl) rfl
  have w2 : binOp PP .sub 3 (.p (.int .i64 (s : Nat))) (.p (.int .i64 0)) = some (.p (.int .i64 (s : Nat))) := by
    rw [b_sub, Int.sub_zero, wrap_ok (by omega) (by omega)]
  have sl1 : sliceOp PP 24 (.p .nilsl) none (some (.p (.int .i64 0))) none = some (.p .nilsl) := Eq.trans (by kernel_rfl) rfl
  have ap : append PP lo true 24 3 (.p .nilsl) (.p (.int .i64 (s : Nat))) σ = some (.rsl σ.length 1 0 s, σ ++ [.mix (ints (List.replicate s 0))]) := by
    have hc : (1 : Nat) = 1 ∧ 0 < 1 ∧ 0 < 8 ∧ 0 < (s : Int) ∧ (s : Int) ≤ 140737488355328 ∧ s * 8 ≤ 140737488355328 := ⟨rfl, by decide, by decide, by omega, by omega, by omega⟩
    simp [append, src3, appMake, u3, u24, s3, bytes3, zero3, dups_zero]
    omega
  have sl2 := rs_take (r := σ.length) (off := 0) (n := s) (k := 0) (Nat.zero_le _)
  have sl2' : sliceOp PP 24 (.rsl σ.length 1 0 s) none (some (.p (.int .i64 0))) none = some (.rsl σ.length 1 0 0) := sl2
  rw [F137_eq]
  simp only [b_lss, ltF q0, gG, f137_J0_eq, c1, l1, w1, w2, b_gtr, gtT q1, sl1, ap, sl2', f137_J1_eq]
theorem u130 : PP.underlying 130 = some (.slice 24) := Eq.trans (by kernel_rfl) rfl
theorem s24 : size? PP 24 = some 1 := Eq.trans (by kernel_rfl) rfl
theorem bs130_2 (a b : OI) (σ : Store) : buildSlice PP none 130 2 [(0, .p (eSl a)), (1, .p (eSl b))] σ = some (.p (.sl true 2 [eSl a, eSl b]), σ) := by
  cases a <;> cases b <;> exact Eq.trans (by kernel_rfl) rfl
theorem S84 {a b : OI} (h0 : 0 < (L a).length + (L b).length) (hl : (L a).length + (L b).length ≤ 10000) (ex : Bool) (lo : Nat) (σ : Store) (hlo : lo ≤ σ.length) :
    CC lo 84 [.p (.sl ex 2 [eSl a, eSl b])] σ = some (.rsl σ.length 1 0 (L a ++ L b).length, σ ++ [.mix (ints (L a ++ L b))]) := by
  refine F84_call ?_
  have ln : ∀ σ, len PP 130 (.p (.sl ex 2 [eSl a, eSl b])) σ = some (.p (.int .i64 2)) := fun σ => by simp [len, u130]
  have i0 : indexAddr PP 130 (.p (.sl ex 2 [eSl a, eSl b])) (.p (.int .i64 0)) = some (.pptr [eSl a, eSl b] 0) := Eq.trans (by kernel_rfl) rfl
  have i1 : indexAddr PP 130 (.p (.sl ex 2 [eSl a, eSl b])) (.p (.int .i64 1)) = some (.pptr [eSl a, eSl b] 1) := Eq.trans (by kernel_rfl) rfl
  have d0 : ∀ σ, load1 (.pptr [eSl a, eSl b] 0) σ = some (.p (eSl a)) := fun σ => load1_pptr rfl σ
  have d1 : ∀ σ, load1 (.pptr [eSl a, eSl b] 1) σ = some (.p (eSl b)) := fun σ => load1_pptr rfl σ
  have z0 : binOp PP .add 3 (.p (.int .i64 0)) (.p (.int .i64 ((L a).length : Nat))) = some (.p (.int .i64 ((L a).length : Nat))) := by
    rw [b_add, Int.zero_add, wrap_ok (by omega) (by omega)]
  have n0 : ¬ (((L a).length : Int) < 0) := by omega
  have n1 : ¬ ((((L a).length + (L b).length : Nat) : Int) < 0) := by omega
  have p0 : binOp PP .add 3 (.p (.int .i64 0)) (.p (.int .i64 1)) = some (.p (.int .i64 1)) := Eq.trans (by kernel_rfl) rfl
  have p1 : binOp PP .add 3 (.p (.int .i64 1)) (.p (.int .i64 1)) = some (.p (.int .i64 2)) := Eq.trans (by kernel_rfl) rfl
  have t0 : (0 : Int) < 2 := by decide
  have t1 : (1 : Int) < 2 := by decide
  have t2 : ¬ (2 : Int) < 2 := by decide
  have hz : (List.replicate ((L a).length + (L b).length) (0 : Int)).length = (L a).length + (L b).length := by simp
  have a1 := rs_app (σ := σ ++ [.mix (ints (List.replicate ((L a).length + (L b).length) 0))]) (r := σ.length) (k := 0) (lo := lo) (x := .p (eSl a)) get_snoc (PL.sl a) (by rw [hz]; omega) (by rw [hz]; omega) hlo
  simp only [List.take_zero, List.nil_append, Nat.zero_add, List.set_append_right _ _ (Nat.le_refl _), Nat.sub_self, List.set_cons_zero] at a1
  have hz2 : (L a ++ (List.replicate ((L a).length + (L b).length) (0 : Int)).drop (L a).length).length = (L a).length + (L b).length := by simp
  have a2 := rs_app (σ := σ ++ [.mix (ints (L a ++ (List.replicate ((L a).length + (L b).length) 0).drop (L a).length))]) (r := σ.length) (k := (L a).length) (lo := lo) (x := .p (eSl b)) get_snoc (PL.sl b) (by rw [hz2]; omega) (by rw [hz2]; omega) hlo
  have e1 : (L a ++ (List.replicate ((L a).length + (L b).length) (0 : Int)).drop (L a).length).take (L a).length = L a := by rw [List.take_append_of_le_length (Nat.le_refl _), List.take_length]
  have e2 : (L a ++ (List.replicate ((L a).length + (L b).length) (0 : Int)).drop (L a).length).drop ((L a).length + (L b).length) = [] := List.drop_eq_nil_of_le (by rw [hz2]; omega)
  rw [e1, e2, List.append_nil] at a2
  simp only [List.set_append_right _ _ (Nat.le_refl _), Nat.sub_self, List.set_cons_zero] at a2
  rw [F84_eq, ln]
  simp only [obind]
  rw [f84_L0_eq guardT rfl]
  simp only [b_lss, ltT t0, gG, i0, load24, d0, (PL.sl a).len, z0, ltF n0, f84_J0_eq, p0]
  rw [f84_L0_eq guardT rfl]
  simp only [b_lss, ltT t1, gG, i1, load24, d1, (PL.sl b).len, addN (show (L a).length + (L b).length ≤ 1000000 by omega), ltF n1, f84_J0_eq, p1]
  rw [f84_L0_eq guardT rfl]
  simp only [b_lss, ltF t2, gG, plainFn, List.append_nil, S137 h0 (by omega), ln]
  rw [f84_L1_eq guardT rfl]
  simp only [b_lss, ltT t0, gG, i0, load24, d0, a1, p0]
  rw [f84_L1_eq guardT rfl]
  simp only [b_lss, ltT t1, gG, i1, load24, d1, a2, p1]
  rw [f84_L1_eq guardT rfl]
  simp only [b_lss, ltF t2, gG, List.length_append]
section
variable {l : List Int} {r lo : Nat} (hl : l.length ≤ 100000) (hlo : lo ≤ r)
include hl hlo
end
end Go.D
end
/- Chapter 13: the shortest form and the word without stuttering, in the program. -/
section
set_option linter.unusedVariables false
set_option linter.unusedSimpArgs false
namespace Go.D
open Las
theorem wrapU {n : Nat} (h : n ≤ 1000000) : IntKind.u64.wrap (n : Int) = (n : Int) := by
  unfold IntKind.wrap IntKind.bits IntKind.signed
  simp
  omega
theorem andU {a : Nat} (h : a ≤ 1000000) (t : TypeId) : binOp PP .and t (.p (.int .u64 (a : Nat))) (.p (.int .u64 4294967295)) = some (.p (.int .u64 (a : Nat))) := by
  have e : (BitVec.ofInt 64 (a : Int) &&& BitVec.ofInt 64 4294967295).toNat = a := by
    have h1 : (BitVec.ofInt 64 (a : Int)).toNat = a := by rw [BitVec.ofInt_natCast, BitVec.toNat_ofNat]; omega
    have h2 : (BitVec.ofInt 64 4294967295).toNat = 2 ^ 32 - 1 := by decide
    rw [BitVec.toNat_and, h1, h2, Nat.and_two_pow_sub_one_eq_mod]
    omega
  have e2 : binInt .and .u64 (a : Int) 4294967295 = some (.int .u64 (a : Nat)) := by
    show some (PV.int .u64 (IntKind.u64.wrap ((BitVec.ofInt 64 (a : Int) &&& BitVec.ofInt 64 4294967295).toNat : Int))) = _
    rw [e, wrapU h]
  show (if IntKind.u64 = IntKind.u64 then (binInt .and .u64 (a : Int) 4294967295).map DV.p else none) = _
  rw [if_pos rfl, e2]
  rfl
theorem shrU {a : Nat} (h : a ≤ 1000000) (t : TypeId) : binOp PP .shr t (.p (.int .u64 (a : Nat))) (.p (.int .u64 32)) = some (.p (.int .u64 ((0 : Nat) : Int))) := by
  have e : (a : Int).fdiv (2 ^ 32) = 0 := by
    rw [Int.fdiv_eq_ediv_of_nonneg _ (by decide)]
    omega
  show (some (PV.int .u64 ((a : Int).fdiv (2 ^ 32)))).map DV.p = _
  rw [e]
  rfl
theorem mulU {a b : Nat} (h : a * b ≤ 1000000) (t : TypeId) : binOp PP .mul t (.p (.int .u64 (a : Nat))) (.p (.int .u64 (b : Nat))) = some (.p (.int .u64 ((a * b : Nat) : Int))) := by
  have e : IntKind.u64.wrap ((a : Int) * (b : Int)) = ((a * b : Nat) : Int) := by rw [← Int.natCast_mul, wrapU h]
  show some (DV.p (PV.int .u64 (IntKind.u64.wrap ((a : Int) * (b : Int))))) = _
  rw [e]
theorem addU {a b : Nat} (h : a + b ≤ 1000000) (t : TypeId) : binOp PP .add t (.p (.int .u64 (a : Nat))) (.p (.int .u64 (b : Nat))) = some (.p (.int .u64 ((a + b : Nat) : Int))) := by
  have e : IntKind.u64.wrap ((a : Int) + (b : Int)) = ((a + b : Nat) : Int) := by rw [← Int.natCast_add, wrapU h]
  show some (DV.p (PV.int .u64 (IntKind.u64.wrap ((a : Int) + (b : Int))))) = _
  rw [e]
theorem S174 {a b : Nat} (ha : a ≤ 1000000) (hb : b ≤ 1000000) (h : a * b ≤ 1000000) (σ : Store) : pureV CC 174 [.p (.int .u64 (a : Nat)), .p (.int .u64 (b : Nat))] σ = some (.tuple [.p (.int .u64 ((0 : Nat) : Int)), .p (.int .u64 ((a * b : Nat) : Int))]) := by
  refine pureV_free rfl rfl (F174_call (r := (.tuple [.p (.int .u64 ((0 : Nat) : Int)), .p (.int .u64 ((a * b : Nat) : Int))], [])) ?_) rfl
  have m0 : ∀ n : Nat, 0 * n ≤ 1000000 := fun n => by omega
  have m1 : ∀ n : Nat, n * 0 ≤ 1000000 := fun n => by omega
  have z : (0 : Nat) ≤ 1000000 := by decide
  have zz : (0 : Nat) + 0 ≤ 1000000 := by decide
  have q1 := mulU (m0 b) 197
  have q2 := mulU (m1 a) 197
  have q3 := mulU (m0 0) 197
  rw [Nat.zero_mul] at q1
  rw [Nat.mul_zero] at q2
  have q4 := addU zz 197
  rw [F174_eq]
  simp only [andU ha, andU hb, shrU ha, shrU hb, obind, mulU h, q1, shrU h, q4, andU z, shrU z, q2, q3]
theorem S156 {a b : Nat} (ha : a ≤ 1000000) (hb : b ≤ 1000000) (h : a * b ≤ 1000000) (σ : Store) : pureV CC 156 [.p (.int .u64 (a : Nat)), .p (.int .u64 (b : Nat))] σ = some (.tuple [.p (.int .u64 0), .p (.int .u64 ((a * b : Nat) : Int))]) := by
  refine pureV_free rfl rfl (F156_call (r := (.tuple [.p (.int .u64 0), .p (.int .u64 ((a * b : Nat) : Int))], [])) ?_) rfl
  have e0 : ∀ a b : DV, extractV (.tuple [a, b]) 0 = some a := fun _ _ => Eq.trans rfl rfl
  have e1 : ∀ a b : DV, extractV (.tuple [a, b]) 1 = some b := fun _ _ => Eq.trans rfl rfl
  rw [F156_eq]
  simp only [gG, shift_ptr, shift_pptr, Nat.zero_add, Nat.add_zero, pureFn_fn, List.append_nil, List.singleton_append, List.cons_append, List.nil_append, S174 ha hb h, e0, e1]
  rfl
theorem u179 : PP.underlying 179 = some (.int .u64) := Eq.trans (by kernel_rfl) rfl
theorem cvU {n : Nat} (h : n ≤ 1000000) : convert PP 3 179 (.p (.int .i64 (n : Nat))) = some (.p (.int .u64 (n : Nat))) := by
  simp [convert, u3, u179, wrapU h]
theorem cvI {n : Nat} (h : n ≤ 1000000) : convert PP 179 3 (.p (.int .u64 (n : Nat))) = some (.p (.int .i64 (n : Nat))) := by
  have e : IntKind.i64.wrap (n : Int) = (n : Int) := wrap_ok (by omega) (by omega)
  simp [convert, u3, u179, e]
theorem b_gtrU (P : Program) (t : TypeId) (a b : Int) : binOp P .gtr t (.p (.int .u64 a)) (.p (.int .u64 b)) = some (.p (.bool (decide (a > b)))) := Eq.trans rfl rfl
end Go.D
end
/- Chapter 13: Shortest and Unstuttered, in the program and in the reference. -/
section
set_option linter.unusedVariables false
set_option linter.unusedSimpArgs false
namespace Go.D
open Las
def Out (σ : Store) (lo sz n : Nat) (cs : List PV) (x : DV) : Prop :=
  cs.length = n * sz ∧ ((n = 0 ∧ x = .p .nilsl) ∨ (n ≠ 0 ∧ ∃ r ver, x = .osl r ver sz n cs ∧ σ[r]? = some (.tok ver) ∧ lo ≤ r))
def Others (σ σ' : Store) (x : DV) : Prop := ∀ i row, σ[i]? = some row → (∀ r ver sz n cs, x = .osl r ver sz n cs → i ≠ r) → σ'[i]? = some row
theorem Out.zero {σ : Store} {lo sz : Nat} : Out σ lo sz 0 [] (.p .nilsl) := ⟨by simp, .inl ⟨rfl, rfl⟩⟩
theorem Others.mix {σ σ' : Store} {lo sz n : Nat} {cs : List PV} {x : DV} (h : Others σ σ' x) (ho : Out σ lo sz n cs x) {i : Nat} {row : Row} (hi : σ[i]? = some row) (hr : ∀ v, row ≠ .tok v) : σ'[i]? = some row := by
  refine h i row hi ?_
  rintro r ver sz' n' cs' rfl rfl
  rcases ho.2 with ⟨_, h2⟩ | ⟨_, r2, ver2, h2, h3, _⟩
  · cases h2
  · injection h2 with e1
    subst e1
    rw [hi] at h3
    injection h3 with h3
    exact hr _ h3
theorem Out.push {σ : Store} {t e lo sz b n : Nat} {z : List DV} {cs vs : List PV} {x : DV} (hs : srcType PP t = true) (hu : PP.underlying t = some (.slice e)) (h1 : size? PP e = some sz) (h2 : bytes? PP e = some b) (h3 : zeroOf PP e = some z)
    (h4 : z.length = sz) (hz : 0 < sz) (hb : 0 < b) (hb2 : b ≤ 1000) (hv : vs.length = sz) (ho : Out σ lo sz n cs x) (hn : n ≤ 1000000) (hlo : lo ≤ σ.length) :
    ∃ x' σ', append PP lo false t t x (.p (.sl true 1 vs)) σ = some (x', σ') ∧ Out σ' lo sz (n + 1) (cs ++ vs) x' ∧ Others σ σ' x ∧ σ.length ≤ σ'.length := by
  have hsrc : source σ sz (.p (.sl true 1 vs)) = some (1, vs.map DV.p) := by simp [source, hv]
  have hz0 : ¬ (z.length ≠ sz ∨ sz = 0) := by omega
  obtain ⟨hc, ho⟩ := ho
  rcases ho with ⟨rfl, rfl⟩ | ⟨hn0, r, ver, rfl, hr, hl⟩
  · refine ⟨.osl σ.length 0 sz 1 vs, σ ++ [.tok 0], ?_, ⟨by simp [hc, hv], .inr ⟨by simp, σ.length, 0, ?_, get_snoc, hlo⟩⟩, ?_, by simp⟩
    · have : b ≤ 140737488355328 := by omega
      simp only [append, hs, hu, h1, h2, h3, hz0, hsrc, appNil]
      simp [this, hb, pures_map, h4, hz, Nat.ne_of_gt hz]
    · have : cs = [] := List.length_eq_zero_iff.1 (by simpa using hc)
      rw [this]; simp
    · intro i row hi _
      exact get_old hi
  · refine ⟨.osl r (ver + 1) sz (n + 1) (cs ++ vs), σ.set r (.tok (ver + 1)), ?_, ⟨by simp [hc, hv, Nat.add_mul], .inr ⟨by simp, r, ver + 1, rfl, ?_, hl⟩⟩, ?_, by simp⟩
    · have e1 : (n + 1) * b ≤ 140737488355328 := Nat.le_trans (Nat.mul_le_mul (show n + 1 ≤ 1000001 by omega) hb2) (by decide)
      have e2 : n + 1 ≤ 140737488355328 := by omega
      simp only [append, hs, hu, h1, h2, h3, hz0, hsrc, appTok]
      simp [e1, e2, hb, hc, hl, hr, pures_map, h4, Nat.ne_of_gt hz]
    · rw [List.getElem?_set_self (get_lt hr)]
    · intro i row hi hne
      rw [List.getElem?_set_ne (fun e => hne _ _ _ _ _ rfl e.symm)]
      exact hi
theorem Out.tw {σ : Store} {lo sz n : Nat} {cs : List PV} {x : DV} (ho : Out σ lo sz n cs x) (m : Nat) : thaw m σ x = some (.p (if n = 0 then .nilsl else .sl false n (loosens cs))) := by
  rcases ho.2 with ⟨rfl, rfl⟩ | ⟨hn, r, ver, rfl, _, _⟩
  · rfl
  · simp [thaw, thaw1, thawP, hn]
theorem Out.twAll {σ : Store} {lo sz n : Nat} {cs : List PV} {x : DV} (ho : Out σ lo sz n cs x) (m : Nat) : thawAll m σ x = some (.p (if n = 0 then .nilsl else .sl false n (loosens cs))) := by
  rcases ho.2 with ⟨rfl, rfl⟩ | ⟨hn, r, ver, rfl, _, _⟩
  · rfl
  · simp [thawAll, thawPart, thaw, thaw1, thawP, hn]
theorem Out.vw {σ : Store} {lo sz n : Nat} {cs : List PV} {x : DV} (ho : Out σ lo sz n cs x) : view x = .p (if n = 0 then .nilsl else .sl false n (loosens cs)) := by
  rcases ho.2 with ⟨rfl, rfl⟩ | ⟨hn, r, ver, rfl, _, _⟩
  · rfl
  · simp [view, viewCell, hn]
theorem Out.push24 {σ : Store} {lo n : Nat} {cs : List PV} {v : PV} {x : DV} (ho : Out σ lo 1 n cs x) (hn : n ≤ 1000000) (hlo : lo ≤ σ.length) :
    ∃ x' σ', append PP lo false 24 24 x (.p (.sl true 1 [v])) σ = some (x', σ') ∧ Out σ' lo 1 (n + 1) (cs ++ [v]) x' ∧ Others σ σ' x ∧ σ.length ≤ σ'.length :=
  Out.push src24 u24 s3 bytes3 zero3 rfl (by decide) (by decide) (by decide) rfl ho hn hlo
theorem wErr_zero {P Q : List Int} (h : wErr P Q = 0) : Q ≠ [] ∧ P.length + Q.length ≤ 60 ∧ (∀ v ∈ P, oddB v = false) ∧ ∀ v ∈ Q, oddB v = false := by
  unfold wErr at h
  split at h
  · exact absurd h (by decide)
  · rename_i h1
    split at h
    · exact absurd h (by decide)
    · rename_i h2
      split at h
      · exact absurd h (by decide)
      · rename_i h3
        rw [Bool.not_eq_true, Bool.or_eq_false_iff, List.any_eq_false, List.any_eq_false] at h3
        exact ⟨fun e => h1 (by rw [e]; rfl), by omega, fun v hv => (Bool.not_eq_true _).mp (h3.1 v hv), fun v hv => (Bool.not_eq_true _).mp (h3.2 v hv)⟩
abbrev W0 : Wd := ⟨none, none⟩
theorem thaw_we (u : Wd) (e : Int) (m : Nat) (σ : Store) : thawAll m σ (.tuple [vWd u, .p (.int .i64 e)]) = some (.tuple [vWd u, .p (.int .i64 e)]) := by
  simp [thawAll, mapO, thawPart, vWd, thaw, thaw1, thawP, loosen_sl, loosen]
theorem st_wd {σ : Store} {r lo : Nat} {z : List DV} (u : Wd) (h : σ[r]? = some (.mix z)) (hlo : lo ≤ r) (hz : z.length = 2) : store PP lo 26 (.ptr r 0) (vWd u) σ = some (σ.set r (.mix [.p (eSl u.p), .p (eSl u.l)])) := st26 h hlo hz rfl rfl
theorem ce_wd {σ : Store} {r : Nat} (u : Wd) (hr : r < σ.length) : cellV PP 26 (.ptr r 0) (σ.set r (.mix [.p (eSl u.p), .p (eSl u.l)])) = some (vWd u) := cell26 (by rw [List.getElem?_set_self hr]) rfl
theorem pureV_mix {call : CallF} {f : FuncId} {args args' : List DV} {σ : Store} {v v' : DV} {σ' : Store} (h0 : args.map view = args') (h1 : args'.map view = args') (h2 : args'.all rowFree = false) (h : call σ.length f args' σ = some (v', σ')) (ht : thawAll σ.length σ' v' = some v) : pureV call f args σ = some v := by
  rw [pureV_view h0 h1]
  exact pureV_rows h1 h2 h ht
theorem S78r {r off lo : Nat} {A l : List Int} {σ : Store} (h : σ[r]? = some (.mix (ints A))) (hA : (A.drop off).take l.length = l) (ho : off + l.length ≤ A.length) (hl : l.length ≤ 100000) : pureV CC 78 [.rsl r 1 off l.length] σ = some (.p (eSl (some l))) := by
  have hs : source σ 1 (.rsl r 1 off l.length) = some (l.length, ints l) := by
    have hb : off + l.length * 1 ≤ (ints A).length := by rw [ints_len]; omega
    simp only [source, if_true, loadN, h, if_pos hb]
    rw [Nat.mul_one, ints_drop, ints_take, hA]
    rfl
  have hap : ∃ y σ', append PP σ.length false 24 24 (.p (.sl true 0 [])) (.rsl r 1 off l.length) σ = some (y, σ') ∧ thawAll σ.length σ' y = some (.p (eSl (some l))) := by
    by_cases hb : l = []
    · subst hb
      refine ⟨.p (.sl true 0 []), σ, ?_, rfl⟩
      simp only [List.length_nil] at hs
      simp [append, src24, u24, s3, bytes3, zero3, hs, appLit]
    · have hb0 : ¬ (l.length = 0) := fun e => hb (List.length_eq_zero_iff.1 e)
      refine ⟨.osl σ.length 0 1 l.length (eInts l), σ ++ [.tok 0], ?_, by simp [thawAll, thawPart, thaw, thaw1, thawP, loosens_ints, eSl]⟩
      simp only [append, src24, Bool.true_eq_false, if_false, u24, s3, bytes3, zero3, List.length_singleton, ne_eq, not_true_eq_false, Nat.one_ne_zero, or_self, hs, appLit, if_neg hb0, Bool.false_eq_true, ints_pures, Option.map_some, List.nil_append, Nat.zero_add]
      rw [if_pos ⟨by omega, by omega, by decide, rfl⟩]
  obtain ⟨y, σ', h1, h2⟩ := hap
  refine pureV_mix (args' := [.rsl r 1 off l.length]) rfl rfl rfl (F78_call (r := (y, σ')) ?_) h2
  rw [F78_eq]
  simp only [isnil_rsl, gG, bs24_0, h1]
end Go.D
end
/- Chapter 13: formulas as the program's values; their errors in the reference. -/
section
set_option linter.unusedVariables false
set_option linter.unusedSimpArgs false
namespace Go.D
open Las
def eNds : List Nd → List PV
  | [] => []
  | x :: l => pI x.k :: pI x.n :: eSl x.a :: eNds l
def eFm : Fm → PV
  | none => .nilsl
  | some l => .sl false l.length (eNds l)
theorem loosens_nds (l : List Nd) : loosens (eNds l) = eNds l := by
  induction l with
  | nil => rfl
  | cons a l ih => simp only [eNds, loosens, loosen, loosen_sl, ih]
theorem loosen_fm (f : Fm) : loosen (eFm f) = eFm f := by
  cases f <;> simp [eFm, loosen, loosens_nds]
theorem fm_view (f : Fm) : view (.p (eFm f)) = .p (eFm f) := by simp [view, viewCell, loosen_fm]
theorem nds_length (l : List Nd) : (eNds l).length = l.length * 3 := by
  induction l with
  | nil => rfl
  | cons a l ih => simp [eNds, ih]; omega
theorem eNds_app (l m : List Nd) : eNds (l ++ m) = eNds l ++ eNds m := by
  induction l with
  | nil => rfl
  | cons a l ih => simp [eNds, ih]
theorem nds_get : ∀ (l : List Nd) (i : Nat) (h : i < l.length), (eNds l)[i * 3]? = some (pI (l.getD i default).k) ∧ (eNds l)[i * 3 + 1]? = some (pI (l.getD i default).n) ∧ (eNds l)[i * 3 + 2]? = some (eSl (l.getD i default).a)
  | e :: l, 0, h => by simp [eNds]
  | e :: l, i + 1, h => by
    have := nds_get l i (by simpa using h)
    have e3 : (i + 1) * 3 = i * 3 + 1 + 1 + 1 := by omega
    rw [e3]
    simpa [eNds] using this
theorem u23 : PP.underlying 23 = some (.slice 67) := Eq.trans (by kernel_rfl) rfl
theorem s67 : size? PP 67 = some 3 := Eq.trans (by kernel_rfl) rfl
theorem src23 : srcType PP 23 = true := Eq.trans (by kernel_rfl) rfl
theorem zero67 : zeroOf PP 67 = some [.p (pI 0), .p (pI 0), .p .nilsl] := Eq.trans (by kernel_rfl) rfl
theorem bytes67 : bytes? PP 67 = some 40 := Eq.trans (by kernel_rfl) rfl
theorem fa67_0 (x : DV) : fieldAddr PP 67 x 0 = shiftPtr x 0 := Eq.trans (by kernel_rfl) rfl
theorem fa67_1 (x : DV) : fieldAddr PP 67 x 1 = shiftPtr x 1 := Eq.trans (by kernel_rfl) rfl
theorem fa67_2 (x : DV) : fieldAddr PP 67 x 2 = shiftPtr x 2 := Eq.trans (by kernel_rfl) rfl
theorem load67 (x : DV) (σ : Store) : load PP 67 x σ = (loadN σ 3 x).map .agg := Eq.trans (by kernel_rfl) rfl
theorem len23 (f : Fm) (σ : Store) : len PP 23 (.p (eFm f)) σ = some (N (L f).length) := by cases f <;> simp [len, u23, eFm, N]
theorem idx23 {f : Fm} {i : Nat} (h : i < (L f).length) : indexAddr PP 23 (.p (eFm f)) (.p (.int .i64 (i : Nat))) = some (.pptr (eNds (L f)) (i * 3)) := by
  cases f with
  | none => simp at h
  | some l =>
    have h2 : (0 : Int) ≤ (i : Int) ∧ (i : Int) < (l.length : Nat) := by simp at h; omega
    simp [indexAddr, u23, s67, eFm, h2]
def ndD (x : Nd) : List DV := [.p (pI x.k), .p (pI x.n), .p (eSl x.a)]
section
variable {F : List Nd} {i : Nat} (h : i < F.length) (σ : Store)
include h
theorem nd_a : load1 (.pptr (eNds F) (i * 3 + 2)) σ = some (.p (eSl (F.getD i default).a)) := load1_pptr (nds_get F i h).2.2 σ
theorem nd_all : (loadN σ 3 (.pptr (eNds F) (i * 3))).map DV.agg = some (.agg (ndD (F.getD i default))) := by
  have hle : i * 3 + 3 ≤ (eNds F).length := by rw [nds_length]; omega
  obtain ⟨h1, h2, h3⟩ := nds_get F i h
  have hd : ((eNds F).drop (i * 3)).take 3 = [pI (F.getD i default).k, pI (F.getD i default).n, eSl (F.getD i default).a] := by
    apply List.ext_getElem?
    intro j
    match j with
    | 0 => simpa using h1
    | 1 => simpa using h2
    | 2 => simpa using h3
    | j + 3 => simp; omega
  simp only [loadN, if_pos hle, hd]
  rfl
end
theorem st67 {σ : Store} {lo : Nat} {z : List DV} (x : Nd) (hz : z.length = 3) (hlo : lo ≤ σ.length) : store PP lo 67 (.ptr σ.length 0) (.agg (ndD x)) (σ ++ [.mix z]) = some (σ ++ [.mix (ndD x)]) := by
  have e : splice z 0 (ndD x) = ndD x := by simp [splice, hz, ndD]
  have e2 : (ndD x).all DV.one = true := rfl
  have e3 : (ndD x).length = 3 := rfl
  simp [store, s67, DV.cells, storeN, hz, e, e2, e3, hlo]
section
variable {σ : Store} {r : Nat} {x : Nd} (h : σ[r]? = some (.mix (ndD x)))
include h
theorem row_k : load1 (.ptr r 0) σ = some (.p (.int .i64 x.k)) := load1_ptr h rfl
theorem row_n : load1 (.ptr r 1) σ = some (.p (.int .i64 x.n)) := load1_ptr h rfl
theorem row_a : load1 (.ptr r 2) σ = some (.p (eSl x.a)) := load1_ptr h rfl
theorem row_nd : (loadN σ 3 (.ptr r 0)).map DV.agg = some (.agg (ndD x)) := by rw [loadN_ptr (vs := ndD x) h rfl (by simp [ndD])]; rfl
end
theorem subI {r : Nat} (h : r ≤ 1000000) : binOp PP .sub 3 (.p (.int .i64 (r : Nat))) (.p (.int .i64 1)) = some (.p (.int .i64 ((r : Int) - 1))) := by
  rw [b_sub, wrap_ok] <;> omega
theorem subJ {r : Int} (h : -1000000 ≤ r) (h2 : r ≤ 1000000) : binOp PP .sub 3 (.p (.int .i64 r)) (.p (.int .i64 1)) = some (.p (.int .i64 (r - 1))) := by
  rw [b_sub, wrap_ok] <;> omega
def FSm (f : Fm) : Prop := (L f).length ≤ 1000 ∧ ∀ i, (nA (L f) i).length ≤ 1000
theorem S13 (f : Fm) (σ : Store) : ∃ b, pureV CC 13 [.p (eFm f)] σ = some (.p (.bool b)) ∧ (b = true → FSm f) := by
  have hL : ∀ (d i : Nat), (L f).length ≤ 45 → (L f).length - i = d → i ≤ (L f).length → ∃ b, f13_L0 guardT 0 (.p (eFm f)) (N i) [] = some (.p (.bool b), []) ∧ (b = true → ∀ j, i ≤ j → j < (L f).length → (nA (L f) j).length ≤ 45) := by
    intro d
    induction d with
    | zero =>
      intro i h45 hd hi
      refine ⟨true, ?_, fun _ j h1 h2 => by omega⟩
      rw [f13_L0_eq guardT rfl]
      simp (disch := omega) only [N, len23, gG, b_lss, ltF]
    | succ d ih =>
      intro i h45 hd hi
      have hlt : i < (L f).length := by omega
      have e1 : (.p (.int .i64 (i : Nat)) : DV) = N i := rfl
      by_cases hc : ((nA (L f) i).length : Int) > 45
      · refine ⟨false, ?_, fun h => absurd h (by simp)⟩
        rw [f13_L0_eq guardT rfl]
        have hc' : ((L ((L f).getD i default).a).length : Int) > 45 := hc
        simp (disch := omega) only [N, len23, gG, b_lss, ltT, idx23 hlt, fa67_2, shift_ptr, shift_pptr, Nat.zero_add, Nat.add_zero, pureFn_fn, List.append_nil, List.singleton_append, List.cons_append, List.nil_append, load24, nd_a hlt, (PL.sl _).len, b_gtr, gtT hc']
      · obtain ⟨b, b1, b2⟩ := ih (i + 1) h45 (by omega) (by omega)
        refine ⟨b, ?_, fun hb j h1 h2 => ?_⟩
        · rw [f13_L0_eq guardT rfl]
          have hc' : ¬ ((L ((L f).getD i default).a).length : Int) > 45 := hc
          simp only [N] at b1
          simp (disch := omega) only [N, len23, gG, b_lss, ltT, idx23 hlt, fa67_2, shift_ptr, shift_pptr, Nat.zero_add, Nat.add_zero, pureFn_fn, List.append_nil, List.singleton_append, List.cons_append, List.nil_append, load24, nd_a hlt, (PL.sl _).len, b_gtr, gtF hc', add1, b1]
        · by_cases e : j = i
          · subst e; omega
          · exact b2 hb j (by omega) h2
  by_cases h45 : ((L f).length : Int) > 45
  · refine ⟨false, pureV_free (by simp [fm_view]) rfl (F13_call (r := (.p (.bool false), [])) ?_) rfl, fun h => absurd h (by simp)⟩
    rw [F13_eq]
    simp only [len23, N, gG, b_gtr, gtT h45]
  · obtain ⟨b, b1, b2⟩ := hL _ 0 (by omega) rfl (Nat.zero_le _)
    refine ⟨b, pureV_free (by simp [fm_view]) rfl (F13_call (r := (.p (.bool b), [])) ?_) rfl, fun hb => ⟨by omega, fun i => ?_⟩⟩
    · rw [F13_eq]
      simp only [len23, N, gG, b_gtr, gtF h45]
      exact b1
    · by_cases hi : i < (L f).length
      · have := b2 hb i (Nat.zero_le _) hi; omega
      · have : nA (L f) i = [] := by
          unfold nA
          rw [List.getD_eq_getElem?_getD, List.getElem?_eq_none (by omega)]; rfl
        rw [this]; simp
theorem S103 (k : Int) (σ : Store) : pureV CC 103 [.p (.int .i64 k)] σ = some (.p (.int .i64 (ar k))) := by
  refine pureV_free rfl rfl (F103_call (r := (.p (.int .i64 (ar k)), [])) ?_) rfl
  rw [F103_eq]
  unfold ar
  by_cases h0 : k = 0
  · simp only [b_eql, eqT h0, gG, f103_J0_eq, if_pos (show k = 0 ∨ k = 1 from .inl h0)]
  · by_cases h1 : k = 1
    · simp only [b_eql, eqF h0, eqT h1, gG, f103_J0_eq, if_pos (show k = 0 ∨ k = 1 from .inr h1)]
    · rw [if_neg (show ¬ (k = 0 ∨ k = 1) by omega)]
      by_cases h2 : k = 2
      · simp only [b_eql, eqF h0, eqF h1, eqT h2, gG, f103_J0_eq, f103_J1_eq, if_pos (show k = 2 ∨ k = 6 ∨ k = 7 from .inl h2)]
      · by_cases h3 : k = 6
        · simp only [b_eql, eqF h0, eqF h1, eqF h2, eqT h3, gG, f103_J0_eq, f103_J1_eq, if_pos (show k = 2 ∨ k = 6 ∨ k = 7 from .inr (.inl h3))]
        · by_cases h4 : k = 7
          · simp only [b_eql, eqF h0, eqF h1, eqF h2, eqF h3, eqT h4, gG, f103_J0_eq, f103_J1_eq, if_pos (show k = 2 ∨ k = 6 ∨ k = 7 from .inr (.inr h4))]
          · simp only [b_eql, eqF h0, eqF h1, eqF h2, eqF h3, eqF h4, gG, f103_J0_eq, f103_J1_eq, if_neg (show ¬ (k = 2 ∨ k = 6 ∨ k = 7) by omega)]
theorem S99 (k : Int) (σ : Store) : pureV CC 99 [.p (.int .i64 k)] σ = some (.p (.int .i64 (ar k))) := by
  refine pureV_free rfl rfl (F99_call (r := (.p (.int .i64 (ar k)), [])) ?_) rfl
  rw [F99_eq]
  unfold ar
  by_cases h0 : k = 0
  · simp only [b_eql, eqT h0, gG, f99_J0_eq, if_pos (show k = 0 ∨ k = 1 from .inl h0)]
  · by_cases h1 : k = 1
    · simp only [b_eql, eqF h0, eqT h1, gG, f99_J0_eq, if_pos (show k = 0 ∨ k = 1 from .inr h1)]
    · rw [if_neg (show ¬ (k = 0 ∨ k = 1) by omega)]
      by_cases h2 : k = 2
      · simp only [b_eql, eqF h0, eqF h1, eqT h2, gG, f99_J0_eq, f99_J1_eq, if_pos (show k = 2 ∨ k = 6 ∨ k = 7 from .inl h2)]
      · by_cases h3 : k = 6
        · simp only [b_eql, eqF h0, eqF h1, eqF h2, eqT h3, gG, f99_J0_eq, f99_J1_eq, if_pos (show k = 2 ∨ k = 6 ∨ k = 7 from .inr (.inl h3))]
        · by_cases h4 : k = 7
          · simp only [b_eql, eqF h0, eqF h1, eqF h2, eqF h3, eqT h4, gG, f99_J0_eq, f99_J1_eq, if_pos (show k = 2 ∨ k = 6 ∨ k = 7 from .inr (.inr h4))]
          · simp only [b_eql, eqF h0, eqF h1, eqF h2, eqF h3, eqF h4, gG, f99_J0_eq, f99_J1_eq, if_neg (show ¬ (k = 2 ∨ k = 6 ∨ k = 7) by omega)]
section
variable {f : Fm} (hf : FSm f)
include hf
theorem L105 : ∀ (d r : Nat), r < d → r < (L f).length → f105_L0 guardT 0 (.p (eFm f)) (N r) [] = some (.p (.int .i64 (fo (L f) r)), [])
  | 0, r, h, _ => by omega
  | d + 1, r, hd, hr => by
    have h1 := hf.1
    have ha : L ((L f).getD r default).a = nA (L f) r := rfl
    have ga := nd_a hr
    rw [fo_eq, f105_L0_eq guardT rfl]
    by_cases h0 : nA (L f) r = []
    · rw [if_pos h0]
      have hz : ¬ (((nA (L f) r).length : Nat) : Int) > 0 := by rw [h0]; decide
      simp only [N, idx23 hr, gG, fa67_2, shift_ptr, shift_pptr, Nat.zero_add, Nat.add_zero, pureFn_fn, List.append_nil, List.singleton_append, List.cons_append, List.nil_append, load24, ga, (PL.sl _).len, ha, b_gtr, gtF hz]
    · have hp := List.length_pos_iff.2 h0
      have hz : (((nA (L f) r).length : Nat) : Int) > 0 := by omega
      rw [if_neg h0]
      have i1 := (PL.sl ((L f).getD r default).a).idx (i := 0) (by rw [ha]; exact hp)
      have l1 := load1_getD (l := nA (L f) r) hp []
      have z0 : (.p (.int .i64 ((0 : Nat) : Int)) : DV) = .p (.int .i64 0) := rfl
      rw [z0, ha] at i1
      have hin : inR ((nA (L f) r).getD 0 0) 0 ((r : Int) - 1) = decide (0 ≤ (nA (L f) r).getD 0 0 ∧ (nA (L f) r).getD 0 0 ≤ (r : Int) - 1) := by
        rw [Bool.eq_iff_iff, inR_iff, decide_eq_true_iff]
      by_cases h2 : 0 ≤ (nA (L f) r).getD 0 0 ∧ (nA (L f) r).getD 0 0 ≤ (r : Int) - 1
      · rw [if_pos h2]
        have ih := L105 d ((nA (L f) r).getD 0 0).toNat (by omega) (by omega)
        have e : N ((nA (L f) r).getD 0 0).toNat = .p (.int .i64 ((nA (L f) r).getD 0 0)) := by unfold N; rw [Int.toNat_of_nonneg h2.1]
        rw [e] at ih
        simp (disch := omega) only [N, idx23 hr, gG, fa67_2, shift_ptr, shift_pptr, Nat.zero_add, Nat.add_zero, pureFn_fn, List.append_nil, List.singleton_append, List.cons_append, List.nil_append, load24, ga, (PL.sl _).len, ha, b_gtr, gtT hz, i1, load3, l1, subI, S26, hin, decide_eq_true h2, ih]
      · rw [if_neg h2]
        simp (disch := omega) only [N, idx23 hr, gG, fa67_2, shift_ptr, shift_pptr, Nat.zero_add, Nat.add_zero, pureFn_fn, List.append_nil, List.singleton_append, List.cons_append, List.nil_append, load24, ga, (PL.sl _).len, ha, b_gtr, gtT hz, i1, load3, l1, subI, S26, hin, decide_eq_false h2]
theorem S105 {r : Int} (hr : r < (L f).length) (σ : Store) : pureV CC 105 [.p (eFm f), .p (.int .i64 r)] σ = some (.p (.int .i64 (foI (L f) r))) := by
  refine pureV_free (by simp [view, viewCell, loosen, loosen_fm]) rfl (F105_call (r := (.p (.int .i64 (foI (L f) r)), [])) ?_) rfl
  rw [F105_eq]
  unfold foI
  by_cases h0 : r < 0
  · rw [if_pos h0]
    simp only [b_lss, ltT h0, gG]
  · rw [if_neg h0]
    have := L105 hf _ r.toNat (Nat.lt_succ_self _) (by omega)
    have e : N r.toNat = .p (.int .i64 r) := by unfold N; rw [Int.toNat_of_nonneg (by omega)]
    rw [e] at this
    simp only [b_lss, ltF h0, gG, this]
theorem L104 {i : Nat} (hi : i < (L f).length) : ∀ (k : Nat) (x : Int), x ≤ i → -1 ≤ x → k ≤ (nA (L f) i).length → f104_L0 guardT 0 (.p (eFm f)) (N i) (.p (.int .i64 x)) (.p (.int .i64 ((k : Int) - 1))) [] = some (.p (.bool (stB (L f) (nA (L f) i) x k).isSome), [])
  | 0, x, hx, hx0, hk => by
    have h1 : ¬ (((0 : Nat) : Int) - 1 ≥ 0) := by omega
    rw [f104_L0_eq guardT rfl]
    simp only [b_geq, geF h1, gG, stB, Option.isSome_some]
  | k + 1, x, hx, hx0, hk => by
    have e : (((k + 1 : Nat) : Int) - 1) = (k : Nat) := by omega
    have h1 : ((k : Nat) : Int) ≥ 0 := by omega
    have h2 := hf.1
    have h3 := hf.2 i
    have ha : L ((L f).getD i default).a = nA (L f) i := rfl
    have i1 := (PL.sl ((L f).getD i default).a).idx (i := k) (by rw [ha]; omega)
    have l1 := load1_getD (l := nA (L f) i) (i := k) (by omega) []
    rw [ha] at i1
    have hS := S105 hf (r := x - 1) (by omega)
    have hfo : foI (L f) (x - 1) ≤ i ∧ -1 ≤ foI (L f) (x - 1) := by
      unfold foI
      split
      · omega
      · have := fo_le (L f) (x - 1).toNat; omega
    rw [e, f104_L0_eq guardT rfl]
    unfold stB
    by_cases c1 : (nA (L f) i).getD k 0 = x - 1
    · rw [if_pos c1]
      by_cases c2 : foI (L f) (x - 1) < 0
      · rw [if_pos c2]
        simp (disch := omega) only [N, b_geq, geT h1, gG, idx23 hi, fa67_2, shift_ptr, shift_pptr, Nat.zero_add, Nat.add_zero, pureFn_fn, List.append_nil, List.singleton_append, List.cons_append, List.nil_append, load24, nd_a hi, i1, load3, l1, subJ, b_neq, eqT c1, hS, b_lss, ltT c2, Option.isSome_none]
      · rw [if_neg c2]
        have ih := L104 hi k (foI (L f) (x - 1)) hfo.1 hfo.2 (by omega)
        simp only [N] at ih
        simp (disch := omega) only [N, b_geq, geT h1, gG, idx23 hi, fa67_2, shift_ptr, shift_pptr, Nat.zero_add, Nat.add_zero, pureFn_fn, List.append_nil, List.singleton_append, List.cons_append, List.nil_append, load24, nd_a hi, i1, load3, l1, subJ, b_neq, eqT c1, hS, b_lss, ltF c2, subI, ih]
    · rw [if_neg c1]
      simp (disch := omega) only [N, b_geq, geT h1, gG, idx23 hi, fa67_2, shift_ptr, shift_pptr, Nat.zero_add, Nat.add_zero, pureFn_fn, List.append_nil, List.singleton_append, List.cons_append, List.nil_append, load24, nd_a hi, i1, load3, l1, subJ, b_neq, eqF c1, Option.isSome_none]
theorem S104 {i : Nat} (hi : i < (L f).length) (σ : Store) : pureV CC 104 [.p (eFm f), .p (.int .i64 (i : Nat))] σ = some (.p (.bool (stands (L f) i))) := by
  have h2 := hf.1
  have h3 := hf.2 i
  have ha : L ((L f).getD i default).a = nA (L f) i := rfl
  have hL := L104 hf hi (nA (L f) i).length i (Int.le_refl _) (by omega) (Nat.le_refl _)
  refine pureV_free (by simp [view, viewCell, loosen, loosen_fm]) rfl (F104_call (r := (.p (.bool (stands (L f) i)), [])) ?_) rfl
  rw [F104_eq]
  simp only [N] at hL
  simp (disch := omega) only [idx23 hi, gG, fa67_2, shift_ptr, shift_pptr, Nat.zero_add, Nat.add_zero, pureFn_fn, List.append_nil, List.singleton_append, List.cons_append, List.nil_append, load24, nd_a hi, (PL.sl _).len, ha, subI, hL]
  rfl
end
end Go.D
end
/- Chapter 13: formulas as arguments. -/
section
set_option linter.unusedVariables false
set_option linter.unusedSimpArgs false
set_option maxRecDepth 100000
namespace Go.D
open Go.ChangeShapes Go.WideShapes Go.ChangeAt Go.RowKit
theorem dec67 {a : List PV} (h : Plain PP 67 a) : ∃ x : Nd, a = [pI x.k, pI x.n, eSl x.a] := by
  have h1 := h.inv_struct Go.Proofs.Tryz.underlying67
  obtain ⟨a1, b1, h2, h3, rfl⟩ := PlainL.inv_cons h1
  obtain ⟨a2, b2, h4, h5, rfl⟩ := PlainL.inv_cons h3
  obtain ⟨a3, b3, h6, h7, rfl⟩ := PlainL.inv_cons h5
  obtain ⟨x, rfl⟩ := dec3 h2
  obtain ⟨y, rfl⟩ := dec3 h4
  obtain ⟨z, rfl⟩ := dec24 h6
  obtain rfl := PlainL.inv_nil h7
  exact ⟨⟨x, y, z⟩, rfl⟩
theorem flat67 (l : List Nd) : l.flatMap (fun x => [pI x.k, pI x.n, eSl x.a]) = eNds l := by
  induction l with
  | nil => rfl
  | cons a l ih => simp [ih, eNds]
theorem dec23 {a : List PV} (h : Plain PP 23 a) : ∃ f, a = [eFm f] := by
  rcases h.inv_slice u23 with rfl | ⟨n, xs, hx, rfl⟩
  · exact ⟨none, rfl⟩
  · obtain ⟨l, rfl, rfl⟩ := hx.inv_rep (f := fun x : Nd => [pI x.k, pI x.n, eSl x.a]) fun a ha => dec67 ha
    exact ⟨some l, by rw [flat67]; rfl⟩
section
variable {H : Type} {enc : TypeId × Value → H} {W : World} {hd : Bool} {r : Reach} {b0 : Nat} {v : Value} {d : DataW H} {ps : List MemPlace}
theorem read_fm (hok : Value.okWide PP W r b0 23 v) (h : DataW.Trod enc PP W 0 (fun _ => true) hd 23 v d ps) : ∃ f, VRel (fun _ _ => none) (memOf W) (.p (eFm f)) v := by
  obtain ⟨c, h1, h2⟩ := read_slice 8 u23 (by kernel_rfl) hok h
  obtain ⟨f, hf⟩ := dec23 h1
  injection hf with hf
  exact ⟨f, by rw [← hf]; exact h2⟩
end
end Go.D
end
/- Truths on a ring of places: until by two walks back, and by looking on. Plain Lean. -/
section
set_option linter.unusedVariables false
set_option linter.unusedSimpArgs false
namespace Go.D.Las
def tab {α : Type} (n : Nat) (g : Nat → α) : List α := (List.range n).map g
theorem tab_len {α : Type} (n : Nat) (g : Nat → α) : (tab n g).length = n := by simp [tab]
theorem tab_get {α : Type} {n : Nat} {g : Nat → α} {i : Nat} (h : i < n) (d : α) : (tab n g).getD i d = g i := by
  simp [tab, List.getD_eq_getElem?_getD, h]
theorem tab_set {α : Type} (n : Nat) (g : Nat → α) (i : Nat) (v : α) : (tab n g).set i v = tab n fun j => if j = i then v else g j := by
  refine List.ext_getElem (by simp [tab]) fun j h1 h2 => ?_
  simp only [tab, List.getElem_set, List.getElem_map, List.getElem_range]
  by_cases e : i = j
  · subst e; simp
  · rw [if_neg e, if_neg (fun h => e h.symm)]
theorem tab_congr {α : Type} {n : Nat} {g h : Nat → α} (e : ∀ i, i < n → g i = h i) : tab n g = tab n h := by
  unfold tab
  exact List.map_congr_left fun i hi => e i (List.mem_range.1 hi)
def nx (n back i : Nat) : Nat := if i = n - 1 then back else i + 1
def passU (n back : Nat) (f : List Bool) : Nat → List Bool → List Bool
  | 0, o => o
  | i + 1, o => passU n back f i (o.set i (o.getD i false || (f.getD i false && o.getD (nx n back i) false)))
def pv (n back : Nat) (a o : Nat → Bool) : Nat → Bool
  | 0 => o (n - 1) || (a (n - 1) && o back)
  | d + 1 => o (n - 1 - (d + 1)) || (a (n - 1 - (d + 1)) && pv n back a o d)
theorem passU_eq {n back : Nat} {f : List Bool} {a o : Nat → Bool} (hb : back < n) (hf : ∀ i, i < n → f.getD i false = a i) : ∀ k, k ≤ n → passU n back f k (tab n fun j => if j < k then o j else pv n back a o (n - 1 - j)) = tab n fun j => pv n back a o (n - 1 - j)
  | 0, _ => by
    unfold passU
    exact tab_congr fun i hi => by simp
  | k + 1, hk => by
    unfold passU
    rw [tab_get (show k < n by omega), tab_set, hf k (by omega)]
    rw [← passU_eq hb hf k (by omega)]
    congr 1
    refine tab_congr fun j hj => ?_
    by_cases e : j = k
    · subst e
      rw [if_pos rfl, if_pos (by omega), if_neg (by omega)]
      unfold nx
      by_cases h2 : j = n - 1
      · subst h2
        rw [if_pos rfl, tab_get hb, if_pos (by omega), show n - 1 - (n - 1) = 0 by omega]
        rfl
      · rw [if_neg h2, tab_get (show j + 1 < n by omega), if_neg (by omega)]
        obtain ⟨d, hd⟩ : ∃ d, n - 1 - j = d + 1 := ⟨n - 1 - j - 1, by omega⟩
        rw [hd, show n - 1 - (j + 1) = d by omega]
        show _ = (o (n - 1 - (d + 1)) || (a (n - 1 - (d + 1)) && pv n back a o d))
        rw [show n - 1 - (d + 1) = j by omega]
    · rw [if_neg e]
      by_cases h2 : j < k
      · rw [if_pos (by omega), if_pos h2]
      · rw [if_neg (by omega), if_neg h2]
def Str (n : Nat) (a b : Nat → Bool) (i : Nat) : Prop := ∃ j, i ≤ j ∧ j < n ∧ b j = true ∧ ∀ m, i ≤ m → m < j → a m = true
def AllA (n : Nat) (a : Nat → Bool) (i : Nat) : Prop := ∀ m, i ≤ m → m < n → a m = true
def UnP (n back : Nat) (a b : Nat → Bool) (i : Nat) : Prop := Str n a b i ∨ (AllA n a i ∧ Str n a b back)
theorem pv_iff {n back : Nat} {a o : Nat → Bool} : ∀ d, d < n → (pv n back a o d = true ↔ Str n a o (n - 1 - d) ∨ (AllA n a (n - 1 - d) ∧ o back = true))
  | 0, h => by
    simp only [pv, Bool.or_eq_true, Bool.and_eq_true, Nat.sub_zero]
    constructor
    · rintro (h1 | ⟨h1, h2⟩)
      · exact .inl ⟨n - 1, Nat.le_refl _, by omega, h1, fun m h3 h4 => by omega⟩
      · exact .inr ⟨fun m h3 h4 => by rw [show m = n - 1 by omega]; exact h1, h2⟩
    · rintro (⟨j, h1, h2, h3, _⟩ | ⟨h1, h2⟩)
      · exact .inl (by rw [← show j = n - 1 by omega]; exact h3)
      · exact .inr ⟨h1 _ (Nat.le_refl _) (by omega), h2⟩
  | d + 1, h => by
    have ih := pv_iff (n := n) (back := back) (a := a) (o := o) d (by omega)
    have e : n - 1 - d = n - 1 - (d + 1) + 1 := by omega
    rw [e] at ih
    generalize hi : n - 1 - (d + 1) = i at *
    have : pv n back a o (d + 1) = (o i || (a i && pv n back a o d)) := by rw [pv, hi]
    rw [this, Bool.or_eq_true, Bool.and_eq_true, ih]
    constructor
    · rintro (h1 | ⟨h1, ⟨j, h2, h3, h4, h5⟩ | ⟨h2, h3⟩⟩)
      · exact .inl ⟨i, Nat.le_refl _, by omega, h1, fun m h3 h4 => by omega⟩
      · exact .inl ⟨j, by omega, h3, h4, fun m h6 h7 => by
          by_cases e : m = i
          · subst e; exact h1
          · exact h5 m (by omega) h7⟩
      · exact .inr ⟨fun m h6 h7 => by
          by_cases e : m = i
          · subst e; exact h1
          · exact h2 m (by omega) h7, h3⟩
    · rintro (⟨j, h2, h3, h4, h5⟩ | ⟨h2, h3⟩)
      · by_cases e : j = i
        · subst e; exact .inl h4
        · exact .inr ⟨h5 i (Nat.le_refl _) (by omega), .inl ⟨j, by omega, h3, h4, fun m h6 h7 => h5 m (by omega) h7⟩⟩
      · exact .inr ⟨h2 i (Nat.le_refl _) (by omega), .inr ⟨fun m h6 h7 => h2 m (by omega) h7, h3⟩⟩
theorem two_pass {n back : Nat} {a b : Nat → Bool} (hb : back < n) {i : Nat} (hi : i < n) :
    pv n back a (fun j => pv n back a b (n - 1 - j)) (n - 1 - i) = true ↔ UnP n back a b i := by
  have o1 : ∀ j, j < n → (pv n back a b (n - 1 - j) = true ↔ Str n a b j ∨ (AllA n a j ∧ b back = true)) := fun j hj => by
    have := pv_iff (n := n) (back := back) (a := a) (o := b) (n - 1 - j) (by omega)
    rwa [show n - 1 - (n - 1 - j) = j by omega] at this
  have hsb : b back = true → Str n a b back := fun h => ⟨back, Nat.le_refl _, hb, h, fun m h1 h2 => by omega⟩
  have h2 := pv_iff (n := n) (back := back) (a := a) (o := fun j => pv n back a b (n - 1 - j)) (n - 1 - i) (by omega)
  rw [show n - 1 - (n - 1 - i) = i by omega] at h2
  rw [h2]
  unfold UnP
  constructor
  · rintro (⟨j, h1, h3, h4, h5⟩ | ⟨h1, h3⟩)
    · rcases (o1 j h3).1 h4 with ⟨k, k1, k2, k3, k4⟩ | ⟨k1, k2⟩
      · exact .inl ⟨k, by omega, k2, k3, fun m m1 m2 => by
          by_cases e : m < j
          · exact h5 m m1 e
          · exact k4 m (by omega) m2⟩
      · exact .inr ⟨fun m m1 m2 => by
          by_cases e : m < j
          · exact h5 m m1 e
          · exact k1 m (by omega) m2, hsb k2⟩
    · rcases (o1 back hb).1 h3 with k | ⟨_, k⟩
      · exact .inr ⟨h1, k⟩
      · exact .inr ⟨h1, hsb k⟩
  · rintro (h1 | ⟨h1, h3⟩)
    · exact .inl ⟨i, Nat.le_refl _, hi, (o1 i hi).2 (.inl h1), fun m m1 m2 => by omega⟩
    · exact .inr ⟨h1, (o1 back hb).2 (.inl h3)⟩
def pl (n back t : Nat) : Nat := if t < back then t else back + (t - back) % (n - back)
theorem pl_lt {n back t : Nat} (h : t < n) : pl n back t = t := by
  unfold pl
  split
  · rfl
  · rw [Nat.mod_eq_of_lt (by omega)]; omega
theorem pl_wrap {n back m : Nat} (hb : back < n) (h1 : back ≤ m) (h2 : m < n) : pl n back (n + (m - back)) = m := by
  unfold pl
  rw [if_neg (by omega), show n + (m - back) - back = (m - back) + (n - back) by omega, Nat.add_mod_right, Nat.mod_eq_of_lt (by omega)]
  omega
theorem pl_in {n back t : Nat} (hb : back < n) (h : n ≤ t) : back ≤ pl n back t ∧ pl n back t < n := by
  unfold pl
  rw [if_neg (by omega)]
  have := Nat.mod_lt (t - back) (show 0 < n - back by omega)
  omega
def untR (n back : Nat) (a b : Nat → Bool) : Nat → Nat → Bool
  | 0, _ => false
  | d + 1, t => if b (pl n back t) = true then true else if a (pl n back t) = false then false else untR n back a b d (t + 1)
theorem untR_iff {n back : Nat} {a b : Nat → Bool} : ∀ (d t : Nat), untR n back a b d t = true ↔ ∃ s, t ≤ s ∧ s < t + d ∧ b (pl n back s) = true ∧ ∀ r, t ≤ r → r < s → a (pl n back r) = true
  | 0, t => by
    simp only [untR, Bool.false_eq_true, false_iff]
    rintro ⟨s, h1, h2, _⟩
    omega
  | d + 1, t => by
    unfold untR
    by_cases hb : b (pl n back t) = true
    · rw [if_pos hb]
      exact ⟨fun _ => ⟨t, Nat.le_refl _, by omega, hb, fun r h1 h2 => by omega⟩, fun _ => rfl⟩
    · rw [if_neg hb]
      by_cases ha : a (pl n back t) = false
      · rw [if_pos ha]
        refine ⟨fun h => absurd h (by simp), ?_⟩
        rintro ⟨s, h1, h2, h3, h4⟩
        by_cases e : s = t
        · subst e; exact absurd h3 hb
        · have := h4 t (Nat.le_refl _) (by omega)
          rw [ha] at this; exact absurd this (by simp)
      · rw [if_neg ha, untR_iff d (t + 1)]
        constructor
        · rintro ⟨s, h1, h2, h3, h4⟩
          exact ⟨s, by omega, by omega, h3, fun r r1 r2 => by
            by_cases e : r = t
            · subst e; exact (Bool.not_eq_false _).mp ha
            · exact h4 r (by omega) r2⟩
        · rintro ⟨s, h1, h2, h3, h4⟩
          by_cases e : s = t
          · subst e; exact absurd h3 hb
          · exact ⟨s, by omega, by omega, h3, fun r r1 r2 => h4 r (by omega) r2⟩
theorem untR_un {n back : Nat} {a b : Nat → Bool} (hb : back < n) {i : Nat} (hi : i < n) : untR n back a b n i = true ↔ UnP n back a b i := by
  rw [untR_iff]
  unfold UnP
  constructor
  · rintro ⟨s, h1, h2, h3, h4⟩
    by_cases hs : s < n
    · rw [pl_lt hs] at h3
      exact .inl ⟨s, h1, hs, h3, fun m m1 m2 => by have := h4 m m1 m2; rwa [pl_lt (by omega)] at this⟩
    · obtain ⟨p1, p2⟩ := pl_in hb (show n ≤ s by omega)
      refine .inr ⟨fun m m1 m2 => by have := h4 m m1 (by omega); rwa [pl_lt m2] at this, pl n back s, p1, p2, h3, fun m m1 m2 => ?_⟩
      by_cases hm : n + (m - back) < s
      · have := h4 (n + (m - back)) (by omega) hm
        rwa [pl_wrap hb m1 (by omega)] at this
      · by_cases hib : i ≤ m
        · have := h4 m hib (by omega)
          rwa [pl_lt (by omega)] at this
        · exfalso
          have : pl n back s = back + (s - n) := by
            unfold pl
            rw [if_neg (by omega), show s - back = (s - n) + (n - back) by omega, Nat.add_mod_right, Nat.mod_eq_of_lt (by omega)]
          omega
  · rintro (⟨j, h1, h2, h3, h4⟩ | ⟨h1, j, h2, h3, h4, h5⟩)
    · exact ⟨j, h1, by omega, by rw [pl_lt h2]; exact h3, fun r r1 r2 => by rw [pl_lt (by omega)]; exact h4 r r1 r2⟩
    · by_cases hj : i ≤ j
      · exact ⟨j, hj, by omega, by rw [pl_lt h3]; exact h4, fun r r1 r2 => by rw [pl_lt (by omega)]; exact h1 r r1 (by omega)⟩
      · refine ⟨n + (j - back), by omega, by omega, by rw [pl_wrap hb h2 h3]; exact h4, fun r r1 r2 => ?_⟩
        by_cases hr : r < n
        · rw [pl_lt hr]; exact h1 r r1 hr
        · obtain ⟨k, hk, hk2⟩ : ∃ k, r = n + (k - back) ∧ back ≤ k := ⟨r - n + back, by omega, by omega⟩
          subst hk
          rw [pl_wrap hb hk2 (by omega)]
          exact h5 k hk2 (by omega)
def laR (n back : Nat) (f : Nat → Bool) : Nat → Nat → Bool
  | 0, _ => false
  | d + 1, t => if f (pl n back t) = true then true else laR n back f d (t + 1)
theorem laR_unt (n back : Nat) (f : Nat → Bool) : ∀ d t, laR n back f d t = untR n back (fun _ => true) f d t
  | 0, _ => rfl
  | d + 1, t => by
    unfold laR untR
    rw [laR_unt n back f d (t + 1)]
    simp
def soP (n back : Nat) (f : Nat → Bool) (i : Nat) : Bool := pv n back (fun _ => true) (fun j => pv n back (fun _ => true) f (n - 1 - j)) (n - 1 - i)
def unP (n back : Nat) (a b : Nat → Bool) (i : Nat) : Bool := pv n back a (fun j => pv n back a b (n - 1 - j)) (n - 1 - i)
theorem unP_ref {n back : Nat} {a b : Nat → Bool} (hb : back < n) {i : Nat} (hi : i < n) : untR n back a b n i = unP n back a b i := by
  rw [Bool.eq_iff_iff, untR_un hb hi]
  exact (two_pass hb hi).symm
theorem soP_ref {n back : Nat} {f : Nat → Bool} (hb : back < n) {i : Nat} (hi : i < n) : laR n back f n i = soP n back f i := by
  rw [laR_unt]
  exact unP_ref hb hi
theorem passes {n back : Nat} {f o : List Bool} {a b : Nat → Bool} (hb : back < n) (hf : ∀ i, i < n → f.getD i false = a i) (ho : o = tab n b) :
    passU n back f n (passU n back f n o) = tab n (unP n back a b) := by
  have q : ∀ c : Nat → Bool, passU n back f n (tab n c) = tab n fun j => pv n back a c (n - 1 - j) := fun c => by
    rw [← passU_eq (o := c) hb hf n (Nat.le_refl _)]
    congr 1
    exact tab_congr fun i hi => by rw [if_pos hi]
  rw [ho, q, q]
  rfl
def leR (n back : Nat) (a : Nat → Bool) (lb : Nat → Bool) : Nat → Nat → Bool
  | 0, _ => true
  | d + 1, t => if (a (pl n back t) && !lb (pl n back t)) = true then false else leR n back a lb d (t + 1)
theorem leR_la (n back : Nat) (a lb : Nat → Bool) : ∀ d t, leR n back a lb d t = !laR n back (fun j => a j && !lb j) d t
  | 0, _ => rfl
  | d + 1, t => by
    unfold leR laR
    rw [leR_la n back a lb d (t + 1)]
    split <;> simp
end Go.D.Las
end
/- Chapter 13: what a formula says at the places of a word, in plain Lean. -/
section
set_option linter.unusedVariables false
set_option linter.unusedSimpArgs false
namespace Go.D
namespace Las
structure Good (F : List Nd) (i : Nat) : Prop where
  k : inR (F.getD i default).k 0 9 = true
  a : (((nA F i).length : Nat) : Int) = ar (F.getD i default).k
  s : stands F i = true
  b : bad (F.getD i default) = false
theorem chkF_ok {F : List Nd} : ∀ (d i : Nat), (chkF F d i).2 = 0 → (∀ j, i ≤ j → j < i + d → Good F j) ∧ fo F (F.length - 1) = 0
  | 0, i, h => by
    unfold chkF at h
    by_cases c : fo F (F.length - 1) = 0
    · exact ⟨fun j h1 h2 => by omega, c⟩
    · rw [if_neg c] at h
      exact absurd h (by simp)
  | d + 1, i, h => by
    unfold chkF at h
    by_cases c1 : inR (F.getD i default).k 0 9 = true
    · rw [if_pos c1] at h
      by_cases c2 : (((nA F i).length : Nat) : Int) = ar (F.getD i default).k ∧ stands F i = true
      · rw [if_pos c2] at h
        by_cases c3 : bad (F.getD i default) = true
        · rw [if_pos c3] at h
          exact absurd h (by simp)
        · rw [if_neg c3] at h
          obtain ⟨h1, h2⟩ := chkF_ok d (i + 1) h
          refine ⟨fun j j1 j2 => ?_, h2⟩
          by_cases e : j = i
          · subst e; exact ⟨c1, c2.1, c2.2, (Bool.not_eq_true _).mp c3⟩
          · exact h1 j (by omega) (by omega)
      · rw [if_neg c2] at h
        exact absurd h (by simp)
    · rw [if_neg c1] at h
      exact absurd h (by simp)
structure Ok (F : List Nd) : Prop where
  pos : 0 < F.length
  le : F.length ≤ 40
  good : ∀ j, j < F.length → Good F j
  fst : fo F (F.length - 1) = 0
theorem chk_ok {F : List Nd} (h : (chk F).2 = 0) : Ok F := by
  unfold chk at h
  by_cases c1 : F.length = 0
  · rw [if_pos c1] at h; exact absurd h (by decide)
  · rw [if_neg c1] at h
    by_cases c2 : F.length > 40
    · rw [if_pos c2] at h; exact absurd h (by decide)
    · rw [if_neg c2] at h
      obtain ⟨h1, h2⟩ := chkF_ok _ _ h
      exact ⟨by omega, by omega, fun j hj => h1 j (Nat.zero_le _) (by omega), h2⟩
theorem Good.args {F : List Nd} {i : Nat} (h : Good F i) (hne : nA F i ≠ []) : 1 ≤ i ∧ 0 ≤ (nA F i).getD 0 0 ∧ (nA F i).getD 0 0 < i ∧ (nA F i).getD ((nA F i).length - 1) 0 = (i : Int) - 1 := by
  obtain ⟨y, hy⟩ := Option.isSome_iff_exists.1 h.s
  obtain ⟨m, hm⟩ : ∃ m, (nA F i).length = m + 1 := ⟨(nA F i).length - 1, by have := List.length_pos_iff.2 hne; omega⟩
  rw [hm] at hy
  obtain ⟨a, b, _, _⟩ := stB_end m _ _ hy
  have hl : (nA F i).getD m 0 = (i : Int) - 1 := by
    unfold stB at hy
    by_cases c : (nA F i).getD m 0 = (i : Int) - 1
    · exact c
    · rw [if_neg c] at hy; exact absurd hy (by simp)
  rw [hm, Nat.add_sub_cancel]
  exact ⟨by omega, b, by omega, hl⟩
def bit (x m : Int) : Bool := decide (x.toNat / 2 ^ m.toNat % 2 = 1)
def tk (n back : Nat) (W : List Int) (k m : Int) (a b : Nat → Bool) : Nat → Bool :=
  if k = 0 then fun _ => true
  else if k = 1 then fun i => bit (W.getD i 0) m
  else if k = 2 then fun i => !a i
  else if k = 3 then fun i => a i && b i
  else if k = 4 then fun i => a i || b i
  else if k = 5 then fun i => !a i || b i
  else if k = 6 then fun i => !soP n back (fun j => !a j) i
  else if k = 7 then soP n back a
  else if k = 8 then fun i => !soP n back (fun j => !(!a j || soP n back b j)) i
  else unP n back a b
abbrev NB := Nat → Bool
def tvK (g : Int → Int → NB → NB → NB) (F : List Nd) : Nat → Nat → NB
  | 0, _ => fun _ => false
  | k + 1, r => g (F.getD r default).k (F.getD r default).n
      (if 0 ≤ (nA F r).getD 0 0 ∧ (nA F r).getD 0 0 < r then tvK g F k ((nA F r).getD 0 0).toNat else fun _ => false)
      (if 0 ≤ (nA F r).getD ((nA F r).length - 1) 0 ∧ (nA F r).getD ((nA F r).length - 1) 0 < r then tvK g F k ((nA F r).getD ((nA F r).length - 1) 0).toNat else fun _ => false)
theorem tvK_fuel (g : Int → Int → NB → NB → NB) (F : List Nd) : ∀ (k k' r : Nat), r < k → r < k' → tvK g F k r = tvK g F k' r
  | 0, _, r, h, _ => by omega
  | k + 1, 0, r, _, h => by omega
  | k + 1, k' + 1, r, h, h' => by
    unfold tvK
    have q : ∀ a : Int, (if 0 ≤ a ∧ a < r then tvK g F k a.toNat else fun _ => false) = if 0 ≤ a ∧ a < r then tvK g F k' a.toNat else fun _ => false := fun a => by
      by_cases c : 0 ≤ a ∧ a < r
      · rw [if_pos c, if_pos c, tvK_fuel g F k k' _ (by omega) (by omega)]
      · rw [if_neg c, if_neg c]
    rw [q, q]
def tv (g : Int → Int → NB → NB → NB) (F : List Nd) (r : Nat) : NB := tvK g F (r + 1) r
def opA (g : Int → Int → NB → NB → NB) (F : List Nd) (r : Nat) : NB := tv g F ((nA F r).getD 0 0).toNat
def opB (g : Int → Int → NB → NB → NB) (F : List Nd) (r : Nat) : NB := tv g F ((nA F r).getD ((nA F r).length - 1) 0).toNat
theorem tv_eq {g : Int → Int → NB → NB → NB} {F : List Nd} {r : Nat} (h : Good F r) (hne : nA F r ≠ []) : tv g F r = g (F.getD r default).k (F.getD r default).n (opA g F r) (opB g F r) := by
  obtain ⟨h1, h2, h3, h4⟩ := h.args hne
  unfold tv opA opB
  conv => lhs; unfold tvK
  rw [if_pos ⟨h2, h3⟩, if_pos (by omega)]
  unfold tv
  rw [tvK_fuel g F r _ _ (by omega) (Nat.lt_succ_self _), tvK_fuel g F r _ ((nA F r).getD ((nA F r).length - 1) 0).toNat (by omega) (Nat.lt_succ_self _)]
theorem tv_leaf {n back : Nat} {W : List Int} {F : List Nd} {r : Nat} (hk : (F.getD r default).k = 0 ∨ (F.getD r default).k = 1) (a b : NB) : tv (tk n back W) F r = tk n back W (F.getD r default).k (F.getD r default).n a b := by
  unfold tv tvK
  rcases hk with h | h
  · rw [h]; rfl
  · rw [h]; rfl
end Las
end Go.D
end
/- Chapter 13: parts of formulas: spans, parents; guarded atoms. Plain Lean. -/
section
set_option linter.unusedVariables false
set_option linter.unusedSimpArgs false
namespace Go.D
namespace Las
variable {F : List Nd}
def inS (F : List Nd) (r i : Nat) : Prop := fo F r ≤ i ∧ i ≤ r
def chd (F : List Nd) (r c : Nat) : Prop := ∃ k, k < (nA F r).length ∧ (nA F r).getD k 0 = c
theorem stB_tile {us : List Int} : ∀ (k : Nat) (x y : Int), stB F us x k = some y → ∀ i : Int, y ≤ i → i < x → ∃ j, j < k ∧ 0 ≤ us.getD j 0 ∧ us.getD j 0 < x ∧ fo F (us.getD j 0).toNat ≤ i ∧ i ≤ us.getD j 0
  | 0, x, y, h, i, h1, h2 => by
    injection h with h
    omega
  | k + 1, x, y, h, i, h1, h2 => by
    unfold stB at h
    by_cases c1 : us.getD k 0 = x - 1
    · rw [if_pos c1] at h
      by_cases c2 : foI F (x - 1) < 0
      · rw [if_pos c2] at h; exact absurd h (by simp)
      · rw [if_neg c2] at h
        have h3 : ¬ x - 1 < 0 := fun hh => c2 (by unfold foI; rw [if_pos hh]; decide)
        have h4 : foI F (x - 1) = fo F (x - 1).toNat := by unfold foI; rw [if_neg h3]
        have h5 := fo_le F (x - 1).toNat
        by_cases c3 : foI F (x - 1) ≤ i
        · exact ⟨k, Nat.lt_succ_self _, by omega, by omega, by rw [c1, ← h4]; exact c3, by omega⟩
        · obtain ⟨j, j1, j2, j3, j4⟩ := stB_tile k _ y h i h1 (by omega)
          exact ⟨j, by omega, j2, by omega, j4⟩
    · rw [if_neg c1] at h; exact absurd h (by simp)
theorem stB_in {us : List Int} : ∀ (k : Nat) (x y : Int), stB F us x k = some y → ∀ j, j < k → 0 ≤ us.getD j 0 ∧ us.getD j 0 < x ∧ y ≤ fo F (us.getD j 0).toNat ∧ 0 ≤ fo F (us.getD j 0).toNat
  | 0, x, y, h, j, hj => by omega
  | k + 1, x, y, h, j, hj => by
    have hend := stB_end k x y h
    unfold stB at h
    by_cases c1 : us.getD k 0 = x - 1
    · rw [if_pos c1] at h
      by_cases c2 : foI F (x - 1) < 0
      · rw [if_pos c2] at h; exact absurd h (by simp)
      · rw [if_neg c2] at h
        have h3 : ¬ x - 1 < 0 := fun hh => c2 (by unfold foI; rw [if_pos hh]; decide)
        have h4 : foI F (x - 1) = fo F (x - 1).toNat := by unfold foI; rw [if_neg h3]
        have h5 := fo_le F (x - 1).toNat
        have hle : y ≤ foI F (x - 1) := by
          cases k with
          | zero => injection h with h; omega
          | succ k =>
            obtain ⟨a, b, c, d⟩ := stB_end k _ _ h
            have := fo_le F (us.getD 0 0).toNat
            omega
        by_cases e : j = k
        · subst e
          rw [c1, ← h4]
          exact ⟨by omega, by omega, hle, by omega⟩
        · obtain ⟨a, b, c⟩ := stB_in k _ y h j (by omega)
          exact ⟨a, by omega, c⟩
    · rw [if_neg c1] at h; exact absurd h (by simp)
theorem Good.st {r : Nat} (h : Good F r) : stB F (nA F r) r (nA F r).length = some (fo F r) := by
  obtain ⟨y, hy⟩ := Option.isSome_iff_exists.1 h.s
  rw [hy, stands_fo hy]
theorem Good.op {r c : Nat} (h : Good F r) (hc : chd F r c) : c < r ∧ fo F r ≤ fo F c ∧ 0 ≤ fo F c := by
  obtain ⟨k, k1, k2⟩ := hc
  obtain ⟨a, b, d⟩ := stB_in _ _ _ h.st k k1
  rw [k2, Int.toNat_natCast] at d
  exact ⟨by omega, d⟩
theorem Good.part {r i : Nat} (h : Good F r) (hi : inS F r i) (hne : i ≠ r) : ∃ c, chd F r c ∧ inS F c i := by
  have h1 := hi.1
  have h2 := hi.2
  obtain ⟨j, j1, j2, j3, j4, j5⟩ := stB_tile _ _ _ h.st i h1 (by omega)
  exact ⟨((nA F r).getD j 0).toNat, ⟨j, j1, by omega⟩, j4, by omega⟩
variable (hk : Ok F)
include hk
end Las
end Go.D
end
/- Chapter 13: a formula is guarded: by parts, and by looking up from each atom. Plain Lean. -/
section
set_option linter.unusedVariables false
set_option linter.unusedSimpArgs false
namespace Go.D
namespace Las
variable {F : List Nd} {st : List Int}
def kd (F : List Nd) (i : Nat) : Int := (F.getD i default).k
def c6 (F : List Nd) (r : Nat) : Bool := decide (kd F r = 6) && decide (kd F ((nA F r).getD 0 0).toNat = 2) && decide (kd F ((nA F ((nA F r).getD 0 0).toNat).getD 0 0).toNat = 1)
section
variable (hk : Ok F)
include hk
end
end Las
end Go.D
end
/- Equations of functions 9, 51, 112, 114, 91, 141, 53, 54, 115, 95, printed by gen.py. -/
section
set_option linter.unusedVariables false
set_option maxRecDepth 10000
namespace Go.D
open Go.Proofs
noncomputable section
variable (G : GuardT) (lo : Nat) {σ : Store} {r : DV × Store}
open _root_.Go.D.Code (fstC sndC)
open _root_.Go.D.Ann (left right)
def c91_0 : Code := bodyOf Tryz.f91
def a91_0 : Ann := (pol 91).ann
def F91 (x0 x1 : DV) (σ : Store) : RS :=
 codeF G PP (pol 91) CC lo c91_0 a91_0 (x0 :: x1 :: zn 7 []) σ (finR PP Tryz.f91.results.toList)
theorem F91_eq (G : GuardT) (lo : Nat) (x0 x1 : DV) (σ : Store) : F91 G lo x0 x1 σ =
 (pureFn CC (DV.fn 141 []) [x0, x1] σ).bind fun x7 =>
 (binOp PP .geq 3 x7 I0).bind fun x8 =>
 some (x8, σ) := by kernel_rfl
theorem F91_call {lo : Nat} {x0 x1 : DV} (h : F91 guardT lo x0 x1 σ = some r) : CC lo 91 [x0, x1] σ = some r :=
 callL_run Tryz.func91 (by decide +kernel) rfl (by decide +kernel) h
def c141_0 : Code := bodyOf Tryz.f141
def a141_0 : Ann := (pol 141).ann
def a141_5 : Ann := right (left (right a141_0))
def a141_6 : Ann := left a141_5
def c141_7 : Code := fstC (fstC (sndC (fstC (sndC c141_0))))
def c141_25 : Code := sndC (sndC c141_0)
def a141_25 : Ann := right (right a141_0)
def f141_L0 (x0 x1 x7 x8 : DV) (σ : Store) : RS :=
 codeF G PP (pol 141) CC lo (.loop c141_7) a141_6 (x0 :: x1 :: zn 5 (x7 :: x8 :: zn 10 [])) σ
 (blockC 0 a141_5 (seqC G PP (pol 141) CC lo c141_25 a141_25 (finR PP Tryz.f141.results.toList)))
def F141 (x0 x1 : DV) (σ : Store) : RS :=
 codeF G PP (pol 141) CC lo c141_0 a141_0 (x0 :: x1 :: zn 17 []) σ (finR PP Tryz.f141.results.toList)
theorem f141_L0_eq (G : GuardT) (hG : GuardOk G) (lo : Nat) (x0 x1 x7 x8 : DV) (σ : Store) : f141_L0 G lo x0 x1 x7 x8 σ =
 (binOp PP .lss 3 x8 x7).bind fun x9 =>
 condK x9
 (
 (indexAddr PP 24 x0 x8).bind fun x14 =>
 (load PP 3 x14 σ).bind fun x15 =>
 (binOp PP .eql 3 x1 x15).bind fun x16 =>
 condK x16
 (
 some (x8, σ)
 )
 (
 (binOp PP .add 3 x8 I1).bind fun x18 =>
 f141_L0 G lo x0 x1 x7 x18 σ
 )
 )
 (
 some ((DV.p (PV.int IntKind.i64 (-1))), σ)
 ) := (loopF_eq G hG).trans (by kernel_rfl)
theorem F141_eq (G : GuardT) (lo : Nat) (x0 x1 : DV) (σ : Store) : F141 G lo x0 x1 σ =
 (len PP 24 x0 σ).bind fun x7 =>
 f141_L0 G lo x0 x1 x7 I0 σ := by kernel_rfl
theorem F141_call {lo : Nat} {x0 x1 : DV} (h : F141 guardT lo x0 x1 σ = some r) : CC lo 141 [x0, x1] σ = some r :=
 callL_run Tryz.func141 (by decide +kernel) rfl (by decide +kernel) h
def c95_0 : Code := bodyOf Tryz.f95
def a95_0 : Ann := (pol 95).ann
def a95_5 : Ann := right (left (right a95_0))
def a95_6 : Ann := left a95_5
def c95_7 : Code := fstC (fstC (sndC (fstC (sndC c95_0))))
def c95_23 : Code := sndC (sndC c95_0)
def a95_23 : Ann := right (right a95_0)
def f95_L0 (x0 x1 x5 : DV) (σ : Store) : RS :=
 codeF G PP (pol 95) CC lo (.loop c95_7) a95_6 (x0 :: x1 :: Z :: Z :: Z :: x5 :: zn 12 []) σ
 (blockC 0 a95_5 (seqC G PP (pol 95) CC lo c95_23 a95_23 (finR PP Tryz.f95.results.toList)))
def F95 (x0 x1 : DV) (σ : Store) : RS :=
 codeF G PP (pol 95) CC lo c95_0 a95_0 (x0 :: x1 :: zn 16 []) σ (finR PP Tryz.f95.results.toList)
theorem f95_L0_eq (G : GuardT) (hG : GuardOk G) (lo : Nat) (x0 x1 x5 : DV) (σ : Store) : f95_L0 G lo x0 x1 x5 σ =
 (len PP 24 x0 σ).bind fun x8 =>
 (binOp PP .lss 3 x5 x8).bind fun x9 =>
 condK x9
 (
 (indexAddr PP 24 x0 x5).bind fun x14 =>
 (load PP 3 x14 σ).bind fun x15 =>
 (binOp PP .eql 3 x15 x1).bind fun x17 =>
 condK x17
 (
 some ((DV.p (PV.bool true)), σ)
 )
 (
 (binOp PP .add 3 x5 I1).bind fun x11 =>
 f95_L0 G lo x0 x1 x11 σ
 )
 )
 (
 some ((DV.p (PV.bool false)), σ)
 ) := (loopF_eq G hG).trans (by kernel_rfl)
theorem F95_eq (G : GuardT) (lo : Nat) (x0 x1 : DV) (σ : Store) : F95 G lo x0 x1 σ =
 f95_L0 G lo x0 x1 I0 σ := by kernel_rfl
theorem F95_call {lo : Nat} {x0 x1 : DV} (h : F95 guardT lo x0 x1 σ = some r) : CC lo 95 [x0, x1] σ = some r :=
 callL_run Tryz.func95 (by decide +kernel) rfl (by decide +kernel) h
end
end Go.D
end
/- Chapter 13: Shortest and Unstuttered in the reference; LassoWords. -/
section
set_option linter.unusedVariables false
set_option linter.unusedSimpArgs false
namespace Go.D
open Las
section
variable {w : Wd} {Q : List Int} (hQ : Q.length ≤ 1000) (hP : (L w.p).length ≤ 1000) {lo : Nat} {x2 : DV} {σ : Store}
include hQ hP
end
theorem out_pl {σ : Store} {lo : Nat} {l : List Int} {x : DV} (h : Out σ lo 1 l.length (eInts l) x) : PL x l := by
  rcases h.2 with ⟨h1, rfl⟩ | ⟨_, r, v, rfl, _, _⟩
  · exact .inl ⟨rfl, List.length_eq_zero_iff.1 h1⟩
  · exact .inr (.inr ⟨r, v, rfl⟩)
theorem Out.pushI {σ : Store} {lo : Nat} {l : List Int} {v : Int} {x : DV} (ho : Out σ lo 1 l.length (eInts l) x) (hn : l.length ≤ 100000) (hlo : lo ≤ σ.length) :
    ∃ x' σ', append PP lo false 24 24 x (.p (.sl true 1 [.int .i64 v])) σ = some (x', σ') ∧ Out σ' lo 1 (l ++ [v]).length (eInts (l ++ [v])) x' ∧ Others σ σ' x ∧ σ.length ≤ σ'.length := by
  obtain ⟨x', σ', h1, h2, h3, h4⟩ := Out.push24 (v := pI v) ho (by omega) hlo
  refine ⟨x', σ', h1, ?_, h3, h4⟩
  have e : eInts l ++ [pI v] = eInts (l ++ [v]) := by simp [eInts]
  rw [e] at h2
  rw [List.length_append]
  exact h2
section
variable {x : DV} {l : List Int} (hx : PL x l) (hl : l.length ≤ 10000)
include hx hl
end
end Go.D
end
/- Chapter 13: Unstuttered in the reference. -/
section
set_option linter.unusedVariables false
set_option linter.unusedSimpArgs false
namespace Go.D
open Las
section
variable {s : Wd} (hQ : 0 < (L s.l).length) (hP : (L s.p).length + (L s.l).length ≤ 1000)
include hQ hP
end
end Go.D
end
/- Chapter 13: the errors of formulas, in the reference and in the program. -/
section
set_option linter.unusedVariables false
set_option linter.unusedSimpArgs false
set_option maxRecDepth 4000
namespace Go.D
open Las
def pr2 (x : Int × Int) : DV := .tuple [.p (.int .i64 x.1), .p (.int .i64 x.2)]
theorem nd_case {F : List Nd} {d i : Nat} : chkF F (d + 1) i = if inR (F.getD i default).k 0 9 = true then
      if (((nA F i).length : Nat) : Int) = ar (F.getD i default).k ∧ stands F i = true then
        if bad (F.getD i default) = true then (((i : Nat) : Int), (3 : Int)) else chkF F d (i + 1)
      else (((i : Nat) : Int), (6 : Int))
    else (((i : Nat) : Int), (4 : Int)) := rfl
section
variable {f : Fm} (hf : FSm f)
include hf
theorem L46 : ∀ (d i : Nat) (σ : Store), 0 < (L f).length → (L f).length - i = d → i ≤ (L f).length → ∃ σ', f46_L0 guardT 0 (.p (eFm f)) (N i) σ = some (pr2 (chkF (L f) d i), σ')
  | 0, i, σ, hp, hd, hi => by
    have h1 := hf.1
    have e : i = (L f).length := by omega
    subst e
    have e1 : foI (L f) (((L f).length : Int) - 1) = fo (L f) ((L f).length - 1) := by
      unfold foI
      rw [if_neg (by omega)]
      congr 1; omega
    have hS := S105 hf (r := ((L f).length : Int) - 1) (by omega)
    rw [e1] at hS
    have e2 : (((L f).length - 1 : Nat) : Int) = ((L f).length : Int) - 1 := by omega
    refine ⟨σ, ?_⟩
    rw [f46_L0_eq guardT rfl]
    unfold chkF pr2
    by_cases c : fo (L f) ((L f).length - 1) = 0
    · rw [if_pos c]
      simp (disch := omega) only [N, len23, gG, b_lss, ltF, subI, shift_ptr, shift_pptr, Nat.zero_add, Nat.add_zero, pureFn_fn, List.append_nil, List.singleton_append, List.cons_append, List.nil_append, hS, b_neq, eqT c]
    · rw [if_neg c, e2]
      simp (disch := omega) only [N, len23, gG, b_lss, ltF, subI, shift_ptr, shift_pptr, Nat.zero_add, Nat.add_zero, pureFn_fn, List.append_nil, List.singleton_append, List.cons_append, List.nil_append, hS, b_neq, eqF c]
  | d + 1, i, σ, hp, hd, hi => by
    have h1 := hf.1
    have hlt : i < (L f).length := by omega
    have h3 := hf.2 i
    have ha : L ((L f).getD i default).a = nA (L f) i := rfl
    have hS := S104 hf hlt
    have hnd := nd_all hlt
    rw [nd_case]
    generalize hx : (L f).getD i default = x at *
    have g : (σ ++ [Row.mix (ndD x)])[σ.length]? = some (.mix (ndD x)) := get_snoc
    have st := st67 (σ := σ) (lo := 0) (z := [.p (pI 0), .p (pI 0), .p .nilsl]) x rfl (Nat.zero_le _)
    by_cases c1 : inR x.k 0 9 = true
    · rw [if_pos c1]
      by_cases c2 : (((nA (L f) i).length : Nat) : Int) = ar x.k
      · by_cases c3 : stands (L f) i = true
        · rw [if_pos ⟨c2, c3⟩]
          have hnext : bad x = false → ∃ σ', f46_L0 guardT 0 (.p (eFm f)) (N (i + 1)) (σ ++ [Row.mix (ndD x)]) = some (pr2 (if bad x = true then (((i : Nat) : Int), (3 : Int)) else chkF (L f) d (i + 1)), σ') := fun hb => by
            obtain ⟨σ', h⟩ := L46 d (i + 1) (σ ++ [Row.mix (ndD x)]) hp (by omega) (by omega)
            exact ⟨σ', by rw [h, if_neg (by rw [hb]; simp)]⟩
          by_cases c4 : x.k = 1
          · by_cases c5 : inR x.n 0 11 = true
            · have hb : bad x = false := by unfold bad; rw [if_pos c4, c5]; rfl
              obtain ⟨σ', h⟩ := hnext hb
              refine ⟨σ', ?_⟩
              rw [← h, f46_L0_eq guardT rfl]
              simp (disch := omega) only [N, len23, gG, b_lss, ltT, idx23 hlt, load67, hnd, zero67, st, fa67_0, fa67_1, fa67_2, shift_ptr, shift_pptr, Nat.zero_add, Nat.add_zero, pureFn_fn, List.append_nil, List.singleton_append, List.cons_append, List.nil_append, load3, row_k g, S26, c1, load24, row_a g, (PL.sl _).len, ha, S103, b_neq, eqT c2, hS, c3, b_eql, eqT c4, row_n g, c5, add1]
            · have hb : bad x = true := by unfold bad; rw [if_pos c4, (Bool.not_eq_true _).mp c5]; rfl
              refine ⟨σ ++ [Row.mix (ndD x)], ?_⟩
              rw [if_pos hb, f46_L0_eq guardT rfl]
              simp (disch := omega) only [N, len23, gG, b_lss, ltT, idx23 hlt, load67, hnd, zero67, st, fa67_0, fa67_1, fa67_2, shift_ptr, shift_pptr, Nat.zero_add, Nat.add_zero, pureFn_fn, List.append_nil, List.singleton_append, List.cons_append, List.nil_append, load3, row_k g, S26, c1, load24, row_a g, (PL.sl _).len, ha, S103, b_neq, eqT c2, hS, c3, b_eql, eqT c4, row_n g, (Bool.not_eq_true _).mp c5, pr2]
          · by_cases c5 : x.n = 0
            · have hb : bad x = false := by unfold bad; rw [if_neg c4, eqT c5]; rfl
              obtain ⟨σ', h⟩ := hnext hb
              refine ⟨σ', ?_⟩
              rw [← h, f46_L0_eq guardT rfl]
              simp (disch := omega) only [N, len23, gG, b_lss, ltT, idx23 hlt, load67, hnd, zero67, st, fa67_0, fa67_1, fa67_2, shift_ptr, shift_pptr, Nat.zero_add, Nat.add_zero, pureFn_fn, List.append_nil, List.singleton_append, List.cons_append, List.nil_append, load3, row_k g, S26, c1, load24, row_a g, (PL.sl _).len, ha, S103, b_neq, eqT c2, hS, c3, b_eql, eqF c4, row_n g, eqT c5, add1]
            · have hb : bad x = true := by unfold bad; rw [if_neg c4, eqF c5]; rfl
              refine ⟨σ ++ [Row.mix (ndD x)], ?_⟩
              rw [if_pos hb, f46_L0_eq guardT rfl]
              simp (disch := omega) only [N, len23, gG, b_lss, ltT, idx23 hlt, load67, hnd, zero67, st, fa67_0, fa67_1, fa67_2, shift_ptr, shift_pptr, Nat.zero_add, Nat.add_zero, pureFn_fn, List.append_nil, List.singleton_append, List.cons_append, List.nil_append, load3, row_k g, S26, c1, load24, row_a g, (PL.sl _).len, ha, S103, b_neq, eqT c2, hS, c3, b_eql, eqF c4, row_n g, eqF c5, pr2]
        · rw [if_neg (fun h => c3 h.2)]
          refine ⟨σ ++ [Row.mix (ndD x)], ?_⟩
          rw [f46_L0_eq guardT rfl]
          simp (disch := omega) only [N, len23, gG, b_lss, ltT, idx23 hlt, load67, hnd, zero67, st, fa67_0, fa67_1, fa67_2, shift_ptr, shift_pptr, Nat.zero_add, Nat.add_zero, pureFn_fn, List.append_nil, List.singleton_append, List.cons_append, List.nil_append, load3, row_k g, S26, c1, load24, row_a g, (PL.sl _).len, ha, S103, b_neq, eqT c2, hS, (Bool.not_eq_true _).mp c3, pr2]
      · rw [if_neg (fun h => c2 h.1)]
        refine ⟨σ ++ [Row.mix (ndD x)], ?_⟩
        rw [f46_L0_eq guardT rfl]
        simp (disch := omega) only [N, len23, gG, b_lss, ltT, idx23 hlt, load67, hnd, zero67, st, fa67_0, fa67_1, fa67_2, shift_ptr, shift_pptr, Nat.zero_add, Nat.add_zero, pureFn_fn, List.append_nil, List.singleton_append, List.cons_append, List.nil_append, load3, row_k g, S26, c1, load24, row_a g, (PL.sl _).len, ha, S103, b_neq, eqF c2, pr2]
    · rw [if_neg c1]
      refine ⟨σ ++ [Row.mix (ndD x)], ?_⟩
      rw [f46_L0_eq guardT rfl]
      simp (disch := omega) only [N, len23, gG, b_lss, ltT, idx23 hlt, load67, hnd, zero67, st, fa67_0, shift_ptr, shift_pptr, Nat.zero_add, Nat.add_zero, pureFn_fn, List.append_nil, List.singleton_append, List.cons_append, List.nil_append, load3, row_k g, S26, (Bool.not_eq_true _).mp c1, pr2]
theorem S46 (σ : Store) : pureV CC 46 [.p (eFm f)] σ = some (pr2 (chk (L f))) := by
  have h1 := hf.1
  unfold chk
  by_cases c1 : (L f).length = 0
  · have c1' : ((L f).length : Int) = 0 := by omega
    rw [if_pos c1]
    refine pureV_free (by simp [fm_view]) rfl (F46_call (r := (pr2 (0, 1), [])) ?_) rfl
    rw [F46_eq]
    simp only [len23, N, gG, b_eql, eqT c1', pr2]
  · have c1' : ¬ ((L f).length : Int) = 0 := by omega
    rw [if_neg c1]
    by_cases c2 : (L f).length > 40
    · have c2' : ((L f).length : Int) > 40 := by omega
      rw [if_pos c2]
      refine pureV_free (by simp [fm_view]) rfl (F46_call (r := (pr2 (0, 2), [])) ?_) rfl
      rw [F46_eq]
      simp only [len23, N, gG, b_eql, eqF c1', b_gtr, gtT c2', pr2]
    · have c2' : ¬ ((L f).length : Int) > 40 := by omega
      rw [if_neg c2]
      obtain ⟨σ', h⟩ := L46 hf _ 0 [] (by omega) rfl (Nat.zero_le _)
      rw [Nat.sub_zero] at h
      refine pureV_free (by simp [fm_view]) rfl (F46_call (r := (pr2 (chkF (L f) (L f).length 0), σ')) ?_) rfl
      rw [F46_eq, ← h]
      simp only [len23, N, gG, b_eql, eqF c1', b_gtr, gtF c2']
      rfl
theorem S25 (σ : Store) : pureV CC 25 [.p (eFm f)] σ = some (.p (.int .i64 (chk (L f)).2)) := by
  refine pureV_free (by simp [fm_view]) rfl (F25_call (r := (.p (.int .i64 (chk (L f)).2), [])) ?_) rfl
  have ex0 : ∀ (a b : DV), extractV (.tuple [a, b]) 0 = some a := fun _ _ => rfl
  have ex1 : ∀ (a b : DV), extractV (.tuple [a, b]) 1 = some b := fun _ _ => rfl
  rw [F25_eq]
  simp only [shift_ptr, shift_pptr, Nat.zero_add, Nat.add_zero, pureFn_fn, List.append_nil, List.singleton_append, List.cons_append, List.nil_append, S46 hf, pr2, gG, ex0, ex1]
end
end Go.D
end
/- Equations of functions 98, 60, 132, 133, 73, 74, 75, 22, 71, 123, 124, 125, 126, 127, 128, 93, 131, 130, 129, 72, 18, 20, 21, 3, printed by gen.py. -/
section
set_option linter.unusedVariables false
set_option maxRecDepth 10000
namespace Go.D
open Go.Proofs
noncomputable section
variable (G : GuardT) (lo : Nat) {σ : Store} {r : DV × Store}
open _root_.Go.D.Code (fstC sndC)
open _root_.Go.D.Ann (left right)
def c98_0 : Code := bodyOf Tryz.f98
def a98_0 : Ann := (pol 98).ann
def F98 (x0 : DV) (σ : Store) : RS :=
 codeF G PP (pol 98) CC lo c98_0 a98_0 [x0, Z, Z, Z] σ (finR PP Tryz.f98.results.toList)
theorem F98_eq (G : GuardT) (lo : Nat) (x0 : DV) (σ : Store) : F98 G lo x0 σ =
 (boxP x0).bind fun x1 =>
 some ((DV.fn 143 [x1]), σ) := by kernel_rfl
theorem F98_call {lo : Nat} {x0 : DV} (h : F98 guardT lo x0 σ = some r) : CC lo 98 [x0] σ = some r :=
 callL_run Tryz.func98 (by decide +kernel) rfl (by decide +kernel) h
def c60_0 : Code := bodyOf Tryz.f60
def a60_0 : Ann := (pol 60).ann
def F60 (x0 x1 : DV) (σ : Store) : RS :=
 codeF G PP (pol 60) CC lo c60_0 a60_0 (x0 :: x1 :: zn 8 []) σ (finR PP Tryz.f60.results.toList)
theorem F60_eq (G : GuardT) (lo : Nat) (x0 x1 : DV) (σ : Store) : F60 G lo x0 x1 σ =
 (binOp PP .shr 3 x0 x1).bind fun x7 =>
 (binOp PP .rem 3 x7 (DV.p (PV.int IntKind.i64 (2)))).bind fun x8 =>
 (binOp PP .eql 3 x8 I1).bind fun x9 =>
 some (x9, σ) := by kernel_rfl
theorem F60_call {lo : Nat} {x0 x1 : DV} (h : F60 guardT lo x0 x1 σ = some r) : CC lo 60 [x0, x1] σ = some r :=
 callL_run Tryz.func60 (by decide +kernel) rfl (by decide +kernel) h
def c132_0 : Code := bodyOf Tryz.f132
def a132_0 : Ann := (pol 132).ann
def F132 (x0 : DV) (σ : Store) : RS :=
 codeF G PP (pol 132) CC lo c132_0 a132_0 (x0 :: zn 9 []) σ (finR PP Tryz.f132.results.toList)
theorem F132_eq (G : GuardT) (lo : Nat) (x0 : DV) (σ : Store) : F132 G lo x0 σ =
 (boxP x0).bind fun x1 =>
 (fieldAddr PP 26 x1 0).bind fun x3 =>
 (load PP 24 x3 σ).bind fun x4 =>
 (len PP 24 x4 σ).bind fun x5 =>
 (fieldAddr PP 26 x1 1).bind fun x6 =>
 (load PP 24 x6 σ).bind fun x7 =>
 (len PP 24 x7 σ).bind fun x8 =>
 (binOp PP .add 3 x5 x8).bind fun x9 =>
 some (x9, σ) := by kernel_rfl
theorem F132_call {lo : Nat} {x0 : DV} (h : F132 guardT lo x0 σ = some r) : CC lo 132 [x0] σ = some r :=
 callL_run Tryz.func132 (by decide +kernel) rfl (by decide +kernel) h
def c133_0 : Code := bodyOf Tryz.f133
def a133_0 : Ann := (pol 133).ann
def F133 (x0 x1 : DV) (σ : Store) : RS :=
 codeF G PP (pol 133) CC lo c133_0 a133_0 (x0 :: x1 :: zn 22 []) σ (finR PP Tryz.f133.results.toList)
theorem F133_eq (G : GuardT) (lo : Nat) (x0 x1 : DV) (σ : Store) : F133 G lo x0 x1 σ =
 (boxP x0).bind fun x2 =>
 (fieldAddr PP 26 x2 0).bind fun x6 =>
 (load PP 24 x6 σ).bind fun x7 =>
 (len PP 24 x7 σ).bind fun x8 =>
 (binOp PP .lss 3 x1 x8).bind fun x9 =>
 condK x9
 (
 some (x1, σ)
 )
 (
 (fieldAddr PP 26 x2 0).bind fun x11 =>
 (load PP 24 x11 σ).bind fun x12 =>
 (len PP 24 x12 σ).bind fun x13 =>
 (fieldAddr PP 26 x2 0).bind fun x15 =>
 (load PP 24 x15 σ).bind fun x16 =>
 (len PP 24 x16 σ).bind fun x17 =>
 (binOp PP .sub 3 x1 x17).bind fun x18 =>
 (fieldAddr PP 26 x2 1).bind fun x19 =>
 (load PP 24 x19 σ).bind fun x20 =>
 (len PP 24 x20 σ).bind fun x21 =>
 (binOp PP .rem 3 x18 x21).bind fun x22 =>
 (binOp PP .add 3 x13 x22).bind fun x23 =>
 some (x23, σ)
 ) := by kernel_rfl
theorem F133_call {lo : Nat} {x0 x1 : DV} (h : F133 guardT lo x0 x1 σ = some r) : CC lo 133 [x0, x1] σ = some r :=
 callL_run Tryz.func133 (by decide +kernel) rfl (by decide +kernel) h
def c73_0 : Code := bodyOf Tryz.f73
def a73_0 : Ann := (pol 73).ann
def a73_5 : Ann := right (left (right a73_0))
def a73_6 : Ann := left a73_5
def c73_7 : Code := fstC (fstC (sndC (fstC (sndC c73_0))))
def c73_23 : Code := sndC (sndC c73_0)
def a73_23 : Ann := right (right a73_0)
def f73_L0 (x1 x2 x3 x4 x9 : DV) (σ : Store) : RS :=
 codeF G PP (pol 73) CC lo (.loop c73_7) a73_6 (Z :: x1 :: x2 :: x3 :: x4 :: Z :: Z :: Z :: Z :: x9 :: zn 17 []) σ
 (blockC 0 a73_5 (seqC G PP (pol 73) CC lo c73_23 a73_23 (finR PP Tryz.f73.results.toList)))
def F73 (x0 x1 x2 x3 : DV) (σ : Store) : RS :=
 codeF G PP (pol 73) CC lo c73_0 a73_0 (x0 :: x1 :: x2 :: x3 :: zn 23 []) σ (finR PP Tryz.f73.results.toList)
theorem f73_L0_eq (G : GuardT) (hG : GuardOk G) (lo : Nat) (x1 x2 x3 x4 x9 : DV) (σ : Store) : f73_L0 G lo x1 x2 x3 x4 x9 σ =
 (load PP 26 x4 σ).bind fun x13 =>
 (pureFn CC (DV.fn 132 []) [x13] σ).bind fun x14 =>
 (binOp PP .add 3 x1 x14).bind fun x15 =>
 (binOp PP .lss 3 x9 x15).bind fun x16 =>
 condK x16
 (
 (load PP 26 x4 σ).bind fun x20 =>
 (pureFn CC (DV.fn 133 []) [x20, x9] σ).bind fun x22 =>
 (indexAddr PP 34 x2 x22).bind fun x23 =>
 (load PP 4 x23 σ).bind fun x24 =>
 (binOp PP .eql 4 x24 x3).bind fun x26 =>
 condK x26
 (
 some ((DV.p (PV.bool true)), σ)
 )
 (
 (binOp PP .add 3 x9 I1).bind fun x18 =>
 f73_L0 G lo x1 x2 x3 x4 x18 σ
 )
 )
 (
 some ((DV.p (PV.bool false)), σ)
 ) := (loopF_eq G hG).trans (by kernel_rfl)
theorem F73_eq (G : GuardT) (lo : Nat) (x0 x1 x2 x3 : DV) (σ : Store) : F73 G lo x0 x1 x2 x3 σ =
 (boxP x0).bind fun x4 =>
 f73_L0 G lo x1 x2 x3 x4 x1 σ := by kernel_rfl
theorem F73_call {lo : Nat} {x0 x1 x2 x3 : DV} (h : F73 guardT lo x0 x1 x2 x3 σ = some r) : CC lo 73 [x0, x1, x2, x3] σ = some r :=
 callL_run Tryz.func73 (by decide +kernel) rfl (by decide +kernel) h
def c74_0 : Code := bodyOf Tryz.f74
def a74_0 : Ann := (pol 74).ann
def a74_5 : Ann := right (left (right a74_0))
def a74_6 : Ann := left a74_5
def c74_7 : Code := fstC (fstC (sndC (fstC (sndC c74_0))))
def c74_23 : Code := sndC (sndC c74_0)
def a74_23 : Ann := right (right a74_0)
def f74_L0 (x1 x3 x5 x7 : DV) (σ : Store) : RS :=
 codeF G PP (pol 74) CC lo (.loop c74_7) a74_6 (Z :: x1 :: Z :: x3 :: Z :: x5 :: Z :: x7 :: zn 26 []) σ
 (blockC 0 a74_5 (seqC G PP (pol 74) CC lo c74_23 a74_23 (finR PP Tryz.f74.results.toList)))
def F74 (x0 x1 x2 : DV) (σ : Store) : RS :=
 codeF G PP (pol 74) CC lo c74_0 a74_0 (x0 :: x1 :: x2 :: zn 31 []) σ (finR PP Tryz.f74.results.toList)
theorem f74_L0_eq (G : GuardT) (hG : GuardOk G) (lo : Nat) (x1 x3 x5 x7 : DV) (σ : Store) : f74_L0 G lo x1 x3 x5 x7 σ =
 (load PP 26 x3 σ).bind fun x11 =>
 (pureFn CC (DV.fn 132 []) [x11] σ).bind fun x12 =>
 (binOp PP .add 3 x1 x12).bind fun x13 =>
 (binOp PP .lss 3 x7 x13).bind fun x14 =>
 condK x14
 (
 (fieldAddr PP 115 x5 0).bind fun x17 =>
 (load PP 34 x17 σ).bind fun x18 =>
 (load PP 26 x3 σ).bind fun x19 =>
 (pureFn CC (DV.fn 133 []) [x19, x7] σ).bind fun x21 =>
 (indexAddr PP 34 x18 x21).bind fun x22 =>
 (load PP 4 x22 σ).bind fun x23 =>
 G _ x23 true ((load PP 26 x3 σ).bind fun v => some (v, σ)) σ fun x25 σ1 =>
 G _ x23 true ((load PP 26 x3 σ1).bind fun v => some (v, σ1)) σ1 fun x26 σ2 =>
 G _ x23 true (some (x7, σ2)) σ2 fun x27 σ3 =>
 G _ x23 true ((pureFn CC (DV.fn 133 []) [x26, x27] σ3).bind fun v => some (v, σ3)) σ3 fun x28 σ4 =>
 G _ x23 true ((fieldAddr PP 115 x5 1).bind fun v => some (v, σ4)) σ4 fun x29 σ5 =>
 G _ x23 true ((load PP 34 x29 σ5).bind fun v => some (v, σ5)) σ5 fun x30 σ6 =>
 G _ x23 true ((pureFn CC (DV.fn 73 []) [x25, x28, x30, (DV.p (PV.bool true))] σ6).bind fun v => some (v, σ6)) σ6 fun x31 σ7 =>
 G _ x23 true ((unOp .not x31).bind fun v => some (v, σ7)) σ7 fun x32 σ8 =>
 (pickV x23 x32 (DV.p (PV.bool false))).bind fun x33 =>
 condK x33
 (
 some ((DV.p (PV.bool false)), σ8)
 )
 (
 (binOp PP .add 3 x7 I1).bind fun x16 =>
 f74_L0 G lo x1 x3 x5 x16 σ8
 )
 )
 (
 some ((DV.p (PV.bool true)), σ)
 ) := (loopF_eq G hG).trans (by kernel_rfl)
theorem F74_eq (G : GuardT) (lo : Nat) (x0 x1 x2 : DV) (σ : Store) : F74 G lo x0 x1 x2 σ =
 (boxP x0).bind fun x3 =>
 (boxP x2).bind fun x5 =>
 f74_L0 G lo x1 x3 x5 x1 σ := by kernel_rfl
theorem F74_call {lo : Nat} {x0 x1 x2 : DV} (h : F74 guardT lo x0 x1 x2 σ = some r) : CC lo 74 [x0, x1, x2] σ = some r :=
 callL_run Tryz.func74 (by decide +kernel) rfl (by decide +kernel) h
def c75_0 : Code := bodyOf Tryz.f75
def a75_0 : Ann := (pol 75).ann
def a75_5 : Ann := right (left (right a75_0))
def a75_6 : Ann := left a75_5
def c75_7 : Code := fstC (fstC (sndC (fstC (sndC c75_0))))
def c75_31 : Code := sndC (sndC c75_0)
def a75_31 : Ann := right (right a75_0)
def f75_L0 (x1 x3 x5 x7 : DV) (σ : Store) : RS :=
 codeF G PP (pol 75) CC lo (.loop c75_7) a75_6 (Z :: x1 :: Z :: x3 :: Z :: x5 :: Z :: x7 :: zn 24 []) σ
 (blockC 0 a75_5 (seqC G PP (pol 75) CC lo c75_31 a75_31 (finR PP Tryz.f75.results.toList)))
def F75 (x0 x1 x2 : DV) (σ : Store) : RS :=
 codeF G PP (pol 75) CC lo c75_0 a75_0 (x0 :: x1 :: x2 :: zn 29 []) σ (finR PP Tryz.f75.results.toList)
theorem f75_L0_eq (G : GuardT) (hG : GuardOk G) (lo : Nat) (x1 x3 x5 x7 : DV) (σ : Store) : f75_L0 G lo x1 x3 x5 x7 σ =
 (load PP 26 x3 σ).bind fun x11 =>
 (pureFn CC (DV.fn 132 []) [x11] σ).bind fun x12 =>
 (binOp PP .add 3 x1 x12).bind fun x13 =>
 (binOp PP .lss 3 x7 x13).bind fun x14 =>
 condK x14
 (
 (fieldAddr PP 115 x5 1).bind fun x17 =>
 (load PP 34 x17 σ).bind fun x18 =>
 (load PP 26 x3 σ).bind fun x19 =>
 (pureFn CC (DV.fn 133 []) [x19, x7] σ).bind fun x21 =>
 (indexAddr PP 34 x18 x21).bind fun x22 =>
 (load PP 4 x22 σ).bind fun x23 =>
 condK x23
 (
 some ((DV.p (PV.bool true)), σ)
 )
 (
 (fieldAddr PP 115 x5 0).bind fun x24 =>
 (load PP 34 x24 σ).bind fun x25 =>
 (load PP 26 x3 σ).bind fun x26 =>
 (pureFn CC (DV.fn 133 []) [x26, x7] σ).bind fun x28 =>
 (indexAddr PP 34 x25 x28).bind fun x29 =>
 (load PP 4 x29 σ).bind fun x30 =>
 (unOp .not x30).bind fun x31 =>
 condK x31
 (
 some ((DV.p (PV.bool false)), σ)
 )
 (
 (binOp PP .add 3 x7 I1).bind fun x16 =>
 f75_L0 G lo x1 x3 x5 x16 σ
 )
 )
 )
 (
 some ((DV.p (PV.bool false)), σ)
 ) := (loopF_eq G hG).trans (by kernel_rfl)
theorem F75_eq (G : GuardT) (lo : Nat) (x0 x1 x2 : DV) (σ : Store) : F75 G lo x0 x1 x2 σ =
 (boxP x0).bind fun x3 =>
 (boxP x2).bind fun x5 =>
 f75_L0 G lo x1 x3 x5 x1 σ := by kernel_rfl
theorem F75_call {lo : Nat} {x0 x1 x2 : DV} (h : F75 guardT lo x0 x1 x2 σ = some r) : CC lo 75 [x0, x1, x2] σ = some r :=
 callL_run Tryz.func75 (by decide +kernel) rfl (by decide +kernel) h
def c22_0 : Code := bodyOf Tryz.f22
def a22_0 : Ann := (pol 22).ann
def c22_16 : Code := sndC (sndC (sndC (sndC (sndC (sndC c22_0)))))
def a22_16 : Ann := right (right (right (right (right (right a22_0)))))
def c22_22 : Code := sndC c22_16
def a22_22 : Ann := right a22_16
def a22_25 : Ann := right (left a22_22)
def a22_26 : Ann := left a22_25
def c22_27 : Code := fstC (fstC (sndC (fstC c22_22)))
def c22_80 : Code := sndC c22_22
def a22_80 : Ann := right a22_22
def f22_J0_fr (x0 x1 x2 x5 x6 x7 x8 x9 x10 x11 x13 x14 x15 x16 x17 x18 x19 x20 x21 x22 x23 x24 x25 x26 x27 x28 x29 x30 x31 x32 x33 x34 x35 x36 : DV) : Frame := (x0 :: x1 :: x2 :: Z :: Z :: x5 :: x6 :: x7 :: x8 :: x9 :: x10 :: x11 :: Z :: x13 :: x14 :: x15 :: x16 :: x17 :: x18 :: x19 :: x20 :: x21 :: x22 :: x23 :: x24 :: x25 :: x26 :: x27 :: x28 :: x29 :: x30 :: x31 :: x32 :: x33 :: x34 :: x35 :: x36 :: zn 132 [])
def f22_J0 (x0 x1 x2 x5 x6 x7 x8 x9 x10 x11 x13 x14 x15 x16 x17 x18 x19 x20 x21 x22 x23 x24 x25 x26 x27 x28 x29 x30 x31 x32 x33 x34 x35 x36 : DV) (σ : Store) : RS :=
 (seqC G PP (pol 22) CC lo c22_16 a22_16 (finR PP Tryz.f22.results.toList)) .normal (f22_J0_fr x0 x1 x2 x5 x6 x7 x8 x9 x10 x11 x13 x14 x15 x16 x17 x18 x19 x20 x21 x22 x23 x24 x25 x26 x27 x28 x29 x30 x31 x32 x33 x34 x35 x36) σ
def f22_J1_fr (x0 x1 x2 x5 x6 x7 x8 x9 x10 x11 x13 x14 x15 x16 x17 x18 x19 x20 x21 x22 x23 x24 x25 x26 x27 x28 x29 x30 x31 x32 x33 x34 x35 x36 x37 x38 x39 x40 x41 x42 x43 x44 x45 x46 x47 : DV) : Frame := (x0 :: x1 :: x2 :: Z :: Z :: x5 :: x6 :: x7 :: x8 :: x9 :: x10 :: x11 :: Z :: x13 :: x14 :: x15 :: x16 :: x17 :: x18 :: x19 :: x20 :: x21 :: x22 :: x23 :: x24 :: x25 :: x26 :: x27 :: x28 :: x29 :: x30 :: x31 :: x32 :: x33 :: x34 :: x35 :: x36 :: x37 :: x38 :: x39 :: x40 :: x41 :: x42 :: x43 :: x44 :: x45 :: x46 :: x47 :: zn 121 [])
def f22_J1 (x0 x1 x2 x5 x6 x7 x8 x9 x10 x11 x13 x14 x15 x16 x17 x18 x19 x20 x21 x22 x23 x24 x25 x26 x27 x28 x29 x30 x31 x32 x33 x34 x35 x36 x37 x38 x39 x40 x41 x42 x43 x44 x45 x46 x47 : DV) (σ : Store) : RS :=
 (seqC G PP (pol 22) CC lo c22_22 a22_22 (finR PP Tryz.f22.results.toList)) .normal (f22_J1_fr x0 x1 x2 x5 x6 x7 x8 x9 x10 x11 x13 x14 x15 x16 x17 x18 x19 x20 x21 x22 x23 x24 x25 x26 x27 x28 x29 x30 x31 x32 x33 x34 x35 x36 x37 x38 x39 x40 x41 x42 x43 x44 x45 x46 x47) σ
def f22_L0 (x5 x7 x8 x9 x10 x11 x12 : DV) (σ : Store) : RS :=
 codeF G PP (pol 22) CC lo (.loop c22_27) a22_26 (zn 5 (x5 :: Z :: x7 :: x8 :: x9 :: x10 :: x11 :: x12 :: zn 156 [])) σ
 (blockC 0 a22_25 (seqC G PP (pol 22) CC lo c22_80 a22_80 (finR PP Tryz.f22.results.toList)))
def F22 (x0 x1 x2 : DV) (σ : Store) : RS :=
 codeF G PP (pol 22) CC lo c22_0 a22_0 (x0 :: x1 :: x2 :: zn 166 []) σ (finR PP Tryz.f22.results.toList)
theorem f22_J0_eq (G : GuardT) (lo : Nat) (x0 x1 x2 x5 x6 x7 x8 x9 x10 x11 x13 x14 x15 x16 x17 x18 x19 x20 x21 x22 x23 x24 x25 x26 x27 x28 x29 x30 x31 x32 x33 x34 x35 x36 : DV) (σ : Store) : f22_J0 G lo x0 x1 x2 x5 x6 x7 x8 x9 x10 x11 x13 x14 x15 x16 x17 x18 x19 x20 x21 x22 x23 x24 x25 x26 x27 x28 x29 x30 x31 x32 x33 x34 x35 x36 σ =
 (fieldAddr PP 67 x7 2).bind fun x37 =>
 (load PP 24 x37 σ).bind fun x38 =>
 (len PP 24 x38 σ).bind fun x39 =>
 (binOp PP .gtr 3 x39 I1).bind fun x40 =>
 condK x40
 (
 (fieldAddr PP 67 x7 2).bind fun x42 =>
 (load PP 24 x42 σ).bind fun x43 =>
 (indexAddr PP 24 x43 I1).bind fun x44 =>
 (load PP 3 x44 σ).bind fun x45 =>
 (load PP 26 x5 σ).bind fun x46 =>
 (pureFn CC (DV.fn 22 []) [x0, x45, x46] σ).bind fun x47 =>
 f22_J1 G lo x0 x1 x2 x5 x6 x7 x8 x9 x10 x47 x13 x14 x15 x16 x17 x18 x19 x20 x21 x22 x23 x24 x25 x26 x27 x28 x29 x30 x31 x32 x33 x34 x35 x36 x37 x38 x39 x40 x0 x42 x43 x44 x45 x46 x47 σ
 )
 (
 f22_J1 G lo x0 x1 x2 x5 x6 x7 x8 x9 x10 x11 x13 x14 x15 x16 x17 x18 x19 x20 x21 x22 x23 x24 x25 x26 x27 x28 x29 x30 x31 x32 x33 x34 x35 x36 x37 x38 x39 x40 Z Z Z Z Z Z Z σ
 ) := by kernel_rfl
theorem f22_J1_eq (G : GuardT) (lo : Nat) (x0 x1 x2 x5 x6 x7 x8 x9 x10 x11 x13 x14 x15 x16 x17 x18 x19 x20 x21 x22 x23 x24 x25 x26 x27 x28 x29 x30 x31 x32 x33 x34 x35 x36 x37 x38 x39 x40 x41 x42 x43 x44 x45 x46 x47 : DV) (σ : Store) : f22_J1 G lo x0 x1 x2 x5 x6 x7 x8 x9 x10 x11 x13 x14 x15 x16 x17 x18 x19 x20 x21 x22 x23 x24 x25 x26 x27 x28 x29 x30 x31 x32 x33 x34 x35 x36 x37 x38 x39 x40 x41 x42 x43 x44 x45 x46 x47 σ =
 f22_L0 G lo x5 x7 x8 x9 x10 x11 I0 σ := by kernel_rfl
theorem f22_L0_eq (G : GuardT) (hG : GuardOk G) (lo : Nat) (x5 x7 x8 x9 x10 x11 x12 : DV) (σ : Store) : f22_L0 G lo x5 x7 x8 x9 x10 x11 x12 σ =
 (binOp PP .lss 3 x12 x8).bind fun x50 =>
 condK x50
 (
 (fieldAddr PP 67 x7 0).bind fun x53 =>
 (load PP 3 x53 σ).bind fun x54 =>
 (binOp PP .eql 3 x54 I0).bind fun x56 =>
 condK x56
 (
 (indexAddr PP 34 x9 x12).bind fun x59 =>
 (store PP lo 4 x59 (DV.p (PV.bool true)) σ).bind fun σ3 =>
 (binOp PP .add 3 x12 I1).bind fun x52 =>
 f22_L0 G lo x5 x7 x8 x9 x10 x11 x52 σ3
 )
 (
 (binOp PP .eql 3 x54 I1).bind fun x61 =>
 condK x61
 (
 (load PP 26 x5 σ).bind fun x64 =>
 (pureFn CC (DV.fn 69 []) [x64, x12] σ).bind fun x66 =>
 (fieldAddr PP 67 x7 1).bind fun x67 =>
 (load PP 3 x67 σ).bind fun x68 =>
 (pureFn CC (DV.fn 60 []) [x66, x68] σ).bind fun x69 =>
 (indexAddr PP 34 x9 x12).bind fun x70 =>
 (store PP lo 4 x70 x69 σ).bind fun σ4 =>
 (binOp PP .add 3 x12 I1).bind fun x52 =>
 f22_L0 G lo x5 x7 x8 x9 x10 x11 x52 σ4
 )
 (
 (binOp PP .eql 3 x54 (DV.p (PV.int IntKind.i64 (2)))).bind fun x72 =>
 condK x72
 (
 (indexAddr PP 34 x10 x12).bind fun x77 =>
 (load PP 4 x77 σ).bind fun x78 =>
 (unOp .not x78).bind fun x79 =>
 (indexAddr PP 34 x9 x12).bind fun x80 =>
 (store PP lo 4 x80 x79 σ).bind fun σ5 =>
 (binOp PP .add 3 x12 I1).bind fun x52 =>
 f22_L0 G lo x5 x7 x8 x9 x10 x11 x52 σ5
 )
 (
 (binOp PP .eql 3 x54 (DV.p (PV.int IntKind.i64 (3)))).bind fun x82 =>
 condK x82
 (
 (indexAddr PP 34 x10 x12).bind fun x87 =>
 (load PP 4 x87 σ).bind fun x88 =>
 G _ x88 true (some (x11, σ)) σ fun x90 σ6 =>
 G _ x88 true (some (x12, σ6)) σ6 fun x91 σ7 =>
 G _ x88 true ((indexAddr PP 34 x90 x91).bind fun v => some (v, σ7)) σ7 fun x92 σ8 =>
 G _ x88 true ((load PP 4 x92 σ8).bind fun v => some (v, σ8)) σ8 fun x93 σ9 =>
 (pickV x88 x93 (DV.p (PV.bool false))).bind fun x94 =>
 (indexAddr PP 34 x9 x12).bind fun x95 =>
 (store PP lo 4 x95 x94 σ9).bind fun σ10 =>
 (binOp PP .add 3 x12 I1).bind fun x52 =>
 f22_L0 G lo x5 x7 x8 x9 x10 x11 x52 σ10
 )
 (
 (binOp PP .eql 3 x54 (DV.p (PV.int IntKind.i64 (4)))).bind fun x97 =>
 condK x97
 (
 (indexAddr PP 34 x10 x12).bind fun x102 =>
 (load PP 4 x102 σ).bind fun x103 =>
 G _ x103 false (some (x11, σ)) σ fun x105 σ11 =>
 G _ x103 false (some (x12, σ11)) σ11 fun x106 σ12 =>
 G _ x103 false ((indexAddr PP 34 x105 x106).bind fun v => some (v, σ12)) σ12 fun x107 σ13 =>
 G _ x103 false ((load PP 4 x107 σ13).bind fun v => some (v, σ13)) σ13 fun x108 σ14 =>
 (pickV x103 (DV.p (PV.bool true)) x108).bind fun x109 =>
 (indexAddr PP 34 x9 x12).bind fun x110 =>
 (store PP lo 4 x110 x109 σ14).bind fun σ15 =>
 (binOp PP .add 3 x12 I1).bind fun x52 =>
 f22_L0 G lo x5 x7 x8 x9 x10 x11 x52 σ15
 )
 (
 (binOp PP .eql 3 x54 (DV.p (PV.int IntKind.i64 (5)))).bind fun x112 =>
 condK x112
 (
 (indexAddr PP 34 x10 x12).bind fun x117 =>
 (load PP 4 x117 σ).bind fun x118 =>
 (unOp .not x118).bind fun x119 =>
 G _ x119 false (some (x11, σ)) σ fun x121 σ16 =>
 G _ x119 false (some (x12, σ16)) σ16 fun x122 σ17 =>
 G _ x119 false ((indexAddr PP 34 x121 x122).bind fun v => some (v, σ17)) σ17 fun x123 σ18 =>
 G _ x119 false ((load PP 4 x123 σ18).bind fun v => some (v, σ18)) σ18 fun x124 σ19 =>
 (pickV x119 (DV.p (PV.bool true)) x124).bind fun x125 =>
 (indexAddr PP 34 x9 x12).bind fun x126 =>
 (store PP lo 4 x126 x125 σ19).bind fun σ20 =>
 (binOp PP .add 3 x12 I1).bind fun x52 =>
 f22_L0 G lo x5 x7 x8 x9 x10 x11 x52 σ20
 )
 (
 (binOp PP .eql 3 x54 (DV.p (PV.int IntKind.i64 (6)))).bind fun x128 =>
 condK x128
 (
 (load PP 26 x5 σ).bind fun x131 =>
 (pureFn CC (DV.fn 73 []) [x131, x12, x10, (DV.p (PV.bool false))] σ).bind fun x134 =>
 (unOp .not x134).bind fun x135 =>
 (indexAddr PP 34 x9 x12).bind fun x136 =>
 (store PP lo 4 x136 x135 σ).bind fun σ21 =>
 (binOp PP .add 3 x12 I1).bind fun x52 =>
 f22_L0 G lo x5 x7 x8 x9 x10 x11 x52 σ21
 )
 (
 (binOp PP .eql 3 x54 (DV.p (PV.int IntKind.i64 (7)))).bind fun x138 =>
 condK x138
 (
 (load PP 26 x5 σ).bind fun x141 =>
 (pureFn CC (DV.fn 73 []) [x141, x12, x10, (DV.p (PV.bool true))] σ).bind fun x144 =>
 (indexAddr PP 34 x9 x12).bind fun x145 =>
 (store PP lo 4 x145 x144 σ).bind fun σ22 =>
 (binOp PP .add 3 x12 I1).bind fun x52 =>
 f22_L0 G lo x5 x7 x8 x9 x10 x11 x52 σ22
 )
 (
 (binOp PP .eql 3 x54 (DV.p (PV.int IntKind.i64 (8)))).bind fun x147 =>
 condK x147
 (
 (load PP 26 x5 σ).bind fun x150 =>
 (build PP 115 [(0, x10), (1, x11)]).bind fun x154 =>
 (pureFn CC (DV.fn 74 []) [x150, x12, x154] σ).bind fun x155 =>
 (indexAddr PP 34 x9 x12).bind fun x156 =>
 (store PP lo 4 x156 x155 σ).bind fun σ23 =>
 (binOp PP .add 3 x12 I1).bind fun x52 =>
 f22_L0 G lo x5 x7 x8 x9 x10 x11 x52 σ23
 )
 (
 (binOp PP .eql 3 x54 (DV.p (PV.int IntKind.i64 (9)))).bind fun x158 =>
 condK x158
 (
 (load PP 26 x5 σ).bind fun x161 =>
 (build PP 115 [(0, x10), (1, x11)]).bind fun x165 =>
 (pureFn CC (DV.fn 75 []) [x161, x12, x165] σ).bind fun x166 =>
 (indexAddr PP 34 x9 x12).bind fun x167 =>
 (store PP lo 4 x167 x166 σ).bind fun σ24 =>
 (binOp PP .add 3 x12 I1).bind fun x52 =>
 f22_L0 G lo x5 x7 x8 x9 x10 x11 x52 σ24
 )
 (
 (binOp PP .add 3 x12 I1).bind fun x52 =>
 f22_L0 G lo x5 x7 x8 x9 x10 x11 x52 σ
 )
 )
 )
 )
 )
 )
 )
 )
 )
 )
 )
 (
 some (x9, σ)
 ) := (loopF_eq G hG).trans (by kernel_rfl)
theorem F22_eq (G : GuardT) (lo : Nat) (x0 x1 x2 : DV) (σ : Store) : F22 G lo x0 x1 x2 σ =
 (boxP x2).bind fun x5 =>
 (indexAddr PP 23 x0 x1).bind fun x15 =>
 (load PP 67 x15 σ).bind fun x16 =>
 (zeroOf PP 67).bind fun z7 =>
 (store PP lo 67 (DV.ptr (List.length σ) 0) x16 (σ ++ [Row.mix z7])).bind fun σ1 =>
 (fieldAddr PP 26 x5 0).bind fun x17 =>
 (load PP 24 x17 σ1).bind fun x18 =>
 (len PP 24 x18 σ1).bind fun x19 =>
 (fieldAddr PP 26 x5 1).bind fun x20 =>
 (load PP 24 x20 σ1).bind fun x21 =>
 (len PP 24 x21 σ1).bind fun x22 =>
 (binOp PP .add 3 x19 x22).bind fun x23 =>
 (makeSlice PP false 34 x23 x23 σ1).bind fun r25_2 =>
 (fieldAddr PP 67 (DV.ptr (List.length σ) 0) 2).bind fun x26 =>
 (load PP 24 x26 r25_2.2).bind fun x27 =>
 (len PP 24 x27 r25_2.2).bind fun x28 =>
 (binOp PP .gtr 3 x28 I0).bind fun x29 =>
 condK x29
 (
 (fieldAddr PP 67 (DV.ptr (List.length σ) 0) 2).bind fun x31 =>
 (load PP 24 x31 r25_2.2).bind fun x32 =>
 (indexAddr PP 24 x32 I0).bind fun x33 =>
 (load PP 3 x33 r25_2.2).bind fun x34 =>
 (load PP 26 x5 r25_2.2).bind fun x35 =>
 (pureFn CC (DV.fn 22 []) [x0, x34, x35] r25_2.2).bind fun x36 =>
 f22_J0 G lo x0 x1 x2 x5 (DV.p PV.nilsl) (DV.ptr (List.length σ) 0) x23 r25_2.1 x36 (DV.p PV.nilsl) x0 x1 x15 x16 x17 x18 x19 x20 x21 x22 x23 x23 r25_2.1 x26 x27 x28 x29 x0 x31 x32 x33 x34 x35 x36 r25_2.2
 )
 (
 f22_J0 G lo x0 x1 x2 x5 (DV.p PV.nilsl) (DV.ptr (List.length σ) 0) x23 r25_2.1 (DV.p PV.nilsl) (DV.p PV.nilsl) x0 x1 x15 x16 x17 x18 x19 x20 x21 x22 x23 x23 r25_2.1 x26 x27 x28 x29 Z Z Z Z Z Z Z r25_2.2
 ) := by kernel_rfl
theorem F22_call {lo : Nat} {x0 x1 x2 : DV} (h : F22 guardT lo x0 x1 x2 σ = some r) : CC lo 22 [x0, x1, x2] σ = some r :=
 callL_run Tryz.func22 (by decide +kernel) rfl (by decide +kernel) h
def c71_0 : Code := bodyOf Tryz.f71
def a71_0 : Ann := (pol 71).ann
def F71 (x0 : DV) (σ : Store) : RS :=
 codeF G PP (pol 71) CC lo c71_0 a71_0 (x0 :: zn 7 []) σ (finR PP Tryz.f71.results.toList)
theorem F71_eq (G : GuardT) (lo : Nat) (x0 : DV) (σ : Store) : F71 G lo x0 σ =
 (binOp PP .eql 34 x0 (DV.p PV.nilsl)).bind fun x4 =>
 condK x4
 (
 some ((DV.p PV.nilsl), σ)
 )
 (
 (buildSlice PP none 34 0 [] σ).bind fun r5_1 =>
 (append PP lo true 34 34 r5_1.1 x0 r5_1.2).bind fun r7_2 =>
 some (r7_2.1, r7_2.2)
 ) := by kernel_rfl
theorem F71_call {lo : Nat} {x0 : DV} (h : F71 guardT lo x0 σ = some r) : CC lo 71 [x0] σ = some r :=
 callL_run Tryz.func71 (by decide +kernel) rfl (by decide +kernel) h
def c123_0 : Code := bodyOf Tryz.f123
def a123_0 : Ann := (pol 123).ann
def c123_8 : Code := sndC (sndC c123_0)
def a123_8 : Ann := right (right a123_0)
def c123_16 : Code := sndC (sndC c123_8)
def a123_16 : Ann := right (right a123_8)
def a123_21 : Ann := left (right (right a123_16))
def a123_22 : Ann := left a123_21
def c123_23 : Code := fstC (fstC (fstC (sndC (sndC c123_16))))
def c123_31 : Code := sndC (sndC (sndC c123_16))
def a123_31 : Ann := right (right (right a123_16))
def f123_J0_fr (x0 x1 x4 x9 x10 x11 : DV) : Frame := (x0 :: x1 :: Z :: Z :: x4 :: Z :: Z :: Z :: Z :: x9 :: x10 :: x11 :: zn 36 [])
def f123_J0 (x0 x1 x4 x9 x10 x11 : DV) (σ : Store) : RS :=
 (seqC G PP (pol 123) CC lo c123_8 a123_8 (finR PP Tryz.f123.results.toList)) .normal (f123_J0_fr x0 x1 x4 x9 x10 x11) σ
def f123_J1_fr (x0 x1 x4 x5 x6 x9 x10 x11 x12 x13 x14 x15 x16 x17 x18 x19 x20 x21 x22 x23 x24 x25 x26 x27 : DV) : Frame := (x0 :: x1 :: Z :: Z :: x4 :: x5 :: x6 :: Z :: Z :: x9 :: x10 :: x11 :: x12 :: x13 :: x14 :: x15 :: x16 :: x17 :: x18 :: x19 :: x20 :: x21 :: x22 :: x23 :: x24 :: x25 :: x26 :: x27 :: zn 20 [])
def f123_J1 (x0 x1 x4 x5 x6 x9 x10 x11 x12 x13 x14 x15 x16 x17 x18 x19 x20 x21 x22 x23 x24 x25 x26 x27 : DV) (σ : Store) : RS :=
 (seqC G PP (pol 123) CC lo c123_16 a123_16 (finR PP Tryz.f123.results.toList)) .normal (f123_J1_fr x0 x1 x4 x5 x6 x9 x10 x11 x12 x13 x14 x15 x16 x17 x18 x19 x20 x21 x22 x23 x24 x25 x26 x27) σ
def f123_L0 (x7 x8 : DV) (σ : Store) : RS :=
 codeF G PP (pol 123) CC lo (.loop c123_23) a123_22 (zn 7 (x7 :: x8 :: zn 39 [])) σ
 (blockC 0 a123_21 (seqC G PP (pol 123) CC lo c123_31 a123_31 (finR PP Tryz.f123.results.toList)))
def F123 (x0 x1 : DV) (σ : Store) : RS :=
 codeF G PP (pol 123) CC lo c123_0 a123_0 (x0 :: x1 :: zn 46 []) σ (finR PP Tryz.f123.results.toList)
theorem f123_J0_eq (G : GuardT) (lo : Nat) (x0 x1 x4 x9 x10 x11 : DV) (σ : Store) : f123_J0 G lo x0 x1 x4 x9 x10 x11 σ =
 (len PP 34 x0 σ).bind fun x14 =>
 (convert PP 3 179 x14).bind fun x15 =>
 (convert PP 3 179 x1).bind fun x17 =>
 (pureFn CC (DV.fn 156 []) [x15, x17] σ).bind fun x18 =>
 (extractV x18 0).bind fun x19 =>
 (extractV x18 1).bind fun x20 =>
 (binOp PP .gtr 179 x19 (DV.p (PV.int IntKind.u64 (0)))).bind fun x22 =>
 G _ x22 false (some (x20, σ)) σ fun x24 σ1 =>
 G _ x22 false ((binOp PP .gtr 179 x24 (DV.p (PV.int IntKind.u64 (9223372036854775807)))).bind fun v => some (v, σ1)) σ1 fun x25 σ2 =>
 (pickV x22 (DV.p (PV.bool true)) x25).bind fun x26 =>
 condK x26
 (
 none
 )
 (
 f123_J1 G lo x0 x1 x4 x19 x20 x9 x10 x11 x18 x0 x14 x15 x1 x17 x18 x19 x20 x19 x22 x22 x24 x25 x26 Z σ2
 ) := by kernel_rfl
theorem f123_J1_eq (G : GuardT) (lo : Nat) (x0 x1 x4 x5 x6 x9 x10 x11 x12 x13 x14 x15 x16 x17 x18 x19 x20 x21 x22 x23 x24 x25 x26 x27 : DV) (σ : Store) : f123_J1 G lo x0 x1 x4 x5 x6 x9 x10 x11 x12 x13 x14 x15 x16 x17 x18 x19 x20 x21 x22 x23 x24 x25 x26 x27 σ =
 (convert PP 179 3 x6).bind fun x29 =>
 (makeSlice PP false 34 x29 x29 σ).bind fun r30_3 =>
 (copyOp PP lo 34 r30_3.1 x0 r30_3.2).bind fun r33_4 =>
 f123_L0 G lo r30_3.1 r33_4.1 r33_4.2 := by kernel_rfl
theorem f123_L0_eq (G : GuardT) (hG : GuardOk G) (lo : Nat) (x7 x8 : DV) (σ : Store) : f123_L0 G lo x7 x8 σ =
 (len PP 34 x7 σ).bind fun x36 =>
 (binOp PP .lss 3 x8 x36).bind fun x37 =>
 condK x37
 (
 (sliceOp PP 34 x7 (some x8) none none).bind fun x41 =>
 (sliceOp PP 34 x7 none (some x8) none).bind fun x44 =>
 (copyOp PP lo 34 x41 x44 σ).bind fun r45_5 =>
 (binOp PP .add 3 x8 r45_5.1).bind fun x46 =>
 f123_L0 G lo x7 x46 r45_5.2
 )
 (
 some (x7, σ)
 ) := (loopF_eq G hG).trans (by kernel_rfl)
theorem F123_eq (G : GuardT) (lo : Nat) (x0 x1 : DV) (σ : Store) : F123 G lo x0 x1 σ =
 (binOp PP .lss 3 x1 I0).bind fun x10 =>
 condK x10
 (
 none
 )
 (
 f123_J0 G lo x0 x1 (DV.p PV.nilsl) x1 x10 Z σ
 ) := by kernel_rfl
theorem F123_call {lo : Nat} {x0 x1 : DV} (h : F123 guardT lo x0 x1 σ = some r) : CC lo 123 [x0, x1] σ = some r :=
 callL_run Tryz.func123 (by decide +kernel) rfl (by decide +kernel) h
def c124_0 : Code := bodyOf Tryz.f124
def a124_0 : Ann := (pol 124).ann
def a124_7 : Ann := right (left (right (right a124_0)))
def a124_8 : Ann := left a124_7
def c124_9 : Code := fstC (fstC (sndC (fstC (sndC (sndC c124_0)))))
def c124_21 : Code := sndC (sndC (sndC c124_0))
def a124_21 : Ann := right (right (right a124_0))
def f124_L0 (x3 x8 x9 : DV) (σ : Store) : RS :=
 codeF G PP (pol 124) CC lo (.loop c124_9) a124_8 (Z :: Z :: Z :: x3 :: Z :: Z :: Z :: Z :: x8 :: x9 :: zn 12 []) σ
 (blockC 0 a124_7 (seqC G PP (pol 124) CC lo c124_21 a124_21 (finR PP Tryz.f124.results.toList)))
def F124 (x0 : DV) (σ : Store) : RS :=
 codeF G PP (pol 124) CC lo c124_0 a124_0 (x0 :: zn 21 []) σ (finR PP Tryz.f124.results.toList)
theorem f124_L0_eq (G : GuardT) (hG : GuardOk G) (lo : Nat) (x3 x8 x9 : DV) (σ : Store) : f124_L0 G lo x3 x8 x9 σ =
 (binOp PP .lss 3 x9 x8).bind fun x10 =>
 condK x10
 (
 (indexAddr PP 34 x3 x9).bind fun x16 =>
 (load PP 4 x16 σ).bind fun x17 =>
 (unOp .not x17).bind fun x18 =>
 (indexAddr PP 34 x3 x9).bind fun x19 =>
 (store PP lo 4 x19 x18 σ).bind fun σ2 =>
 (binOp PP .add 3 x9 I1).bind fun x20 =>
 f124_L0 G lo x3 x8 x20 σ2
 )
 (
 some (x3, σ)
 ) := (loopF_eq G hG).trans (by kernel_rfl)
theorem F124_eq (G : GuardT) (lo : Nat) (x0 : DV) (σ : Store) : F124 G lo x0 σ =
 (plainFn CC lo (DV.fn 71 []) [x0] σ).bind fun r6_1 =>
 (len PP 34 r6_1.1 r6_1.2).bind fun x8 =>
 f124_L0 G lo r6_1.1 x8 I0 r6_1.2 := by kernel_rfl
theorem F124_call {lo : Nat} {x0 : DV} (h : F124 guardT lo x0 σ = some r) : CC lo 124 [x0] σ = some r :=
 callL_run Tryz.func124 (by decide +kernel) rfl (by decide +kernel) h
def c125_0 : Code := bodyOf Tryz.f125
def a125_0 : Ann := (pol 125).ann
def a125_7 : Ann := right (left (right (right a125_0)))
def a125_8 : Ann := left a125_7
def c125_9 : Code := fstC (fstC (sndC (fstC (sndC (sndC c125_0)))))
def c125_21 : Code := sndC (sndC (sndC c125_0))
def a125_21 : Ann := right (right (right a125_0))
def f125_L0 (x0 x1 x2 x7 x12 x13 : DV) (σ : Store) : RS :=
 codeF G PP (pol 125) CC lo (.loop c125_9) a125_8 (x0 :: x1 :: x2 :: Z :: Z :: Z :: Z :: x7 :: Z :: Z :: Z :: Z :: x12 :: x13 :: zn 17 []) σ
 (blockC 0 a125_7 (seqC G PP (pol 125) CC lo c125_21 a125_21 (finR PP Tryz.f125.results.toList)))
def F125 (x0 x1 x2 : DV) (σ : Store) : RS :=
 codeF G PP (pol 125) CC lo c125_0 a125_0 (x0 :: x1 :: x2 :: zn 28 []) σ (finR PP Tryz.f125.results.toList)
theorem f125_L0_eq (G : GuardT) (hG : GuardOk G) (lo : Nat) (x0 x1 x2 x7 x12 x13 : DV) (σ : Store) : f125_L0 G lo x0 x1 x2 x7 x12 x13 σ =
 (binOp PP .lss 3 x13 x12).bind fun x14 =>
 condK x14
 (
 (indexAddr PP 34 x0 x13).bind fun x21 =>
 (load PP 4 x21 σ).bind fun x22 =>
 (indexAddr PP 34 x1 x13).bind fun x25 =>
 (load PP 4 x25 σ).bind fun x26 =>
 (pureFn CC x2 [x22, x26] σ).bind fun x27 =>
 (indexAddr PP 34 x7 x13).bind fun x28 =>
 (store PP lo 4 x28 x27 σ).bind fun σ2 =>
 (binOp PP .add 3 x13 I1).bind fun x29 =>
 f125_L0 G lo x0 x1 x2 x7 x12 x29 σ2
 )
 (
 some (x7, σ)
 ) := (loopF_eq G hG).trans (by kernel_rfl)
theorem F125_eq (G : GuardT) (lo : Nat) (x0 x1 x2 : DV) (σ : Store) : F125 G lo x0 x1 x2 σ =
 (plainFn CC lo (DV.fn 71 []) [x0] σ).bind fun r10_1 =>
 (len PP 34 r10_1.1 r10_1.2).bind fun x12 =>
 f125_L0 G lo x0 x1 x2 r10_1.1 x12 I0 r10_1.2 := by kernel_rfl
theorem F125_call {lo : Nat} {x0 x1 x2 : DV} (h : F125 guardT lo x0 x1 x2 σ = some r) : CC lo 125 [x0, x1, x2] σ = some r :=
 callL_run Tryz.func125 (by decide +kernel) rfl (by decide +kernel) h
def c126_0 : Code := bodyOf Tryz.f126
def a126_0 : Ann := (pol 126).ann
def F126 (x0 x1 : DV) (σ : Store) : RS :=
 codeF G PP (pol 126) CC lo c126_0 a126_0 (x0 :: x1 :: zn 7 []) σ (finR PP Tryz.f126.results.toList)
theorem F126_eq (G : GuardT) (lo : Nat) (x0 x1 : DV) (σ : Store) : F126 G lo x0 x1 σ =
 G _ x0 true (some (x1, σ)) σ fun x7 σ1 =>
 (pickV x0 x7 (DV.p (PV.bool false))).bind fun x8 =>
 some (x8, σ1) := by kernel_rfl
theorem F126_call {lo : Nat} {x0 x1 : DV} (h : F126 guardT lo x0 x1 σ = some r) : CC lo 126 [x0, x1] σ = some r :=
 callL_run Tryz.func126 (by decide +kernel) rfl (by decide +kernel) h
def c127_0 : Code := bodyOf Tryz.f127
def a127_0 : Ann := (pol 127).ann
def F127 (x0 x1 : DV) (σ : Store) : RS :=
 codeF G PP (pol 127) CC lo c127_0 a127_0 (x0 :: x1 :: zn 7 []) σ (finR PP Tryz.f127.results.toList)
theorem F127_eq (G : GuardT) (lo : Nat) (x0 x1 : DV) (σ : Store) : F127 G lo x0 x1 σ =
 G _ x0 false (some (x1, σ)) σ fun x7 σ1 =>
 (pickV x0 (DV.p (PV.bool true)) x7).bind fun x8 =>
 some (x8, σ1) := by kernel_rfl
theorem F127_call {lo : Nat} {x0 x1 : DV} (h : F127 guardT lo x0 x1 σ = some r) : CC lo 127 [x0, x1] σ = some r :=
 callL_run Tryz.func127 (by decide +kernel) rfl (by decide +kernel) h
def c128_0 : Code := bodyOf Tryz.f128
def a128_0 : Ann := (pol 128).ann
def F128 (x0 x1 : DV) (σ : Store) : RS :=
 codeF G PP (pol 128) CC lo c128_0 a128_0 (x0 :: x1 :: zn 8 []) σ (finR PP Tryz.f128.results.toList)
theorem F128_eq (G : GuardT) (lo : Nat) (x0 x1 : DV) (σ : Store) : F128 G lo x0 x1 σ =
 (unOp .not x0).bind fun x6 =>
 G _ x6 false (some (x1, σ)) σ fun x8 σ1 =>
 (pickV x6 (DV.p (PV.bool true)) x8).bind fun x9 =>
 some (x9, σ1) := by kernel_rfl
theorem F128_call {lo : Nat} {x0 x1 : DV} (h : F128 guardT lo x0 x1 σ = some r) : CC lo 128 [x0, x1] σ = some r :=
 callL_run Tryz.func128 (by decide +kernel) rfl (by decide +kernel) h
def c93_0 : Code := bodyOf Tryz.f93
def a93_0 : Ann := (pol 93).ann
def F93 (x0 x1 : DV) (σ : Store) : RS :=
 codeF G PP (pol 93) CC lo c93_0 a93_0 (x0 :: x1 :: zn 12 []) σ (finR PP Tryz.f93.results.toList)
theorem F93_eq (G : GuardT) (lo : Nat) (x0 x1 : DV) (σ : Store) : F93 G lo x0 x1 σ =
 (boxP x0).bind fun x2 =>
 (fieldAddr PP 135 x2 0).bind fun x6 =>
 (load PP 3 x6 σ).bind fun x7 =>
 (binOp PP .sub 3 x7 I1).bind fun x8 =>
 (binOp PP .eql 3 x1 x8).bind fun x9 =>
 condK x9
 (
 (fieldAddr PP 135 x2 1).bind fun x10 =>
 (load PP 3 x10 σ).bind fun x11 =>
 some (x11, σ)
 )
 (
 (binOp PP .add 3 x1 I1).bind fun x13 =>
 some (x13, σ)
 ) := by kernel_rfl
theorem F93_call {lo : Nat} {x0 x1 : DV} (h : F93 guardT lo x0 x1 σ = some r) : CC lo 93 [x0, x1] σ = some r :=
 callL_run Tryz.func93 (by decide +kernel) rfl (by decide +kernel) h
def c131_0 : Code := bodyOf Tryz.f131
def a131_0 : Ann := (pol 131).ann
def a131_7 : Ann := right (left (right (right a131_0)))
def a131_8 : Ann := left a131_7
def c131_9 : Code := fstC (fstC (sndC (fstC (sndC (sndC c131_0)))))
def a131_16 : Ann := left (right (right (left a131_8)))
def a131_19 : Ann := right (left a131_16)
def a131_20 : Ann := left a131_19
def c131_21 : Code := fstC (fstC (sndC (fstC (fstC (sndC (sndC c131_9))))))
def c131_31 : Code := sndC (sndC (sndC c131_9))
def a131_31 : Ann := right (right (right (left a131_8)))
def c131_32 : Code := sndC (sndC (sndC c131_0))
def a131_32 : Ann := right (right (right a131_0))
def f131_L0 (x1 x3 x7 x11 : DV) (σ : Store) : RS :=
 codeF G PP (pol 131) CC lo (.loop c131_9) a131_8 (Z :: x1 :: Z :: x3 :: Z :: Z :: Z :: x7 :: Z :: Z :: Z :: x11 :: zn 31 []) σ
 (blockC 0 a131_7 (seqC G PP (pol 131) CC lo c131_32 a131_32 (finR PP Tryz.f131.results.toList)))
def f131_L1 (x1 x3 x7 x8 x11 : DV) (σ : Store) : RS :=
 codeF G PP (pol 131) CC lo (.loop c131_21) a131_20 (Z :: x1 :: Z :: x3 :: Z :: Z :: Z :: x7 :: x8 :: Z :: Z :: x11 :: zn 31 []) σ
 (blockC 2 a131_19 (blockC 1 a131_16 (seqC G PP (pol 131) CC lo c131_31 a131_31 (loopC G PP (pol 131) CC lo c131_9 a131_8 (blockC 0 a131_7 (seqC G PP (pol 131) CC lo c131_32 a131_32 (finR PP Tryz.f131.results.toList)))))))
def F131 (x0 x1 x2 : DV) (σ : Store) : RS :=
 codeF G PP (pol 131) CC lo c131_0 a131_0 (x0 :: x1 :: x2 :: zn 40 []) σ (finR PP Tryz.f131.results.toList)
theorem f131_L0_eq (G : GuardT) (hG : GuardOk G) (lo : Nat) (x1 x3 x7 x11 : DV) (σ : Store) : f131_L0 G lo x1 x3 x7 x11 σ =
 (binOp PP .lss 3 x11 (DV.p (PV.int IntKind.i64 (2)))).bind fun x12 =>
 condK x12
 (
 (fieldAddr PP 135 x3 0).bind fun x13 =>
 (load PP 3 x13 σ).bind fun x14 =>
 (binOp PP .sub 3 x14 I1).bind fun x15 =>
 f131_L1 G lo x1 x3 x7 x15 x11 σ
 )
 (
 some (x7, σ)
 ) := (loopF_eq G hG).trans (by kernel_rfl)
theorem f131_L1_eq (G : GuardT) (hG : GuardOk G) (lo : Nat) (x1 x3 x7 x8 x11 : DV) (σ : Store) : f131_L1 G lo x1 x3 x7 x8 x11 σ =
 (binOp PP .geq 3 x8 I0).bind fun x17 =>
 condK x17
 (
 (indexAddr PP 34 x7 x8).bind fun x24 =>
 (load PP 4 x24 σ).bind fun x25 =>
 G _ x25 false (some (x1, σ)) σ fun x27 σ2 =>
 G _ x25 false (some (x8, σ2)) σ2 fun x28 σ3 =>
 G _ x25 false ((indexAddr PP 34 x27 x28).bind fun v => some (v, σ3)) σ3 fun x29 σ4 =>
 G _ x25 false ((load PP 4 x29 σ4).bind fun v => some (v, σ4)) σ4 fun x30 σ5 =>
 G _ x25 false (some (x30, σ5)) σ5 fun x31 σ6 =>
 G _ x31 true (some (x7, σ6)) σ6 fun x32 σ7 =>
 G _ x31 true ((load PP 135 x3 σ7).bind fun v => some (v, σ7)) σ7 fun x33 σ8 =>
 G _ x31 true (some (x8, σ8)) σ8 fun x34 σ9 =>
 G _ x31 true ((pureFn CC (DV.fn 93 []) [x33, x34] σ9).bind fun v => some (v, σ9)) σ9 fun x35 σ10 =>
 G _ x31 true ((indexAddr PP 34 x32 x35).bind fun v => some (v, σ10)) σ10 fun x36 σ11 =>
 G _ x31 true ((load PP 4 x36 σ11).bind fun v => some (v, σ11)) σ11 fun x37 σ12 =>
 G _ x25 false ((pickV x31 x37 (DV.p (PV.bool false))).bind fun v => some (v, σ12)) σ12 fun x38 σ13 =>
 (pickV x25 (DV.p (PV.bool true)) x38).bind fun x39 =>
 (indexAddr PP 34 x7 x8).bind fun x40 =>
 (store PP lo 4 x40 x39 σ13).bind fun σ14 =>
 (binOp PP .sub 3 x8 I1).bind fun x19 =>
 f131_L1 G lo x1 x3 x7 x19 x11 σ14
 )
 (
 (binOp PP .add 3 x11 I1).bind fun x41 =>
 f131_L0 G lo x1 x3 x7 x41 σ
 ) := (loopF_eq G hG).trans (by kernel_rfl)
theorem F131_eq (G : GuardT) (lo : Nat) (x0 x1 x2 : DV) (σ : Store) : F131 G lo x0 x1 x2 σ =
 (boxP x0).bind fun x3 =>
 (plainFn CC lo (DV.fn 71 []) [x2] σ).bind fun r10_1 =>
 f131_L0 G lo x1 x3 r10_1.1 I0 r10_1.2 := by kernel_rfl
theorem F131_call {lo : Nat} {x0 x1 x2 : DV} (h : F131 guardT lo x0 x1 x2 σ = some r) : CC lo 131 [x0, x1, x2] σ = some r :=
 callL_run Tryz.func131 (by decide +kernel) rfl (by decide +kernel) h
def c130_0 : Code := bodyOf Tryz.f130
def a130_0 : Ann := (pol 130).ann
def F130 (x0 x1 : DV) (σ : Store) : RS :=
 codeF G PP (pol 130) CC lo c130_0 a130_0 (x0 :: x1 :: zn 10 []) σ (finR PP Tryz.f130.results.toList)
theorem F130_eq (G : GuardT) (lo : Nat) (x0 x1 : DV) (σ : Store) : F130 G lo x0 x1 σ =
 (boxP x0).bind fun x2 =>
 (load PP 135 x2 σ).bind fun x5 =>
 (buildSlice PP none 34 1 [(0, (DV.p (PV.bool true)))] σ).bind fun r6_1 =>
 (fieldAddr PP 135 x2 0).bind fun x7 =>
 (load PP 3 x7 r6_1.2).bind fun x8 =>
 (pureFn CC (DV.fn 123 []) [r6_1.1, x8] r6_1.2).bind fun x9 =>
 (pureFn CC (DV.fn 131 []) [x5, x9, x1] r6_1.2).bind fun x11 =>
 some (x11, r6_1.2) := by kernel_rfl
theorem F130_call {lo : Nat} {x0 x1 : DV} (h : F130 guardT lo x0 x1 σ = some r) : CC lo 130 [x0, x1] σ = some r :=
 callL_run Tryz.func130 (by decide +kernel) rfl (by decide +kernel) h
def c129_0 : Code := bodyOf Tryz.f129
def a129_0 : Ann := (pol 129).ann
def F129 (x0 x1 : DV) (σ : Store) : RS :=
 codeF G PP (pol 129) CC lo c129_0 a129_0 (x0 :: x1 :: zn 8 []) σ (finR PP Tryz.f129.results.toList)
theorem F129_eq (G : GuardT) (lo : Nat) (x0 x1 : DV) (σ : Store) : F129 G lo x0 x1 σ =
 (boxP x0).bind fun x2 =>
 (load PP 135 x2 σ).bind fun x5 =>
 (pureFn CC (DV.fn 124 []) [x1] σ).bind fun x7 =>
 (pureFn CC (DV.fn 130 []) [x5, x7] σ).bind fun x8 =>
 (pureFn CC (DV.fn 124 []) [x8] σ).bind fun x9 =>
 some (x9, σ) := by kernel_rfl
theorem F129_call {lo : Nat} {x0 x1 : DV} (h : F129 guardT lo x0 x1 σ = some r) : CC lo 129 [x0, x1] σ = some r :=
 callL_run Tryz.func129 (by decide +kernel) rfl (by decide +kernel) h
def c72_0 : Code := bodyOf Tryz.f72
def a72_0 : Ann := (pol 72).ann
def a72_11 : Ann := right (left (right (right (right (right a72_0)))))
def a72_12 : Ann := left a72_11
def c72_13 : Code := fstC (fstC (sndC (fstC (sndC (sndC (sndC (sndC c72_0)))))))
def a72_20 : Ann := left (right (right (left a72_12)))
def c72_31 : Code := sndC (sndC (sndC (fstC (fstC (sndC (sndC c72_13))))))
def a72_31 : Ann := right (right (right (left a72_20)))
def a72_36 : Ann := right (left (right a72_31))
def a72_46 : Ann := right (left (right (right (right (left a72_36)))))
def a72_47 : Ann := left a72_46
def c72_48 : Code := fstC (fstC (sndC (fstC (sndC (sndC (sndC (fstC (sndC (fstC (sndC c72_31))))))))))
def c72_93 : Code := sndC (sndC c72_31)
def a72_93 : Ann := right (right a72_31)
def c72_94 : Code := sndC (sndC (sndC c72_13))
def a72_94 : Ann := right (right (right (left a72_12)))
def c72_95 : Code := sndC (sndC (sndC (sndC (sndC c72_0))))
def a72_95 : Ann := right (right (right (right (right a72_0))))
def f72_L0 (x5 x6 x7 x27 x28 x29 : DV) (σ : Store) : RS :=
 codeF G PP (pol 72) CC lo (.loop c72_13) a72_12 (zn 5 (x5 :: x6 :: x7 :: zn 19 (x27 :: x28 :: x29 :: zn 106 []))) σ
 (blockC 0 a72_11 (seqC G PP (pol 72) CC lo c72_95 a72_95 (finR PP Tryz.f72.results.toList)))
def f72_J0_fr (x5 x6 x7 x9 x10 x11 x27 x28 x29 x30 x31 x32 x33 x34 x35 x36 x37 x38 x39 x40 x41 x42 x43 x44 x45 x46 x47 x48 x49 x50 x51 x52 x53 x54 : DV) : Frame := (zn 5 (x5 :: x6 :: x7 :: Z :: x9 :: x10 :: x11 :: zn 15 (x27 :: x28 :: x29 :: x30 :: x31 :: x32 :: x33 :: x34 :: x35 :: x36 :: x37 :: x38 :: x39 :: x40 :: x41 :: x42 :: x43 :: x44 :: x45 :: x46 :: x47 :: x48 :: x49 :: x50 :: x51 :: x52 :: x53 :: x54 :: zn 81 [])))
def f72_J0 (x5 x6 x7 x9 x10 x11 x27 x28 x29 x30 x31 x32 x33 x34 x35 x36 x37 x38 x39 x40 x41 x42 x43 x44 x45 x46 x47 x48 x49 x50 x51 x52 x53 x54 : DV) (σ : Store) : RS :=
 (seqC G PP (pol 72) CC lo c72_31 a72_31 (blockC 1 a72_20 (seqC G PP (pol 72) CC lo c72_94 a72_94 (loopC G PP (pol 72) CC lo c72_13 a72_12 (blockC 0 a72_11 (seqC G PP (pol 72) CC lo c72_95 a72_95 (finR PP Tryz.f72.results.toList))))))) .normal (f72_J0_fr x5 x6 x7 x9 x10 x11 x27 x28 x29 x30 x31 x32 x33 x34 x35 x36 x37 x38 x39 x40 x41 x42 x43 x44 x45 x46 x47 x48 x49 x50 x51 x52 x53 x54) σ
def f72_L1 (x5 x6 x7 x9 x12 x27 x28 x29 x65 x66 x67 : DV) (σ : Store) : RS :=
 codeF G PP (pol 72) CC lo (.loop c72_48) a72_47 (zn 5 (x5 :: x6 :: x7 :: Z :: x9 :: Z :: Z :: x12 :: zn 14 (x27 :: x28 :: x29 :: zn 35 (x65 :: x66 :: x67 :: zn 68 [])))) σ
 (blockC 3 a72_46 (blockC 2 a72_36 (seqC G PP (pol 72) CC lo c72_93 a72_93 (blockC 1 a72_20 (seqC G PP (pol 72) CC lo c72_94 a72_94 (loopC G PP (pol 72) CC lo c72_13 a72_12 (blockC 0 a72_11 (seqC G PP (pol 72) CC lo c72_95 a72_95 (finR PP Tryz.f72.results.toList)))))))))
def F72 (x0 x1 : DV) (σ : Store) : RS :=
 codeF G PP (pol 72) CC lo c72_0 a72_0 (x0 :: x1 :: zn 134 []) σ (finR PP Tryz.f72.results.toList)
theorem f72_L0_eq (G : GuardT) (hG : GuardOk G) (lo : Nat) (x5 x6 x7 x27 x28 x29 : DV) (σ : Store) : f72_L0 G lo x5 x6 x7 x27 x28 x29 σ =
 (binOp PP .lss 3 x29 x28).bind fun x30 =>
 condK x30
 (
 (indexAddr PP 23 x27 x29).bind fun x31 =>
 (load PP 67 x31 σ).bind fun x32 =>
 (zeroOf PP 67).bind fun z9 =>
 (store PP lo 67 (DV.ptr (List.length σ) 0) x32 (σ ++ [Row.mix z9])).bind fun σ3 =>
 (fieldAddr PP 67 (DV.ptr (List.length σ) 0) 2).bind fun x33 =>
 (load PP 24 x33 σ3).bind fun x34 =>
 (len PP 24 x34 σ3).bind fun x35 =>
 (binOp PP .gtr 3 x35 I0).bind fun x36 =>
 condK x36
 (
 (fieldAddr PP 67 (DV.ptr (List.length σ) 0) 2).bind fun x38 =>
 (load PP 24 x38 σ3).bind fun x39 =>
 (indexAddr PP 24 x39 I0).bind fun x40 =>
 (load PP 3 x40 σ3).bind fun x41 =>
 (indexAddr PP 162 x7 x41).bind fun x42 =>
 (load PP 34 x42 σ3).bind fun x43 =>
 (fieldAddr PP 67 (DV.ptr (List.length σ) 0) 2).bind fun x45 =>
 (load PP 24 x45 σ3).bind fun x46 =>
 (fieldAddr PP 67 (DV.ptr (List.length σ) 0) 2).bind fun x47 =>
 (load PP 24 x47 σ3).bind fun x48 =>
 (len PP 24 x48 σ3).bind fun x49 =>
 (binOp PP .sub 3 x49 I1).bind fun x50 =>
 (indexAddr PP 24 x46 x50).bind fun x51 =>
 (load PP 3 x51 σ3).bind fun x52 =>
 (indexAddr PP 162 x7 x52).bind fun x53 =>
 (load PP 34 x53 σ3).bind fun x54 =>
 f72_J0 G lo x5 x6 x7 (DV.ptr (List.length σ) 0) x43 x54 x27 x28 x29 x30 x31 x32 x33 x34 x35 x36 x7 x38 x39 x40 x41 x42 x43 x7 x45 x46 x47 x48 x49 x50 x51 x52 x53 x54 σ3
 )
 (
 f72_J0 G lo x5 x6 x7 (DV.ptr (List.length σ) 0) (DV.p PV.nilsl) (DV.p PV.nilsl) x27 x28 x29 x30 x31 x32 x33 x34 x35 x36 Z Z Z Z Z Z Z Z Z Z Z Z Z Z Z Z Z Z σ3
 )
 )
 (
 (len PP 162 x7 σ).bind fun x132 =>
 (binOp PP .sub 3 x132 I1).bind fun x133 =>
 (indexAddr PP 162 x7 x133).bind fun x134 =>
 (load PP 34 x134 σ).bind fun x135 =>
 some (x135, σ)
 ) := (loopF_eq G hG).trans (by kernel_rfl)
theorem f72_J0_eq (G : GuardT) (lo : Nat) (x5 x6 x7 x9 x10 x11 x27 x28 x29 x30 x31 x32 x33 x34 x35 x36 x37 x38 x39 x40 x41 x42 x43 x44 x45 x46 x47 x48 x49 x50 x51 x52 x53 x54 : DV) (σ : Store) : f72_J0 G lo x5 x6 x7 x9 x10 x11 x27 x28 x29 x30 x31 x32 x33 x34 x35 x36 x37 x38 x39 x40 x41 x42 x43 x44 x45 x46 x47 x48 x49 x50 x51 x52 x53 x54 σ =
 (fieldAddr PP 67 x9 0).bind fun x55 =>
 (load PP 3 x55 σ).bind fun x56 =>
 (binOp PP .eql 3 x56 I0).bind fun x58 =>
 condK x58
 (
 (buildSlice PP none 34 1 [(0, (DV.p (PV.bool true)))] σ).bind fun r59_4 =>
 (fieldAddr PP 135 x6 0).bind fun x60 =>
 (load PP 3 x60 r59_4.2).bind fun x61 =>
 (pureFn CC (DV.fn 123 []) [r59_4.1, x61] r59_4.2).bind fun x62 =>
 (buildSlice PP none 162 1 [(0, x62)] r59_4.2).bind fun r127_5 =>
 (append PP lo false 162 162 x7 r127_5.1 r127_5.2).bind fun r128_6 =>
 (binOp PP .add 3 x29 I1).bind fun x129 =>
 f72_L0 G lo x5 x6 r128_6.1 x27 x28 x129 r128_6.2
 )
 (
 (binOp PP .eql 3 x56 I1).bind fun x64 =>
 condK x64
 (
 (len PP 24 x5 σ).bind fun x66 =>
 f72_L1 G lo x5 x6 x7 x9 (DV.p PV.nilsl) x27 x28 x29 x5 x66 I0 σ
 )
 (
 (binOp PP .eql 3 x56 (DV.p (PV.int IntKind.i64 (2)))).bind fun x82 =>
 condK x82
 (
 (pureFn CC (DV.fn 124 []) [x10] σ).bind fun x84 =>
 (buildSlice PP none 162 1 [(0, x84)] σ).bind fun r127_11 =>
 (append PP lo false 162 162 x7 r127_11.1 r127_11.2).bind fun r128_12 =>
 (binOp PP .add 3 x29 I1).bind fun x129 =>
 f72_L0 G lo x5 x6 r128_12.1 x27 x28 x129 r128_12.2
 )
 (
 (binOp PP .eql 3 x56 (DV.p (PV.int IntKind.i64 (3)))).bind fun x86 =>
 condK x86
 (
 (pureFn CC (DV.fn 125 []) [x10, x11, (DV.fn 126 [])] σ).bind fun x89 =>
 (buildSlice PP none 162 1 [(0, x89)] σ).bind fun r127_13 =>
 (append PP lo false 162 162 x7 r127_13.1 r127_13.2).bind fun r128_14 =>
 (binOp PP .add 3 x29 I1).bind fun x129 =>
 f72_L0 G lo x5 x6 r128_14.1 x27 x28 x129 r128_14.2
 )
 (
 (binOp PP .eql 3 x56 (DV.p (PV.int IntKind.i64 (4)))).bind fun x91 =>
 condK x91
 (
 (pureFn CC (DV.fn 125 []) [x10, x11, (DV.fn 127 [])] σ).bind fun x94 =>
 (buildSlice PP none 162 1 [(0, x94)] σ).bind fun r127_15 =>
 (append PP lo false 162 162 x7 r127_15.1 r127_15.2).bind fun r128_16 =>
 (binOp PP .add 3 x29 I1).bind fun x129 =>
 f72_L0 G lo x5 x6 r128_16.1 x27 x28 x129 r128_16.2
 )
 (
 (binOp PP .eql 3 x56 (DV.p (PV.int IntKind.i64 (5)))).bind fun x96 =>
 condK x96
 (
 (pureFn CC (DV.fn 125 []) [x10, x11, (DV.fn 128 [])] σ).bind fun x99 =>
 (buildSlice PP none 162 1 [(0, x99)] σ).bind fun r127_17 =>
 (append PP lo false 162 162 x7 r127_17.1 r127_17.2).bind fun r128_18 =>
 (binOp PP .add 3 x29 I1).bind fun x129 =>
 f72_L0 G lo x5 x6 r128_18.1 x27 x28 x129 r128_18.2
 )
 (
 (binOp PP .eql 3 x56 (DV.p (PV.int IntKind.i64 (6)))).bind fun x101 =>
 condK x101
 (
 (load PP 135 x6 σ).bind fun x102 =>
 (pureFn CC (DV.fn 129 []) [x102, x10] σ).bind fun x104 =>
 (buildSlice PP none 162 1 [(0, x104)] σ).bind fun r127_19 =>
 (append PP lo false 162 162 x7 r127_19.1 r127_19.2).bind fun r128_20 =>
 (binOp PP .add 3 x29 I1).bind fun x129 =>
 f72_L0 G lo x5 x6 r128_20.1 x27 x28 x129 r128_20.2
 )
 (
 (binOp PP .eql 3 x56 (DV.p (PV.int IntKind.i64 (7)))).bind fun x106 =>
 condK x106
 (
 (load PP 135 x6 σ).bind fun x107 =>
 (pureFn CC (DV.fn 130 []) [x107, x10] σ).bind fun x109 =>
 (buildSlice PP none 162 1 [(0, x109)] σ).bind fun r127_21 =>
 (append PP lo false 162 162 x7 r127_21.1 r127_21.2).bind fun r128_22 =>
 (binOp PP .add 3 x29 I1).bind fun x129 =>
 f72_L0 G lo x5 x6 r128_22.1 x27 x28 x129 r128_22.2
 )
 (
 (binOp PP .eql 3 x56 (DV.p (PV.int IntKind.i64 (8)))).bind fun x111 =>
 condK x111
 (
 (load PP 135 x6 σ).bind fun x112 =>
 (load PP 135 x6 σ).bind fun x114 =>
 (pureFn CC (DV.fn 130 []) [x114, x11] σ).bind fun x116 =>
 (pureFn CC (DV.fn 125 []) [x10, x116, (DV.fn 128 [])] σ).bind fun x117 =>
 (pureFn CC (DV.fn 129 []) [x112, x117] σ).bind fun x118 =>
 (buildSlice PP none 162 1 [(0, x118)] σ).bind fun r127_23 =>
 (append PP lo false 162 162 x7 r127_23.1 r127_23.2).bind fun r128_24 =>
 (binOp PP .add 3 x29 I1).bind fun x129 =>
 f72_L0 G lo x5 x6 r128_24.1 x27 x28 x129 r128_24.2
 )
 (
 (binOp PP .eql 3 x56 (DV.p (PV.int IntKind.i64 (9)))).bind fun x120 =>
 condK x120
 (
 (load PP 135 x6 σ).bind fun x121 =>
 (pureFn CC (DV.fn 131 []) [x121, x10, x11] σ).bind fun x124 =>
 (buildSlice PP none 162 1 [(0, x124)] σ).bind fun r127_25 =>
 (append PP lo false 162 162 x7 r127_25.1 r127_25.2).bind fun r128_26 =>
 (binOp PP .add 3 x29 I1).bind fun x129 =>
 f72_L0 G lo x5 x6 r128_26.1 x27 x28 x129 r128_26.2
 )
 (
 (buildSlice PP none 162 1 [(0, (DV.p PV.nilsl))] σ).bind fun r127_27 =>
 (append PP lo false 162 162 x7 r127_27.1 r127_27.2).bind fun r128_28 =>
 (binOp PP .add 3 x29 I1).bind fun x129 =>
 f72_L0 G lo x5 x6 r128_28.1 x27 x28 x129 r128_28.2
 )
 )
 )
 )
 )
 )
 )
 )
 )
 ) := by kernel_rfl
theorem f72_L1_eq (G : GuardT) (hG : GuardOk G) (lo : Nat) (x5 x6 x7 x9 x12 x27 x28 x29 x65 x66 x67 : DV) (σ : Store) : f72_L1 G lo x5 x6 x7 x9 x12 x27 x28 x29 x65 x66 x67 σ =
 (binOp PP .lss 3 x67 x66).bind fun x68 =>
 condK x68
 (
 (indexAddr PP 24 x65 x67).bind fun x69 =>
 (load PP 3 x69 σ).bind fun x70 =>
 (fieldAddr PP 67 x9 1).bind fun x73 =>
 (load PP 3 x73 σ).bind fun x74 =>
 (binOp PP .shr 3 x70 x74).bind fun x75 =>
 (binOp PP .and 3 x75 I1).bind fun x76 =>
 (binOp PP .eql 3 x76 I1).bind fun x77 =>
 (buildSlice PP none 34 1 [(0, x77)] σ).bind fun r78_7 =>
 (append PP lo false 34 34 x12 r78_7.1 r78_7.2).bind fun r79_8 =>
 (binOp PP .add 3 x67 I1).bind fun x80 =>
 f72_L1 G lo x5 x6 x7 x9 r79_8.1 x27 x28 x29 x65 x66 x80 r79_8.2
 )
 (
 (buildSlice PP none 162 1 [(0, x12)] σ).bind fun r127_9 =>
 (append PP lo false 162 162 x7 r127_9.1 r127_9.2).bind fun r128_10 =>
 (binOp PP .add 3 x29 I1).bind fun x129 =>
 f72_L0 G lo x5 x6 r128_10.1 x27 x28 x129 r128_10.2
 ) := (loopF_eq G hG).trans (by kernel_rfl)
theorem F72_eq (G : GuardT) (lo : Nat) (x0 x1 : DV) (σ : Store) : F72 G lo x0 x1 σ =
 (boxP x1).bind fun x3 =>
 (fieldAddr PP 26 x3 0).bind fun x15 =>
 (load PP 24 x15 σ).bind fun x16 =>
 (fieldAddr PP 26 x3 1).bind fun x17 =>
 (load PP 24 x17 σ).bind fun x18 =>
 (buildSlice PP none 130 2 [(0, x16), (1, x18)] σ).bind fun r19_1 =>
 (pureFn CC (DV.fn 84 []) [r19_1.1] r19_1.2).bind fun x20 =>
 (len PP 24 x20 r19_1.2).bind fun x22 =>
 (fieldAddr PP 26 x3 0).bind fun x23 =>
 (load PP 24 x23 r19_1.2).bind fun x24 =>
 (len PP 24 x24 r19_1.2).bind fun x25 =>
 (build PP 135 [(0, x22), (1, x25)]).bind fun x26 =>
 (zeroOf PP 135).bind fun z6 =>
 (store PP lo 135 (DV.ptr (List.length r19_1.2) 0) x26 (r19_1.2 ++ [Row.mix z6])).bind fun σ2 =>
 (len PP 23 x0 σ2).bind fun x28 =>
 f72_L0 G lo x20 (DV.ptr (List.length r19_1.2) 0) (DV.p PV.nilsl) x0 x28 I0 σ2 := by kernel_rfl
theorem F72_call {lo : Nat} {x0 x1 : DV} (h : F72 guardT lo x0 x1 σ = some r) : CC lo 72 [x0, x1] σ = some r :=
 callL_run Tryz.func72 (by decide +kernel) rfl (by decide +kernel) h
end
end Go.D
end
/- Chapter 13: the errors of formulas in the program; copies of formulas. -/
section
set_option linter.unusedVariables false
set_option linter.unusedSimpArgs false
set_option maxRecDepth 4000
namespace Go.D
open Las
theorem st3 {σ : Store} {t lo : Nat} {z : DV} {v : Int} (h : σ[t]? = some (.mix [z])) (hlo : lo ≤ t) : store PP lo 3 (.ptr t 0) (.p (.int .i64 v)) σ = some (σ.set t (.mix [.p (.int .i64 v)])) := by
  have e : splice [z] 0 [DV.p (.int .i64 v)] = [.p (.int .i64 v)] := rfl
  simp [store, s3, DV.cells, storeN, h, e, DV.one, hlo]
theorem st24 {σ : Store} {t lo : Nat} {z x : DV} {l : List Int} (hx : PL x l) (h : σ[t]? = some (.mix [z])) (hlo : lo ≤ t) : store PP lo 24 (.ptr t 0) x σ = some (σ.set t (.mix [x])) := by
  have e : splice [z] 0 [x] = [x] := rfl
  simp [store, s24, hx.one.2, hx.one.1, storeN, h, e, hlo]
theorem new3 {σ : Store} {lo : Nat} {z : DV} {v : Int} (hlo : lo ≤ σ.length) : store PP lo 3 (.ptr σ.length 0) (.p (.int .i64 v)) (σ ++ [.mix [z]]) = some (σ ++ [.mix [.p (.int .i64 v)]]) := by
  rw [st3 (z := z) get_snoc hlo]; simp
theorem S98 (o : OI) (σ : Store) : pureV CC 98 [.p (eSl o)] σ = some (.fn 143 [.pptr [eSl o] 0]) := by
  refine pureV_free (by simp [sl_view]) rfl (F98_call (r := (.fn 143 [.pptr [eSl o] 0], [])) ?_) ?_
  · rw [F98_eq]; rfl
  · simp [thawAll, thawPart, thaw, thaw1, mapO, loosen_sl, loosens]
theorem f44_X0_exit (G : GuardT) (lo : Nat) (x0 x2 x3 x5 x6 x7 x8 x27 x28 x29 x30 x31 x32 x33 x34 x35 x36 x37 x39 x40 x41 x42 : DV) (σ : Store) : f44_X0 G lo (.exit 2) x0 x2 x3 x5 x6 x7 x8 x27 x28 x29 x30 x31 x32 x33 x34 x35 x36 x37 x39 x40 x41 x42 σ =
 f44_J0 G lo x0 x2 x3 x5 x6 x7 x8 x27 x28 x29 σ := by kernel_rfl
theorem down_all : ∀ (cells : List PV) (k : Nat), (downFrom false 1 cells k).all (fun x => x.length == 2) = true
  | _, 0 => rfl
  | cells, k + 1 => by simp [downFrom, down_all cells k]
theorem elem_int {l : List Int} {k : Nat} (hk : k < l.length) : elemOf false 1 (eInts l) k = .p (.int .i64 (l.getD k 0)) := by
  have hx : (eInts l)[k]? = some (pI l[k]) := by simp [eInts, hk]
  have hy : l.getD k 0 = l[k] := by rw [List.getD_eq_getElem?_getD, List.getElem?_eq_getElem hk]; rfl
  rw [hy]
  simp [elemOf, hx]
def Kept (t : Nat) (σ σ' : Store) : Prop := σ'.length = σ.length ∧ ∀ j, j ≠ t → σ'[j]? = σ[j]?
section
variable {us B : List Int} {y : DV} {t i : Nat} (hB : PL y B) (ht : 0 < t) (hi : i ≤ 1000) (hBl : B.length = i) (hb2 : ∀ j, j < i → B.getD j 0 ≤ i ∧ 0 ≤ B.getD j 0)
variable {x0 x2 x3 x6 x7 x27 x28 x29 x30 x31 x32 x33 x34 x35 x36 x37 x39 x40 x41 x42 : DV}
include hB ht hi hBl hb2
theorem rounds44 {K : Ex → Store → Option (DV × Store)} : ∀ (k : Nat) (b : Int) (σ : Store), k ≤ us.length → 0 ≤ b → b ≤ i → σ[t]? = some (.mix [.p (.int .i64 b)]) → σ[0]? = some (.mix [y]) →
    ∃ ex σ', (ex = .normal ∨ ex = .exit 2) ∧ roundsK (fun xs ρ K' => f44_R0 guardT 0 x0 x2 x3 (.ptr 0 0) x6 x7 (.ptr t 0) x27 x28 x29 x30 x31 x32 x33 x34 x35 x36 x37 x39 x40 x41 x42 xs ρ K') (downFrom false 1 (eInts us) k) σ K = K ex σ' ∧
      σ'[t]? = some (.mix [.p (.int .i64 (bgB B us b k))]) ∧ Kept t σ σ'
  | 0, b, σ, hk, hb, hbi, g, g0 => ⟨.normal, σ, .inl rfl, rfl, g, rfl, fun _ _ => rfl⟩
  | k + 1, b, σ, hk, hb, hbi, g, g0 => by
    have hl : load1 (.ptr t 0) σ = some (.p (.int .i64 b)) := load1_ptr g rfl
    have hl0 : load1 (.ptr 0 0) σ = some y := load1_ptr g0 rfl
    have he := elem_int (l := us) (k := k) (by omega)
    unfold bgB
    by_cases c1 : us.getD k 0 = b - 1
    · by_cases c2 : us.getD k 0 < 0
      · rw [if_neg (fun h => h.2 c2)]
        refine ⟨.exit 2, σ.set t (.mix [.p (.int .i64 (-1))]), .inr rfl, ?_, by rw [List.getElem?_set_self (get_lt g)], by simp, fun j hj => List.getElem?_set_ne (fun e => hj e.symm)⟩
        simp only [downFrom, roundsK, he]
        rw [f44_R0_eq]
        simp (disch := omega) only [load3, hl, gG, subJ, b_neq, eqT c1, b_lss, ltT c2, st3 g (Nat.zero_le _)]
      · rw [if_pos ⟨c1, c2⟩]
        have hlt : (us.getD k 0).toNat < i := by omega
        have e1 : us.getD k 0 = ((us.getD k 0).toNat : Int) := by omega
        have i1 := hB.idx (i := (us.getD k 0).toNat) (by omega)
        have l1 := load1_getD (l := B) (i := (us.getD k 0).toNat) (by omega) σ
        rw [← e1] at i1
        obtain ⟨hb3, hb4⟩ := hb2 _ hlt
        generalize hv : B.getD (us.getD k 0).toNat 0 = v at *
        obtain ⟨ex, σ', r1, r2, r3, r4⟩ := rounds44 (K := K) k v (σ.set t (.mix [.p (.int .i64 v)])) (by omega) hb4 hb3 (by rw [List.getElem?_set_self (get_lt g)]) (by rw [List.getElem?_set_ne (by omega)]; exact g0)
        refine ⟨ex, σ', r1, ?_, r3, by rw [r4.1]; simp, fun j hj => by rw [r4.2 j hj, List.getElem?_set_ne (fun e => hj e.symm)]⟩
        rw [← r2]
        simp only [downFrom, roundsK, he]
        rw [f44_R0_eq]
        simp (disch := omega) only [load3, hl, gG, subJ, b_neq, eqT c1, b_lss, ltF c2, load24, hl0, i1, l1, st3 g (Nat.zero_le _)]
    · rw [if_neg (fun h => c1 h.1)]
      refine ⟨.exit 2, σ.set t (.mix [.p (.int .i64 (-1))]), .inr rfl, ?_, by rw [List.getElem?_set_self (get_lt g)], by simp, fun j hj => List.getElem?_set_ne (fun e => hj e.symm)⟩
      simp only [downFrom, roundsK, he]
      rw [f44_R0_eq]
      simp (disch := omega) only [load3, hl, gG, subJ, b_neq, eqF c1, st3 g (Nat.zero_le _)]
theorem range44 {o : OI} (ho : L o = us) (hu : us.length ≤ 1000) {σ : Store} (g : σ[t]? = some (.mix [.p (.int .i64 (i : Nat))])) (g0 : σ[0]? = some (.mix [y])) {K : Ex → Store → Option (DV × Store)} :
    ∃ ex σ', (ex = .normal ∨ ex = .exit 2) ∧ rangeK (pol 44) (.fn 143 [.pptr [eSl o] 0]) 2 true true (fun xs ρ K' => f44_R0 guardT 0 x0 x2 x3 (.ptr 0 0) x6 x7 (.ptr t 0) x27 x28 x29 x30 x31 x32 x33 x34 x35 x36 x37 x39 x40 x41 x42 xs ρ K') σ K = K ex σ' ∧
      σ'[t]? = some (.mix [.p (.int .i64 (bgB B us i us.length))]) ∧ Kept t σ σ' := by
  have hseq : ((pol 44).seq 143).bind (fun kind => seqList kind [.pptr [eSl o] 0]) = some (downFrom false 1 (eInts us) us.length) := by
    show seqList (.backward false 1) [.pptr [eSl o] 0] = _
    cases o with
    | none =>
      have : us = [] := ho.symm
      subst this
      rfl
    | some l =>
      have : l = us := ho
      subst this
      have h2 : l.length ≤ 140737488355328 := by omega
      simp [seqList, eSl, ints_length, h2]
  obtain ⟨ex, σ', r1, r2, r3⟩ := rounds44 hB ht hi hBl hb2 (K := K) us.length i σ (Nat.le_refl _) (by omega) (Int.le_refl _) g g0
  refine ⟨ex, σ', r1, ?_, r3⟩
  simp only [rangeK, hseq, down_all, Bool.and_self, if_true]
  exact r2
end
theorem Out.keep {σ σ' : Store} {lo sz n : Nat} {cs : List PV} {x : DV} (ho : Out σ lo sz n cs x) (h : ∀ (r v : Nat), σ[r]? = some (.tok v) → σ'[r]? = some (.tok v)) : Out σ' lo sz n cs x := by
  refine ⟨ho.1, ?_⟩
  rcases ho.2 with h1 | ⟨h1, r, ver, h2, h3, h4⟩
  · exact .inl h1
  · exact .inr ⟨h1, r, ver, h2, h _ _ h3, h4⟩
theorem map_get (g : Nat → Int) {i j : Nat} (h : j < i) : ((List.range i).map g).getD j 0 = g j := by
  simp [List.getD_eq_getElem?_getD, h]
section
variable {x : Nd} {s i m : Nat} {b : Int} {y x0 x27 : DV} {B : List Int} {σ : Store} {R : Int × Int} (gs : σ[s]? = some (.mix (ndD x))) (gb : σ[s + 1]? = some (.mix [.p (.int .i64 b)])) (g0 : σ[0]? = some (.mix [y]))
variable (ho : Out σ 0 1 B.length (eInts B) y) (hBl : B.length ≤ 1000) (hi : i ≤ 1000)
variable (hn : 0 ≤ b → ∀ (y' : DV) (σ' : Store), σ'[0]? = some (.mix [y']) → Out σ' 0 1 (B ++ [b]).length (eInts (B ++ [b])) y' → ∃ σ'', f44_L0 guardT 0 x0 (.p (.int .i64 0)) (.p (.int .i64 0)) (.ptr 0 0) x27 (N m) (N (i + 1)) σ' = some (pr2 R, σ''))
include gs gb g0 ho hBl hi hn
theorem J44_1 (x57 x58 x59 x60 x61 x62 x63 x64 x65 x66 : DV) : ∃ σ'', f44_J1 guardT 0 x0 (.p (.int .i64 0)) (.p (.int .i64 0)) (.ptr 0 0) (N i) (.ptr s 0) (.ptr (s + 1) 0) (.p (.bool (bad x))) x27 (N m) (N i) x57 x58 x59 x60 x61 x62 x63 x64 x65 x66 σ =
    some (pr2 (if (((L x.a).length : Nat) : Int) = ar x.k ∧ 0 ≤ b then if bad x = true then (((i : Nat) : Int), (3 : Int)) else R else (((i : Nat) : Int), (6 : Int))), σ'') := by
  have hb : load1 (.ptr (s + 1) 0) σ = some (.p (.int .i64 b)) := load1_ptr gb rfl
  have hl0 : load1 (.ptr 0 0) σ = some y := load1_ptr g0 rfl
  have q2 : ∀ (a c : Int) (σ : Store), pureV CC 66 [.p (.sl true 2 [pI a, pI c])] σ = some (.p (.int .i64 (orL [a, c]))) := fun a c σ => S66 (ex := true) (l := [a, c]) (by simp) σ
  rw [f44_J1_eq]
  by_cases c1 : b < 0
  · rw [if_neg (fun h => by omega)]
    refine ⟨σ, ?_⟩
    have e : orL [wrg true 6, wrg (bad x) 3] = 6 := rfl
    simp (disch := omega) only [load3, hb, gG, b_lss, ltT c1, shift_ptr, shift_pptr, Nat.zero_add, Nat.add_zero, pureFn_fn, List.append_nil, List.singleton_append, List.cons_append, List.nil_append, S67, bs160_2, q2, e, b_neq, eqF (show ¬ (6 : Int) = 0 by decide), pr2, N]
  · by_cases c2 : (((L x.a).length : Nat) : Int) = ar x.k
    · rw [if_pos ⟨c2, by omega⟩]
      by_cases c3 : bad x = true
      · rw [if_pos c3, c3]
        refine ⟨σ, ?_⟩
        have e : orL [wrg false 6, wrg true 3] = 3 := rfl
        simp (disch := omega) only [load3, hb, gG, b_lss, ltF c1, fa67_0, fa67_2, shift_ptr, shift_pptr, Nat.zero_add, Nat.add_zero, pureFn_fn, List.append_nil, List.singleton_append, List.cons_append, List.nil_append, load24, row_a gs, (PL.sl _).len, row_k gs, S99, b_neq, eqT c2, S67, bs160_2, q2, e, eqF (show ¬ (3 : Int) = 0 by decide), pr2, N]
      · rw [if_neg c3, (Bool.not_eq_true _).mp c3]
        obtain ⟨y', σ', p1, p2, p3, p4⟩ := Out.pushI (v := b) ho (by omega) (Nat.zero_le _)
        have k0 := p3.mix ho g0 (fun v h => by cases h)
        have st := st24 (out_pl p2) k0 (Nat.zero_le 0)
        obtain ⟨σ'', r⟩ := hn (by omega) y' (σ'.set 0 (.mix [y'])) (by rw [List.getElem?_set_self (get_lt k0)]) (p2.keep fun r v hr => by
          rw [List.getElem?_set_ne]
          · exact hr
          · intro e; subst e; rw [k0] at hr; injection hr with hr; cases hr)
        refine ⟨σ'', ?_⟩
        rw [← r]
        have e : orL [wrg false 6, wrg false 3] = 0 := rfl
        simp (disch := omega) only [load3, hb, gG, b_lss, ltF c1, fa67_0, fa67_2, shift_ptr, shift_pptr, Nat.zero_add, Nat.add_zero, pureFn_fn, List.append_nil, List.singleton_append, List.cons_append, List.nil_append, load24, row_a gs, (PL.sl _).len, row_k gs, S99, b_neq, eqT c2, S67, bs160_2, q2, e, eqT (rfl : (0 : Int) = 0), hl0, bs24_1, p1, st, add1, N]
    · rw [if_neg (fun h => c2 h.1)]
      refine ⟨σ, ?_⟩
      have e : orL [wrg true 6, wrg (bad x) 3] = 6 := rfl
      simp (disch := omega) only [load3, hb, gG, b_lss, ltF c1, fa67_0, fa67_2, shift_ptr, shift_pptr, Nat.zero_add, Nat.add_zero, pureFn_fn, List.append_nil, List.singleton_append, List.cons_append, List.nil_append, load24, row_a gs, (PL.sl _).len, row_k gs, S99, b_neq, eqF c2, S67, bs160_2, q2, e, eqF (show ¬ (6 : Int) = 0 by decide), pr2, N]
theorem J44 : ∃ σ'', f44_J0 guardT 0 x0 (.p (.int .i64 0)) (.p (.int .i64 0)) (.ptr 0 0) (N i) (.ptr s 0) (.ptr (s + 1) 0) x27 (N m) (N i) σ =
    some (pr2 (if (((L x.a).length : Nat) : Int) = ar x.k ∧ 0 ≤ b then if bad x = true then (((i : Nat) : Int), (3 : Int)) else R else (((i : Nat) : Int), (6 : Int))), σ'') := by
  rw [f44_J0_eq]
  by_cases c : x.k = 1
  · have e : (.p (.bool (!inR x.n 0 11)) : DV) = .p (.bool (bad x)) := by unfold bad; rw [if_pos c]
    simp only [fa67_0, fa67_1, shift_ptr, shift_pptr, Nat.zero_add, Nat.add_zero, pureFn_fn, List.append_nil, List.singleton_append, List.cons_append, List.nil_append, gG, load3, row_n gs, row_k gs, b_neq, b_eql, eqT c, S65, e]
    exact J44_1 gs gb g0 ho hBl hi hn _ _ _ _ _ _ _ _ _ _
  · have e : (.p (.bool (!decide (x.n = 0))) : DV) = .p (.bool (bad x)) := by unfold bad; rw [if_neg c]
    simp only [fa67_0, fa67_1, shift_ptr, shift_pptr, Nat.zero_add, Nat.add_zero, pureFn_fn, List.append_nil, List.singleton_append, List.cons_append, List.nil_append, gG, load3, row_n gs, row_k gs, b_neq, b_eql, eqF c, e]
    exact J44_1 gs gb g0 ho hBl hi hn _ _ _ _ _ _ _ _ _ _
end
section
variable {f : Fm} (hf : FSm f) (h40 : (L f).length ≤ 40)
include hf h40
theorem L44 : ∀ (d i : Nat) (y : DV) (σ : Store), 0 < (L f).length → (L f).length - i = d → i ≤ (L f).length → σ[0]? = some (.mix [y]) → (∀ j, j < i → 0 ≤ fo (L f) j) →
    Out σ 0 1 ((List.range i).map (fo (L f))).length (eInts ((List.range i).map (fo (L f)))) y →
    ∃ σ', f44_L0 guardT 0 (.p (eFm f)) (.p (.int .i64 0)) (.p (.int .i64 0)) (.ptr 0 0) (.p (eFm f)) (N (L f).length) (N i) σ = some (pr2 (chkF (L f) d i), σ')
  | 0, i, y, σ, hp, hd, hi, g0, hB, ho => by
    have e : i = (L f).length := by omega
    subst e
    have hy := out_pl ho
    have i1 := hy.idx (i := (L f).length - 1) (by simp; omega)
    have l1 := load1_getD (l := (List.range (L f).length).map (fo (L f))) (i := (L f).length - 1) (by simp; omega) σ
    rw [map_get _ (by omega)] at l1
    have hl0 : load1 (.ptr 0 0) σ = some y := load1_ptr g0 rfl
    refine ⟨σ, ?_⟩
    rw [f44_L0_eq guardT rfl]
    unfold chkF pr2
    by_cases c : fo (L f) ((L f).length - 1) = 0
    · rw [if_pos c]
      simp (disch := omega) only [N, len23, gG, b_lss, ltF, sub1, load24, hl0, i1, load3, l1, b_neq, eqT c]
    · rw [if_neg c]
      simp (disch := omega) only [N, len23, gG, b_lss, ltF, sub1, load24, hl0, i1, load3, l1, b_neq, eqF c]
  | d + 1, i, y, σ, hp, hd, hi, g0, hB, ho => by
    have hlt : i < (L f).length := by omega
    have h3 := hf.2 i
    have ha : L ((L f).getD i default).a = nA (L f) i := rfl
    have hnd := nd_all hlt
    rw [nd_case]
    generalize hx : (L f).getD i default = x at *
    have g : (σ ++ [Row.mix (ndD x)])[σ.length]? = some (.mix (ndD x)) := get_snoc
    have st := st67 (σ := σ) (lo := 0) (z := [.p (pI 0), .p (pI 0), .p .nilsl]) x rfl (Nat.zero_le _)
    have hs0 := get_lt g0
    by_cases c1 : inR x.k 0 9 = true
    · rw [if_pos c1]
      have st' := new3 (σ := σ ++ [Row.mix (ndD x)]) (lo := 0) (z := .p (pI 0)) (v := (i : Nat)) (Nat.zero_le _)
      have hlen : (σ ++ [Row.mix (ndD x)]).length = σ.length + 1 := by simp
      rw [hlen] at st'
      have gt : ((σ ++ [Row.mix (ndD x)]) ++ [Row.mix [.p (.int .i64 (i : Nat))]])[σ.length + 1]? = some (.mix [.p (.int .i64 (i : Nat))]) := by
        rw [← hlen]; exact get_snoc
      have g2 : ((σ ++ [Row.mix (ndD x)]) ++ [Row.mix [.p (.int .i64 (i : Nat))]])[σ.length]? = some (.mix (ndD x)) := get_old g
      have g02 : ((σ ++ [Row.mix (ndD x)]) ++ [Row.mix [.p (.int .i64 (i : Nat))]])[0]? = some (.mix [y]) := get_old (get_old g0)
      have hB2 : ∀ j, j < i → ((List.range i).map (fo (L f))).getD j 0 = fo (L f) j ∧ 0 ≤ fo (L f) j := fun j hj => ⟨map_get _ hj, hB j hj⟩
      have hB3 : ∀ j, j < i → ((List.range i).map (fo (L f))).getD j 0 ≤ i ∧ 0 ≤ ((List.range i).map (fo (L f))).getD j 0 := fun j hj => by
        rw [map_get _ hj]
        have := fo_le (L f) j
        exact ⟨by omega, hB j hj⟩
      have hbg := bgB_eq (F := L f) (us := nA (L f) i) hB2 (nA (L f) i).length i (Int.le_refl _)
      obtain ⟨ex, σ4, hex, key, k1, k2⟩ := range44 (out_pl ho) (t := σ.length + 1) (by omega) (i := i) (by omega) (by simp) hB3 (x0 := .p (eFm f)) (x2 := .p (.int .i64 0)) (x3 := .p (.int .i64 0)) (x6 := N i) (x7 := .ptr σ.length 0) (x27 := .p (eFm f)) (x28 := N (L f).length) (x29 := N i) (x30 := .p (.bool true)) (x31 := N i) (x32 := .pptr (eNds (L f)) (i * 3)) (x33 := .agg (ndD x)) (x34 := .ptr σ.length 0) (x35 := .p (.int .i64 x.k)) (x36 := .p (.bool true)) (x37 := .p (.bool false)) (x39 := N i) (x40 := .ptr σ.length 2) (x41 := .p (eSl x.a)) (x42 := .fn 143 [.pptr [eSl x.a] 0]) (o := x.a) ha (by omega) gt g02
        (K := fun ex ρ => f44_X0 guardT 0 ex (.p (eFm f)) (.p (.int .i64 0)) (.p (.int .i64 0)) (.ptr 0 0) (N i) (.ptr σ.length 0) (.ptr (σ.length + 1) 0) (.p (eFm f)) (N (L f).length) (N i) (.p (.bool true)) (N i) (.pptr (eNds (L f)) (i * 3)) (.agg (ndD x)) (.ptr σ.length 0) (.p (.int .i64 x.k)) (.p (.bool true)) (.p (.bool false)) (N i) (.ptr σ.length 2) (.p (eSl x.a)) (.fn 143 [.pptr [eSl x.a] 0]) ρ)
      have key2 := key.trans (show _ = f44_J0 guardT 0 (.p (eFm f)) (.p (.int .i64 0)) (.p (.int .i64 0)) (.ptr 0 0) (N i) (.ptr σ.length 0) (.ptr (σ.length + 1) 0) (.p (eFm f)) (N (L f).length) (N i) σ4 from by
        rcases hex with rfl | rfl
        · exact f44_X0_normal guardT 0 _ _ _ _ _ _ _ _ _ _ _ _ _ _ _ _ _ _ _ _ _ _ σ4
        · exact f44_X0_exit guardT 0 _ _ _ _ _ _ _ _ _ _ _ _ _ _ _ _ _ _ _ _ _ _ σ4)
      have hst : stands (L f) i = decide (0 ≤ bgB ((List.range i).map (fo (L f))) (nA (L f) i) i (nA (L f) i).length) := by
        rw [hbg, stands]
        cases hq : stB (L f) (nA (L f) i) i (nA (L f) i).length with
        | none => rfl
        | some q =>
          have := stB_pos _ _ _ (by omega) hq
          simp [this]
      have hJ := J44 (x := x) (s := σ.length) (i := i) (m := (L f).length) (b := bgB ((List.range i).map (fo (L f))) (nA (L f) i) i (nA (L f) i).length) (y := y) (x0 := .p (eFm f)) (x27 := .p (eFm f)) (B := (List.range i).map (fo (L f))) (σ := σ4)
        (R := chkF (L f) d (i + 1)) (by rw [k2.2 _ (by omega)]; exact g2) k1 (by rw [k2.2 _ (by omega)]; exact g02)
        (ho.keep fun r v hr => by
          have hr' := get_old (row' := Row.mix [.p (.int .i64 (i : Nat))]) (get_old (row' := Row.mix (ndD x)) hr)
          rw [k2.2 r (by have := get_lt hr; omega)]; exact hr')
        (by simp; omega) (by omega) (fun h0 y' σ' q0 qo => by
          have hs1 : stands (L f) i = true := by rw [hst, decide_eq_true h0]
          have hfo : bgB ((List.range i).map (fo (L f))) (nA (L f) i) i (nA (L f) i).length = fo (L f) i := by
            rw [hbg]
            unfold stands at hs1
            obtain ⟨q, hq⟩ := Option.isSome_iff_exists.1 hs1
            rw [hq, stands_fo hq]; rfl
          have hm : (List.range i).map (fo (L f)) ++ [fo (L f) i] = (List.range (i + 1)).map (fo (L f)) := by rw [List.range_succ, List.map_append]; rfl
          rw [hfo, hm] at qo
          rw [hfo] at h0
          exact L44 d (i + 1) y' σ' hp (by omega) (by omega) q0 (fun j hj => by
            by_cases e : j = i
            · subst e; exact h0
            · exact hB j (by omega)) qo)
      obtain ⟨σ'', hJ⟩ := hJ
      refine ⟨σ'', ?_⟩
      have hiff : ((((nA (L f) i).length : Nat) : Int) = ar x.k ∧ stands (L f) i = true) ↔ ((((L x.a).length : Nat) : Int) = ar x.k ∧ 0 ≤ bgB ((List.range i).map (fo (L f))) (nA (L f) i) i (nA (L f) i).length) := by
        rw [ha, hst, decide_eq_true_iff]
      simp only [hiff]
      rw [← hJ, ← key2, f44_L0_eq guardT rfl]
      simp (disch := omega) only [N, gG, b_lss, ltT, idx23 hlt, load67, hnd, zero67, st, fa67_0, fa67_2, shift_ptr, shift_pptr, Nat.zero_add, Nat.add_zero, pureFn_fn, List.append_nil, List.singleton_append, List.cons_append, List.nil_append, load3, row_k g, S65, c1, zero3, st', hlen, load24, row_a g2, S98]
    · rw [if_neg c1]
      refine ⟨σ ++ [Row.mix (ndD x)], ?_⟩
      rw [f44_L0_eq guardT rfl]
      simp (disch := omega) only [N, gG, b_lss, ltT, idx23 hlt, load67, hnd, zero67, st, fa67_0, shift_ptr, shift_pptr, Nat.zero_add, Nat.add_zero, pureFn_fn, List.append_nil, List.singleton_append, List.cons_append, List.nil_append, load3, row_k g, S65, (Bool.not_eq_true _).mp c1, pr2]
omit h40 in
theorem S44 (σ : Store) : pureV CC 44 [.p (eFm f)] σ = some (pr2 (chk (L f))) := by
  have h1 := hf.1
  have q2 : ∀ (a c : Int) (σ : Store), pureV CC 66 [.p (.sl true 2 [pI a, pI c])] σ = some (.p (.int .i64 (orL [a, c]))) := fun a c σ => S66 (ex := true) (l := [a, c]) (by simp) σ
  unfold chk
  by_cases c1 : (L f).length = 0
  · have c1' : ((L f).length : Int) = 0 := by omega
    have c2' : ¬ ((L f).length : Int) > 40 := by omega
    rw [if_pos c1]
    refine pureV_free (by simp [fm_view]) rfl (F44_call (r := (pr2 (0, 1), [])) ?_) rfl
    have e : orL [wrg true 1, wrg false 2] = 1 := rfl
    rw [F44_eq]
    simp only [len23, N, gG, b_eql, eqT c1', b_gtr, gtF c2', shift_ptr, shift_pptr, Nat.zero_add, Nat.add_zero, pureFn_fn, List.append_nil, List.singleton_append, List.cons_append, List.nil_append, S67, bs160_2, q2, e, b_neq, eqF (show ¬ (1 : Int) = 0 by decide), pr2]
  · have c1' : ¬ ((L f).length : Int) = 0 := by omega
    rw [if_neg c1]
    by_cases c2 : (L f).length > 40
    · have c2' : ((L f).length : Int) > 40 := by omega
      rw [if_pos c2]
      refine pureV_free (by simp [fm_view]) rfl (F44_call (r := (pr2 (0, 2), [])) ?_) rfl
      have e : orL [wrg false 1, wrg true 2] = 2 := rfl
      rw [F44_eq]
      simp only [len23, N, gG, b_eql, eqF c1', b_gtr, gtT c2', shift_ptr, shift_pptr, Nat.zero_add, Nat.add_zero, pureFn_fn, List.append_nil, List.singleton_append, List.cons_append, List.nil_append, S67, bs160_2, q2, e, b_neq, eqF (show ¬ (2 : Int) = 0 by decide), pr2]
    · have c2' : ¬ ((L f).length : Int) > 40 := by omega
      rw [if_neg c2]
      obtain ⟨σ', h⟩ := L44 hf (by omega) _ 0 (.p .nilsl) [.mix [.p .nilsl]] (by omega) rfl (Nat.zero_le _) rfl (fun j hj => by omega) Out.zero
      rw [Nat.sub_zero] at h
      refine pureV_free (by simp [fm_view]) rfl (F44_call (r := (pr2 (chkF (L f) (L f).length 0), σ')) ?_) rfl
      have e : orL [wrg false 1, wrg false 2] = 0 := rfl
      have z24 : zeroOf PP 24 = some [.p .nilsl] := Eq.trans (by kernel_rfl) rfl
      rw [F44_eq, ← h]
      simp only [len23, N, gG, b_eql, eqF c1', b_gtr, gtF c2', shift_ptr, shift_pptr, Nat.zero_add, Nat.add_zero, pureFn_fn, List.append_nil, List.singleton_append, List.cons_append, List.nil_append, S67, bs160_2, q2, e, b_neq, eqT (rfl : (0 : Int) = 0), z24, List.length_nil]
      rfl
omit h40 in
theorem S70 (σ : Store) : pureV CC 70 [.p (eFm f)] σ = some (.p (.int .i64 (chk (L f)).2)) := by
  refine pureV_free (by simp [fm_view]) rfl (F70_call (r := (.p (.int .i64 (chk (L f)).2), [])) ?_) rfl
  have ex0 : ∀ (a b : DV), extractV (.tuple [a, b]) 0 = some a := fun _ _ => rfl
  have ex1 : ∀ (a b : DV), extractV (.tuple [a, b]) 1 = some b := fun _ _ => rfl
  rw [F70_eq]
  simp only [shift_ptr, shift_pptr, Nat.zero_add, Nat.add_zero, pureFn_fn, List.append_nil, List.singleton_append, List.cons_append, List.nil_append, S44 hf, pr2, gG, ex0, ex1]
end
def ownN (x : Nd) : Nd := ⟨x.k, x.n, some (L x.a)⟩
def oF (l : List Nd) : Fm := if l = [] then none else some l
theorem L_oF (l : List Nd) : L (oF l) = l := by
  unfold oF
  split
  · rename_i h; rw [h]; rfl
  · rfl
theorem own_get (F : List Nd) (i : Nat) : L ((F.map ownN).getD i default).a = L (F.getD i default).a ∧ ((F.map ownN).getD i default).k = (F.getD i default).k ∧ ((F.map ownN).getD i default).n = (F.getD i default).n := by
  rw [List.getD_eq_getElem?_getD, List.getD_eq_getElem?_getD, List.getElem?_map]
  cases F[i]? <;> exact ⟨rfl, rfl, rfl⟩
theorem nA_own (F : List Nd) (i : Nat) : nA (F.map ownN) i = nA F i := (own_get F i).1
theorem foK_own (F : List Nd) : ∀ (k r : Nat), foK (F.map ownN) k r = foK F k r
  | 0, r => rfl
  | k + 1, r => by unfold foK; rw [nA_own, foK_own F k]
theorem foI_own (F : List Nd) (r : Int) : foI (F.map ownN) r = foI F r := by unfold foI fo; rw [foK_own]
theorem stB_own (F : List Nd) (us : List Int) : ∀ (k : Nat) (x : Int), stB (F.map ownN) us x k = stB F us x k
  | 0, x => rfl
  | k + 1, x => by unfold stB; rw [foI_own, stB_own F us k]
theorem chkF_own (F : List Nd) : ∀ (d i : Nat), chkF (F.map ownN) d i = chkF F d i
  | 0, i => by unfold chkF fo; rw [List.length_map, foK_own]
  | d + 1, i => by
    have hb : bad ((F.map ownN).getD i default) = bad (F.getD i default) := by unfold bad; rw [(own_get F i).2.1, (own_get F i).2.2]
    unfold chkF stands
    rw [nA_own, stB_own, hb, (own_get F i).2.1, chkF_own F d]
theorem chk_own (F : List Nd) : chk (F.map ownN) = chk F := by unfold chk; rw [List.length_map, chkF_own]
theorem FSm.own {f : Fm} (h : FSm f) : FSm (oF ((L f).map ownN)) := by
  refine ⟨by rw [L_oF, List.length_map]; exact h.1, fun i => ?_⟩
  rw [L_oF, nA_own]
  exact h.2 i
def eNd (x : Nd) : List PV := [pI x.k, pI x.n, eSl x.a]
theorem bs23_1 (x : Nd) (σ : Store) : buildSlice PP none 23 1 [(0, .agg (ndD x))] σ = some (.p (.sl true 1 (eNd x)), σ) := Eq.trans (by kernel_rfl) rfl
theorem st67_2 {σ : Store} {lo r : Nat} {x : Nd} {a : OI} (h : σ[r]? = some (.mix (ndD x))) (hlo : lo ≤ r) : store PP lo 24 (.ptr r 2) (.p (eSl a)) σ = some (σ.set r (.mix (ndD ⟨x.k, x.n, a⟩))) := by
  have e : splice (ndD x) 2 [DV.p (eSl a)] = ndD ⟨x.k, x.n, a⟩ := rfl
  have e3 : (ndD x).length = 3 := rfl
  simp [store, s24, DV.cells, storeN, h, e, e3, DV.one, hlo]
section
variable {f : Fm} (hf : FSm f)
include hf
theorem L19 : ∀ (d i : Nat) (y : DV) (σ : Store), (L f).length - i = d → i ≤ (L f).length → Out σ 0 3 i (eNds (((L f).take i).map ownN)) y →
    ∃ y' σ', f19_L0 guardT 0 (.p (eFm f)) y (N i) σ = some (y', σ') ∧ Out σ' 0 3 (L f).length (eNds ((L f).map ownN)) y'
  | 0, i, y, σ, hd, hi, ho => by
    have e : i = (L f).length := by omega
    subst e
    have h1 := hf.1
    rw [List.take_length] at ho
    refine ⟨y, σ, ?_, ho⟩
    rw [f19_L0_eq guardT rfl]
    simp (disch := omega) only [N, len23, gG, b_lss, ltF]
  | d + 1, i, y, σ, hd, hi, ho => by
    have h1 := hf.1
    have h2 := hf.2 i
    have hlt : i < (L f).length := by omega
    have hnd := nd_all hlt
    have ha : L ((L f).getD i default).a = nA (L f) i := rfl
    have ht : (((L f).take (i + 1)).map ownN) = ((L f).take i).map ownN ++ [ownN ((L f).getD i default)] := by
      rw [List.take_succ_eq_append_getElem hlt, List.map_append, List.getD_eq_getElem?_getD, List.getElem?_eq_getElem hlt]; rfl
    generalize hx : (L f).getD i default = x at *
    have g : (σ ++ [Row.mix (ndD x)])[σ.length]? = some (.mix (ndD x)) := get_snoc
    have st := st67 (σ := σ) (lo := 0) (z := [.p (pI 0), .p (pI 0), .p .nilsl]) x rfl (Nat.zero_le _)
    have st2 := st67_2 (lo := 0) (a := some (L x.a)) g (Nat.zero_le _)
    have e2 : (σ ++ [Row.mix (ndD x)]).set σ.length (.mix (ndD ⟨x.k, x.n, some (L x.a)⟩)) = σ ++ [Row.mix (ndD (ownN x))] := by simp [ownN]
    rw [e2] at st2
    have g2 : (σ ++ [Row.mix (ndD (ownN x))])[σ.length]? = some (.mix (ndD (ownN x))) := get_snoc
    have ho2 : Out (σ ++ [Row.mix (ndD (ownN x))]) 0 3 i (eNds (((L f).take i).map ownN)) y := ho.keep fun r v hr => get_old hr
    obtain ⟨y', σ', p1, p2, _, _⟩ := Out.push (vs := eNd (ownN x)) src23 u23 s67 bytes67 zero67 rfl (by decide) (by decide) (by decide) rfl ho2 (by omega) (Nat.zero_le _)
    have e3 : eNds (((L f).take i).map ownN) ++ eNd (ownN x) = eNds (((L f).take (i + 1)).map ownN) := by rw [ht, eNds_app]; rfl
    rw [e3] at p2
    obtain ⟨y2, σ2, r1, r2⟩ := L19 d (i + 1) y' σ' (by omega) (by omega) p2
    refine ⟨y2, σ2, ?_, r2⟩
    rw [← r1, f19_L0_eq guardT rfl]
    simp (disch := omega) only [N, len23, gG, b_lss, ltT, idx23 hlt, load67, hnd, zero67, st, fa67_2, shift_ptr, shift_pptr, Nat.zero_add, Nat.add_zero, pureFn_fn, List.append_nil, List.singleton_append, List.cons_append, List.nil_append, load24, row_a g, S52 (show (L x.a).length ≤ 1000000 by rw [ha]; omega), st2, row_nd g2, bs23_1, p1, add1]
theorem S19 (σ : Store) : pureV CC 19 [.p (eFm f)] σ = some (.p (eFm (oF ((L f).map ownN)))) := by
  obtain ⟨y, σ', h1, h2⟩ := L19 hf _ 0 (.p .nilsl) [] rfl (Nat.zero_le _) Out.zero
  refine pureV_free (by simp [fm_view]) rfl (F19_call (r := (y, σ')) ?_) ?_
  · rw [F19_eq]; exact h1
  · rw [h2.twAll, loosens_nds]
    congr 2
    unfold oF eFm
    by_cases h0 : (L f).length = 0
    · have h0' : L f = [] := List.length_eq_zero_iff.1 h0
      rw [if_pos h0, h0']; rfl
    · have h0' : ¬ (L f).map ownN = [] := fun e => h0 (by have := congrArg List.length e; simpa using this)
      rw [if_neg h0, if_neg h0']
      simp
end
end Go.D
end
/- Chapter 13: small functions of LassoGuards; the reference's Guarded. -/
section
set_option linter.unusedVariables false
set_option linter.unusedSimpArgs false
set_option maxRecDepth 8000
namespace Go.D
open Las
theorem any_mem (l : List Int) (v : Int) : l.any (fun x => decide (v = x)) = decide (v ∈ l) := by
  rw [Bool.eq_iff_iff, List.any_eq_true, decide_eq_true_iff]
  constructor
  · rintro ⟨x, h1, h2⟩
    rw [decide_eq_true_iff] at h2
    rw [h2]; exact h1
  · exact fun h => ⟨v, h, decide_eq_true rfl⟩
theorem L141 {o : OI} {v : Int} {σ : Store} {lo : Nat} (hl : (L o).length ≤ 100000) :
    ∀ (k i : Nat), (L o).length - i = k → i ≤ (L o).length → f141_L0 guardT lo (.p (eSl o)) (.p (.int .i64 v)) (N (L o).length) (N i) σ = some (.p (.int .i64 (idxFrom (fun x => decide (v = x)) ((L o).drop i) i)), σ)
  | 0, i, hk, hi => by
    rw [f141_L0_eq guardT rfl, List.drop_eq_nil_of_le (by omega)]
    simp (disch := omega) only [N, b_lss, ltF, gG, idxFrom]
  | k + 1, i, hk, hi => by
    have h : i < (L o).length := by omega
    have ih := L141 (v := v) (σ := σ) (lo := lo) hl k (i + 1) (by omega) (by omega)
    rw [f141_L0_eq guardT rfl, drop_cons h]
    unfold idxFrom
    by_cases c : v = (L o).getD i 0
    · rw [if_pos (decide_eq_true c)]
      simp (disch := omega) only [N, b_lss, ltT, gG, (PL.sl o).idx h, load3, load1_getD h, b_eql, eqT c]
    · rw [if_neg (by rw [decide_eq_false c]; simp)]
      simp (disch := omega) only [N, b_lss, ltT, gG, (PL.sl o).idx h, load3, load1_getD h, b_eql, eqF c, add1]
      exact ih
theorem S141 {o : OI} (hl : (L o).length ≤ 100000) (v : Int) (σ : Store) : pureV CC 141 [.p (eSl o), .p (.int .i64 v)] σ = some (.p (.int .i64 (idxFrom (fun x => decide (v = x)) (L o) 0))) := by
  refine pureV_free (by simp [view, viewCell, loosen, loosen_sl]) rfl (F141_call (r := (.p (.int .i64 (idxFrom (fun x => decide (v = x)) (L o) 0)), [])) ?_) rfl
  rw [F141_eq]
  have := L141 (o := o) (v := v) (σ := []) (lo := 0) hl _ 0 rfl (Nat.zero_le _)
  rw [List.drop_zero] at this
  simp only [(PL.sl o).len, gG]
  exact this
theorem S91 {o : OI} (hl : (L o).length ≤ 100000) (v : Int) (σ : Store) : pureV CC 91 [.p (eSl o), .p (.int .i64 v)] σ = some (.p (.bool (decide (v ∈ L o)))) := by
  refine pureV_free (by simp [view, viewCell, loosen, loosen_sl]) rfl (F91_call (r := (.p (.bool (decide (v ∈ L o))), [])) ?_) rfl
  rw [F91_eq]
  simp only [shift_ptr, shift_pptr, Nat.zero_add, Nat.add_zero, pureFn_fn, List.append_nil, List.singleton_append, List.cons_append, List.nil_append, S141 hl, gG, b_geq, idxFrom_ge, any_mem]
theorem L95 {o : OI} {v : Int} (hl : (L o).length ≤ 100000) : ∀ (k i : Nat), (L o).length - i = k → i ≤ (L o).length → f95_L0 guardT 0 (.p (eSl o)) (.p (.int .i64 v)) (N i) [] = some (.p (.bool (((L o).drop i).any fun x => decide (v = x))), [])
  | 0, i, hk, hi => by
    rw [f95_L0_eq guardT rfl, List.drop_eq_nil_of_le (by omega)]
    simp (disch := omega) only [N, (PL.sl o).len, b_lss, ltF, gG, List.any_nil]
  | k + 1, i, hk, hi => by
    have h : i < (L o).length := by omega
    have ih := L95 (v := v) hl k (i + 1) (by omega) (by omega)
    rw [f95_L0_eq guardT rfl, drop_cons h, List.any_cons]
    by_cases c : (L o).getD i 0 = v
    · rw [decide_eq_true c.symm, Bool.true_or]
      simp (disch := omega) only [N, (PL.sl o).len, b_lss, ltT, gG, (PL.sl o).idx h, load3, load1_getD h, b_eql, eqT c]
    · rw [decide_eq_false (fun e => c e.symm), Bool.false_or]
      simp (disch := omega) only [N, (PL.sl o).len, b_lss, ltT, gG, (PL.sl o).idx h, load3, load1_getD h, b_eql, eqF c, add1]
      exact ih
theorem S95 {o : OI} (hl : (L o).length ≤ 100000) (v : Int) (σ : Store) : pureV CC 95 [.p (eSl o), .p (.int .i64 v)] σ = some (.p (.bool (decide (v ∈ L o)))) := by
  refine pureV_free (by simp [view, viewCell, loosen, loosen_sl]) rfl (F95_call (r := (.p (.bool (decide (v ∈ L o))), [])) ?_) rfl
  have := L95 (o := o) (v := v) hl _ 0 rfl (Nat.zero_le _)
  rw [List.drop_zero, any_mem] at this
  rw [F95_eq]
  exact this
end Go.D
end
