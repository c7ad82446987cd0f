/- Equations of functions 98, 60, 132, 133, 73, 74, 75, 22, 71, 123, 124, 125, 126, 127, 128, 93, 131, 130, 129, 72, 18, 20, 21, 3, printed by gen.py. -/
import Derived.Test.YtpacancmcjbckaaGreatDoorDc
import Derived.Test.YtpacancmcjbckaaGreatDoorDd
section
set_option linter.unusedVariables false
set_option maxRecDepth 10000
namespace Go.D
open Go.Proofs
noncomputable section
variable (G : GuardT) (lo : Nat) {σ : Store} {r : DV × Store}
open _root_.Go.D.Code (fstC sndC)
open _root_.Go.D.Ann (left right)
def c98_0 : Code := bodyOf Tryz.f98
def a98_0 : Ann := (pol 98).ann
def F98 (x0 : DV) (σ : Store) : RS :=
 codeF G PP (pol 98) CC lo c98_0 a98_0 [x0, Z, Z, Z] σ (finR PP Tryz.f98.results.toList)
theorem F98_eq (G : GuardT) (lo : Nat) (x0 : DV) (σ : Store) : F98 G lo x0 σ =
 (boxP x0).bind fun x1 =>
 some ((DV.fn 143 [x1]), σ) := by kernel_rfl
theorem F98_call {lo : Nat} {x0 : DV} (h : F98 guardT lo x0 σ = some r) : CC lo 98 [x0] σ = some r :=
 callL_run Tryz.func98 (by decide +kernel) rfl (by decide +kernel) h
def c71_0 : Code := bodyOf Tryz.f71
def a71_0 : Ann := (pol 71).ann
def F71 (x0 : DV) (σ : Store) : RS :=
 codeF G PP (pol 71) CC lo c71_0 a71_0 (x0 :: zn 7 []) σ (finR PP Tryz.f71.results.toList)
theorem F71_eq (G : GuardT) (lo : Nat) (x0 : DV) (σ : Store) : F71 G lo x0 σ =
 (binOp PP .eql 34 x0 (DV.p PV.nilsl)).bind fun x4 =>
 condK x4
 (
 some ((DV.p PV.nilsl), σ)
 )
 (
 (buildSlice PP none 34 0 [] σ).bind fun r5_1 =>
 (append PP lo true 34 34 r5_1.1 x0 r5_1.2).bind fun r7_2 =>
 some (r7_2.1, r7_2.2)
 ) := by kernel_rfl
theorem F71_call {lo : Nat} {x0 : DV} (h : F71 guardT lo x0 σ = some r) : CC lo 71 [x0] σ = some r :=
 callL_run Tryz.func71 (by decide +kernel) rfl (by decide +kernel) h
def c123_0 : Code := bodyOf Tryz.f123
def a123_0 : Ann := (pol 123).ann
def c123_8 : Code := sndC (sndC c123_0)
def a123_8 : Ann := right (right a123_0)
def c123_16 : Code := sndC (sndC c123_8)
def a123_16 : Ann := right (right a123_8)
def a123_21 : Ann := left (right (right a123_16))
def a123_22 : Ann := left a123_21
def c123_23 : Code := fstC (fstC (fstC (sndC (sndC c123_16))))
def c123_31 : Code := sndC (sndC (sndC c123_16))
def a123_31 : Ann := right (right (right a123_16))
def f123_J0_fr (x0 x1 x4 x9 x10 x11 : DV) : Frame := (x0 :: x1 :: Z :: Z :: x4 :: Z :: Z :: Z :: Z :: x9 :: x10 :: x11 :: zn 36 [])
def f123_J0 (x0 x1 x4 x9 x10 x11 : DV) (σ : Store) : RS :=
 (seqC G PP (pol 123) CC lo c123_8 a123_8 (finR PP Tryz.f123.results.toList)) .normal (f123_J0_fr x0 x1 x4 x9 x10 x11) σ
def f123_J1_fr (x0 x1 x4 x5 x6 x9 x10 x11 x12 x13 x14 x15 x16 x17 x18 x19 x20 x21 x22 x23 x24 x25 x26 x27 : DV) : Frame := (x0 :: x1 :: Z :: Z :: x4 :: x5 :: x6 :: Z :: Z :: x9 :: x10 :: x11 :: x12 :: x13 :: x14 :: x15 :: x16 :: x17 :: x18 :: x19 :: x20 :: x21 :: x22 :: x23 :: x24 :: x25 :: x26 :: x27 :: zn 20 [])
def f123_J1 (x0 x1 x4 x5 x6 x9 x10 x11 x12 x13 x14 x15 x16 x17 x18 x19 x20 x21 x22 x23 x24 x25 x26 x27 : DV) (σ : Store) : RS :=
 (seqC G PP (pol 123) CC lo c123_16 a123_16 (finR PP Tryz.f123.results.toList)) .normal (f123_J1_fr x0 x1 x4 x5 x6 x9 x10 x11 x12 x13 x14 x15 x16 x17 x18 x19 x20 x21 x22 x23 x24 x25 x26 x27) σ
def f123_L0 (x7 x8 : DV) (σ : Store) : RS :=
 codeF G PP (pol 123) CC lo (.loop c123_23) a123_22 (zn 7 (x7 :: x8 :: zn 39 [])) σ
 (blockC 0 a123_21 (seqC G PP (pol 123) CC lo c123_31 a123_31 (finR PP Tryz.f123.results.toList)))
def F123 (x0 x1 : DV) (σ : Store) : RS :=
 codeF G PP (pol 123) CC lo c123_0 a123_0 (x0 :: x1 :: zn 46 []) σ (finR PP Tryz.f123.results.toList)
theorem f123_J0_eq (G : GuardT) (lo : Nat) (x0 x1 x4 x9 x10 x11 : DV) (σ : Store) : f123_J0 G lo x0 x1 x4 x9 x10 x11 σ =
 (len PP 34 x0 σ).bind fun x14 =>
 (convert PP 3 179 x14).bind fun x15 =>
 (convert PP 3 179 x1).bind fun x17 =>
 (pureFn CC (DV.fn 156 []) [x15, x17] σ).bind fun x18 =>
 (extractV x18 0).bind fun x19 =>
 (extractV x18 1).bind fun x20 =>
 (binOp PP .gtr 179 x19 (DV.p (PV.int IntKind.u64 (0)))).bind fun x22 =>
 G _ x22 false (some (x20, σ)) σ fun x24 σ1 =>
 G _ x22 false ((binOp PP .gtr 179 x24 (DV.p (PV.int IntKind.u64 (9223372036854775807)))).bind fun v => some (v, σ1)) σ1 fun x25 σ2 =>
 (pickV x22 (DV.p (PV.bool true)) x25).bind fun x26 =>
 condK x26
 (
 none
 )
 (
 f123_J1 G lo x0 x1 x4 x19 x20 x9 x10 x11 x18 x0 x14 x15 x1 x17 x18 x19 x20 x19 x22 x22 x24 x25 x26 Z σ2
 ) := by kernel_rfl
theorem f123_J1_eq (G : GuardT) (lo : Nat) (x0 x1 x4 x5 x6 x9 x10 x11 x12 x13 x14 x15 x16 x17 x18 x19 x20 x21 x22 x23 x24 x25 x26 x27 : DV) (σ : Store) : f123_J1 G lo x0 x1 x4 x5 x6 x9 x10 x11 x12 x13 x14 x15 x16 x17 x18 x19 x20 x21 x22 x23 x24 x25 x26 x27 σ =
 (convert PP 179 3 x6).bind fun x29 =>
 (makeSlice PP false 34 x29 x29 σ).bind fun r30_3 =>
 (copyOp PP lo 34 r30_3.1 x0 r30_3.2).bind fun r33_4 =>
 f123_L0 G lo r30_3.1 r33_4.1 r33_4.2 := by kernel_rfl
theorem f123_L0_eq (G : GuardT) (hG : GuardOk G) (lo : Nat) (x7 x8 : DV) (σ : Store) : f123_L0 G lo x7 x8 σ =
 (len PP 34 x7 σ).bind fun x36 =>
 (binOp PP .lss 3 x8 x36).bind fun x37 =>
 condK x37
 (
 (sliceOp PP 34 x7 (some x8) none none).bind fun x41 =>
 (sliceOp PP 34 x7 none (some x8) none).bind fun x44 =>
 (copyOp PP lo 34 x41 x44 σ).bind fun r45_5 =>
 (binOp PP .add 3 x8 r45_5.1).bind fun x46 =>
 f123_L0 G lo x7 x46 r45_5.2
 )
 (
 some (x7, σ)
 ) := (loopF_eq G hG).trans (by kernel_rfl)
theorem F123_eq (G : GuardT) (lo : Nat) (x0 x1 : DV) (σ : Store) : F123 G lo x0 x1 σ =
 (binOp PP .lss 3 x1 I0).bind fun x10 =>
 condK x10
 (
 none
 )
 (
 f123_J0 G lo x0 x1 (DV.p PV.nilsl) x1 x10 Z σ
 ) := by kernel_rfl
theorem F123_call {lo : Nat} {x0 x1 : DV} (h : F123 guardT lo x0 x1 σ = some r) : CC lo 123 [x0, x1] σ = some r :=
 callL_run Tryz.func123 (by decide +kernel) rfl (by decide +kernel) h
def c124_0 : Code := bodyOf Tryz.f124
def a124_0 : Ann := (pol 124).ann
def a124_7 : Ann := right (left (right (right a124_0)))
def a124_8 : Ann := left a124_7
def c124_9 : Code := fstC (fstC (sndC (fstC (sndC (sndC c124_0)))))
def c124_21 : Code := sndC (sndC (sndC c124_0))
def a124_21 : Ann := right (right (right a124_0))
def f124_L0 (x3 x8 x9 : DV) (σ : Store) : RS :=
 codeF G PP (pol 124) CC lo (.loop c124_9) a124_8 (Z :: Z :: Z :: x3 :: Z :: Z :: Z :: Z :: x8 :: x9 :: zn 12 []) σ
 (blockC 0 a124_7 (seqC G PP (pol 124) CC lo c124_21 a124_21 (finR PP Tryz.f124.results.toList)))
def F124 (x0 : DV) (σ : Store) : RS :=
 codeF G PP (pol 124) CC lo c124_0 a124_0 (x0 :: zn 21 []) σ (finR PP Tryz.f124.results.toList)
theorem f124_L0_eq (G : GuardT) (hG : GuardOk G) (lo : Nat) (x3 x8 x9 : DV) (σ : Store) : f124_L0 G lo x3 x8 x9 σ =
 (binOp PP .lss 3 x9 x8).bind fun x10 =>
 condK x10
 (
 (indexAddr PP 34 x3 x9).bind fun x16 =>
 (load PP 4 x16 σ).bind fun x17 =>
 (unOp .not x17).bind fun x18 =>
 (indexAddr PP 34 x3 x9).bind fun x19 =>
 (store PP lo 4 x19 x18 σ).bind fun σ2 =>
 (binOp PP .add 3 x9 I1).bind fun x20 =>
 f124_L0 G lo x3 x8 x20 σ2
 )
 (
 some (x3, σ)
 ) := (loopF_eq G hG).trans (by kernel_rfl)
theorem F124_eq (G : GuardT) (lo : Nat) (x0 : DV) (σ : Store) : F124 G lo x0 σ =
 (plainFn CC lo (DV.fn 71 []) [x0] σ).bind fun r6_1 =>
 (len PP 34 r6_1.1 r6_1.2).bind fun x8 =>
 f124_L0 G lo r6_1.1 x8 I0 r6_1.2 := by kernel_rfl
theorem F124_call {lo : Nat} {x0 : DV} (h : F124 guardT lo x0 σ = some r) : CC lo 124 [x0] σ = some r :=
 callL_run Tryz.func124 (by decide +kernel) rfl (by decide +kernel) h
def c125_0 : Code := bodyOf Tryz.f125
def a125_0 : Ann := (pol 125).ann
def a125_7 : Ann := right (left (right (right a125_0)))
def a125_8 : Ann := left a125_7
def c125_9 : Code := fstC (fstC (sndC (fstC (sndC (sndC c125_0)))))
def c125_21 : Code := sndC (sndC (sndC c125_0))
def a125_21 : Ann := right (right (right a125_0))
def f125_L0 (x0 x1 x2 x7 x12 x13 : DV) (σ : Store) : RS :=
 codeF G PP (pol 125) CC lo (.loop c125_9) a125_8 (x0 :: x1 :: x2 :: Z :: Z :: Z :: Z :: x7 :: Z :: Z :: Z :: Z :: x12 :: x13 :: zn 17 []) σ
 (blockC 0 a125_7 (seqC G PP (pol 125) CC lo c125_21 a125_21 (finR PP Tryz.f125.results.toList)))
def F125 (x0 x1 x2 : DV) (σ : Store) : RS :=
 codeF G PP (pol 125) CC lo c125_0 a125_0 (x0 :: x1 :: x2 :: zn 28 []) σ (finR PP Tryz.f125.results.toList)
theorem f125_L0_eq (G : GuardT) (hG : GuardOk G) (lo : Nat) (x0 x1 x2 x7 x12 x13 : DV) (σ : Store) : f125_L0 G lo x0 x1 x2 x7 x12 x13 σ =
 (binOp PP .lss 3 x13 x12).bind fun x14 =>
 condK x14
 (
 (indexAddr PP 34 x0 x13).bind fun x21 =>
 (load PP 4 x21 σ).bind fun x22 =>
 (indexAddr PP 34 x1 x13).bind fun x25 =>
 (load PP 4 x25 σ).bind fun x26 =>
 (pureFn CC x2 [x22, x26] σ).bind fun x27 =>
 (indexAddr PP 34 x7 x13).bind fun x28 =>
 (store PP lo 4 x28 x27 σ).bind fun σ2 =>
 (binOp PP .add 3 x13 I1).bind fun x29 =>
 f125_L0 G lo x0 x1 x2 x7 x12 x29 σ2
 )
 (
 some (x7, σ)
 ) := (loopF_eq G hG).trans (by kernel_rfl)
theorem F125_eq (G : GuardT) (lo : Nat) (x0 x1 x2 : DV) (σ : Store) : F125 G lo x0 x1 x2 σ =
 (plainFn CC lo (DV.fn 71 []) [x0] σ).bind fun r10_1 =>
 (len PP 34 r10_1.1 r10_1.2).bind fun x12 =>
 f125_L0 G lo x0 x1 x2 r10_1.1 x12 I0 r10_1.2 := by kernel_rfl
theorem F125_call {lo : Nat} {x0 x1 x2 : DV} (h : F125 guardT lo x0 x1 x2 σ = some r) : CC lo 125 [x0, x1, x2] σ = some r :=
 callL_run Tryz.func125 (by decide +kernel) rfl (by decide +kernel) h
def c126_0 : Code := bodyOf Tryz.f126
def a126_0 : Ann := (pol 126).ann
def F126 (x0 x1 : DV) (σ : Store) : RS :=
 codeF G PP (pol 126) CC lo c126_0 a126_0 (x0 :: x1 :: zn 7 []) σ (finR PP Tryz.f126.results.toList)
theorem F126_eq (G : GuardT) (lo : Nat) (x0 x1 : DV) (σ : Store) : F126 G lo x0 x1 σ =
 G _ x0 true (some (x1, σ)) σ fun x7 σ1 =>
 (pickV x0 x7 (DV.p (PV.bool false))).bind fun x8 =>
 some (x8, σ1) := by kernel_rfl
theorem F126_call {lo : Nat} {x0 x1 : DV} (h : F126 guardT lo x0 x1 σ = some r) : CC lo 126 [x0, x1] σ = some r :=
 callL_run Tryz.func126 (by decide +kernel) rfl (by decide +kernel) h
def c127_0 : Code := bodyOf Tryz.f127
def a127_0 : Ann := (pol 127).ann
def F127 (x0 x1 : DV) (σ : Store) : RS :=
 codeF G PP (pol 127) CC lo c127_0 a127_0 (x0 :: x1 :: zn 7 []) σ (finR PP Tryz.f127.results.toList)
theorem F127_eq (G : GuardT) (lo : Nat) (x0 x1 : DV) (σ : Store) : F127 G lo x0 x1 σ =
 G _ x0 false (some (x1, σ)) σ fun x7 σ1 =>
 (pickV x0 (DV.p (PV.bool true)) x7).bind fun x8 =>
 some (x8, σ1) := by kernel_rfl
theorem F127_call {lo : Nat} {x0 x1 : DV} (h : F127 guardT lo x0 x1 σ = some r) : CC lo 127 [x0, x1] σ = some r :=
 callL_run Tryz.func127 (by decide +kernel) rfl (by decide +kernel) h
def c128_0 : Code := bodyOf Tryz.f128
def a128_0 : Ann := (pol 128).ann
def F128 (x0 x1 : DV) (σ : Store) : RS :=
 codeF G PP (pol 128) CC lo c128_0 a128_0 (x0 :: x1 :: zn 8 []) σ (finR PP Tryz.f128.results.toList)
theorem F128_eq (G : GuardT) (lo : Nat) (x0 x1 : DV) (σ : Store) : F128 G lo x0 x1 σ =
 (unOp .not x0).bind fun x6 =>
 G _ x6 false (some (x1, σ)) σ fun x8 σ1 =>
 (pickV x6 (DV.p (PV.bool true)) x8).bind fun x9 =>
 some (x9, σ1) := by kernel_rfl
theorem F128_call {lo : Nat} {x0 x1 : DV} (h : F128 guardT lo x0 x1 σ = some r) : CC lo 128 [x0, x1] σ = some r :=
 callL_run Tryz.func128 (by decide +kernel) rfl (by decide +kernel) h
def c93_0 : Code := bodyOf Tryz.f93
def a93_0 : Ann := (pol 93).ann
def F93 (x0 x1 : DV) (σ : Store) : RS :=
 codeF G PP (pol 93) CC lo c93_0 a93_0 (x0 :: x1 :: zn 12 []) σ (finR PP Tryz.f93.results.toList)
theorem F93_eq (G : GuardT) (lo : Nat) (x0 x1 : DV) (σ : Store) : F93 G lo x0 x1 σ =
 (boxP x0).bind fun x2 =>
 (fieldAddr PP 135 x2 0).bind fun x6 =>
 (load PP 3 x6 σ).bind fun x7 =>
 (binOp PP .sub 3 x7 I1).bind fun x8 =>
 (binOp PP .eql 3 x1 x8).bind fun x9 =>
 condK x9
 (
 (fieldAddr PP 135 x2 1).bind fun x10 =>
 (load PP 3 x10 σ).bind fun x11 =>
 some (x11, σ)
 )
 (
 (binOp PP .add 3 x1 I1).bind fun x13 =>
 some (x13, σ)
 ) := by kernel_rfl
theorem F93_call {lo : Nat} {x0 x1 : DV} (h : F93 guardT lo x0 x1 σ = some r) : CC lo 93 [x0, x1] σ = some r :=
 callL_run Tryz.func93 (by decide +kernel) rfl (by decide +kernel) h
def c131_0 : Code := bodyOf Tryz.f131
def a131_0 : Ann := (pol 131).ann
def a131_7 : Ann := right (left (right (right a131_0)))
def a131_8 : Ann := left a131_7
def c131_9 : Code := fstC (fstC (sndC (fstC (sndC (sndC c131_0)))))
def a131_16 : Ann := left (right (right (left a131_8)))
def a131_19 : Ann := right (left a131_16)
def a131_20 : Ann := left a131_19
def c131_21 : Code := fstC (fstC (sndC (fstC (fstC (sndC (sndC c131_9))))))
def c131_31 : Code := sndC (sndC (sndC c131_9))
def a131_31 : Ann := right (right (right (left a131_8)))
def c131_32 : Code := sndC (sndC (sndC c131_0))
def a131_32 : Ann := right (right (right a131_0))
def f131_L0 (x1 x3 x7 x11 : DV) (σ : Store) : RS :=
 codeF G PP (pol 131) CC lo (.loop c131_9) a131_8 (Z :: x1 :: Z :: x3 :: Z :: Z :: Z :: x7 :: Z :: Z :: Z :: x11 :: zn 31 []) σ
 (blockC 0 a131_7 (seqC G PP (pol 131) CC lo c131_32 a131_32 (finR PP Tryz.f131.results.toList)))
def f131_L1 (x1 x3 x7 x8 x11 : DV) (σ : Store) : RS :=
 codeF G PP (pol 131) CC lo (.loop c131_21) a131_20 (Z :: x1 :: Z :: x3 :: Z :: Z :: Z :: x7 :: x8 :: Z :: Z :: x11 :: zn 31 []) σ
 (blockC 2 a131_19 (blockC 1 a131_16 (seqC G PP (pol 131) CC lo c131_31 a131_31 (loopC G PP (pol 131) CC lo c131_9 a131_8 (blockC 0 a131_7 (seqC G PP (pol 131) CC lo c131_32 a131_32 (finR PP Tryz.f131.results.toList)))))))
def F131 (x0 x1 x2 : DV) (σ : Store) : RS :=
 codeF G PP (pol 131) CC lo c131_0 a131_0 (x0 :: x1 :: x2 :: zn 40 []) σ (finR PP Tryz.f131.results.toList)
theorem f131_L0_eq (G : GuardT) (hG : GuardOk G) (lo : Nat) (x1 x3 x7 x11 : DV) (σ : Store) : f131_L0 G lo x1 x3 x7 x11 σ =
 (binOp PP .lss 3 x11 (DV.p (PV.int IntKind.i64 (2)))).bind fun x12 =>
 condK x12
 (
 (fieldAddr PP 135 x3 0).bind fun x13 =>
 (load PP 3 x13 σ).bind fun x14 =>
 (binOp PP .sub 3 x14 I1).bind fun x15 =>
 f131_L1 G lo x1 x3 x7 x15 x11 σ
 )
 (
 some (x7, σ)
 ) := (loopF_eq G hG).trans (by kernel_rfl)
theorem f131_L1_eq (G : GuardT) (hG : GuardOk G) (lo : Nat) (x1 x3 x7 x8 x11 : DV) (σ : Store) : f131_L1 G lo x1 x3 x7 x8 x11 σ =
 (binOp PP .geq 3 x8 I0).bind fun x17 =>
 condK x17
 (
 (indexAddr PP 34 x7 x8).bind fun x24 =>
 (load PP 4 x24 σ).bind fun x25 =>
 G _ x25 false (some (x1, σ)) σ fun x27 σ2 =>
 G _ x25 false (some (x8, σ2)) σ2 fun x28 σ3 =>
 G _ x25 false ((indexAddr PP 34 x27 x28).bind fun v => some (v, σ3)) σ3 fun x29 σ4 =>
 G _ x25 false ((load PP 4 x29 σ4).bind fun v => some (v, σ4)) σ4 fun x30 σ5 =>
 G _ x25 false (some (x30, σ5)) σ5 fun x31 σ6 =>
 G _ x31 true (some (x7, σ6)) σ6 fun x32 σ7 =>
 G _ x31 true ((load PP 135 x3 σ7).bind fun v => some (v, σ7)) σ7 fun x33 σ8 =>
 G _ x31 true (some (x8, σ8)) σ8 fun x34 σ9 =>
 G _ x31 true ((pureFn CC (DV.fn 93 []) [x33, x34] σ9).bind fun v => some (v, σ9)) σ9 fun x35 σ10 =>
 G _ x31 true ((indexAddr PP 34 x32 x35).bind fun v => some (v, σ10)) σ10 fun x36 σ11 =>
 G _ x31 true ((load PP 4 x36 σ11).bind fun v => some (v, σ11)) σ11 fun x37 σ12 =>
 G _ x25 false ((pickV x31 x37 (DV.p (PV.bool false))).bind fun v => some (v, σ12)) σ12 fun x38 σ13 =>
 (pickV x25 (DV.p (PV.bool true)) x38).bind fun x39 =>
 (indexAddr PP 34 x7 x8).bind fun x40 =>
 (store PP lo 4 x40 x39 σ13).bind fun σ14 =>
 (binOp PP .sub 3 x8 I1).bind fun x19 =>
 f131_L1 G lo x1 x3 x7 x19 x11 σ14
 )
 (
 (binOp PP .add 3 x11 I1).bind fun x41 =>
 f131_L0 G lo x1 x3 x7 x41 σ
 ) := (loopF_eq G hG).trans (by kernel_rfl)
theorem F131_eq (G : GuardT) (lo : Nat) (x0 x1 x2 : DV) (σ : Store) : F131 G lo x0 x1 x2 σ =
 (boxP x0).bind fun x3 =>
 (plainFn CC lo (DV.fn 71 []) [x2] σ).bind fun r10_1 =>
 f131_L0 G lo x1 x3 r10_1.1 I0 r10_1.2 := by kernel_rfl
theorem F131_call {lo : Nat} {x0 x1 x2 : DV} (h : F131 guardT lo x0 x1 x2 σ = some r) : CC lo 131 [x0, x1, x2] σ = some r :=
 callL_run Tryz.func131 (by decide +kernel) rfl (by decide +kernel) h
def c130_0 : Code := bodyOf Tryz.f130
def a130_0 : Ann := (pol 130).ann
def F130 (x0 x1 : DV) (σ : Store) : RS :=
 codeF G PP (pol 130) CC lo c130_0 a130_0 (x0 :: x1 :: zn 10 []) σ (finR PP Tryz.f130.results.toList)
theorem F130_eq (G : GuardT) (lo : Nat) (x0 x1 : DV) (σ : Store) : F130 G lo x0 x1 σ =
 (boxP x0).bind fun x2 =>
 (load PP 135 x2 σ).bind fun x5 =>
 (buildSlice PP none 34 1 [(0, (DV.p (PV.bool true)))] σ).bind fun r6_1 =>
 (fieldAddr PP 135 x2 0).bind fun x7 =>
 (load PP 3 x7 r6_1.2).bind fun x8 =>
 (pureFn CC (DV.fn 123 []) [r6_1.1, x8] r6_1.2).bind fun x9 =>
 (pureFn CC (DV.fn 131 []) [x5, x9, x1] r6_1.2).bind fun x11 =>
 some (x11, r6_1.2) := by kernel_rfl
theorem F130_call {lo : Nat} {x0 x1 : DV} (h : F130 guardT lo x0 x1 σ = some r) : CC lo 130 [x0, x1] σ = some r :=
 callL_run Tryz.func130 (by decide +kernel) rfl (by decide +kernel) h
def c129_0 : Code := bodyOf Tryz.f129
def a129_0 : Ann := (pol 129).ann
def F129 (x0 x1 : DV) (σ : Store) : RS :=
 codeF G PP (pol 129) CC lo c129_0 a129_0 (x0 :: x1 :: zn 8 []) σ (finR PP Tryz.f129.results.toList)
theorem F129_eq (G : GuardT) (lo : Nat) (x0 x1 : DV) (σ : Store) : F129 G lo x0 x1 σ =
 (boxP x0).bind fun x2 =>
 (load PP 135 x2 σ).bind fun x5 =>
 (pureFn CC (DV.fn 124 []) [x1] σ).bind fun x7 =>
 (pureFn CC (DV.fn 130 []) [x5, x7] σ).bind fun x8 =>
 (pureFn CC (DV.fn 124 []) [x8] σ).bind fun x9 =>
 some (x9, σ) := by kernel_rfl
theorem F129_call {lo : Nat} {x0 x1 : DV} (h : F129 guardT lo x0 x1 σ = some r) : CC lo 129 [x0, x1] σ = some r :=
 callL_run Tryz.func129 (by decide +kernel) rfl (by decide +kernel) h
def c72_0 : Code := bodyOf Tryz.f72
def a72_0 : Ann := (pol 72).ann
def a72_11 : Ann := right (left (right (right (right (right a72_0)))))
def a72_12 : Ann := left a72_11
def c72_13 : Code := fstC (fstC (sndC (fstC (sndC (sndC (sndC (sndC c72_0)))))))
def a72_20 : Ann := left (right (right (left a72_12)))
def c72_31 : Code := sndC (sndC (sndC (fstC (fstC (sndC (sndC c72_13))))))
def a72_31 : Ann := right (right (right (left a72_20)))
def a72_36 : Ann := right (left (right a72_31))
def a72_46 : Ann := right (left (right (right (right (left a72_36)))))
def a72_47 : Ann := left a72_46
def c72_48 : Code := fstC (fstC (sndC (fstC (sndC (sndC (sndC (fstC (sndC (fstC (sndC c72_31))))))))))
def c72_93 : Code := sndC (sndC c72_31)
def a72_93 : Ann := right (right a72_31)
def c72_94 : Code := sndC (sndC (sndC c72_13))
def a72_94 : Ann := right (right (right (left a72_12)))
def c72_95 : Code := sndC (sndC (sndC (sndC (sndC c72_0))))
def a72_95 : Ann := right (right (right (right (right a72_0))))
def f72_L0 (x5 x6 x7 x27 x28 x29 : DV) (σ : Store) : RS :=
 codeF G PP (pol 72) CC lo (.loop c72_13) a72_12 (zn 5 (x5 :: x6 :: x7 :: zn 19 (x27 :: x28 :: x29 :: zn 106 []))) σ
 (blockC 0 a72_11 (seqC G PP (pol 72) CC lo c72_95 a72_95 (finR PP Tryz.f72.results.toList)))
def f72_J0_fr (x5 x6 x7 x9 x10 x11 x27 x28 x29 x30 x31 x32 x33 x34 x35 x36 x37 x38 x39 x40 x41 x42 x43 x44 x45 x46 x47 x48 x49 x50 x51 x52 x53 x54 : DV) : Frame := (zn 5 (x5 :: x6 :: x7 :: Z :: x9 :: x10 :: x11 :: zn 15 (x27 :: x28 :: x29 :: x30 :: x31 :: x32 :: x33 :: x34 :: x35 :: x36 :: x37 :: x38 :: x39 :: x40 :: x41 :: x42 :: x43 :: x44 :: x45 :: x46 :: x47 :: x48 :: x49 :: x50 :: x51 :: x52 :: x53 :: x54 :: zn 81 [])))
def f72_J0 (x5 x6 x7 x9 x10 x11 x27 x28 x29 x30 x31 x32 x33 x34 x35 x36 x37 x38 x39 x40 x41 x42 x43 x44 x45 x46 x47 x48 x49 x50 x51 x52 x53 x54 : DV) (σ : Store) : RS :=
 (seqC G PP (pol 72) CC lo c72_31 a72_31 (blockC 1 a72_20 (seqC G PP (pol 72) CC lo c72_94 a72_94 (loopC G PP (pol 72) CC lo c72_13 a72_12 (blockC 0 a72_11 (seqC G PP (pol 72) CC lo c72_95 a72_95 (finR PP Tryz.f72.results.toList))))))) .normal (f72_J0_fr x5 x6 x7 x9 x10 x11 x27 x28 x29 x30 x31 x32 x33 x34 x35 x36 x37 x38 x39 x40 x41 x42 x43 x44 x45 x46 x47 x48 x49 x50 x51 x52 x53 x54) σ
def f72_L1 (x5 x6 x7 x9 x12 x27 x28 x29 x65 x66 x67 : DV) (σ : Store) : RS :=
 codeF G PP (pol 72) CC lo (.loop c72_48) a72_47 (zn 5 (x5 :: x6 :: x7 :: Z :: x9 :: Z :: Z :: x12 :: zn 14 (x27 :: x28 :: x29 :: zn 35 (x65 :: x66 :: x67 :: zn 68 [])))) σ
 (blockC 3 a72_46 (blockC 2 a72_36 (seqC G PP (pol 72) CC lo c72_93 a72_93 (blockC 1 a72_20 (seqC G PP (pol 72) CC lo c72_94 a72_94 (loopC G PP (pol 72) CC lo c72_13 a72_12 (blockC 0 a72_11 (seqC G PP (pol 72) CC lo c72_95 a72_95 (finR PP Tryz.f72.results.toList)))))))))
def F72 (x0 x1 : DV) (σ : Store) : RS :=
 codeF G PP (pol 72) CC lo c72_0 a72_0 (x0 :: x1 :: zn 134 []) σ (finR PP Tryz.f72.results.toList)
theorem f72_L0_eq (G : GuardT) (hG : GuardOk G) (lo : Nat) (x5 x6 x7 x27 x28 x29 : DV) (σ : Store) : f72_L0 G lo x5 x6 x7 x27 x28 x29 σ =
 (binOp PP .lss 3 x29 x28).bind fun x30 =>
 condK x30
 (
 (indexAddr PP 23 x27 x29).bind fun x31 =>
 (load PP 67 x31 σ).bind fun x32 =>
 (zeroOf PP 67).bind fun z9 =>
 (store PP lo 67 (DV.ptr (List.length σ) 0) x32 (σ ++ [Row.mix z9])).bind fun σ3 =>
 (fieldAddr PP 67 (DV.ptr (List.length σ) 0) 2).bind fun x33 =>
 (load PP 24 x33 σ3).bind fun x34 =>
 (len PP 24 x34 σ3).bind fun x35 =>
 (binOp PP .gtr 3 x35 I0).bind fun x36 =>
 condK x36
 (
 (fieldAddr PP 67 (DV.ptr (List.length σ) 0) 2).bind fun x38 =>
 (load PP 24 x38 σ3).bind fun x39 =>
 (indexAddr PP 24 x39 I0).bind fun x40 =>
 (load PP 3 x40 σ3).bind fun x41 =>
 (indexAddr PP 162 x7 x41).bind fun x42 =>
 (load PP 34 x42 σ3).bind fun x43 =>
 (fieldAddr PP 67 (DV.ptr (List.length σ) 0) 2).bind fun x45 =>
 (load PP 24 x45 σ3).bind fun x46 =>
 (fieldAddr PP 67 (DV.ptr (List.length σ) 0) 2).bind fun x47 =>
 (load PP 24 x47 σ3).bind fun x48 =>
 (len PP 24 x48 σ3).bind fun x49 =>
 (binOp PP .sub 3 x49 I1).bind fun x50 =>
 (indexAddr PP 24 x46 x50).bind fun x51 =>
 (load PP 3 x51 σ3).bind fun x52 =>
 (indexAddr PP 162 x7 x52).bind fun x53 =>
 (load PP 34 x53 σ3).bind fun x54 =>
 f72_J0 G lo x5 x6 x7 (DV.ptr (List.length σ) 0) x43 x54 x27 x28 x29 x30 x31 x32 x33 x34 x35 x36 x7 x38 x39 x40 x41 x42 x43 x7 x45 x46 x47 x48 x49 x50 x51 x52 x53 x54 σ3
 )
 (
 f72_J0 G lo x5 x6 x7 (DV.ptr (List.length σ) 0) (DV.p PV.nilsl) (DV.p PV.nilsl) x27 x28 x29 x30 x31 x32 x33 x34 x35 x36 Z Z Z Z Z Z Z Z Z Z Z Z Z Z Z Z Z Z σ3
 )
 )
 (
 (len PP 162 x7 σ).bind fun x132 =>
 (binOp PP .sub 3 x132 I1).bind fun x133 =>
 (indexAddr PP 162 x7 x133).bind fun x134 =>
 (load PP 34 x134 σ).bind fun x135 =>
 some (x135, σ)
 ) := (loopF_eq G hG).trans (by kernel_rfl)
theorem f72_J0_eq (G : GuardT) (lo : Nat) (x5 x6 x7 x9 x10 x11 x27 x28 x29 x30 x31 x32 x33 x34 x35 x36 x37 x38 x39 x40 x41 x42 x43 x44 x45 x46 x47 x48 x49 x50 x51 x52 x53 x54 : DV) (σ : Store) : f72_J0 G lo x5 x6 x7 x9 x10 x11 x27 x28 x29 x30 x31 x32 x33 x34 x35 x36 x37 x38 x39 x40 x41 x42 x43 x44 x45 x46 x47 x48 x49 x50 x51 x52 x53 x54 σ =
 (fieldAddr PP 67 x9 0).bind fun x55 =>
 (load PP 3 x55 σ).bind fun x56 =>
 (binOp PP .eql 3 x56 I0).bind fun x58 =>
 condK x58
 (
 (buildSlice PP none 34 1 [(0, (DV.p (PV.bool true)))] σ).bind fun r59_4 =>
 (fieldAddr PP 135 x6 0).bind fun x60 =>
 (load PP 3 x60 r59_4.2).bind fun x61 =>
 (pureFn CC (DV.fn 123 []) [r59_4.1, x61] r59_4.2).bind fun x62 =>
 (buildSlice PP none 162 1 [(0, x62)] r59_4.2).bind fun r127_5 =>
 (append PP lo false 162 162 x7 r127_5.1 r127_5.2).bind fun r128_6 =>
 (binOp PP .add 3 x29 I1).bind fun x129 =>
 f72_L0 G lo x5 x6 r128_6.1 x27 x28 x129 r128_6.2
 )
 (
 (binOp PP .eql 3 x56 I1).bind fun x64 =>
 condK x64
 (
 (len PP 24 x5 σ).bind fun x66 =>
 f72_L1 G lo x5 x6 x7 x9 (DV.p PV.nilsl) x27 x28 x29 x5 x66 I0 σ
 )
 (
 (binOp PP .eql 3 x56 (DV.p (PV.int IntKind.i64 (2)))).bind fun x82 =>
 condK x82
 (
 (pureFn CC (DV.fn 124 []) [x10] σ).bind fun x84 =>
 (buildSlice PP none 162 1 [(0, x84)] σ).bind fun r127_11 =>
 (append PP lo false 162 162 x7 r127_11.1 r127_11.2).bind fun r128_12 =>
 (binOp PP .add 3 x29 I1).bind fun x129 =>
 f72_L0 G lo x5 x6 r128_12.1 x27 x28 x129 r128_12.2
 )
 (
 (binOp PP .eql 3 x56 (DV.p (PV.int IntKind.i64 (3)))).bind fun x86 =>
 condK x86
 (
 (pureFn CC (DV.fn 125 []) [x10, x11, (DV.fn 126 [])] σ).bind fun x89 =>
 (buildSlice PP none 162 1 [(0, x89)] σ).bind fun r127_13 =>
 (append PP lo false 162 162 x7 r127_13.1 r127_13.2).bind fun r128_14 =>
 (binOp PP .add 3 x29 I1).bind fun x129 =>
 f72_L0 G lo x5 x6 r128_14.1 x27 x28 x129 r128_14.2
 )
 (
 (binOp PP .eql 3 x56 (DV.p (PV.int IntKind.i64 (4)))).bind fun x91 =>
 condK x91
 (
 (pureFn CC (DV.fn 125 []) [x10, x11, (DV.fn 127 [])] σ).bind fun x94 =>
 (buildSlice PP none 162 1 [(0, x94)] σ).bind fun r127_15 =>
 (append PP lo false 162 162 x7 r127_15.1 r127_15.2).bind fun r128_16 =>
 (binOp PP .add 3 x29 I1).bind fun x129 =>
 f72_L0 G lo x5 x6 r128_16.1 x27 x28 x129 r128_16.2
 )
 (
 (binOp PP .eql 3 x56 (DV.p (PV.int IntKind.i64 (5)))).bind fun x96 =>
 condK x96
 (
 (pureFn CC (DV.fn 125 []) [x10, x11, (DV.fn 128 [])] σ).bind fun x99 =>
 (buildSlice PP none 162 1 [(0, x99)] σ).bind fun r127_17 =>
 (append PP lo false 162 162 x7 r127_17.1 r127_17.2).bind fun r128_18 =>
 (binOp PP .add 3 x29 I1).bind fun x129 =>
 f72_L0 G lo x5 x6 r128_18.1 x27 x28 x129 r128_18.2
 )
 (
 (binOp PP .eql 3 x56 (DV.p (PV.int IntKind.i64 (6)))).bind fun x101 =>
 condK x101
 (
 (load PP 135 x6 σ).bind fun x102 =>
 (pureFn CC (DV.fn 129 []) [x102, x10] σ).bind fun x104 =>
 (buildSlice PP none 162 1 [(0, x104)] σ).bind fun r127_19 =>
 (append PP lo false 162 162 x7 r127_19.1 r127_19.2).bind fun r128_20 =>
 (binOp PP .add 3 x29 I1).bind fun x129 =>
 f72_L0 G lo x5 x6 r128_20.1 x27 x28 x129 r128_20.2
 )
 (
 (binOp PP .eql 3 x56 (DV.p (PV.int IntKind.i64 (7)))).bind fun x106 =>
 condK x106
 (
 (load PP 135 x6 σ).bind fun x107 =>
 (pureFn CC (DV.fn 130 []) [x107, x10] σ).bind fun x109 =>
 (buildSlice PP none 162 1 [(0, x109)] σ).bind fun r127_21 =>
 (append PP lo false 162 162 x7 r127_21.1 r127_21.2).bind fun r128_22 =>
 (binOp PP .add 3 x29 I1).bind fun x129 =>
 f72_L0 G lo x5 x6 r128_22.1 x27 x28 x129 r128_22.2
 )
 (
 (binOp PP .eql 3 x56 (DV.p (PV.int IntKind.i64 (8)))).bind fun x111 =>
 condK x111
 (
 (load PP 135 x6 σ).bind fun x112 =>
 (load PP 135 x6 σ).bind fun x114 =>
 (pureFn CC (DV.fn 130 []) [x114, x11] σ).bind fun x116 =>
 (pureFn CC (DV.fn 125 []) [x10, x116, (DV.fn 128 [])] σ).bind fun x117 =>
 (pureFn CC (DV.fn 129 []) [x112, x117] σ).bind fun x118 =>
 (buildSlice PP none 162 1 [(0, x118)] σ).bind fun r127_23 =>
 (append PP lo false 162 162 x7 r127_23.1 r127_23.2).bind fun r128_24 =>
 (binOp PP .add 3 x29 I1).bind fun x129 =>
 f72_L0 G lo x5 x6 r128_24.1 x27 x28 x129 r128_24.2
 )
 (
 (binOp PP .eql 3 x56 (DV.p (PV.int IntKind.i64 (9)))).bind fun x120 =>
 condK x120
 (
 (load PP 135 x6 σ).bind fun x121 =>
 (pureFn CC (DV.fn 131 []) [x121, x10, x11] σ).bind fun x124 =>
 (buildSlice PP none 162 1 [(0, x124)] σ).bind fun r127_25 =>
 (append PP lo false 162 162 x7 r127_25.1 r127_25.2).bind fun r128_26 =>
 (binOp PP .add 3 x29 I1).bind fun x129 =>
 f72_L0 G lo x5 x6 r128_26.1 x27 x28 x129 r128_26.2
 )
 (
 (buildSlice PP none 162 1 [(0, (DV.p PV.nilsl))] σ).bind fun r127_27 =>
 (append PP lo false 162 162 x7 r127_27.1 r127_27.2).bind fun r128_28 =>
 (binOp PP .add 3 x29 I1).bind fun x129 =>
 f72_L0 G lo x5 x6 r128_28.1 x27 x28 x129 r128_28.2
 )
 )
 )
 )
 )
 )
 )
 )
 )
 ) := by kernel_rfl
theorem f72_L1_eq (G : GuardT) (hG : GuardOk G) (lo : Nat) (x5 x6 x7 x9 x12 x27 x28 x29 x65 x66 x67 : DV) (σ : Store) : f72_L1 G lo x5 x6 x7 x9 x12 x27 x28 x29 x65 x66 x67 σ =
 (binOp PP .lss 3 x67 x66).bind fun x68 =>
 condK x68
 (
 (indexAddr PP 24 x65 x67).bind fun x69 =>
 (load PP 3 x69 σ).bind fun x70 =>
 (fieldAddr PP 67 x9 1).bind fun x73 =>
 (load PP 3 x73 σ).bind fun x74 =>
 (binOp PP .shr 3 x70 x74).bind fun x75 =>
 (binOp PP .and 3 x75 I1).bind fun x76 =>
 (binOp PP .eql 3 x76 I1).bind fun x77 =>
 (buildSlice PP none 34 1 [(0, x77)] σ).bind fun r78_7 =>
 (append PP lo false 34 34 x12 r78_7.1 r78_7.2).bind fun r79_8 =>
 (binOp PP .add 3 x67 I1).bind fun x80 =>
 f72_L1 G lo x5 x6 x7 x9 r79_8.1 x27 x28 x29 x65 x66 x80 r79_8.2
 )
 (
 (buildSlice PP none 162 1 [(0, x12)] σ).bind fun r127_9 =>
 (append PP lo false 162 162 x7 r127_9.1 r127_9.2).bind fun r128_10 =>
 (binOp PP .add 3 x29 I1).bind fun x129 =>
 f72_L0 G lo x5 x6 r128_10.1 x27 x28 x129 r128_10.2
 ) := (loopF_eq G hG).trans (by kernel_rfl)
theorem F72_eq (G : GuardT) (lo : Nat) (x0 x1 : DV) (σ : Store) : F72 G lo x0 x1 σ =
 (boxP x1).bind fun x3 =>
 (fieldAddr PP 26 x3 0).bind fun x15 =>
 (load PP 24 x15 σ).bind fun x16 =>
 (fieldAddr PP 26 x3 1).bind fun x17 =>
 (load PP 24 x17 σ).bind fun x18 =>
 (buildSlice PP none 130 2 [(0, x16), (1, x18)] σ).bind fun r19_1 =>
 (pureFn CC (DV.fn 84 []) [r19_1.1] r19_1.2).bind fun x20 =>
 (len PP 24 x20 r19_1.2).bind fun x22 =>
 (fieldAddr PP 26 x3 0).bind fun x23 =>
 (load PP 24 x23 r19_1.2).bind fun x24 =>
 (len PP 24 x24 r19_1.2).bind fun x25 =>
 (build PP 135 [(0, x22), (1, x25)]).bind fun x26 =>
 (zeroOf PP 135).bind fun z6 =>
 (store PP lo 135 (DV.ptr (List.length r19_1.2) 0) x26 (r19_1.2 ++ [Row.mix z6])).bind fun σ2 =>
 (len PP 23 x0 σ2).bind fun x28 =>
 f72_L0 G lo x20 (DV.ptr (List.length r19_1.2) 0) (DV.p PV.nilsl) x0 x28 I0 σ2 := by kernel_rfl
theorem F72_call {lo : Nat} {x0 x1 : DV} (h : F72 guardT lo x0 x1 σ = some r) : CC lo 72 [x0, x1] σ = some r :=
 callL_run Tryz.func72 (by decide +kernel) rfl (by decide +kernel) h
def c18_0 : Code := bodyOf Tryz.f18
def a18_0 : Ann := (pol 18).ann
def F18 (x0 x1 : DV) (σ : Store) : RS :=
 codeF G PP (pol 18) CC lo c18_0 a18_0 (x0 :: x1 :: zn 18 []) σ (finR PP Tryz.f18.results.toList)
theorem F18_eq (G : GuardT) (lo : Nat) (x0 x1 : DV) (σ : Store) : F18 G lo x0 x1 σ =
 (boxP x1).bind fun x3 =>
 (pureFn CC (DV.fn 70 []) [x0] σ).bind fun x8 =>
 (load PP 26 x3 σ).bind fun x9 =>
 (pureFn CC (DV.fn 15 []) [x9] σ).bind fun x10 =>
 (buildSlice PP none 160 2 [(0, x8), (1, x10)] σ).bind fun r11_1 =>
 (pureFn CC (DV.fn 66 []) [r11_1.1] r11_1.2).bind fun x12 =>
 (binOp PP .neq 30 x12 I0).bind fun x14 =>
 condK x14
 (
 some ((DV.tuple [(DV.p PV.nilsl), x12]), r11_1.2)
 )
 (
 (load PP 26 x3 r11_1.2).bind fun x17 =>
 (pureFn CC (DV.fn 72 []) [x0, x17] r11_1.2).bind fun x18 =>
 (pureFn CC (DV.fn 71 []) [x18] r11_1.2).bind fun x19 =>
 some ((DV.tuple [x19, I0]), r11_1.2)
 ) := by kernel_rfl
theorem F18_call {lo : Nat} {x0 x1 : DV} (h : F18 guardT lo x0 x1 σ = some r) : CC lo 18 [x0, x1] σ = some r :=
 callL_run Tryz.func18 (by decide +kernel) rfl (by decide +kernel) h
def c20_0 : Code := bodyOf Tryz.f20
def a20_0 : Ann := (pol 20).ann
def F20 (x0 x1 : DV) (σ : Store) : RS :=
 codeF G PP (pol 20) CC lo c20_0 a20_0 (x0 :: x1 :: zn 20 []) σ (finR PP Tryz.f20.results.toList)
theorem F20_eq (G : GuardT) (lo : Nat) (x0 x1 : DV) (σ : Store) : F20 G lo x0 x1 σ =
 (boxP x1).bind fun x3 =>
 (load PP 26 x3 σ).bind fun x10 =>
 (pureFn CC (DV.fn 18 []) [x0, x10] σ).bind fun x11 =>
 (extractV x11 0).bind fun x12 =>
 (extractV x11 1).bind fun x13 =>
 (binOp PP .eql 30 x13 I0).bind fun x15 =>
 G _ x15 true (some (x12, σ)) σ fun x17 σ1 =>
 G _ x15 true ((indexAddr PP 34 x17 I0).bind fun v => some (v, σ1)) σ1 fun x18 σ2 =>
 G _ x15 true ((load PP 4 x18 σ2).bind fun v => some (v, σ2)) σ2 fun x19 σ3 =>
 (pickV x15 x19 (DV.p (PV.bool false))).bind fun x20 =>
 some ((DV.tuple [x20, x13]), σ3) := by kernel_rfl
theorem F20_call {lo : Nat} {x0 x1 : DV} (h : F20 guardT lo x0 x1 σ = some r) : CC lo 20 [x0, x1] σ = some r :=
 callL_run Tryz.func20 (by decide +kernel) rfl (by decide +kernel) h
def c21_0 : Code := bodyOf Tryz.f21
def a21_0 : Ann := (pol 21).ann
def F21 (x0 x1 : DV) (σ : Store) : RS :=
 codeF G PP (pol 21) CC lo c21_0 a21_0 (x0 :: x1 :: zn 11 []) σ (finR PP Tryz.f21.results.toList)
theorem F21_eq (G : GuardT) (lo : Nat) (x0 x1 : DV) (σ : Store) : F21 G lo x0 x1 σ =
 (boxP x1).bind fun x3 =>
 (pureFn CC (DV.fn 25 []) [x0] σ).bind fun x7 =>
 (binOp PP .neq 3 x7 I0).bind fun x9 =>
 condK x9
 (
 some (x7, σ)
 )
 (
 (load PP 26 x3 σ).bind fun x11 =>
 (pureFn CC (DV.fn 17 []) [x11] σ).bind fun x12 =>
 some (x12, σ)
 ) := by kernel_rfl
theorem F21_call {lo : Nat} {x0 x1 : DV} (h : F21 guardT lo x0 x1 σ = some r) : CC lo 21 [x0, x1] σ = some r :=
 callL_run Tryz.func21 (by decide +kernel) rfl (by decide +kernel) h
end
end Go.D
end
/- Chapter 13: the errors of formulas in the program; copies of formulas. -/
section
set_option linter.unusedVariables false
set_option linter.unusedSimpArgs false
set_option maxRecDepth 4000
namespace Go.D
open Las
theorem st3 {σ : Store} {t lo : Nat} {z : DV} {v : Int} (h : σ[t]? = some (.mix [z])) (hlo : lo ≤ t) : store PP lo 3 (.ptr t 0) (.p (.int .i64 v)) σ = some (σ.set t (.mix [.p (.int .i64 v)])) := by
  have e : splice [z] 0 [DV.p (.int .i64 v)] = [.p (.int .i64 v)] := rfl
  simp [store, s3, DV.cells, storeN, h, e, DV.one, hlo]
theorem st24 {σ : Store} {t lo : Nat} {z x : DV} {l : List Int} (hx : PL x l) (h : σ[t]? = some (.mix [z])) (hlo : lo ≤ t) : store PP lo 24 (.ptr t 0) x σ = some (σ.set t (.mix [x])) := by
  have e : splice [z] 0 [x] = [x] := rfl
  simp [store, s24, hx.one.2, hx.one.1, storeN, h, e, hlo]
theorem new3 {σ : Store} {lo : Nat} {z : DV} {v : Int} (hlo : lo ≤ σ.length) : store PP lo 3 (.ptr σ.length 0) (.p (.int .i64 v)) (σ ++ [.mix [z]]) = some (σ ++ [.mix [.p (.int .i64 v)]]) := by
  rw [st3 (z := z) get_snoc hlo]; simp
theorem S98 (o : OI) (σ : Store) : pureV CC 98 [.p (eSl o)] σ = some (.fn 143 [.pptr [eSl o] 0]) := by
  refine pureV_free (by simp [sl_view]) rfl (F98_call (r := (.fn 143 [.pptr [eSl o] 0], [])) ?_) ?_
  · rw [F98_eq]; rfl
  · simp [thawAll, thawPart, thaw, thaw1, mapO, loosen_sl, loosens]
theorem f44_X0_exit (G : GuardT) (lo : Nat) (x0 x2 x3 x5 x6 x7 x8 x27 x28 x29 x30 x31 x32 x33 x34 x35 x36 x37 x39 x40 x41 x42 : DV) (σ : Store) : f44_X0 G lo (.exit 2) x0 x2 x3 x5 x6 x7 x8 x27 x28 x29 x30 x31 x32 x33 x34 x35 x36 x37 x39 x40 x41 x42 σ =
 f44_J0 G lo x0 x2 x3 x5 x6 x7 x8 x27 x28 x29 σ := by kernel_rfl
theorem down_all : ∀ (cells : List PV) (k : Nat), (downFrom false 1 cells k).all (fun x => x.length == 2) = true
  | _, 0 => rfl
  | cells, k + 1 => by simp [downFrom, down_all cells k]
theorem elem_int {l : List Int} {k : Nat} (hk : k < l.length) : elemOf false 1 (eInts l) k = .p (.int .i64 (l.getD k 0)) := by
  have hx : (eInts l)[k]? = some (pI l[k]) := by simp [eInts, hk]
  have hy : l.getD k 0 = l[k] := by rw [List.getD_eq_getElem?_getD, List.getElem?_eq_getElem hk]; rfl
  rw [hy]
  simp [elemOf, hx]
def Kept (t : Nat) (σ σ' : Store) : Prop := σ'.length = σ.length ∧ ∀ j, j ≠ t → σ'[j]? = σ[j]?
section
variable {us B : List Int} {y : DV} {t i : Nat} (hB : PL y B) (ht : 0 < t) (hi : i ≤ 1000) (hBl : B.length = i) (hb2 : ∀ j, j < i → B.getD j 0 ≤ i ∧ 0 ≤ B.getD j 0)
variable {x0 x2 x3 x6 x7 x27 x28 x29 x30 x31 x32 x33 x34 x35 x36 x37 x39 x40 x41 x42 : DV}
include hB ht hi hBl hb2
theorem rounds44 {K : Ex → Store → Option (DV × Store)} : ∀ (k : Nat) (b : Int) (σ : Store), k ≤ us.length → 0 ≤ b → b ≤ i → σ[t]? = some (.mix [.p (.int .i64 b)]) → σ[0]? = some (.mix [y]) →
    ∃ ex σ', (ex = .normal ∨ ex = .exit 2) ∧ roundsK (fun xs ρ K' => f44_R0 guardT 0 x0 x2 x3 (.ptr 0 0) x6 x7 (.ptr t 0) x27 x28 x29 x30 x31 x32 x33 x34 x35 x36 x37 x39 x40 x41 x42 xs ρ K') (downFrom false 1 (eInts us) k) σ K = K ex σ' ∧
      σ'[t]? = some (.mix [.p (.int .i64 (bgB B us b k))]) ∧ Kept t σ σ'
  | 0, b, σ, hk, hb, hbi, g, g0 => ⟨.normal, σ, .inl rfl, rfl, g, rfl, fun _ _ => rfl⟩
  | k + 1, b, σ, hk, hb, hbi, g, g0 => by
    have hl : load1 (.ptr t 0) σ = some (.p (.int .i64 b)) := load1_ptr g rfl
    have hl0 : load1 (.ptr 0 0) σ = some y := load1_ptr g0 rfl
    have he := elem_int (l := us) (k := k) (by omega)
    unfold bgB
    by_cases c1 : us.getD k 0 = b - 1
    · by_cases c2 : us.getD k 0 < 0
      · rw [if_neg (fun h => h.2 c2)]
        refine ⟨.exit 2, σ.set t (.mix [.p (.int .i64 (-1))]), .inr rfl, ?_, by rw [List.getElem?_set_self (get_lt g)], by simp, fun j hj => List.getElem?_set_ne (fun e => hj e.symm)⟩
        simp only [downFrom, roundsK, he]
        rw [f44_R0_eq]
        simp (disch := omega) only [load3, hl, gG, subJ, b_neq, eqT c1, b_lss, ltT c2, st3 g (Nat.zero_le _)]
      · rw [if_pos ⟨c1, c2⟩]
        have hlt : (us.getD k 0).toNat < i := by omega
        have e1 : us.getD k 0 = ((us.getD k 0).toNat : Int) := by omega
        have i1 := hB.idx (i := (us.getD k 0).toNat) (by omega)
        have l1 := load1_getD (l := B) (i := (us.getD k 0).toNat) (by omega) σ
        rw [← e1] at i1
        obtain ⟨hb3, hb4⟩ := hb2 _ hlt
        generalize hv : B.getD (us.getD k 0).toNat 0 = v at *
        obtain ⟨ex, σ', r1, r2, r3, r4⟩ := rounds44 (K := K) k v (σ.set t (.mix [.p (.int .i64 v)])) (by omega) hb4 hb3 (by rw [List.getElem?_set_self (get_lt g)]) (by rw [List.getElem?_set_ne (by omega)]; exact g0)
        refine ⟨ex, σ', r1, ?_, r3, by rw [r4.1]; simp, fun j hj => by rw [r4.2 j hj, List.getElem?_set_ne (fun e => hj e.symm)]⟩
        rw [← r2]
        simp only [downFrom, roundsK, he]
        rw [f44_R0_eq]
        simp (disch := omega) only [load3, hl, gG, subJ, b_neq, eqT c1, b_lss, ltF c2, load24, hl0, i1, l1, st3 g (Nat.zero_le _)]
    · rw [if_neg (fun h => c1 h.1)]
      refine ⟨.exit 2, σ.set t (.mix [.p (.int .i64 (-1))]), .inr rfl, ?_, by rw [List.getElem?_set_self (get_lt g)], by simp, fun j hj => List.getElem?_set_ne (fun e => hj e.symm)⟩
      simp only [downFrom, roundsK, he]
      rw [f44_R0_eq]
      simp (disch := omega) only [load3, hl, gG, subJ, b_neq, eqF c1, st3 g (Nat.zero_le _)]
theorem range44 {o : OI} (ho : L o = us) (hu : us.length ≤ 1000) {σ : Store} (g : σ[t]? = some (.mix [.p (.int .i64 (i : Nat))])) (g0 : σ[0]? = some (.mix [y])) {K : Ex → Store → Option (DV × Store)} :
    ∃ ex σ', (ex = .normal ∨ ex = .exit 2) ∧ rangeK (pol 44) (.fn 143 [.pptr [eSl o] 0]) 2 true true (fun xs ρ K' => f44_R0 guardT 0 x0 x2 x3 (.ptr 0 0) x6 x7 (.ptr t 0) x27 x28 x29 x30 x31 x32 x33 x34 x35 x36 x37 x39 x40 x41 x42 xs ρ K') σ K = K ex σ' ∧
      σ'[t]? = some (.mix [.p (.int .i64 (bgB B us i us.length))]) ∧ Kept t σ σ' := by
  have hseq : ((pol 44).seq 143).bind (fun kind => seqList kind [.pptr [eSl o] 0]) = some (downFrom false 1 (eInts us) us.length) := by
    show seqList (.backward false 1) [.pptr [eSl o] 0] = _
    cases o with
    | none =>
      have : us = [] := ho.symm
      subst this
      rfl
    | some l =>
      have : l = us := ho
      subst this
      have h2 : l.length ≤ 140737488355328 := by omega
      simp [seqList, eSl, ints_length, h2]
  obtain ⟨ex, σ', r1, r2, r3⟩ := rounds44 hB ht hi hBl hb2 (K := K) us.length i σ (Nat.le_refl _) (by omega) (Int.le_refl _) g g0
  refine ⟨ex, σ', r1, ?_, r3⟩
  simp only [rangeK, hseq, down_all, Bool.and_self, if_true]
  exact r2
end
theorem Out.keep {σ σ' : Store} {lo sz n : Nat} {cs : List PV} {x : DV} (ho : Out σ lo sz n cs x) (h : ∀ (r v : Nat), σ[r]? = some (.tok v) → σ'[r]? = some (.tok v)) : Out σ' lo sz n cs x := by
  refine ⟨ho.1, ?_⟩
  rcases ho.2 with h1 | ⟨h1, r, ver, h2, h3, h4⟩
  · exact .inl h1
  · exact .inr ⟨h1, r, ver, h2, h _ _ h3, h4⟩
theorem map_get (g : Nat → Int) {i j : Nat} (h : j < i) : ((List.range i).map g).getD j 0 = g j := by
  simp [List.getD_eq_getElem?_getD, h]
section
variable {x : Nd} {s i m : Nat} {b : Int} {y x0 x27 : DV} {B : List Int} {σ : Store} {R : Int × Int} (gs : σ[s]? = some (.mix (ndD x))) (gb : σ[s + 1]? = some (.mix [.p (.int .i64 b)])) (g0 : σ[0]? = some (.mix [y]))
variable (ho : Out σ 0 1 B.length (eInts B) y) (hBl : B.length ≤ 1000) (hi : i ≤ 1000)
variable (hn : 0 ≤ b → ∀ (y' : DV) (σ' : Store), σ'[0]? = some (.mix [y']) → Out σ' 0 1 (B ++ [b]).length (eInts (B ++ [b])) y' → ∃ σ'', f44_L0 guardT 0 x0 (.p (.int .i64 0)) (.p (.int .i64 0)) (.ptr 0 0) x27 (N m) (N (i + 1)) σ' = some (pr2 R, σ''))
include gs gb g0 ho hBl hi hn
theorem J44_1 (x57 x58 x59 x60 x61 x62 x63 x64 x65 x66 : DV) : ∃ σ'', f44_J1 guardT 0 x0 (.p (.int .i64 0)) (.p (.int .i64 0)) (.ptr 0 0) (N i) (.ptr s 0) (.ptr (s + 1) 0) (.p (.bool (bad x))) x27 (N m) (N i) x57 x58 x59 x60 x61 x62 x63 x64 x65 x66 σ =
    some (pr2 (if (((L x.a).length : Nat) : Int) = ar x.k ∧ 0 ≤ b then if bad x = true then (((i : Nat) : Int), (3 : Int)) else R else (((i : Nat) : Int), (6 : Int))), σ'') := by
  have hb : load1 (.ptr (s + 1) 0) σ = some (.p (.int .i64 b)) := load1_ptr gb rfl
  have hl0 : load1 (.ptr 0 0) σ = some y := load1_ptr g0 rfl
  have q2 : ∀ (a c : Int) (σ : Store), pureV CC 66 [.p (.sl true 2 [pI a, pI c])] σ = some (.p (.int .i64 (orL [a, c]))) := fun a c σ => S66 (ex := true) (l := [a, c]) (by simp) σ
  rw [f44_J1_eq]
  by_cases c1 : b < 0
  · rw [if_neg (fun h => by omega)]
    refine ⟨σ, ?_⟩
    have e : orL [wrg true 6, wrg (bad x) 3] = 6 := rfl
    simp (disch := omega) only [load3, hb, gG, b_lss, ltT c1, shift_ptr, shift_pptr, Nat.zero_add, Nat.add_zero, pureFn_fn, List.append_nil, List.singleton_append, List.cons_append, List.nil_append, S67, bs160_2, q2, e, b_neq, eqF (show ¬ (6 : Int) = 0 by decide), pr2, N]
  · by_cases c2 : (((L x.a).length : Nat) : Int) = ar x.k
    · rw [if_pos ⟨c2, by omega⟩]
      by_cases c3 : bad x = true
      · rw [if_pos c3, c3]
        refine ⟨σ, ?_⟩
        have e : orL [wrg false 6, wrg true 3] = 3 := rfl
        simp (disch := omega) only [load3, hb, gG, b_lss, ltF c1, fa67_0, fa67_2, shift_ptr, shift_pptr, Nat.zero_add, Nat.add_zero, pureFn_fn, List.append_nil, List.singleton_append, List.cons_append, List.nil_append, load24, row_a gs, (PL.sl _).len, row_k gs, S99, b_neq, eqT c2, S67, bs160_2, q2, e, eqF (show ¬ (3 : Int) = 0 by decide), pr2, N]
      · rw [if_neg c3, (Bool.not_eq_true _).mp c3]
        obtain ⟨y', σ', p1, p2, p3, p4⟩ := Out.pushI (v := b) ho (by omega) (Nat.zero_le _)
        have k0 := p3.mix ho g0 (fun v h => by cases h)
        have st := st24 (out_pl p2) k0 (Nat.zero_le 0)
        obtain ⟨σ'', r⟩ := hn (by omega) y' (σ'.set 0 (.mix [y'])) (by rw [List.getElem?_set_self (get_lt k0)]) (p2.keep fun r v hr => by
          rw [List.getElem?_set_ne]
          · exact hr
          · intro e; subst e; rw [k0] at hr; injection hr with hr; cases hr)
        refine ⟨σ'', ?_⟩
        rw [← r]
        have e : orL [wrg false 6, wrg false 3] = 0 := rfl
        simp (disch := omega) only [load3, hb, gG, b_lss, ltF c1, fa67_0, fa67_2, shift_ptr, shift_pptr, Nat.zero_add, Nat.add_zero, pureFn_fn, List.append_nil, List.singleton_append, List.cons_append, List.nil_append, load24, row_a gs, (PL.sl _).len, row_k gs, S99, b_neq, eqT c2, S67, bs160_2, q2, e, eqT (rfl : (0 : Int) = 0), hl0, bs24_1, p1, st, add1, N]
    · rw [if_neg (fun h => c2 h.1)]
      refine ⟨σ, ?_⟩
      have e : orL [wrg true 6, wrg (bad x) 3] = 6 := rfl
      simp (disch := omega) only [load3, hb, gG, b_lss, ltF c1, fa67_0, fa67_2, shift_ptr, shift_pptr, Nat.zero_add, Nat.add_zero, pureFn_fn, List.append_nil, List.singleton_append, List.cons_append, List.nil_append, load24, row_a gs, (PL.sl _).len, row_k gs, S99, b_neq, eqF c2, S67, bs160_2, q2, e, eqF (show ¬ (6 : Int) = 0 by decide), pr2, N]
theorem J44 : ∃ σ'', f44_J0 guardT 0 x0 (.p (.int .i64 0)) (.p (.int .i64 0)) (.ptr 0 0) (N i) (.ptr s 0) (.ptr (s + 1) 0) x27 (N m) (N i) σ =
    some (pr2 (if (((L x.a).length : Nat) : Int) = ar x.k ∧ 0 ≤ b then if bad x = true then (((i : Nat) : Int), (3 : Int)) else R else (((i : Nat) : Int), (6 : Int))), σ'') := by
  rw [f44_J0_eq]
  by_cases c : x.k = 1
  · have e : (.p (.bool (!inR x.n 0 11)) : DV) = .p (.bool (bad x)) := by unfold bad; rw [if_pos c]
    simp only [fa67_0, fa67_1, shift_ptr, shift_pptr, Nat.zero_add, Nat.add_zero, pureFn_fn, List.append_nil, List.singleton_append, List.cons_append, List.nil_append, gG, load3, row_n gs, row_k gs, b_neq, b_eql, eqT c, S65, e]
    exact J44_1 gs gb g0 ho hBl hi hn _ _ _ _ _ _ _ _ _ _
  · have e : (.p (.bool (!decide (x.n = 0))) : DV) = .p (.bool (bad x)) := by unfold bad; rw [if_neg c]
    simp only [fa67_0, fa67_1, shift_ptr, shift_pptr, Nat.zero_add, Nat.add_zero, pureFn_fn, List.append_nil, List.singleton_append, List.cons_append, List.nil_append, gG, load3, row_n gs, row_k gs, b_neq, b_eql, eqF c, e]
    exact J44_1 gs gb g0 ho hBl hi hn _ _ _ _ _ _ _ _ _ _
end
section
variable {f : Fm} (hf : FSm f) (h40 : (L f).length ≤ 40)
include hf h40
theorem L44 : ∀ (d i : Nat) (y : DV) (σ : Store), 0 < (L f).length → (L f).length - i = d → i ≤ (L f).length → σ[0]? = some (.mix [y]) → (∀ j, j < i → 0 ≤ fo (L f) j) →
    Out σ 0 1 ((List.range i).map (fo (L f))).length (eInts ((List.range i).map (fo (L f)))) y →
    ∃ σ', f44_L0 guardT 0 (.p (eFm f)) (.p (.int .i64 0)) (.p (.int .i64 0)) (.ptr 0 0) (.p (eFm f)) (N (L f).length) (N i) σ = some (pr2 (chkF (L f) d i), σ')
  | 0, i, y, σ, hp, hd, hi, g0, hB, ho => by
    have e : i = (L f).length := by omega
    subst e
    have hy := out_pl ho
    have i1 := hy.idx (i := (L f).length - 1) (by simp; omega)
    have l1 := load1_getD (l := (List.range (L f).length).map (fo (L f))) (i := (L f).length - 1) (by simp; omega) σ
    rw [map_get _ (by omega)] at l1
    have hl0 : load1 (.ptr 0 0) σ = some y := load1_ptr g0 rfl
    refine ⟨σ, ?_⟩
    rw [f44_L0_eq guardT rfl]
    unfold chkF pr2
    by_cases c : fo (L f) ((L f).length - 1) = 0
    · rw [if_pos c]
      simp (disch := omega) only [N, len23, gG, b_lss, ltF, sub1, load24, hl0, i1, load3, l1, b_neq, eqT c]
    · rw [if_neg c]
      simp (disch := omega) only [N, len23, gG, b_lss, ltF, sub1, load24, hl0, i1, load3, l1, b_neq, eqF c]
  | d + 1, i, y, σ, hp, hd, hi, g0, hB, ho => by
    have hlt : i < (L f).length := by omega
    have h3 := hf.2 i
    have ha : L ((L f).getD i default).a = nA (L f) i := rfl
    have hnd := nd_all hlt
    rw [nd_case]
    generalize hx : (L f).getD i default = x at *
    have g : (σ ++ [Row.mix (ndD x)])[σ.length]? = some (.mix (ndD x)) := get_snoc
    have st := st67 (σ := σ) (lo := 0) (z := [.p (pI 0), .p (pI 0), .p .nilsl]) x rfl (Nat.zero_le _)
    have hs0 := get_lt g0
    by_cases c1 : inR x.k 0 9 = true
    · rw [if_pos c1]
      have st' := new3 (σ := σ ++ [Row.mix (ndD x)]) (lo := 0) (z := .p (pI 0)) (v := (i : Nat)) (Nat.zero_le _)
      have hlen : (σ ++ [Row.mix (ndD x)]).length = σ.length + 1 := by simp
      rw [hlen] at st'
      have gt : ((σ ++ [Row.mix (ndD x)]) ++ [Row.mix [.p (.int .i64 (i : Nat))]])[σ.length + 1]? = some (.mix [.p (.int .i64 (i : Nat))]) := by
        rw [← hlen]; exact get_snoc
      have g2 : ((σ ++ [Row.mix (ndD x)]) ++ [Row.mix [.p (.int .i64 (i : Nat))]])[σ.length]? = some (.mix (ndD x)) := get_old g
      have g02 : ((σ ++ [Row.mix (ndD x)]) ++ [Row.mix [.p (.int .i64 (i : Nat))]])[0]? = some (.mix [y]) := get_old (get_old g0)
      have hB2 : ∀ j, j < i → ((List.range i).map (fo (L f))).getD j 0 = fo (L f) j ∧ 0 ≤ fo (L f) j := fun j hj => ⟨map_get _ hj, hB j hj⟩
      have hB3 : ∀ j, j < i → ((List.range i).map (fo (L f))).getD j 0 ≤ i ∧ 0 ≤ ((List.range i).map (fo (L f))).getD j 0 := fun j hj => by
        rw [map_get _ hj]
        have := fo_le (L f) j
        exact ⟨by omega, hB j hj⟩
      have hbg := bgB_eq (F := L f) (us := nA (L f) i) hB2 (nA (L f) i).length i (Int.le_refl _)
      obtain ⟨ex, σ4, hex, key, k1, k2⟩ := range44 (out_pl ho) (t := σ.length + 1) (by omega) (i := i) (by omega) (by simp) hB3 (x0 := .p (eFm f)) (x2 := .p (.int .i64 0)) (x3 := .p (.int .i64 0)) (x6 := N i) (x7 := .ptr σ.length 0) (x27 := .p (eFm f)) (x28 := N (L f).length) (x29 := N i) (x30 := .p (.bool true)) (x31 := N i) (x32 := .pptr (eNds (L f)) (i * 3)) (x33 := .agg (ndD x)) (x34 := .ptr σ.length 0) (x35 := .p (.int .i64 x.k)) (x36 := .p (.bool true)) (x37 := .p (.bool false)) (x39 := N i) (x40 := .ptr σ.length 2) (x41 := .p (eSl x.a)) (x42 := .fn 143 [.pptr [eSl x.a] 0]) (o := x.a) ha (by omega) gt g02
        (K := fun ex ρ => f44_X0 guardT 0 ex (.p (eFm f)) (.p (.int .i64 0)) (.p (.int .i64 0)) (.ptr 0 0) (N i) (.ptr σ.length 0) (.ptr (σ.length + 1) 0) (.p (eFm f)) (N (L f).length) (N i) (.p (.bool true)) (N i) (.pptr (eNds (L f)) (i * 3)) (.agg (ndD x)) (.ptr σ.length 0) (.p (.int .i64 x.k)) (.p (.bool true)) (.p (.bool false)) (N i) (.ptr σ.length 2) (.p (eSl x.a)) (.fn 143 [.pptr [eSl x.a] 0]) ρ)
      have key2 := key.trans (show _ = f44_J0 guardT 0 (.p (eFm f)) (.p (.int .i64 0)) (.p (.int .i64 0)) (.ptr 0 0) (N i) (.ptr σ.length 0) (.ptr (σ.length + 1) 0) (.p (eFm f)) (N (L f).length) (N i) σ4 from by
        rcases hex with rfl | rfl
        · exact f44_X0_normal guardT 0 _ _ _ _ _ _ _ _ _ _ _ _ _ _ _ _ _ _ _ _ _ _ σ4
        · exact f44_X0_exit guardT 0 _ _ _ _ _ _ _ _ _ _ _ _ _ _ _ _ _ _ _ _ _ _ σ4)
      have hst : stands (L f) i = decide (0 ≤ bgB ((List.range i).map (fo (L f))) (nA (L f) i) i (nA (L f) i).length) := by
        rw [hbg, stands]
        cases hq : stB (L f) (nA (L f) i) i (nA (L f) i).length with
        | none => rfl
        | some q =>
          have := stB_pos _ _ _ (by omega) hq
          simp [this]
      have hJ := J44 (x := x) (s := σ.length) (i := i) (m := (L f).length) (b := bgB ((List.range i).map (fo (L f))) (nA (L f) i) i (nA (L f) i).length) (y := y) (x0 := .p (eFm f)) (x27 := .p (eFm f)) (B := (List.range i).map (fo (L f))) (σ := σ4)
        (R := chkF (L f) d (i + 1)) (by rw [k2.2 _ (by omega)]; exact g2) k1 (by rw [k2.2 _ (by omega)]; exact g02)
        (ho.keep fun r v hr => by
          have hr' := get_old (row' := Row.mix [.p (.int .i64 (i : Nat))]) (get_old (row' := Row.mix (ndD x)) hr)
          rw [k2.2 r (by have := get_lt hr; omega)]; exact hr')
        (by simp; omega) (by omega) (fun h0 y' σ' q0 qo => by
          have hs1 : stands (L f) i = true := by rw [hst, decide_eq_true h0]
          have hfo : bgB ((List.range i).map (fo (L f))) (nA (L f) i) i (nA (L f) i).length = fo (L f) i := by
            rw [hbg]
            unfold stands at hs1
            obtain ⟨q, hq⟩ := Option.isSome_iff_exists.1 hs1
            rw [hq, stands_fo hq]; rfl
          have hm : (List.range i).map (fo (L f)) ++ [fo (L f) i] = (List.range (i + 1)).map (fo (L f)) := by rw [List.range_succ, List.map_append]; rfl
          rw [hfo, hm] at qo
          rw [hfo] at h0
          exact L44 d (i + 1) y' σ' hp (by omega) (by omega) q0 (fun j hj => by
            by_cases e : j = i
            · subst e; exact h0
            · exact hB j (by omega)) qo)
      obtain ⟨σ'', hJ⟩ := hJ
      refine ⟨σ'', ?_⟩
      have hiff : ((((nA (L f) i).length : Nat) : Int) = ar x.k ∧ stands (L f) i = true) ↔ ((((L x.a).length : Nat) : Int) = ar x.k ∧ 0 ≤ bgB ((List.range i).map (fo (L f))) (nA (L f) i) i (nA (L f) i).length) := by
        rw [ha, hst, decide_eq_true_iff]
      simp only [hiff]
      rw [← hJ, ← key2, f44_L0_eq guardT rfl]
      simp (disch := omega) only [N, gG, b_lss, ltT, idx23 hlt, load67, hnd, zero67, st, fa67_0, fa67_2, shift_ptr, shift_pptr, Nat.zero_add, Nat.add_zero, pureFn_fn, List.append_nil, List.singleton_append, List.cons_append, List.nil_append, load3, row_k g, S65, c1, zero3, st', hlen, load24, row_a g2, S98]
    · rw [if_neg c1]
      refine ⟨σ ++ [Row.mix (ndD x)], ?_⟩
      rw [f44_L0_eq guardT rfl]
      simp (disch := omega) only [N, gG, b_lss, ltT, idx23 hlt, load67, hnd, zero67, st, fa67_0, shift_ptr, shift_pptr, Nat.zero_add, Nat.add_zero, pureFn_fn, List.append_nil, List.singleton_append, List.cons_append, List.nil_append, load3, row_k g, S65, (Bool.not_eq_true _).mp c1, pr2]
omit h40 in
theorem S44 (σ : Store) : pureV CC 44 [.p (eFm f)] σ = some (pr2 (chk (L f))) := by
  have h1 := hf.1
  have q2 : ∀ (a c : Int) (σ : Store), pureV CC 66 [.p (.sl true 2 [pI a, pI c])] σ = some (.p (.int .i64 (orL [a, c]))) := fun a c σ => S66 (ex := true) (l := [a, c]) (by simp) σ
  unfold chk
  by_cases c1 : (L f).length = 0
  · have c1' : ((L f).length : Int) = 0 := by omega
    have c2' : ¬ ((L f).length : Int) > 40 := by omega
    rw [if_pos c1]
    refine pureV_free (by simp [fm_view]) rfl (F44_call (r := (pr2 (0, 1), [])) ?_) rfl
    have e : orL [wrg true 1, wrg false 2] = 1 := rfl
    rw [F44_eq]
    simp only [len23, N, gG, b_eql, eqT c1', b_gtr, gtF c2', shift_ptr, shift_pptr, Nat.zero_add, Nat.add_zero, pureFn_fn, List.append_nil, List.singleton_append, List.cons_append, List.nil_append, S67, bs160_2, q2, e, b_neq, eqF (show ¬ (1 : Int) = 0 by decide), pr2]
  · have c1' : ¬ ((L f).length : Int) = 0 := by omega
    rw [if_neg c1]
    by_cases c2 : (L f).length > 40
    · have c2' : ((L f).length : Int) > 40 := by omega
      rw [if_pos c2]
      refine pureV_free (by simp [fm_view]) rfl (F44_call (r := (pr2 (0, 2), [])) ?_) rfl
      have e : orL [wrg false 1, wrg true 2] = 2 := rfl
      rw [F44_eq]
      simp only [len23, N, gG, b_eql, eqF c1', b_gtr, gtT c2', shift_ptr, shift_pptr, Nat.zero_add, Nat.add_zero, pureFn_fn, List.append_nil, List.singleton_append, List.cons_append, List.nil_append, S67, bs160_2, q2, e, b_neq, eqF (show ¬ (2 : Int) = 0 by decide), pr2]
    · have c2' : ¬ ((L f).length : Int) > 40 := by omega
      rw [if_neg c2]
      obtain ⟨σ', h⟩ := L44 hf (by omega) _ 0 (.p .nilsl) [.mix [.p .nilsl]] (by omega) rfl (Nat.zero_le _) rfl (fun j hj => by omega) Out.zero
      rw [Nat.sub_zero] at h
      refine pureV_free (by simp [fm_view]) rfl (F44_call (r := (pr2 (chkF (L f) (L f).length 0), σ')) ?_) rfl
      have e : orL [wrg false 1, wrg false 2] = 0 := rfl
      have z24 : zeroOf PP 24 = some [.p .nilsl] := Eq.trans (by kernel_rfl) rfl
      rw [F44_eq, ← h]
      simp only [len23, N, gG, b_eql, eqF c1', b_gtr, gtF c2', shift_ptr, shift_pptr, Nat.zero_add, Nat.add_zero, pureFn_fn, List.append_nil, List.singleton_append, List.cons_append, List.nil_append, S67, bs160_2, q2, e, b_neq, eqT (rfl : (0 : Int) = 0), z24, List.length_nil]
      rfl
omit h40 in
theorem S70 (σ : Store) : pureV CC 70 [.p (eFm f)] σ = some (.p (.int .i64 (chk (L f)).2)) := by
  refine pureV_free (by simp [fm_view]) rfl (F70_call (r := (.p (.int .i64 (chk (L f)).2), [])) ?_) rfl
  have ex0 : ∀ (a b : DV), extractV (.tuple [a, b]) 0 = some a := fun _ _ => rfl
  have ex1 : ∀ (a b : DV), extractV (.tuple [a, b]) 1 = some b := fun _ _ => rfl
  rw [F70_eq]
  simp only [shift_ptr, shift_pptr, Nat.zero_add, Nat.add_zero, pureFn_fn, List.append_nil, List.singleton_append, List.cons_append, List.nil_append, S44 hf, pr2, gG, ex0, ex1]
end
def ownN (x : Nd) : Nd := ⟨x.k, x.n, some (L x.a)⟩
def oF (l : List Nd) : Fm := if l = [] then none else some l
theorem L_oF (l : List Nd) : L (oF l) = l := by
  unfold oF
  split
  · rename_i h; rw [h]; rfl
  · rfl
theorem own_get (F : List Nd) (i : Nat) : L ((F.map ownN).getD i default).a = L (F.getD i default).a ∧ ((F.map ownN).getD i default).k = (F.getD i default).k ∧ ((F.map ownN).getD i default).n = (F.getD i default).n := by
  rw [List.getD_eq_getElem?_getD, List.getD_eq_getElem?_getD, List.getElem?_map]
  cases F[i]? <;> exact ⟨rfl, rfl, rfl⟩
theorem nA_own (F : List Nd) (i : Nat) : nA (F.map ownN) i = nA F i := (own_get F i).1
theorem foK_own (F : List Nd) : ∀ (k r : Nat), foK (F.map ownN) k r = foK F k r
  | 0, r => rfl
  | k + 1, r => by unfold foK; rw [nA_own, foK_own F k]
theorem foI_own (F : List Nd) (r : Int) : foI (F.map ownN) r = foI F r := by unfold foI fo; rw [foK_own]
theorem stB_own (F : List Nd) (us : List Int) : ∀ (k : Nat) (x : Int), stB (F.map ownN) us x k = stB F us x k
  | 0, x => rfl
  | k + 1, x => by unfold stB; rw [foI_own, stB_own F us k]
theorem chkF_own (F : List Nd) : ∀ (d i : Nat), chkF (F.map ownN) d i = chkF F d i
  | 0, i => by unfold chkF fo; rw [List.length_map, foK_own]
  | d + 1, i => by
    have hb : bad ((F.map ownN).getD i default) = bad (F.getD i default) := by unfold bad; rw [(own_get F i).2.1, (own_get F i).2.2]
    unfold chkF stands
    rw [nA_own, stB_own, hb, (own_get F i).2.1, chkF_own F d]
theorem chk_own (F : List Nd) : chk (F.map ownN) = chk F := by unfold chk; rw [List.length_map, chkF_own]
theorem FSm.own {f : Fm} (h : FSm f) : FSm (oF ((L f).map ownN)) := by
  refine ⟨by rw [L_oF, List.length_map]; exact h.1, fun i => ?_⟩
  rw [L_oF, nA_own]
  exact h.2 i
def eNd (x : Nd) : List PV := [pI x.k, pI x.n, eSl x.a]
theorem bs23_1 (x : Nd) (σ : Store) : buildSlice PP none 23 1 [(0, .agg (ndD x))] σ = some (.p (.sl true 1 (eNd x)), σ) := Eq.trans (by kernel_rfl) rfl
theorem st67_2 {σ : Store} {lo r : Nat} {x : Nd} {a : OI} (h : σ[r]? = some (.mix (ndD x))) (hlo : lo ≤ r) : store PP lo 24 (.ptr r 2) (.p (eSl a)) σ = some (σ.set r (.mix (ndD ⟨x.k, x.n, a⟩))) := by
  have e : splice (ndD x) 2 [DV.p (eSl a)] = ndD ⟨x.k, x.n, a⟩ := rfl
  have e3 : (ndD x).length = 3 := rfl
  simp [store, s24, DV.cells, storeN, h, e, e3, DV.one, hlo]
section
variable {f : Fm} (hf : FSm f)
include hf
theorem L19 : ∀ (d i : Nat) (y : DV) (σ : Store), (L f).length - i = d → i ≤ (L f).length → Out σ 0 3 i (eNds (((L f).take i).map ownN)) y →
    ∃ y' σ', f19_L0 guardT 0 (.p (eFm f)) y (N i) σ = some (y', σ') ∧ Out σ' 0 3 (L f).length (eNds ((L f).map ownN)) y'
  | 0, i, y, σ, hd, hi, ho => by
    have e : i = (L f).length := by omega
    subst e
    have h1 := hf.1
    rw [List.take_length] at ho
    refine ⟨y, σ, ?_, ho⟩
    rw [f19_L0_eq guardT rfl]
    simp (disch := omega) only [N, len23, gG, b_lss, ltF]
  | d + 1, i, y, σ, hd, hi, ho => by
    have h1 := hf.1
    have h2 := hf.2 i
    have hlt : i < (L f).length := by omega
    have hnd := nd_all hlt
    have ha : L ((L f).getD i default).a = nA (L f) i := rfl
    have ht : (((L f).take (i + 1)).map ownN) = ((L f).take i).map ownN ++ [ownN ((L f).getD i default)] := by
      rw [List.take_succ_eq_append_getElem hlt, List.map_append, List.getD_eq_getElem?_getD, List.getElem?_eq_getElem hlt]; rfl
    generalize hx : (L f).getD i default = x at *
    have g : (σ ++ [Row.mix (ndD x)])[σ.length]? = some (.mix (ndD x)) := get_snoc
    have st := st67 (σ := σ) (lo := 0) (z := [.p (pI 0), .p (pI 0), .p .nilsl]) x rfl (Nat.zero_le _)
    have st2 := st67_2 (lo := 0) (a := some (L x.a)) g (Nat.zero_le _)
    have e2 : (σ ++ [Row.mix (ndD x)]).set σ.length (.mix (ndD ⟨x.k, x.n, some (L x.a)⟩)) = σ ++ [Row.mix (ndD (ownN x))] := by simp [ownN]
    rw [e2] at st2
    have g2 : (σ ++ [Row.mix (ndD (ownN x))])[σ.length]? = some (.mix (ndD (ownN x))) := get_snoc
    have ho2 : Out (σ ++ [Row.mix (ndD (ownN x))]) 0 3 i (eNds (((L f).take i).map ownN)) y := ho.keep fun r v hr => get_old hr
    obtain ⟨y', σ', p1, p2, _, _⟩ := Out.push (vs := eNd (ownN x)) src23 u23 s67 bytes67 zero67 rfl (by decide) (by decide) (by decide) rfl ho2 (by omega) (Nat.zero_le _)
    have e3 : eNds (((L f).take i).map ownN) ++ eNd (ownN x) = eNds (((L f).take (i + 1)).map ownN) := by rw [ht, eNds_app]; rfl
    rw [e3] at p2
    obtain ⟨y2, σ2, r1, r2⟩ := L19 d (i + 1) y' σ' (by omega) (by omega) p2
    refine ⟨y2, σ2, ?_, r2⟩
    rw [← r1, f19_L0_eq guardT rfl]
    simp (disch := omega) only [N, len23, gG, b_lss, ltT, idx23 hlt, load67, hnd, zero67, st, fa67_2, shift_ptr, shift_pptr, Nat.zero_add, Nat.add_zero, pureFn_fn, List.append_nil, List.singleton_append, List.cons_append, List.nil_append, load24, row_a g, S52 (show (L x.a).length ≤ 1000000 by rw [ha]; omega), st2, row_nd g2, bs23_1, p1, add1]
theorem S19 (σ : Store) : pureV CC 19 [.p (eFm f)] σ = some (.p (eFm (oF ((L f).map ownN)))) := by
  obtain ⟨y, σ', h1, h2⟩ := L19 hf _ 0 (.p .nilsl) [] rfl (Nat.zero_le _) Out.zero
  refine pureV_free (by simp [fm_view]) rfl (F19_call (r := (y, σ')) ?_) ?_
  · rw [F19_eq]; exact h1
  · rw [h2.twAll, loosens_nds]
    congr 2
    unfold oF eFm
    by_cases h0 : (L f).length = 0
    · have h0' : L f = [] := List.length_eq_zero_iff.1 h0
      rw [if_pos h0, h0']; rfl
    · have h0' : ¬ (L f).map ownN = [] := fun e => h0 (by have := congrArg List.length e; simpa using this)
      rw [if_neg h0, if_neg h0']
      simp
end
end Go.D
end
/- Chapter 13: lists of truths; what the program computes on a ring of places. -/
section
set_option linter.unusedVariables false
set_option linter.unusedSimpArgs false
set_option maxRecDepth 8000
namespace Go.D
open Las
def bls (l : List Bool) : List DV := (eBools l).map DV.p
def BV (l : List Bool) : DV := .p (.sl false l.length (eBools l))
theorem bls_len (l : List Bool) : (bls l).length = l.length := by simp [bls, bools_length]
theorem bls_get {l : List Bool} {i : Nat} (h : i < l.length) : (bls l)[i]? = some (.p (.bool (l.getD i false))) := by
  simp [bls, eBools, List.getD_eq_getElem?_getD, h]
theorem BV_view (l : List Bool) : view (BV l) = BV l := by simp [BV, view, viewCell, loosen, loosens_bools]
theorem u34 : PP.underlying 34 = some (.slice 4) := Eq.trans (by kernel_rfl) rfl
theorem src34 : srcType PP 34 = true := Eq.trans (by kernel_rfl) rfl
theorem bytes4 : bytes? PP 4 = some 1 := Eq.trans (by kernel_rfl) rfl
theorem zero4 : zeroOf PP 4 = some [.p (.bool false)] := Eq.trans (by kernel_rfl) rfl
theorem BV_len (l : List Bool) (σ : Store) : len PP 34 (BV l) σ = some (N l.length) := by simp [len, u34, BV, N]
theorem BV_idx {l : List Bool} {i : Nat} (h : i < l.length) : indexAddr PP 34 (BV l) (.p (.int .i64 (i : Nat))) = some (.pptr (eBools l) i) := by
  have h2 : (0 : Int) ≤ (i : Int) ∧ (i : Int) < (l.length : Nat) := by omega
  simp [indexAddr, u34, s4, BV, h2]
theorem BV_ld {l : List Bool} {i : Nat} (h : i < l.length) (σ : Store) : load1 (.pptr (eBools l) i) σ = some (.p (.bool (l.getD i false))) := by
  rw [load1_bools h, List.getD_eq_getElem?_getD, List.getElem?_eq_getElem h]; rfl
theorem br_len (r off n : Nat) (σ : Store) : len PP 34 (.rsl r 1 off n) σ = some (N n) := by simp [len, u34, N]
theorem br_idx {r n i : Nat} (hi : i < n) : indexAddr PP 34 (.rsl r 1 0 n) (.p (.int .i64 (i : Nat))) = some (.ptr r i) := by
  have h2 : (0 : Int) ≤ (i : Int) ∧ (i : Int) < (n : Nat) := by omega
  simp [indexAddr, u34, s4, h2]
theorem br_ld {σ : Store} {r i : Nat} {A : List Bool} (h : σ[r]? = some (.mix (bls A))) (hi : i < A.length) : load1 (.ptr r i) σ = some (.p (.bool (A.getD i false))) := load1_ptr h (bls_get hi)
theorem bls_splice {A B : List Bool} {k : Nat} : splice (bls A) k (bls B) = bls (A.take k ++ B ++ A.drop (k + B.length)) := by
  unfold splice
  rw [bls_len]
  simp [bls, eBools, List.map_take, List.map_drop]
theorem take_set_drop {α : Type} {A : List α} {i : Nat} {v : α} (hi : i < A.length) : A.take i ++ [v] ++ A.drop (i + 1) = A.set i v := by
  rw [List.set_eq_take_append_cons_drop, if_pos hi]; simp
theorem br_st {σ : Store} {r i lo : Nat} {A : List Bool} {v : Bool} (h : σ[r]? = some (.mix (bls A))) (hi : i < A.length) (hlo : lo ≤ r) : store PP lo 4 (.ptr r i) (.p (.bool v)) σ = some (σ.set r (.mix (bls (A.set i v)))) := by
  have e : splice (bls A) i [DV.p (.bool v)] = bls (A.set i v) := by
    have h1 : [DV.p (.bool v)] = bls [v] := rfl
    rw [h1, bls_splice, List.length_singleton, take_set_drop hi]
  have hb : i + 1 ≤ (bls A).length := by rw [bls_len]; omega
  simp [store, s4, DV.cells, storeN, h, e, hb, DV.one, hlo]
theorem mapO_bls (n : Nat) (σ : Store) (d : Nat) (l : List Bool) : mapO (thawP n σ d) (bls l) = some (eBools l) := by
  induction l with
  | nil => rfl
  | cons a l ih =>
    have : bls (a :: l) = .p (.bool a) :: bls l := rfl
    rw [this]
    cases d <;> simp [mapO, thawP, loosen, ih, eBools]
theorem br_thaw {σ : Store} {r lo : Nat} {A : List Bool} (h : σ[r]? = some (.mix (bls A))) (hlo : lo ≤ r) : thawAll lo σ (.rsl r 1 0 A.length) = some (BV A) := by
  have hb : 0 + A.length * 1 ≤ (bls A).length := by rw [bls_len]; omega
  have ht : ((bls A).drop 0).take (A.length * 1) = bls A := by rw [List.drop_zero, Nat.mul_one, List.take_of_length_le (by rw [bls_len]; exact Nat.le_refl _)]
  simp only [thawAll, thawPart, thaw, thaw1, thawP, if_pos hlo, h, if_pos hb, ht, mapO_bls, Option.map_some]
  rfl
theorem bs34_0 (σ : Store) : buildSlice PP none 34 0 [] σ = some (.p (.sl true 0 []), σ) := Eq.trans (by kernel_rfl) rfl
theorem bs34_1 (b : Bool) (σ : Store) : buildSlice PP none 34 1 [(0, .p (.bool b))] σ = some (.p (.sl true 1 [.bool b]), σ) := Eq.trans (by kernel_rfl) rfl
theorem isnil34 (n : Nat) (cs : List PV) : binOp PP .eql 34 (.p (.sl false n cs)) (.p .nilsl) = some (.p (.bool false)) := Eq.trans (by kernel_rfl) rfl
theorem pures_bls (l : List Bool) : pures (bls l) = some (eBools l) := pures_map _
theorem C71 {l : List Bool} (h0 : l ≠ []) (hl : l.length ≤ 100000) (lo : Nat) (σ : Store) : CC lo 71 [BV l] σ = some (.rsl σ.length 1 0 l.length, σ ++ [.mix (bls l)]) := by
  have hs : source σ 1 (BV l) = some (l.length, bls l) := by simp [source, BV, bools_length, bls]
  have hb0 : ¬ (l.length = 0) := fun e => h0 (List.length_eq_zero_iff.1 e)
  have ha : append PP lo true 34 34 (.p (.sl true 0 [])) (BV l) σ = some (.rsl σ.length 1 0 l.length, σ ++ [.mix (bls l)]) := by
    simp [append, src34, u34, s4, bytes4, zero4, hs, appLit, hb0, h0]
    omega
  refine F71_call ?_
  rw [F71_eq]
  have e : BV l = .p (.sl false l.length (eBools l)) := rfl
  rw [e] at ha ⊢
  simp only [isnil34, gG, bs34_0, ha]
theorem S71 {l : List Bool} (h0 : l ≠ []) (hl : l.length ≤ 100000) (σ : Store) : pureV CC 71 [BV l] σ = some (BV l) :=
  pureV_free (by simp [BV_view]) rfl (C71 h0 hl 0 []) (br_thaw (r := 0) rfl (Nat.le_refl _))
theorem ne_len {l : List Bool} {n : Nat} (h : l.length = n) (h0 : 0 < n) : l ≠ [] := fun e => by rw [e] at h; simp at h; omega
theorem L124 {n : Nat} {g : Nat → Bool} (hn : n ≤ 1000) : ∀ (d i : Nat) (σ : Store), n - i = d → i ≤ n → σ[0]? = some (.mix (bls (tab n fun j => if j < i then !g j else g j))) →
    ∃ σ', f124_L0 guardT 0 (.rsl 0 1 0 n) (N n) (N i) σ = some (.rsl 0 1 0 n, σ') ∧ σ'[0]? = some (.mix (bls (tab n fun j => !g j)))
  | 0, i, σ, hd, hi, h => by
    have e : i = n := by omega
    subst e
    refine ⟨σ, ?_, ?_⟩
    · rw [f124_L0_eq guardT rfl]
      simp (disch := omega) only [N, b_lss, ltF, gG]
    · rw [h, tab_congr (fun j hj => by rw [if_pos hj])]
  | d + 1, i, σ, hd, hi, h => by
    have hlt : i < n := by omega
    have hlen := tab_len n (fun j => if j < i then !g j else g j)
    have hl := br_ld h (i := i) (by rw [hlen]; exact hlt)
    rw [tab_get hlt, if_neg (Nat.lt_irrefl i)] at hl
    have hs := br_st (v := !g i) h (i := i) (by rw [hlen]; exact hlt) (Nat.zero_le 0)
    rw [tab_set] at hs
    obtain ⟨σ', r1, r2⟩ := L124 (g := g) hn d (i + 1) (σ.set 0 (.mix (bls (tab n fun j => if j = i then !g i else if j < i then !g j else g j)))) (by omega) (by omega) (by
      rw [List.getElem?_set_self (get_lt h)]
      congr 3
      refine tab_congr fun j hj => ?_
      by_cases e : j = i
      · subst e; rw [if_pos rfl, if_pos (by omega)]
      · by_cases e2 : j < i
        · rw [if_neg e, if_pos e2, if_pos (by omega)]
        · rw [if_neg e, if_neg e2, if_neg (by omega)])
    refine ⟨σ', ?_, r2⟩
    rw [← r1, f124_L0_eq guardT rfl]
    simp (disch := omega) only [N, b_lss, ltT, gG, br_idx hlt, load4, hl, hs, add1]
theorem S124 {n : Nat} (h0 : 0 < n) (hn : n ≤ 1000) (g : Nat → Bool) (σ : Store) : pureV CC 124 [BV (tab n g)] σ = some (BV (tab n fun j => !g j)) := by
  have hlen := tab_len n g
  have hc := C71 (l := tab n g) (ne_len hlen h0) (by rw [hlen]; omega) 0 []
  rw [hlen, List.length_nil, List.nil_append] at hc
  obtain ⟨σ', r1, r2⟩ := L124 (g := g) hn _ 0 [.mix (bls (tab n g))] rfl (Nat.zero_le _) (by simp)
  have hth := br_thaw (lo := 0) r2 (Nat.le_refl _)
  rw [tab_len] at hth
  refine pureV_free (by simp [BV_view]) rfl (F124_call (r := (.rsl 0 1 0 n, σ')) ?_) hth
  rw [F124_eq]
  simp only [plainFn, List.append_nil, hc, gG, br_len]
  exact r1
def Fn2 (f : FuncId) (w : Bool → Bool → Bool) : Prop := ∀ (a b : Bool) (σ : Store), pureV CC f [.p (.bool a), .p (.bool b)] σ = some (.p (.bool (w a b)))
theorem fn126 : Fn2 126 and := fun a b σ => by
  refine pureV_free rfl rfl (F126_call (r := (.p (.bool (a && b)), [])) ?_) rfl
  rw [F126_eq]
  cases a <;> simp only [gG, Bool.false_and, Bool.true_and]
theorem fn127 : Fn2 127 or := fun a b σ => by
  refine pureV_free rfl rfl (F127_call (r := (.p (.bool (a || b)), [])) ?_) rfl
  rw [F127_eq]
  cases a <;> simp only [gG, Bool.false_or, Bool.true_or]
theorem fn128 : Fn2 128 fun a b => !a || b := fun a b σ => by
  refine pureV_free rfl rfl (F128_call (r := (.p (.bool (!a || b)), [])) ?_) rfl
  rw [F128_eq]
  cases a <;> simp only [gG, Bool.false_or, Bool.true_or]
theorem L125 {n : Nat} {a b : Nat → Bool} {f : FuncId} {w : Bool → Bool → Bool} (hf : Fn2 f w) (hn : n ≤ 1000) : ∀ (d i : Nat) (σ : Store), n - i = d → i ≤ n → σ[0]? = some (.mix (bls (tab n fun j => if j < i then w (a j) (b j) else a j))) →
    ∃ σ', f125_L0 guardT 0 (BV (tab n a)) (BV (tab n b)) (.fn f []) (.rsl 0 1 0 n) (N n) (N i) σ = some (.rsl 0 1 0 n, σ') ∧ σ'[0]? = some (.mix (bls (tab n fun j => w (a j) (b j))))
  | 0, i, σ, hd, hi, h => by
    have e : i = n := by omega
    subst e
    refine ⟨σ, ?_, ?_⟩
    · rw [f125_L0_eq guardT rfl]
      simp (disch := omega) only [N, b_lss, ltF, gG]
    · rw [h, tab_congr (fun j hj => by rw [if_pos hj])]
  | d + 1, i, σ, hd, hi, h => by
    have hlt : i < n := by omega
    have hlen := tab_len n (fun j => if j < i then w (a j) (b j) else a j)
    have la := tab_len n a
    have lb := tab_len n b
    have ia := BV_idx (l := tab n a) (i := i) (by omega)
    have ib := BV_idx (l := tab n b) (i := i) (by omega)
    have da := BV_ld (l := tab n a) (i := i) (by omega) σ
    have db := BV_ld (l := tab n b) (i := i) (by omega) σ
    rw [tab_get hlt] at da db
    have hs := br_st (v := w (a i) (b i)) h (i := i) (by rw [hlen]; exact hlt) (Nat.zero_le 0)
    rw [tab_set] at hs
    obtain ⟨σ', r1, r2⟩ := L125 (a := a) (b := b) hf hn d (i + 1) (σ.set 0 (.mix (bls (tab n fun j => if j = i then w (a i) (b i) else if j < i then w (a j) (b j) else a j)))) (by omega) (by omega) (by
      rw [List.getElem?_set_self (get_lt h)]
      congr 3
      refine tab_congr fun j hj => ?_
      by_cases e : j = i
      · subst e; rw [if_pos rfl, if_pos (by omega)]
      · by_cases e2 : j < i
        · rw [if_neg e, if_pos e2, if_pos (by omega)]
        · rw [if_neg e, if_neg e2, if_neg (by omega)])
    refine ⟨σ', ?_, r2⟩
    rw [← r1, f125_L0_eq guardT rfl]
    simp (disch := omega) only [N, b_lss, ltT, gG, ia, load4, da, ib, db, shift_ptr, shift_pptr, Nat.zero_add, Nat.add_zero, pureFn_fn, List.append_nil, List.singleton_append, List.cons_append, List.nil_append, hf (a i) (b i), br_idx hlt, hs, add1]
theorem S125 {n : Nat} {f : FuncId} {w : Bool → Bool → Bool} (hf : Fn2 f w) (h0 : 0 < n) (hn : n ≤ 1000) (a b : Nat → Bool) (σ : Store) : pureV CC 125 [BV (tab n a), BV (tab n b), .fn f []] σ = some (BV (tab n fun j => w (a j) (b j))) := by
  have hlen := tab_len n a
  have hc := C71 (l := tab n a) (ne_len hlen h0) (by rw [hlen]; omega) 0 []
  rw [hlen, List.length_nil, List.nil_append] at hc
  obtain ⟨σ', r1, r2⟩ := L125 (a := a) (b := b) hf hn _ 0 [.mix (bls (tab n a))] rfl (Nat.zero_le _) (by simp)
  have hth := br_thaw (lo := 0) r2 (Nat.le_refl _)
  rw [tab_len] at hth
  refine pureV_free (by simp [BV_view, fn_view]) rfl (F125_call (r := (.rsl 0 1 0 n, σ')) ?_) hth
  rw [F125_eq]
  simp only [plainFn, List.append_nil, hc, gG, br_len]
  exact r1
def rg (n back : Nat) : List PV := [pI n, pI back]
def vRg (n back : Nat) : DV := .agg [.p (pI n), .p (pI back)]
theorem rg_view (n back : Nat) : view (vRg n back) = vRg n back := rfl
theorem box_rg (n back : Nat) : boxP (vRg n back) = some (.pptr (rg n back) 0) := rfl
theorem fa135_0 (x : DV) : fieldAddr PP 135 x 0 = shiftPtr x 0 := Eq.trans (by kernel_rfl) rfl
theorem fa135_1 (x : DV) : fieldAddr PP 135 x 1 = shiftPtr x 1 := Eq.trans (by kernel_rfl) rfl
theorem load135 (x : DV) (σ : Store) : load PP 135 x σ = (loadN σ 2 x).map .agg := Eq.trans (by kernel_rfl) rfl
theorem rg_0 (n back : Nat) (σ : Store) : load1 (.pptr (rg n back) 0) σ = some (.p (.int .i64 (n : Nat))) := load1_pptr rfl σ
theorem rg_1 (n back : Nat) (σ : Store) : load1 (.pptr (rg n back) 1) σ = some (.p (.int .i64 (back : Nat))) := load1_pptr rfl σ
theorem rg_all (n back : Nat) (σ : Store) : (loadN σ 2 (.pptr (rg n back) 0)).map DV.agg = some (vRg n back) := rfl
theorem S93 {n back i : Nat} (h0 : 0 < n) (hn : n ≤ 1000) (hi : i < n) (σ : Store) : pureV CC 93 [vRg n back, .p (.int .i64 (i : Nat))] σ = some (.p (.int .i64 ((nx n back i : Nat)))) := by
  refine pureV_free rfl rfl (F93_call (r := (.p (.int .i64 ((nx n back i : Nat))), [])) ?_) rfl
  rw [F93_eq]
  unfold nx
  by_cases e : i = n - 1
  · have e' : (i : Int) = ((n - 1 : Nat) : Int) := by omega
    rw [if_pos e]
    simp (disch := omega) only [box_rg, gG, fa135_0, fa135_1, shift_ptr, shift_pptr, Nat.zero_add, Nat.add_zero, pureFn_fn, List.append_nil, List.singleton_append, List.cons_append, List.nil_append, load3, rg_0, rg_1, sub1, b_eql, eqT e']
  · have e' : ¬ (i : Int) = ((n - 1 : Nat) : Int) := by omega
    rw [if_neg e]
    simp (disch := omega) only [box_rg, gG, fa135_0, fa135_1, shift_ptr, shift_pptr, Nat.zero_add, Nat.add_zero, pureFn_fn, List.append_nil, List.singleton_append, List.cons_append, List.nil_append, load3, rg_0, rg_1, sub1, b_eql, eqF e', add1]
theorem nx_lt {n back i : Nat} (hb : back < n) (hi : i < n) : nx n back i < n := by
  unfold nx
  split <;> omega
theorem passU_len {n back : Nat} {f : List Bool} : ∀ (k : Nat) (o : List Bool), (passU n back f k o).length = o.length
  | 0, _ => rfl
  | k + 1, o => by unfold passU; rw [passU_len k]; simp
section
variable {n back : Nat} {f : List Bool} (hb : back < n) (hn : n ≤ 1000) (hf : f.length = n)
include hb hn hf
theorem L131_1 {x11 : DV} : ∀ (k : Nat) (o : List Bool) (σ : Store), k ≤ n → o.length = n → σ[0]? = some (.mix (bls o)) →
    ∃ σ', f131_L1 guardT 0 (BV f) (.pptr (rg n back) 0) (.rsl 0 1 0 n) (.p (.int .i64 ((k : Int) - 1))) x11 σ = f131_L1 guardT 0 (BV f) (.pptr (rg n back) 0) (.rsl 0 1 0 n) (.p (.int .i64 (-1))) x11 σ' ∧ σ'[0]? = some (.mix (bls (passU n back f k o)))
  | 0, o, σ, hk, ho, h => ⟨σ, rfl, h⟩
  | k + 1, o, σ, hk, ho, h => by
    have e : (((k + 1 : Nat) : Int) - 1) = (k : Nat) := by omega
    have hlt : k < n := by omega
    have h1 : ((k : Nat) : Int) ≥ 0 := by omega
    have hnx := nx_lt hb hlt
    have ld := br_ld h (i := k) (by omega)
    have ld2 := br_ld h (i := nx n back k) (by omega)
    have fi := BV_idx (l := f) (i := k) (by omega)
    have fd := BV_ld (l := f) (i := k) (by omega) σ
    have hs := fun v => br_st (v := v) h (i := k) (by omega) (Nat.zero_le 0)
    obtain ⟨σ', r1, r2⟩ := L131_1 k (o.set k (o.getD k false || (f.getD k false && o.getD (nx n back k) false))) (σ.set 0 (.mix (bls (o.set k (o.getD k false || (f.getD k false && o.getD (nx n back k) false)))))) (by omega) (by simp [ho]) (by rw [List.getElem?_set_self (get_lt h)])
    refine ⟨σ', ?_, r2⟩
    rw [← r1, e, f131_L1_eq guardT rfl]
    cases q1 : o.getD k false with
    | true =>
      rw [q1] at ld
      simp (disch := omega) only [b_geq, geT h1, gG, br_idx hlt, load4, ld, hs, subI, Bool.true_or]
    | false =>
      rw [q1] at ld
      cases q2 : f.getD k false with
      | false =>
        rw [q2] at fd
        simp (disch := omega) only [b_geq, geT h1, gG, br_idx hlt, load4, ld, hs, subI, fi, fd, Bool.false_or, Bool.false_and]
      | true =>
        rw [q2] at fd
        simp (disch := omega) only [b_geq, geT h1, gG, br_idx hlt, load4, ld, hs, subI, fi, fd, load135, rg_all, shift_ptr, shift_pptr, Nat.zero_add, Nat.add_zero, pureFn_fn, List.append_nil, List.singleton_append, List.cons_append, List.nil_append, S93 (show 0 < n by omega) hn hlt, br_idx hnx, ld2, Bool.false_or, Bool.true_and]
theorem L131_0 {i : Nat} (hi : i < 2) {o : List Bool} {σ : Store} (ho : o.length = n) (h : σ[0]? = some (.mix (bls o))) :
    ∃ σ', f131_L0 guardT 0 (BV f) (.pptr (rg n back) 0) (.rsl 0 1 0 n) (N i) σ = f131_L0 guardT 0 (BV f) (.pptr (rg n back) 0) (.rsl 0 1 0 n) (N (i + 1)) σ' ∧ σ'[0]? = some (.mix (bls (passU n back f n o))) := by
  obtain ⟨σ', r1, r2⟩ := L131_1 hb hn hf (x11 := N i) n o σ (Nat.le_refl _) ho h
  refine ⟨σ', ?_, r2⟩
  have h2 : (i : Int) < 2 := by omega
  rw [f131_L0_eq guardT rfl]
  simp (disch := omega) only [N, b_lss, ltT h2, gG, fa135_0, shift_ptr, shift_pptr, Nat.zero_add, Nat.add_zero, pureFn_fn, List.append_nil, List.singleton_append, List.cons_append, List.nil_append, load3, rg_0, subI]
  simp only [N] at r1
  rw [r1, f131_L1_eq guardT rfl]
  simp (disch := omega) only [b_geq, geF (show ¬ (-1 : Int) ≥ 0 by decide), gG, add1]
theorem S131 {o : List Bool} (ho : o.length = n) (σ : Store) : pureV CC 131 [vRg n back, BV f, BV o] σ = some (BV (passU n back f n (passU n back f n o))) := by
  have hc := C71 (l := o) (ne_len ho (by omega)) (by omega) 0 []
  rw [ho, List.length_nil, List.nil_append] at hc
  obtain ⟨σ1, r1, r2⟩ := L131_0 hb hn hf (i := 0) (by decide) (σ := [.mix (bls o)]) ho rfl
  obtain ⟨σ2, r3, r4⟩ := L131_0 hb hn hf (i := 1) (by decide) (o := passU n back f n o) (by rw [passU_len]; exact ho) r2
  have hth := br_thaw (lo := 0) r4 (Nat.le_refl _)
  rw [passU_len, passU_len, ho] at hth
  refine pureV_free (by simp [BV_view, rg_view]) rfl (F131_call (r := (.rsl 0 1 0 n, σ2)) ?_) hth
  have he : f131_L0 guardT 0 (BV f) (.pptr (rg n back) 0) (.rsl 0 1 0 n) (N 2) σ2 = some (.rsl 0 1 0 n, σ2) := by
    rw [f131_L0_eq guardT rfl]
    simp (disch := omega) only [N, b_lss, ltF (show ¬ ((2 : Nat) : Int) < 2 by decide), gG]
  rw [F131_eq]
  simp only [box_rg, gG, plainFn, List.append_nil, hc]
  exact r1.trans (r3.trans he)
end
end Go.D
end
/- Chapter 13: Repeat over truths; sometime, always and until of the program. -/
section
set_option linter.unusedVariables false
set_option linter.unusedSimpArgs false
set_option maxRecDepth 8000
namespace Go.D
open Las
theorem eB_take (A : List Bool) (k : Nat) : (eBools A).take k = eBools (A.take k) := by simp [eBools, List.map_take]
theorem eB_drop (A : List Bool) (k : Nat) : (eBools A).drop k = eBools (A.drop k) := by simp [eBools, List.map_drop]
theorem eB_app (A B : List Bool) : eBools (A ++ B) = eBools A ++ eBools B := by simp [eBools]
theorem bls_take (A : List Bool) (k : Nat) : (bls A).take k = bls (A.take k) := by simp [bls, eBools, List.map_take]
theorem spliceB (A B : List Bool) (k : Nat) : splice (eBools A) k (eBools B) = eBools (A.take k ++ B ++ A.drop (k + B.length)) := by
  unfold splice
  rw [eB_take, bools_length, eB_drop, eB_app, eB_app]
theorem mk34 {n : Nat} (h : n ≤ 1000000) (σ : Store) : makeSlice PP false 34 (.p (.int .i64 (n : Nat))) (.p (.int .i64 (n : Nat))) σ = some (.rsl σ.length 1 0 n, σ ++ [.arr (eBools (List.replicate n false))]) := by
  have hd : dups [DV.p (.bool false)] n = bls (List.replicate n false) := by
    induction n with
    | zero => rfl
    | succ n ih => rw [dups, ih (by omega)]; rfl
  have hp : pures (bls (List.replicate n false)) = some (eBools (List.replicate n false)) := pures_map _
  have hc : (0 : Int) ≤ (n : Int) ∧ (n : Int) ≤ (n : Int) ∧ (n : Int) ≤ 140737488355328 ∧ ((8 : Nat) : Int) * (n : Int) ≤ 140737488355328 ∧ 1 = 1 := ⟨by omega, by omega, by omega, by omega, rfl⟩
  simp [makeSlice, u34, s4, bytes4, zero4, newRow, hd, hp]
  omega
theorem cp_selfB {σ : Store} {r lo T n : Nat} {A : List Bool} (h : σ[r]? = some (.arr (eBools A))) (h0 : 0 < n) (hn : n < T) (hA : A.length = T) (hlo : lo ≤ r) :
    copyOp PP lo 34 (.rsl r 1 n (T - n)) (.rsl r 1 0 n) σ = some (N (min n (T - n)), σ.set r (.arr (eBools (A.take n ++ A.take (min n (T - n)) ++ A.drop (n + min n (T - n)))))) := by
  generalize hk : min n (T - n) = k
  have hkn : k ≤ n := by omega
  have hkT : n + k ≤ T := by omega
  have hk0 : ¬ (k * 1 = 0) := by omega
  have hl : 0 + n * 1 ≤ (eBools A).length := by rw [bools_length]; omega
  have hs : source σ 1 (.rsl r 1 0 n) = some (n, bls (A.take n)) := by
    simp only [source, if_true, loadN, h, if_pos hl]
    simp only [List.drop_zero, Nat.mul_one, eB_take, Option.map_some]
    rfl
  have ht : (bls (A.take n)).take (k * 1) = bls (A.take k) := by
    rw [Nat.mul_one, bls_take, List.take_take, Nat.min_eq_left hkn]
  have hlen : (A.take k).length = k := by rw [List.length_take]; omega
  have hb : n + (bls (A.take k)).length ≤ (eBools A).length := by rw [bls_len, bools_length, hlen]; omega
  have e := spliceB A (A.take k) n
  rw [hlen] at e
  simp only [copyOp, u34, s4, hs, if_true, hk, if_neg hk0, ht, storeN, if_pos hlo, h, pures_bls, if_pos hb, e, Option.map_some, N]
theorem rep_take (n k : Nat) (b : Bool) : (List.replicate n b).take k = List.replicate (min k n) b := List.take_replicate ..
theorem L123 {T : Nat} (hT : T ≤ 100000) : ∀ (d n : Nat) (A : List Bool) (σ : Store), T - n ≤ d → 0 < n → n ≤ T → A.length = T → σ[0]? = some (.arr (eBools A)) → A.take n = List.replicate n true →
    ∃ σ', f123_L0 guardT 0 (.rsl 0 1 0 T) (N n) σ = some (.rsl 0 1 0 T, σ') ∧ σ'[0]? = some (.arr (eBools (List.replicate T true)))
  | d, n, A, σ, hd, h0, hn, hA, hr, hp => by
    by_cases hlt : n < T
    · cases d with
      | zero => omega
      | succ d =>
        have hc := cp_selfB (lo := 0) hr h0 hlt hA (Nat.zero_le _)
        generalize hk : min n (T - n) = k at hc
        have hl1 : (A.take n).length = n := by rw [List.length_take]; omega
        have hl2 : (A.take k).length = k := by rw [List.length_take]; omega
        have hAk : A.take k = List.replicate k true := by
          have := congrArg (List.take k) hp
          rwa [List.take_take, Nat.min_eq_left (by omega), rep_take, Nat.min_eq_left (by omega)] at this
        have hnew : (A.take n ++ A.take k ++ A.drop (n + k)).take (n + k) = List.replicate (n + k) true := by
          rw [List.take_append_of_le_length (by rw [List.length_append]; omega), List.take_of_length_le (by rw [List.length_append]; omega), hp, hAk, List.replicate_append_replicate]
        obtain ⟨σ', r1, r2⟩ := L123 hT d (n + k) (A.take n ++ A.take k ++ A.drop (n + k)) (σ.set 0 (.arr (eBools (A.take n ++ A.take k ++ A.drop (n + k))))) (by omega) (by omega) (by omega) (by simp; omega) (by rw [List.getElem?_set_self (get_lt hr)]) hnew
        refine ⟨σ', ?_, r2⟩
        have b1 := bound_nat (show n ≤ T by omega) 0
        have b2 := bound_nat (show n ≤ T by omega) T
        have e1 : sliceOp PP 34 (.rsl 0 1 0 T) (some (.p (.int .i64 (n : Nat)))) none none = some (.rsl 0 1 n (T - n)) := by
          simp [sliceOp, u34, s4, b1, show bound none T T = some T from rfl]
        have e2 : sliceOp PP 34 (.rsl 0 1 0 T) none (some (.p (.int .i64 (n : Nat)))) none = some (.rsl 0 1 0 n) := by
          simp [sliceOp, u34, s4, b2, show bound none 0 n = some 0 from rfl]
        rw [← r1, f123_L0_eq guardT rfl]
        simp (disch := omega) only [N, br_len, b_lss, ltT, gG, e1, e2, hc, addN]
    · have e : n = T := by omega
      subst e
      refine ⟨σ, ?_, ?_⟩
      · rw [f123_L0_eq guardT rfl]
        simp (disch := omega) only [N, br_len, b_lss, ltF, gG]
      · rw [hr, ← hp, List.take_of_length_le (by omega)]
theorem S123 {n : Nat} (h0 : 0 < n) (hn : n ≤ 1000) (σ : Store) : pureV CC 123 [.p (.sl true 1 [.bool true]), .p (.int .i64 (n : Nat))] σ = some (BV (List.replicate n true)) := by
  have hl : (eBools (List.replicate n false)).length = n := by simp [bools_length]
  have hs : source [Row.arr (eBools (List.replicate n false))] 1 (BV [true]) = some (1, bls [true]) := rfl
  have hm : min 1 n = 1 := Nat.min_eq_left h0
  have hb : 0 + (bls [true]).length ≤ (eBools (List.replicate n false)).length := by rw [hl]; show 0 + 1 ≤ n; omega
  have e := spliceB (List.replicate n false) [true] 0
  rw [List.take_zero, List.nil_append, Nat.zero_add] at e
  have hcp : copyOp PP 0 34 (.rsl 0 1 0 n) (BV [true]) [Row.arr (eBools (List.replicate n false))] = some (N 1, [Row.arr (eBools ([true] ++ (List.replicate n false).drop 1))]) := by
    have ht : (bls [true]).take (1 * 1) = bls [true] := rfl
    simp only [copyOp, u34, s4, hs, if_true, hm, Nat.one_ne_zero, Nat.mul_one, if_false, show (bls [true]).take 1 = bls [true] from rfl, storeN, Nat.le_refl, if_pos, List.getElem?_cons_zero, pures_bls, hb, e, Option.map_some, N]
    rfl
  obtain ⟨σ', r1, r2⟩ := L123 (T := n) (by omega) _ 1 ([true] ++ (List.replicate n false).drop 1) [Row.arr (eBools ([true] ++ (List.replicate n false).drop 1))] (Nat.le_refl _) (by decide) h0 (by simp; omega) rfl rfl
  have hth : thawAll 0 σ' (.rsl 0 1 0 n) = some (BV (List.replicate n true)) := by
    have hb2 : 0 + n * 1 ≤ (eBools (List.replicate n true)).length := by rw [bools_length, List.length_replicate]; omega
    have ht : ((eBools (List.replicate n true)).drop 0).take (n * 1) = eBools (List.replicate n true) := by rw [List.drop_zero, Nat.mul_one, List.take_of_length_le (by rw [bools_length, List.length_replicate]; exact Nat.le_refl _)]
    simp only [thawAll, thawPart, thaw, thaw1, thawP, Nat.zero_le, if_pos, r2, hb2, ht, loosens_bools, Option.map_some]
    simp [BV]
  have h1 : ¬ ((n : Int) < 0) := by omega
  have mk := mk34 (n := n) (by omega) []
  rw [pureV_view (args' := [BV [true], .p (.int .i64 (n : Nat))]) rfl rfl]
  refine pureV_free rfl rfl (F123_call (r := (.rsl 0 1 0 n, σ')) ?_) hth
  have ex0 : ∀ (a b : DV), extractV (.tuple [a, b]) 0 = some a := fun _ _ => rfl
  have ex1 : ∀ (a b : DV), extractV (.tuple [a, b]) 1 = some b := fun _ _ => rfl
  have l1 : ∀ σ, len PP 34 (BV [true]) σ = some (.p (.int .i64 ((1 : Nat) : Int))) := fun σ => BV_len [true] σ
  have q := S156 (a := 1) (b := n) (by decide) (by omega) (by omega)
  rw [F123_eq]
  simp (disch := omega) only [b_lss, ltF h1, gG, f123_J0_eq, l1, cvU, shift_ptr, shift_pptr, Nat.zero_add, Nat.add_zero, pureFn_fn, List.append_nil, List.singleton_append, List.cons_append, List.nil_append, q, ex0, ex1, b_gtrU, gtF (show ¬ (0 : Int) > 0 by decide), Nat.one_mul, gtF (show ¬ ((n : Nat) : Int) > 9223372036854775807 by omega), f123_J1_eq, cvI, mk, List.length_nil, hcp]
  exact r1
theorem rep_tab (n : Nat) (b : Bool) : List.replicate n b = tab n fun _ => b := by
  refine List.ext_getElem (by simp [tab]) fun j h1 h2 => by simp [tab]
section
variable {n back : Nat} (hb : back < n) (hn : n ≤ 1000) (a b g : Nat → Bool) (σ : Store)
include hb hn
theorem T131 : pureV CC 131 [vRg n back, BV (tab n a), BV (tab n b)] σ = some (BV (tab n (unP n back a b))) := by
  rw [S131 hb hn (tab_len n a) (tab_len n b), passes hb (fun i hi => tab_get hi false) rfl]
theorem T130 : pureV CC 130 [vRg n back, BV (tab n g)] σ = some (BV (tab n (soP n back g))) := by
  refine pureV_free (by simp [BV_view, rg_view]) rfl (F130_call (r := (BV (tab n (soP n back g)), [])) ?_) (by simp [thawAll, thawPart, thaw, thaw1, thawP, BV, loosen, loosens_bools])
  have h := T131 hb hn (fun _ => true) g
  rw [← rep_tab] at h
  rw [F130_eq]
  simp (disch := omega) only [box_rg, gG, load135, rg_all, bs34_1, fa135_0, shift_ptr, shift_pptr, Nat.zero_add, Nat.add_zero, pureFn_fn, List.append_nil, List.singleton_append, List.cons_append, List.nil_append, load3, rg_0, S123, h]
  rfl
theorem T129 : pureV CC 129 [vRg n back, BV (tab n g)] σ = some (BV (tab n fun i => !soP n back (fun j => !g j) i)) := by
  refine pureV_free (by simp [BV_view, rg_view]) rfl (F129_call (r := (BV (tab n fun i => !soP n back (fun j => !g j) i), [])) ?_) (by simp [thawAll, thawPart, thaw, thaw1, thawP, BV, loosen, loosens_bools])
  rw [F129_eq]
  simp (disch := omega) only [box_rg, gG, load135, rg_all, shift_ptr, shift_pptr, Nat.zero_add, Nat.add_zero, pureFn_fn, List.append_nil, List.singleton_append, List.cons_append, List.nil_append, S124, T130 hb hn]
end
end Go.D
end
/- Chapter 13: truths of the program. -/
section
set_option linter.unusedVariables false
set_option linter.unusedSimpArgs false
set_option maxRecDepth 8000
namespace Go.D
open Las
def bvP (l : List Bool) : PV := .sl false l.length (eBools l)
theorem u162 : PP.underlying 162 = some (.slice 34) := Eq.trans (by kernel_rfl) rfl
theorem s34 : size? PP 34 = some 1 := Eq.trans (by kernel_rfl) rfl
theorem src162 : srcType PP 162 = true := Eq.trans (by kernel_rfl) rfl
theorem bytes34 : bytes? PP 34 = some 24 := Eq.trans (by kernel_rfl) rfl
theorem zero34 : zeroOf PP 34 = some [.p .nilsl] := Eq.trans (by kernel_rfl) rfl
theorem load34 (x : DV) (σ : Store) : load PP 34 x σ = load1 x σ := Eq.trans (by kernel_rfl) rfl
theorem bs162 (l : List Bool) (σ : Store) : buildSlice PP none 162 1 [(0, BV l)] σ = some (.p (.sl true 1 [bvP l]), σ) := Eq.trans (by kernel_rfl) rfl
theorem bs162_o (r v n : Nat) (cs : List PV) (σ : Store) : buildSlice PP none 162 1 [(0, .osl r v 1 n cs)] σ = some (.p (.sl true 1 [.sl false n cs]), σ) := Eq.trans (by kernel_rfl) rfl
theorem Out.push162 {σ : Store} {lo n : Nat} {cs : List PV} {v : PV} {x : DV} (ho : Out σ lo 1 n cs x) (hn : n ≤ 1000000) (hlo : lo ≤ σ.length) :
    ∃ x' σ', append PP lo false 162 162 x (.p (.sl true 1 [v])) σ = some (x', σ') ∧ Out σ' lo 1 (n + 1) (cs ++ [v]) x' ∧ Others σ σ' x ∧ σ.length ≤ σ'.length :=
  Out.push src162 u162 s34 bytes34 zero34 rfl (by decide) (by decide) (by decide) rfl ho hn hlo
theorem Out.push34 {σ : Store} {lo n : Nat} {cs : List PV} {v : PV} {x : DV} (ho : Out σ lo 1 n cs x) (hn : n ≤ 1000000) (hlo : lo ≤ σ.length) :
    ∃ x' σ', append PP lo false 34 34 x (.p (.sl true 1 [v])) σ = some (x', σ') ∧ Out σ' lo 1 (n + 1) (cs ++ [v]) x' ∧ Others σ σ' x ∧ σ.length ≤ σ'.length :=
  Out.push src34 u34 s4 bytes4 zero4 rfl (by decide) (by decide) (by decide) rfl ho hn hlo
def Away (x : DV) (r : Nat) : Prop := ∀ rr v sz n cs, x = .osl rr v sz n cs → r ≠ rr
theorem Out.push34x {σ : Store} {lo n : Nat} {cs : List PV} {v : PV} {x : DV} (ho : Out σ lo 1 n cs x) (hn : n ≤ 1000000) (hlo : lo ≤ σ.length) :
    ∃ x' σ', append PP lo false 34 34 x (.p (.sl true 1 [v])) σ = some (x', σ') ∧ Out σ' lo 1 (n + 1) (cs ++ [v]) x' ∧ Others σ σ' x ∧ σ.length ≤ σ'.length ∧ ∀ r, r < σ.length → Away x r → Away x' r := by
  obtain ⟨x', σ', p1, p2, p3, p4⟩ := Out.push34 (v := v) ho hn hlo
  refine ⟨x', σ', p1, p2, p3, p4, fun r hr ha rr v' sz n' cs' e => ?_⟩
  subst e
  obtain ⟨hc, ho⟩ := ho
  have hsrc : source σ 1 (.p (.sl true 1 [v])) = some (1, [DV.p v]) := rfl
  rcases ho with ⟨rfl, rfl⟩ | ⟨hn0, r0, ver, rfl, hr0, hl⟩
  · have q : append PP lo false 34 34 (.p .nilsl) (.p (.sl true 1 [v])) σ = some (.osl σ.length 0 1 1 [v], σ ++ [.tok 0]) := by
      simp [append, src34, u34, s4, bytes4, zero4, hsrc, appNil, pures, DV.pure?]
    rw [p1] at q
    injection q with q
    injection q with q _
    injection q with q
    omega
  · have e1 : (n + 1) * 1 ≤ 140737488355328 := by omega
    have e2 : n + 1 ≤ 140737488355328 := by omega
    have q : append PP lo false 34 34 (.osl r0 ver 1 n cs) (.p (.sl true 1 [v])) σ = some (.osl r0 (ver + 1) 1 (n + 1) (cs ++ [v]), σ.set r0 (.tok (ver + 1))) := by
      simp only [Nat.mul_one] at hc
      simp [append, src34, u34, s4, bytes4, zero4, hsrc, appTok, pures, DV.pure?, hr0, hl, hc]
      omega
    rw [p1] at q
    injection q with q
    injection q with q _
    injection q with q
    rw [q]
    exact ha _ _ _ _ _ rfl
theorem Out.idx162 {σ : Store} {lo n j : Nat} {cs : List PV} {x : DV} (ho : Out σ lo 1 n cs x) (hj : j < n) : indexAddr PP 162 x (.p (.int .i64 (j : Nat))) = some (.pptr cs j) := by
  have h2 : (0 : Int) ≤ (j : Int) ∧ (j : Int) < (n : Nat) := by omega
  rcases ho.2 with ⟨h1, rfl⟩ | ⟨h1, r, v, rfl, _, _⟩
  · omega
  · simp [indexAddr, u162, s34, h2]
theorem Out.len162 {σ : Store} {lo n : Nat} {cs : List PV} {x : DV} (ho : Out σ lo 1 n cs x) (τ : Store) : len PP 162 x τ = some (N n) := by
  rcases ho.2 with ⟨h1, rfl⟩ | ⟨h1, r, v, rfl, _, _⟩
  · simp [len, u162, N, h1]
  · simp [len, u162, N]
theorem shrN {a m : Nat} (hm : m ≤ 11) (t : TypeId) : binOp PP .shr t (.p (.int .i64 (a : Nat))) (.p (.int .i64 (m : Nat))) = some (.p (.int .i64 ((a / 2 ^ m : Nat) : Int))) := by
  have hm0 : ¬ ((m : Int) < 0) := by omega
  have e1 : min (m : Int).toNat IntKind.i64.bits = m := by
    have : IntKind.i64.bits = 64 := rfl
    rw [this]; omega
  have e : (a : Int).fdiv (2 ^ m) = ((a / 2 ^ m : Nat) : Int) := by
    rw [Int.fdiv_eq_ediv_of_nonneg _ (Int.le_of_lt (Int.pow_pos (by decide)))]
    norm_cast
  show (binShift .shr .i64 (a : Int) (m : Int)).map DV.p = _
  unfold binShift
  rw [if_neg hm0]
  simp only [e1, e, Option.map_some]
theorem andN1 (a : Nat) (ha : a ≤ 1000000) (t : TypeId) : binOp PP .and t (.p (.int .i64 (a : Nat))) (.p (.int .i64 1)) = some (.p (.int .i64 ((a % 2 : Nat) : Int))) := by
  have e : (BitVec.ofInt 64 (a : Int) &&& BitVec.ofInt 64 1).toNat = a % 2 := by
    have h1 : (BitVec.ofInt 64 (a : Int)).toNat = a := by rw [BitVec.ofInt_natCast, BitVec.toNat_ofNat]; omega
    have h2 : (BitVec.ofInt 64 1).toNat = 2 ^ 1 - 1 := by decide
    rw [BitVec.toNat_and, h1, h2, Nat.and_two_pow_sub_one_eq_mod]
  have e2 : binInt .and .i64 (a : Int) 1 = some (.int .i64 ((a % 2 : Nat) : Int)) := by
    show some (PV.int .i64 (IntKind.i64.wrap ((BitVec.ofInt 64 (a : Int) &&& BitVec.ofInt 64 1).toNat : Int))) = _
    rw [e, wrap_ok (by omega) (by omega)]
  show (if IntKind.i64 = IntKind.i64 then (binInt .and .i64 (a : Int) 1).map DV.p else none) = _
  rw [if_pos rfl, e2]
  rfl
theorem bit_dec {x m : Int} : decide (((x.toNat / 2 ^ m.toNat % 2 : Nat) : Int) = 1) = bit x m := decide_eq_decide.2 (by omega)
end Go.D
end
/- Chapter 13: truths of the program, node by node. -/
section
set_option linter.unusedVariables false
set_option linter.unusedSimpArgs false
set_option maxRecDepth 8000
namespace Go.D
open Las
theorem S84p {a b : OI} (h0 : 0 < (L a).length + (L b).length) (hl : (L a).length + (L b).length ≤ 10000) (σ : Store) : pureV CC 84 [.p (.sl true 2 [eSl a, eSl b])] σ = some (.p (eSl (some (L a ++ L b)))) := by
  have h := S84 h0 hl false 0 [] (Nat.le_refl _)
  rw [List.length_nil, List.nil_append] at h
  rw [pureV_view (args' := [.p (.sl false 2 [eSl a, eSl b])]) (by simp [view, viewCell, loosen, loosens, loosen_sl]) (by simp [view, viewCell, loosen, loosens, loosen_sl])]
  refine pureV_free (by simp [view, viewCell, loosen, loosens, loosen_sl]) rfl h ?_
  generalize L a ++ L b = W
  have hb : 0 + W.length * 1 ≤ (ints W).length := by rw [ints_len]; omega
  have ht : ((ints W).drop 0).take (W.length * 1) = ints W := by rw [List.drop_zero, Nat.mul_one, List.take_of_length_le (by rw [ints_len]; exact Nat.le_refl _)]
  have hm : ∀ (d : Nat) (l : List Int), mapO (thawP 0 [Row.mix (ints W)] d) (ints l) = some (eInts l) := by
    intro d l
    induction l with
    | nil => rfl
    | cons a l ih =>
      have : ints (a :: l) = .p (.int .i64 a) :: ints l := rfl
      rw [this]
      cases d <;> simp [mapO, thawP, loosen, ih, eInts]
  simp only [thawAll, thawPart, thaw, thaw1, thawP, Nat.le_refl, if_true, List.getElem?_cons_zero, if_pos hb, ht, hm, Option.map_some]
  rfl
theorem zero135 : zeroOf PP 135 = some [.p (pI 0), .p (pI 0)] := Eq.trans (by kernel_rfl) rfl
def rgD (n back : Nat) : List DV := [.p (pI n), .p (pI back)]
theorem b135 (n back : Nat) : build PP 135 [(0, N n), (1, N back)] = some (.agg (rgD n back)) := Eq.trans (by kernel_rfl) rfl
theorem st135 (n back : Nat) : store PP 0 135 (.ptr 0 0) (.agg (rgD n back)) [.mix [.p (pI 0), .p (pI 0)]] = some [.mix (rgD n back)] := Eq.trans (by kernel_rfl) rfl
section
variable {σ : Store} {n back : Nat} (h : σ[0]? = some (.mix (rgD n back)))
include h
theorem rr_0 : load1 (.ptr 0 0) σ = some (.p (.int .i64 (n : Nat))) := load1_ptr h rfl
theorem rr_all : (loadN σ 2 (.ptr 0 0)).map DV.agg = some (vRg n back) := by rw [loadN_ptr (vs := rgD n back) h rfl (by simp [rgD])]; rfl
end
def lvs (T : Nat → NB) (n i : Nat) : List PV := (List.range i).map fun j => bvP (tab n (T j))
theorem lvs_succ (T : Nat → NB) (n i : Nat) : lvs T n (i + 1) = lvs T n i ++ [bvP (tab n (T i))] := by simp [lvs, List.range_succ]
theorem lvs_get {T : Nat → NB} {n i j : Nat} (h : j < i) : (lvs T n i)[j]? = some (bvP (tab n (T j))) := by simp [lvs, h]
section
variable {n back : Nat} {W : List Int} (hb : back < n) (hn : n ≤ 1000) (hW : W.length = n) (hWb : ∀ j, j < n → 0 ≤ W.getD j 0 ∧ W.getD j 0 ≤ 4095)
include hb hn hW hWb
theorem L72_1 {x6 x7 x27 x28 x29 : DV} {s : Nat} {x : Nd} (hm : 0 ≤ x.n ∧ x.n ≤ 11) : ∀ (d i : Nat) (y : DV) (σ : Store), n - i = d → i ≤ n → σ[s]? = some (.mix (ndD x)) → Out σ 0 1 i (eBools ((tab n fun j => bit (W.getD j 0) x.n).take i)) y →
    ∃ y' σ', f72_L1 guardT 0 (.p (eSl (some W))) x6 x7 (.ptr s 0) y x27 x28 x29 (.p (eSl (some W))) (N n) (N i) σ = f72_L1 guardT 0 (.p (eSl (some W))) x6 x7 (.ptr s 0) y' x27 x28 x29 (.p (eSl (some W))) (N n) (N n) σ' ∧
      Out σ' 0 1 n (eBools (tab n fun j => bit (W.getD j 0) x.n)) y' ∧ ∀ (r : Nat) (row : Row), σ[r]? = some row → Away y r → σ'[r]? = some row
  | 0, i, y, σ, hd, hi, gs, ho => by
    have e : i = n := by omega
    subst e
    rw [List.take_of_length_le (by rw [tab_len]; exact Nat.le_refl _)] at ho
    exact ⟨y, σ, rfl, ho, fun r row h _ => h⟩
  | d + 1, i, y, σ, hd, hi, gs, ho => by
    have hlt : i < n := by omega
    obtain ⟨w0, w1⟩ := hWb i hlt
    have i1 := (PL.some W).idx (i := i) (by omega)
    have l1 := load1_getD (l := W) (i := i) (by omega) σ
    have gn := row_n gs
    have ew : W.getD i 0 = (((W.getD i 0).toNat : Nat) : Int) := by omega
    have em : x.n = ((x.n.toNat : Nat) : Int) := by omega
    have sh := shrN (a := (W.getD i 0).toNat) (m := x.n.toNat) (by omega) 3
    rw [← ew, ← em] at sh
    have hle : (W.getD i 0).toNat / 2 ^ x.n.toNat ≤ (W.getD i 0).toNat := Nat.div_le_self _ _
    have an := andN1 ((W.getD i 0).toNat / 2 ^ x.n.toNat) (by omega) 3
    have hbit := bit_dec (x := W.getD i 0) (m := x.n)
    obtain ⟨y1, σ1, p1, p2, p3, p4, p5⟩ := Out.push34x (v := .bool (bit (W.getD i 0) x.n)) ho (by omega) (Nat.zero_le _)
    have et : eBools ((tab n fun j => bit (W.getD j 0) x.n).take i) ++ [.bool (bit (W.getD i 0) x.n)] = eBools ((tab n fun j => bit (W.getD j 0) x.n).take (i + 1)) := by
      have hl : i < (tab n fun j => bit (W.getD j 0) x.n).length := by rw [tab_len]; exact hlt
      have hg := tab_get hlt (g := fun j => bit (W.getD j 0) x.n) false
      rw [List.getD_eq_getElem?_getD, List.getElem?_eq_getElem hl] at hg
      rw [List.take_succ_eq_append_getElem hl]
      simp only [eBools, List.map_append, List.map_cons, List.map_nil]
      congr 3
      exact hg.symm
    rw [et] at p2
    obtain ⟨y', σ', r1, r2, r3⟩ := L72_1 hm d (i + 1) y1 σ1 (by omega) (by omega) (p3.mix ho gs (fun v h => by cases h)) p2
    refine ⟨y', σ', ?_, r2, fun r row h ha => r3 r row (p3 r row h ha) (p5 r (get_lt h) ha)⟩
    rw [← r1, f72_L1_eq guardT rfl]
    simp (disch := omega) only [N, b_lss, ltT, gG, i1, load3, l1, fa67_1, shift_ptr, shift_pptr, Nat.zero_add, Nat.add_zero, pureFn_fn, List.append_nil, List.singleton_append, List.cons_append, List.nil_append, gn, sh, an, b_eql, hbit, bs34_1, p1, add1]
theorem J72 {x27 x28 y x10 x11 : DV} {s i : Nat} {x : Nd} {σ : Store} {cs : List PV} {a b : NB} (hi : i ≤ 1000) (hk : inR x.k 0 9 = true) (hbad : bad x = false) (hab : ar x.k ≠ 0 → x10 = BV (tab n a) ∧ x11 = BV (tab n b))
    (gs : σ[s]? = some (.mix (ndD x))) (g0 : σ[0]? = some (.mix (rgD n back))) (ho : Out σ 0 1 i cs y)
    (x30 x31 x32 x33 x34 x35 x36 x37 x38 x39 x40 x41 x42 x43 x44 x45 x46 x47 x48 x49 x50 x51 x52 x53 x54 : DV) :
    ∃ y' σ', f72_J0 guardT 0 (.p (eSl (some W))) (.ptr 0 0) y (.ptr s 0) x10 x11 x27 x28 (N i) x30 x31 x32 x33 x34 x35 x36 x37 x38 x39 x40 x41 x42 x43 x44 x45 x46 x47 x48 x49 x50 x51 x52 x53 x54 σ = f72_L0 guardT 0 (.p (eSl (some W))) (.ptr 0 0) y' x27 x28 (N (i + 1)) σ' ∧
      σ'[0]? = some (.mix (rgD n back)) ∧ Out σ' 0 1 (i + 1) (cs ++ [bvP (tab n (tk n back W x.k x.n a b))]) y' := by
  rw [inR_iff] at hk
  have h0 : 0 < n := by omega
  have gk := row_k gs
  have fin : ∀ l : List Bool, ∃ y' σ', (∃ z, z = l ∧ append PP 0 false 162 162 y (.p (.sl true 1 [bvP l])) σ = some (y', σ')) ∧ σ'[0]? = some (.mix (rgD n back)) ∧ Out σ' 0 1 (i + 1) (cs ++ [bvP l]) y' := fun l => by
    obtain ⟨y', σ', p1, p2, p3, _⟩ := Out.push162 (v := bvP l) ho (by omega) (Nat.zero_le _)
    exact ⟨y', σ', ⟨l, rfl, p1⟩, p3.mix ho g0 (fun v h => by cases h), p2⟩
  obtain ⟨y', σ', ⟨_, _, p1⟩, p2, p3⟩ := fin (tab n (tk n back W x.k x.n a b))
  rw [f72_J0_eq]
  have hcase : x.k = 0 ∨ x.k = 1 ∨ x.k = 2 ∨ x.k = 3 ∨ x.k = 4 ∨ x.k = 5 ∨ x.k = 6 ∨ x.k = 7 ∨ x.k = 8 ∨ x.k = 9 := by omega
  rcases hcase with e | e | e | e | e | e | e | e | e | e
  · rw [e] at p1 gk
    have et : tab n (tk n back W 0 x.n a b) = List.replicate n true := (rep_tab n true).symm
    rw [et] at p1
    refine ⟨y', σ', ?_, p2, p3⟩
    simp (disch := omega) only [fa67_0, fa135_0, shift_ptr, shift_pptr, Nat.zero_add, Nat.add_zero, pureFn_fn, List.append_nil, List.singleton_append, List.cons_append, List.nil_append, gG, load3, gk, b_eql, eqT (rfl : (0 : Int) = 0), bs34_1, rr_0 g0, S123 h0 hn, bs162, p1, N, add1]
  · rw [e] at gk
    have hm : 0 ≤ x.n ∧ x.n ≤ 11 := by
      unfold bad at hbad
      rw [if_pos e, Bool.not_eq_false', inR_iff] at hbad
      exact hbad
    obtain ⟨z, σz, q1, q2, q3⟩ := L72_1 hb hn hW hWb (x6 := .ptr 0 0) (x7 := y) (x27 := x27) (x28 := x28) (x29 := N i) hm _ 0 (.p .nilsl) σ rfl (Nat.zero_le _) gs Out.zero
    have hall : ∀ (r : Nat) (row : Row), σ[r]? = some row → σz[r]? = some row := fun r row h => q3 r row h (fun _ _ _ _ _ e => by cases e)
    have ho2 : Out σz 0 1 i cs y := ho.keep fun r v h => hall _ _ h
    have g02 := hall _ _ g0
    obtain ⟨y2, σ2, p4, p5, p6, _⟩ := Out.push162 (v := bvP (tab n (tk n back W x.k x.n a b))) ho2 (by omega) (Nat.zero_le _)
    refine ⟨y2, σ2, ?_, p6.mix ho2 g02 (fun v h => by cases h), p5⟩
    have hz : ∃ r v, z = .osl r v 1 n (eBools (tab n fun j => bit (W.getD j 0) x.n)) := by
      rcases q2.2 with ⟨h, _⟩ | ⟨_, r, v, h, _, _⟩
      · omega
      · exact ⟨r, v, h⟩
    obtain ⟨rz, vz, rfl⟩ := hz
    have et : bvP (tab n (tk n back W x.k x.n a b)) = .sl false n (eBools (tab n fun j => bit (W.getD j 0) x.n)) := by
      rw [e]
      show PV.sl false (tab n _).length _ = _
      rw [tab_len]
      rfl
    rw [et] at p4
    have hlenW : len PP 24 (.p (eSl (some W))) σ = some (N n) := by rw [(PL.some W).len, hW]; rfl
    have hq : f72_L1 guardT 0 (.p (eSl (some W))) (.ptr 0 0) y (.ptr s 0) (.osl rz vz 1 n (eBools (tab n fun j => bit (W.getD j 0) x.n))) x27 x28 (N i) (.p (eSl (some W))) (N n) (N n) σz = f72_L0 guardT 0 (.p (eSl (some W))) (.ptr 0 0) y2 x27 x28 (N (i + 1)) σ2 := by
      rw [f72_L1_eq guardT rfl]
      simp (disch := omega) only [N, b_lss, ltF, gG, bs162_o, p4, add1]
    rw [← hq, ← q1]
    simp (disch := omega) only [fa67_0, shift_ptr, shift_pptr, Nat.zero_add, Nat.add_zero, pureFn_fn, List.append_nil, List.singleton_append, List.cons_append, List.nil_append, gG, load3, gk, b_eql, Int.reduceEq, hlenW, eqT (rfl : (1 : Int) = 1)]
    rfl
  · rw [e] at p1 gk
    obtain ⟨rfl, rfl⟩ := hab (by rw [e]; decide)
    refine ⟨y', σ', ?_, p2, p3⟩
    have p1' : append PP 0 false 162 162 y (.p (.sl true 1 [bvP (tab n fun j => !a j)])) σ = some (y', σ') := p1
    simp (disch := omega) only [fa67_0, shift_ptr, shift_pptr, Nat.zero_add, Nat.add_zero, pureFn_fn, List.append_nil, List.singleton_append, List.cons_append, List.nil_append, gG, load3, gk, b_eql, Int.reduceEq, S124 h0 hn, bs162, p1', N, add1]
  · rw [e] at p1 gk
    obtain ⟨rfl, rfl⟩ := hab (by rw [e]; decide)
    refine ⟨y', σ', ?_, p2, p3⟩
    have p1' : append PP 0 false 162 162 y (.p (.sl true 1 [bvP (tab n fun j => and (a j) (b j))])) σ = some (y', σ') := p1
    simp (disch := omega) only [fa67_0, shift_ptr, shift_pptr, Nat.zero_add, Nat.add_zero, pureFn_fn, List.append_nil, List.singleton_append, List.cons_append, List.nil_append, gG, load3, gk, b_eql, Int.reduceEq, S125 fn126 h0 hn, bs162, p1', N, add1]
  · rw [e] at p1 gk
    obtain ⟨rfl, rfl⟩ := hab (by rw [e]; decide)
    refine ⟨y', σ', ?_, p2, p3⟩
    have p1' : append PP 0 false 162 162 y (.p (.sl true 1 [bvP (tab n fun j => or (a j) (b j))])) σ = some (y', σ') := p1
    simp (disch := omega) only [fa67_0, shift_ptr, shift_pptr, Nat.zero_add, Nat.add_zero, pureFn_fn, List.append_nil, List.singleton_append, List.cons_append, List.nil_append, gG, load3, gk, b_eql, Int.reduceEq, S125 fn127 h0 hn, bs162, p1', N, add1]
  · rw [e] at p1 gk
    obtain ⟨rfl, rfl⟩ := hab (by rw [e]; decide)
    refine ⟨y', σ', ?_, p2, p3⟩
    have p1' : append PP 0 false 162 162 y (.p (.sl true 1 [bvP (tab n fun j => !a j || b j)])) σ = some (y', σ') := p1
    simp (disch := omega) only [fa67_0, shift_ptr, shift_pptr, Nat.zero_add, Nat.add_zero, pureFn_fn, List.append_nil, List.singleton_append, List.cons_append, List.nil_append, gG, load3, gk, b_eql, Int.reduceEq, S125 fn128 h0 hn, bs162, p1', N, add1]
  · rw [e] at p1 gk
    obtain ⟨rfl, rfl⟩ := hab (by rw [e]; decide)
    refine ⟨y', σ', ?_, p2, p3⟩
    have p1' : append PP 0 false 162 162 y (.p (.sl true 1 [bvP (tab n fun i => !soP n back (fun j => !a j) i)])) σ = some (y', σ') := p1
    simp (disch := omega) only [fa67_0, shift_ptr, shift_pptr, Nat.zero_add, Nat.add_zero, pureFn_fn, List.append_nil, List.singleton_append, List.cons_append, List.nil_append, gG, load3, gk, b_eql, Int.reduceEq, load135, rr_all g0, T129 hb hn, bs162, p1', N, add1]
  · rw [e] at p1 gk
    obtain ⟨rfl, rfl⟩ := hab (by rw [e]; decide)
    refine ⟨y', σ', ?_, p2, p3⟩
    have p1' : append PP 0 false 162 162 y (.p (.sl true 1 [bvP (tab n (soP n back a))])) σ = some (y', σ') := p1
    simp (disch := omega) only [fa67_0, shift_ptr, shift_pptr, Nat.zero_add, Nat.add_zero, pureFn_fn, List.append_nil, List.singleton_append, List.cons_append, List.nil_append, gG, load3, gk, b_eql, Int.reduceEq, load135, rr_all g0, T130 hb hn, bs162, p1', N, add1]
  · rw [e] at p1 gk
    obtain ⟨rfl, rfl⟩ := hab (by rw [e]; decide)
    refine ⟨y', σ', ?_, p2, p3⟩
    have p1' : append PP 0 false 162 162 y (.p (.sl true 1 [bvP (tab n fun i => !soP n back (fun j => !(!a j || soP n back b j)) i)])) σ = some (y', σ') := p1
    simp (disch := omega) only [fa67_0, shift_ptr, shift_pptr, Nat.zero_add, Nat.add_zero, pureFn_fn, List.append_nil, List.singleton_append, List.cons_append, List.nil_append, gG, load3, gk, b_eql, Int.reduceEq, load135, rr_all g0, T130 hb hn, S125 fn128 h0 hn, T129 hb hn, bs162, p1', N, add1]
  · rw [e] at p1 gk
    obtain ⟨rfl, rfl⟩ := hab (by rw [e]; decide)
    refine ⟨y', σ', ?_, p2, p3⟩
    have p1' : append PP 0 false 162 162 y (.p (.sl true 1 [bvP (tab n (unP n back a b))])) σ = some (y', σ') := p1
    simp (disch := omega) only [fa67_0, shift_ptr, shift_pptr, Nat.zero_add, Nat.add_zero, pureFn_fn, List.append_nil, List.singleton_append, List.cons_append, List.nil_append, gG, load3, gk, b_eql, Int.reduceEq, load135, rr_all g0, T131 hb hn, bs162, p1', N, add1]
end
end Go.D
end
/- Chapter 13: TruthsOn and HoldsOn of the program. -/
section
set_option linter.unusedVariables false
set_option linter.unusedSimpArgs false
set_option maxRecDepth 8000
namespace Go.D
open Las
theorem oddB_ok {v : Int} (h : oddB v = false) : 0 ≤ v ∧ v ≤ 4095 := by
  unfold oddB at h
  rw [Bool.not_eq_false', inR_iff] at h
  exact h
theorem ar_zero {k : Int} (h : ar k = 0) : k = 0 ∨ k = 1 := by
  unfold ar at h
  by_cases c : k = 0 ∨ k = 1
  · exact c
  · rw [if_neg c] at h
    split at h <;> exact absurd h (by decide)
section
variable {n back : Nat} {W : List Int} (hb : back < n) (hn : n ≤ 1000) (hW : W.length = n) (hWb : ∀ j, j < n → 0 ≤ W.getD j 0 ∧ W.getD j 0 ≤ 4095) {f : Fm} (hf : FSm f) (hk : Ok (L f))
include hb hn hW hWb hf hk
theorem L72 : ∀ (d i : Nat) (y : DV) (σ : Store), (L f).length - i = d → i ≤ (L f).length → σ[0]? = some (.mix (rgD n back)) → Out σ 0 1 i (lvs (tv (tk n back W) (L f)) n i) y →
    ∃ σ', f72_L0 guardT 0 (.p (eSl (some W))) (.ptr 0 0) y (.p (eFm f)) (N (L f).length) (N i) σ = some (BV (tab n (tv (tk n back W) (L f) ((L f).length - 1))), σ')
  | 0, i, y, σ, hd, hi, g0, ho => by
    have hp := hk.pos
    have hle := hk.le
    have e : i = (L f).length := by omega
    subst e
    have i1 := ho.idx162 (j := (L f).length - 1) (by omega)
    have l1 := load1_pptr (lvs_get (T := tv (tk n back W) (L f)) (n := n) (i := (L f).length) (j := (L f).length - 1) (by omega)) σ
    have hl := ho.len162 σ
    refine ⟨σ, ?_⟩
    rw [f72_L0_eq guardT rfl]
    simp (disch := omega) only [N, b_lss, ltF, gG, hl, sub1, i1, load34, l1]
    rfl
  | d + 1, i, y, σ, hd, hi, g0, ho => by
    have hp := hk.pos
    have hle := hk.le
    have hlt : i < (L f).length := by omega
    have hg := hk.good i hlt
    have h3 := hf.2 i
    have ha : L ((L f).getD i default).a = nA (L f) i := rfl
    have hnd := nd_all hlt
    have hga := hg.a
    have hgk := hg.k
    have hgb := hg.b
    have hs0 := get_lt g0
    have key : ∀ a b : NB, tv (tk n back W) (L f) i = tk n back W ((L f).getD i default).k ((L f).getD i default).n a b →
        ∀ (y' : DV) (σ' : Store), σ'[0]? = some (.mix (rgD n back)) → Out σ' 0 1 (i + 1) (lvs (tv (tk n back W) (L f)) n i ++ [bvP (tab n (tk n back W ((L f).getD i default).k ((L f).getD i default).n a b))]) y' →
        ∃ σ'', f72_L0 guardT 0 (.p (eSl (some W))) (.ptr 0 0) y' (.p (eFm f)) (N (L f).length) (N (i + 1)) σ' = some (BV (tab n (tv (tk n back W) (L f) ((L f).length - 1))), σ'') := fun a b hab y' σ' g0' ho' => by
      rw [← hab, ← lvs_succ] at ho'
      exact L72 d (i + 1) y' σ' (by omega) (by omega) g0' ho'
    have hleaf : nA (L f) i = [] → ∀ a b : NB, tv (tk n back W) (L f) i = tk n back W ((L f).getD i default).k ((L f).getD i default).n a b := fun h0 a b => by
      rw [h0] at hga
      exact tv_leaf (ar_zero hga.symm) a b
    have hnode : nA (L f) i ≠ [] → tv (tk n back W) (L f) i = tk n back W ((L f).getD i default).k ((L f).getD i default).n (opA (tk n back W) (L f) i) (opB (tk n back W) (L f) i) := fun h0 => tv_eq hg h0
    have hargs := fun h0 => hg.args h0
    generalize hx : (L f).getD i default = x at *
    have st := st67 (σ := σ) (lo := 0) (z := [.p (pI 0), .p (pI 0), .p .nilsl]) x rfl (Nat.zero_le _)
    have g : (σ ++ [Row.mix (ndD x)])[σ.length]? = some (.mix (ndD x)) := get_snoc
    have g02 : (σ ++ [Row.mix (ndD x)])[0]? = some (.mix (rgD n back)) := get_old g0
    have ho2 : Out (σ ++ [Row.mix (ndD x)]) 0 1 i (lvs (tv (tk n back W) (L f)) n i) y := ho.keep fun r v hr => get_old hr
    by_cases h0 : nA (L f) i = []
    · have hz : ¬ (((nA (L f) i).length : Nat) : Int) > 0 := by rw [h0]; decide
      have har : ar x.k = 0 := by rw [← hga, h0]; rfl
      obtain ⟨y', σ', r1, r2, r3⟩ := J72 hb hn hW hWb (x27 := .p (eFm f)) (x28 := N (L f).length) (x10 := .p .nilsl) (x11 := .p .nilsl) (a := fun _ => false) (b := fun _ => false) (i := i) (by omega) hgk hgb (fun h => absurd har h) g g02 ho2
        (.p (.bool true)) (.pptr (eNds (L f)) (i * 3)) (.agg (ndD x)) (.ptr σ.length 2) (.p (eSl x.a)) (.p (.int .i64 ((nA (L f) i).length : Nat))) (.p (.bool false)) Z Z Z Z Z Z Z Z Z Z Z Z Z Z Z Z Z Z
      obtain ⟨σ'', r4⟩ := key _ _ (hleaf h0 _ _) y' σ' r2 r3
      refine ⟨σ'', ?_⟩
      rw [← r4, ← r1, f72_L0_eq guardT rfl]
      simp (disch := omega) only [N, b_lss, ltT, gG, idx23 hlt, load67, hnd, zero67, st, fa67_2, shift_ptr, shift_pptr, Nat.zero_add, Nat.add_zero, pureFn_fn, List.append_nil, List.singleton_append, List.cons_append, List.nil_append, load24, row_a g, (PL.sl _).len, ha, b_gtr, gtF hz]
    · obtain ⟨a1, a2, a3, a4⟩ := hargs h0
      have hpa := List.length_pos_iff.2 h0
      have hz : (((nA (L f) i).length : Nat) : Int) > 0 := by omega
      have i1 := (PL.sl x.a).idx (i := 0) (by rw [ha]; exact hpa)
      have i2 := (PL.sl x.a).idx (i := (nA (L f) i).length - 1) (by rw [ha]; omega)
      have l1 := load1_getD (l := nA (L f) i) hpa (σ ++ [Row.mix (ndD x)])
      have l2 := load1_getD (l := nA (L f) i) (i := (nA (L f) i).length - 1) (by omega) (σ ++ [Row.mix (ndD x)])
      have z0 : (.p (.int .i64 ((0 : Nat) : Int)) : DV) = .p (.int .i64 0) := rfl
      rw [z0, ha] at i1
      rw [ha] at i2
      have j1 := ho2.idx162 (j := ((nA (L f) i).getD 0 0).toNat) (by omega)
      have j2 := ho2.idx162 (j := ((nA (L f) i).getD ((nA (L f) i).length - 1) 0).toNat) (by omega)
      rw [Int.toNat_of_nonneg a2] at j1
      rw [Int.toNat_of_nonneg (by omega)] at j2
      have m1 := load1_pptr (lvs_get (T := tv (tk n back W) (L f)) (n := n) (i := i) (j := ((nA (L f) i).getD 0 0).toNat) (by omega)) (σ ++ [Row.mix (ndD x)])
      have m2 := load1_pptr (lvs_get (T := tv (tk n back W) (L f)) (n := n) (i := i) (j := ((nA (L f) i).getD ((nA (L f) i).length - 1) 0).toNat) (by omega)) (σ ++ [Row.mix (ndD x)])
      obtain ⟨y', σ', r1, r2, r3⟩ := J72 hb hn hW hWb (x27 := .p (eFm f)) (x28 := N (L f).length) (x10 := BV (tab n (opA (tk n back W) (L f) i))) (x11 := BV (tab n (opB (tk n back W) (L f) i))) (a := opA (tk n back W) (L f) i) (b := opB (tk n back W) (L f) i) (i := i) (by omega) hgk hgb (fun _ => ⟨rfl, rfl⟩) g g02 ho2
        (.p (.bool true)) (.pptr (eNds (L f)) (i * 3)) (.agg (ndD x)) (.ptr σ.length 2) (.p (eSl x.a)) (.p (.int .i64 ((nA (L f) i).length : Nat))) (.p (.bool true)) y (.ptr σ.length 2) (.p (eSl x.a)) (.pptr (eInts (nA (L f) i)) 0) (.p (.int .i64 ((nA (L f) i).getD 0 0))) (.pptr (lvs (tv (tk n back W) (L f)) n i) ((nA (L f) i).getD 0 0).toNat) (BV (tab n (opA (tk n back W) (L f) i)))
        y (.ptr σ.length 2) (.p (eSl x.a)) (.ptr σ.length 2) (.p (eSl x.a)) (.p (.int .i64 ((nA (L f) i).length : Nat))) (.p (.int .i64 (((nA (L f) i).length - 1 : Nat)))) (.pptr (eInts (nA (L f) i)) ((nA (L f) i).length - 1)) (.p (.int .i64 ((nA (L f) i).getD ((nA (L f) i).length - 1) 0))) (.pptr (lvs (tv (tk n back W) (L f)) n i) ((nA (L f) i).getD ((nA (L f) i).length - 1) 0).toNat) (BV (tab n (opB (tk n back W) (L f) i)))
      obtain ⟨σ'', r4⟩ := key _ _ (hnode h0) y' σ' r2 r3
      refine ⟨σ'', ?_⟩
      rw [← r4, ← r1, f72_L0_eq guardT rfl]
      simp (disch := omega) only [N, b_lss, ltT, gG, idx23 hlt, load67, hnd, zero67, st, fa67_2, shift_ptr, shift_pptr, Nat.zero_add, Nat.add_zero, pureFn_fn, List.append_nil, List.singleton_append, List.cons_append, List.nil_append, load24, row_a g, (PL.sl _).len, ha, b_gtr, gtT hz, i1, load3, l1, j1, load34, m1, sub1, i2, l2, j2, m2]
      rfl
end
end Go.D
end
/- Chapter 13: TruthsOn and HoldsOn of the program; the errors of both. -/
section
set_option linter.unusedVariables false
set_option linter.unusedSimpArgs false
set_option maxRecDepth 8000
namespace Go.D
open Las
theorem kx0' (a b : DV) : extractV (.tuple [a, b]) 0 = some a := rfl
theorem kx1' (a b : DV) : extractV (.tuple [a, b]) 1 = some b := rfl
structure WOk (P Q : List Int) : Prop where
  ne : 0 < Q.length
  le : P.length + Q.length ≤ 60
  rng : ∀ j, j < P.length + Q.length → 0 ≤ (P ++ Q).getD j 0 ∧ (P ++ Q).getD j 0 ≤ 4095
theorem wErr_ok {P Q : List Int} (h : wErr P Q = 0) : WOk P Q := by
  obtain ⟨h1, h2, h3, h4⟩ := wErr_zero h
  refine ⟨List.length_pos_iff.2 h1, h2, fun j hj => ?_⟩
  have hl : j < (P ++ Q).length := by rw [List.length_append]; exact hj
  have hm : (P ++ Q).getD j 0 ∈ P ++ Q := by
    rw [List.getD_eq_getElem?_getD, List.getElem?_eq_getElem hl]
    exact List.getElem_mem hl
  rcases List.mem_append.1 hm with hm | hm
  · exact oddB_ok (h3 _ hm)
  · exact oddB_ok (h4 _ hm)
def says (F : List Nd) (P Q : List Int) : List Bool := tab (P.length + Q.length) (tv (tk (P.length + Q.length) P.length (P ++ Q)) F (F.length - 1))
theorem says_len (F : List Nd) (P Q : List Int) : (says F P Q).length = P.length + Q.length := tab_len _ _
def bErr (F : List Nd) (P Q : List Int) : Int := if (chk F).2 = 0 then wErr P Q else (chk F).2
theorem bErr_or (F : List Nd) (P Q : List Int) : orL [(chk F).2, wErr P Q] = bErr F P Q := by
  unfold orL bErr
  by_cases h : (chk F).2 = 0
  · rw [if_neg (fun h' => h' h), if_pos h]
    unfold orL
    by_cases h2 : wErr P Q = 0
    · rw [if_neg (fun h' => h' h2), h2]; rfl
    · rw [if_pos h2]
  · rw [if_pos h, if_neg h]
theorem bErr_zero {F : List Nd} {P Q : List Int} (h : bErr F P Q = 0) : (chk F).2 = 0 ∧ wErr P Q = 0 := by
  unfold bErr at h
  by_cases c : (chk F).2 = 0
  · rw [if_pos c] at h; exact ⟨c, h⟩
  · rw [if_neg c] at h; exact absurd h c
section
variable {f : Fm} {w : Wd} (hf : FSm f)
include hf
theorem S72 (hk : Ok (L f)) (hw : WOk (L w.p) (L w.l)) (σ : Store) : pureV CC 72 [.p (eFm f), vWd w] σ = some (BV (says (L f) (L w.p) (L w.l))) := by
  have h1 := hw.ne
  have h2 := hw.le
  have hl : (L w.p ++ L w.l).length = (L w.p).length + (L w.l).length := List.length_append
  obtain ⟨σ', h⟩ := L72 (n := (L w.p).length + (L w.l).length) (back := (L w.p).length) (W := L w.p ++ L w.l) (by omega) (by omega) hl hw.rng hf hk _ 0 (.p .nilsl) [.mix (rgD ((L w.p).length + (L w.l).length) (L w.p).length)] rfl (Nat.zero_le _) rfl Out.zero
  refine pureV_free (by simp [wd_view, fm_view]) rfl (F72_call (r := (BV (says (L f) (L w.p) (L w.l)), σ')) ?_) (by simp [thawAll, thawPart, thaw, thaw1, thawP, BV, loosen, loosens_bools])
  have b := b135 ((L w.p).length + (L w.l).length) (L w.p).length
  have st := st135 ((L w.p).length + (L w.l).length) (L w.p).length
  have lW := (PL.some (L w.p ++ L w.l)).len []
  rw [hl] at lW
  simp only [N] at b
  rw [F72_eq]
  simp only [box_wd, gG, fa26_0, fa26_1, shift_ptr, shift_pptr, Nat.zero_add, Nat.add_zero, pureFn_fn, List.append_nil, List.singleton_append, List.cons_append, List.nil_append, load24, wd_0, wd_1, bs130_2, S84p (show 0 < (L w.p).length + (L w.l).length by omega) (show (L w.p).length + (L w.l).length ≤ 10000 by omega), lW, (PL.sl w.p).len, b, zero135, List.length_nil, st, len23]
  exact h
def tOn (F : List Nd) (P Q : List Int) : DV := if bErr F P Q = 0 then .tuple [BV (says F P Q), .p (.int .i64 0)] else .tuple [.p .nilsl, .p (.int .i64 (bErr F P Q))]
theorem S18 (hp : (L w.p).length ≤ 1000) (hl : (L w.l).length ≤ 1000) (σ : Store) : pureV CC 18 [.p (eFm f), vWd w] σ = some (tOn (L f) (L w.p) (L w.l)) := by
  have q2 : ∀ (σ : Store), pureV CC 66 [.p (.sl true 2 [pI (chk (L f)).2, pI (wErr (L w.p) (L w.l))])] σ = some (.p (.int .i64 (bErr (L f) (L w.p) (L w.l)))) := fun σ => by
    rw [← bErr_or]; exact S66 (ex := true) (l := [(chk (L f)).2, wErr (L w.p) (L w.l)]) (by simp) σ
  refine pureV_free (by simp [wd_view, fm_view]) rfl (F18_call (r := (tOn (L f) (L w.p) (L w.l), [])) ?_) ?_
  · rw [F18_eq]
    unfold tOn
    by_cases h : bErr (L f) (L w.p) (L w.l) = 0
    · obtain ⟨h1, h2⟩ := bErr_zero h
      have hw := wErr_ok h2
      have hne := hw.ne
      have hle := hw.le
      have hsl := says_len (L f) (L w.p) (L w.l)
      rw [if_pos h]
      simp only [box_wd, gG, shift_ptr, shift_pptr, Nat.zero_add, Nat.add_zero, pureFn_fn, List.append_nil, List.singleton_append, List.cons_append, List.nil_append, S70 hf, load26, wd_all, S15 hp hl, bs160_2, q2, b_neq, eqT h, S72 hf (chk_ok h1) hw, S71 (ne_len hsl (by omega)) (by rw [hsl]; omega)]
    · rw [if_neg h]
      simp only [box_wd, gG, shift_ptr, shift_pptr, Nat.zero_add, Nat.add_zero, pureFn_fn, List.append_nil, List.singleton_append, List.cons_append, List.nil_append, S70 hf, load26, wd_all, S15 hp hl, bs160_2, q2, b_neq, eqF h]
  · unfold tOn
    by_cases h : bErr (L f) (L w.p) (L w.l) = 0
    · rw [if_pos h]
      simp [thawAll, thawPart, thaw, thaw1, thawP, BV, loosen, loosens_bools, mapO]
    · rw [if_neg h]
      simp [thawAll, thawPart, thaw, thaw1, thawP, loosen, mapO]
def hOn (F : List Nd) (P Q : List Int) : DV := .tuple [.p (.bool (decide (bErr F P Q = 0) && (says F P Q).getD 0 false)), .p (.int .i64 (bErr F P Q))]
theorem S20 (hp : (L w.p).length ≤ 1000) (hl : (L w.l).length ≤ 1000) (σ : Store) : pureV CC 20 [.p (eFm f), vWd w] σ = some (hOn (L f) (L w.p) (L w.l)) := by
  have h18 := fun σ => S18 (w := w) hf hp hl σ
  unfold tOn at h18
  refine pureV_free (by simp [wd_view, fm_view]) rfl (F20_call (r := (hOn (L f) (L w.p) (L w.l), [])) ?_) rfl
  rw [F20_eq]
  unfold hOn
  by_cases h : bErr (L f) (L w.p) (L w.l) = 0
  · obtain ⟨h1, h2⟩ := bErr_zero h
    have hw := wErr_ok h2
    have hne := hw.ne
    have hsl := says_len (L f) (L w.p) (L w.l)
    have i0 := BV_idx (l := says (L f) (L w.p) (L w.l)) (i := 0) (by omega)
    have d0 := BV_ld (l := says (L f) (L w.p) (L w.l)) (i := 0) (by omega) []
    have z0 : (.p (.int .i64 ((0 : Nat) : Int)) : DV) = .p (.int .i64 0) := rfl
    rw [z0] at i0
    simp only [if_pos h] at h18
    simp only [box_wd, gG, shift_ptr, shift_pptr, Nat.zero_add, Nat.add_zero, pureFn_fn, List.append_nil, List.singleton_append, List.cons_append, List.nil_append, load26, wd_all, h18, kx0', kx1', b_eql, eqT (rfl : (0 : Int) = 0), i0, load4, d0, h, Bool.true_and]
  · simp only [if_neg h] at h18
    simp only [box_wd, gG, shift_ptr, shift_pptr, Nat.zero_add, Nat.add_zero, pureFn_fn, List.append_nil, List.singleton_append, List.cons_append, List.nil_append, load26, wd_all, h18, kx0', kx1', b_eql, eqF h, Bool.false_and]
theorem S21 (hp : (L w.p).length ≤ 1000) (hl : (L w.l).length ≤ 1000) (σ : Store) : pureV CC 21 [.p (eFm f), vWd w] σ = some (.p (.int .i64 (bErr (L f) (L w.p) (L w.l)))) := by
  refine pureV_free (by simp [wd_view, fm_view]) rfl (F21_call (r := (.p (.int .i64 (bErr (L f) (L w.p) (L w.l))), [])) ?_) rfl
  rw [F21_eq]
  unfold bErr
  by_cases h : (chk (L f)).2 = 0
  · rw [if_pos h]
    simp only [box_wd, gG, shift_ptr, shift_pptr, Nat.zero_add, Nat.add_zero, pureFn_fn, List.append_nil, List.singleton_append, List.cons_append, List.nil_append, S25 hf, b_neq, eqT h, load26, wd_all, S17 hp hl]
  · rw [if_neg h]
    simp only [box_wd, gG, shift_ptr, shift_pptr, Nat.zero_add, Nat.add_zero, pureFn_fn, List.append_nil, List.singleton_append, List.cons_append, List.nil_append, S25 hf, b_neq, eqF h]
end
end Go.D
end
/- Chapter 13: truths of the reference. -/
section
set_option linter.unusedVariables false
set_option linter.unusedSimpArgs false
set_option maxRecDepth 8000
namespace Go.D
open Las
theorem b_neB (a b : Bool) : binOp PP .neq 4 (.p (.bool a)) (.p (.bool b)) = some (.p (.bool (a != b))) := Eq.trans (by kernel_rfl) rfl
section
variable {w : Wd} (hw : WOk (L w.p) (L w.l))
include hw
end
section
variable {w : Wd} (hw : WOk (L w.p) (L w.l)) {a b : NB} {i : Nat} (hi : i < (L w.p).length + (L w.l).length)
include hw hi
end
end Go.D
end
/- Chapter 13: parts of formulas: spans, parents; guarded atoms. Plain Lean. -/
section
set_option linter.unusedVariables false
set_option linter.unusedSimpArgs false
namespace Go.D
namespace Las
variable {F : List Nd}
def inS (F : List Nd) (r i : Nat) : Prop := fo F r ≤ i ∧ i ≤ r
def chd (F : List Nd) (r c : Nat) : Prop := ∃ k, k < (nA F r).length ∧ (nA F r).getD k 0 = c
theorem stB_tile {us : List Int} : ∀ (k : Nat) (x y : Int), stB F us x k = some y → ∀ i : Int, y ≤ i → i < x → ∃ j, j < k ∧ 0 ≤ us.getD j 0 ∧ us.getD j 0 < x ∧ fo F (us.getD j 0).toNat ≤ i ∧ i ≤ us.getD j 0
  | 0, x, y, h, i, h1, h2 => by
    injection h with h
    omega
  | k + 1, x, y, h, i, h1, h2 => by
    unfold stB at h
    by_cases c1 : us.getD k 0 = x - 1
    · rw [if_pos c1] at h
      by_cases c2 : foI F (x - 1) < 0
      · rw [if_pos c2] at h; exact absurd h (by simp)
      · rw [if_neg c2] at h
        have h3 : ¬ x - 1 < 0 := fun hh => c2 (by unfold foI; rw [if_pos hh]; decide)
        have h4 : foI F (x - 1) = fo F (x - 1).toNat := by unfold foI; rw [if_neg h3]
        have h5 := fo_le F (x - 1).toNat
        by_cases c3 : foI F (x - 1) ≤ i
        · exact ⟨k, Nat.lt_succ_self _, by omega, by omega, by rw [c1, ← h4]; exact c3, by omega⟩
        · obtain ⟨j, j1, j2, j3, j4⟩ := stB_tile k _ y h i h1 (by omega)
          exact ⟨j, by omega, j2, by omega, j4⟩
    · rw [if_neg c1] at h; exact absurd h (by simp)
theorem stB_in {us : List Int} : ∀ (k : Nat) (x y : Int), stB F us x k = some y → ∀ j, j < k → 0 ≤ us.getD j 0 ∧ us.getD j 0 < x ∧ y ≤ fo F (us.getD j 0).toNat ∧ 0 ≤ fo F (us.getD j 0).toNat
  | 0, x, y, h, j, hj => by omega
  | k + 1, x, y, h, j, hj => by
    have hend := stB_end k x y h
    unfold stB at h
    by_cases c1 : us.getD k 0 = x - 1
    · rw [if_pos c1] at h
      by_cases c2 : foI F (x - 1) < 0
      · rw [if_pos c2] at h; exact absurd h (by simp)
      · rw [if_neg c2] at h
        have h3 : ¬ x - 1 < 0 := fun hh => c2 (by unfold foI; rw [if_pos hh]; decide)
        have h4 : foI F (x - 1) = fo F (x - 1).toNat := by unfold foI; rw [if_neg h3]
        have h5 := fo_le F (x - 1).toNat
        have hle : y ≤ foI F (x - 1) := by
          cases k with
          | zero => injection h with h; omega
          | succ k =>
            obtain ⟨a, b, c, d⟩ := stB_end k _ _ h
            have := fo_le F (us.getD 0 0).toNat
            omega
        by_cases e : j = k
        · subst e
          rw [c1, ← h4]
          exact ⟨by omega, by omega, hle, by omega⟩
        · obtain ⟨a, b, c⟩ := stB_in k _ y h j (by omega)
          exact ⟨a, by omega, c⟩
    · rw [if_neg c1] at h; exact absurd h (by simp)
theorem Good.st {r : Nat} (h : Good F r) : stB F (nA F r) r (nA F r).length = some (fo F r) := by
  obtain ⟨y, hy⟩ := Option.isSome_iff_exists.1 h.s
  rw [hy, stands_fo hy]
theorem Good.op {r c : Nat} (h : Good F r) (hc : chd F r c) : c < r ∧ fo F r ≤ fo F c ∧ 0 ≤ fo F c := by
  obtain ⟨k, k1, k2⟩ := hc
  obtain ⟨a, b, d⟩ := stB_in _ _ _ h.st k k1
  rw [k2, Int.toNat_natCast] at d
  exact ⟨by omega, d⟩
theorem Good.part {r i : Nat} (h : Good F r) (hi : inS F r i) (hne : i ≠ r) : ∃ c, chd F r c ∧ inS F c i := by
  have h1 := hi.1
  have h2 := hi.2
  obtain ⟨j, j1, j2, j3, j4, j5⟩ := stB_tile _ _ _ h.st i h1 (by omega)
  exact ⟨((nA F r).getD j 0).toNat, ⟨j, j1, by omega⟩, j4, by omega⟩
variable (hk : Ok F)
include hk
end Las
end Go.D
end
/- Chapter 13: a formula is guarded: by parts, and by looking up from each atom. Plain Lean. -/
section
set_option linter.unusedVariables false
set_option linter.unusedSimpArgs false
namespace Go.D
namespace Las
variable {F : List Nd} {st : List Int}
section
variable (hk : Ok F)
include hk
end
end Las
end Go.D
end
/- Equations of functions 9, 51, 112, 114, 91, 141, 53, 54, 115, 95, printed by gen.py. -/
section
set_option linter.unusedVariables false
set_option maxRecDepth 10000
namespace Go.D
open Go.Proofs
open _root_.Go.D.Code (fstC sndC)
open _root_.Go.D.Ann (left right)
end Go.D
end
/- Chapter 13: small functions of LassoGuards; the reference's Guarded. -/
section
set_option linter.unusedVariables false
set_option linter.unusedSimpArgs false
set_option maxRecDepth 8000
namespace Go.D
open Las
end Go.D
end
/- Equations of functions 7, 23, 28, 42, 79, 39, 40, 86, 88, 87, 90, 89, 41, 43, 76, 24, 92, 94, 96, 97, 138, 139, 140, 142, printed by gen.py. -/
section
set_option linter.unusedVariables false
set_option maxRecDepth 10000
namespace Go.D
open Go.Proofs
open _root_.Go.D.Code (fstC sndC)
open _root_.Go.D.Ann (left right)
end Go.D
end
/- Equations of functions 165, 167, 168, 177, printed by gen.py. -/
section
set_option linter.unusedVariables false
set_option maxRecDepth 10000
namespace Go.D
open Go.Proofs
open _root_.Go.D.Code (fstC sndC)
open _root_.Go.D.Ann (left right)
end Go.D
end
/- Chapter 13: labelled graphs as the program's values; comparing edges. -/
section
set_option linter.unusedVariables false
set_option linter.unusedSimpArgs false
set_option maxRecDepth 8000
namespace Go.D
open Las
structure Lb where
  g : Gr
  la : OI
  st : OI
  en : OI
  we : OI
  sr : OI
def edgD (e : Edg) : List DV := [.p (pI e.f), .p (pI e.t), .p (pI e.a)]
def cmpI (a b : Int) : Int := if a < b then -1 else if a > b then 1 else 0
def ordE (a b : Edg) : Int := orL [cmpI a.f b.f, cmpI a.t b.t, cmpI a.a b.a]
end Go.D
end
/- Chapter 13: whether a graph is right, by the program and by the reference. -/
section
set_option linter.unusedVariables false
set_option linter.unusedSimpArgs false
set_option maxRecDepth 8000
namespace Go.D
open Las
def okI (n : Int) (l : List Int) (i : Nat) : Bool := inR (l.getD i 0) 0 (n - 1) && (decide (i = 0) || decide (l.getD (i - 1) 0 < l.getD i 0))
def okE (n : Int) (l : List Edg) (i : Nat) : Bool := inR (l.getD i default).f 0 (n - 1) && (inR (l.getD i default).t 0 (n - 1) && (inR (l.getD i default).a 0 11 && (decide (i = 0) || decide (ordE (l.getD (i - 1) default) (l.getD i default) < 0))))
def allFrom (p : Nat → Bool) : Nat → Nat → Bool
  | _, 0 => true
  | i, k + 1 => p i && allFrom p (i + 1) k
def isG (g : Gr) : Bool := inR g.n 0 400 && decide ((L g.edges).length ≤ 2000) && allFrom (okI g.n (L g.init)) 0 (L g.init).length && allFrom (okE g.n (L g.edges)) 0 (L g.edges).length
section
variable {g : Gr} (hn : 0 ≤ g.n ∧ g.n ≤ 400) (hl : (L g.init).length ≤ 1000) (hl2 : (L g.edges).length ≤ 10000)
include hn
include hl
omit hl
include hl2
end
end Go.D
end
/- Chapter 13: which labelled graphs are right, by the program and by the reference. -/
section
set_option linter.unusedVariables false
set_option linter.unusedSimpArgs false
set_option maxRecDepth 8000
namespace Go.D
open Las
theorem int_view (n : Int) : view (.p (.int .i64 n)) = .p (.int .i64 n) := rfl
theorem subZ {m : Nat} (h : m ≤ 1000000) : binOp PP .sub 3 (.p (.int .i64 (m : Nat))) (.p (.int .i64 1)) = some (.p (.int .i64 ((m : Int) - 1))) := by
  rw [b_sub, wrap_ok (by omega) (by omega)]
section
variable {o : OI} {m : Nat} (hl : (L o).length ≤ 1000) (hm : m ≤ 1000)
include hl hm
end
structure LSm (x : Lb) : Prop where
  i : (L x.g.init).length ≤ 1000
  e : (L x.g.edges).length ≤ 10000
  la : (L x.la).length ≤ 1000
  st : (L x.st).length ≤ 1000
  en : (L x.en).length ≤ 1000
  we : (L x.we).length ≤ 1000
  sr : (L x.sr).length ≤ 1000
section
variable {x : Lb} (hx : LSm x)
include hx
end
end Go.D
end
/- Chapter 13: the steps of a labelled graph; which behaviours are right, by the program and by the reference. -/
section
set_option linter.unusedVariables false
set_option linter.unusedSimpArgs false
set_option maxRecDepth 8000
namespace Go.D
open Las
theorem Out.ext {σ : Store} {lo sz n : Nat} {cs : List PV} {x : DV} (h : Out σ lo sz n cs x) (r : Row) : Out (σ ++ [r]) lo sz n cs x := by
  obtain ⟨h1, h2⟩ := h
  refine ⟨h1, ?_⟩
  rcases h2 with h2 | ⟨h0, r', v, h2, h3, h4⟩
  · exact .inl h2
  · exact .inr ⟨h0, r', v, h2, get_old h3, h4⟩
def oI (l : List Int) : OI := if l.length = 0 then none else some l
theorem L_oI (l : List Int) : L (oI l) = l := by
  unfold oI
  split
  · rename_i h; rw [List.length_eq_zero_iff.1 h]; rfl
  · rfl
section
variable {x : Lb} (hx : LSm x)
include hx
end
section
variable {x : Lb} (hx : LSm x)
include hx
end
section
variable {x : Lb} (hx : LSm x) {w : Wd} (hl : (L w.p).length + (L w.l).length ≤ 1000) (hn : 0 ≤ x.g.n ∧ x.g.n ≤ 400) (hq : 0 < (L w.l).length)
include hx hl
include hn hq
omit hn hq
include hn hq
omit hn hq
end
end Go.D
end
/- Equations of functions 10, 55, 56, 57, 58, 59, 116, 117, 118, 119, 120, 121, 157, 158, 159, 160, 161, 162, 163, 164, 175, 176, 184, printed by gen.py. -/
section
set_option linter.unusedVariables false
set_option maxRecDepth 10000
namespace Go.D
open Go.Proofs
open _root_.Go.D.Code (fstC sndC)
open _root_.Go.D.Ann (left right)
end Go.D
end
/- Chapter 13: lists that are values or slices of rows. -/
section
set_option linter.unusedVariables false
set_option linter.unusedSimpArgs false
set_option maxRecDepth 8000
namespace Go.D
open Las
def RL (σ : Store) (x : DV) (l : List Int) : Prop := (∃ o, x = .p (eSl o) ∧ L o = l) ∨ ∃ r off, x = .rsl r 1 off l.length ∧ RowS σ r off l
theorem RL.sl (σ : Store) (o : OI) : RL σ (.p (eSl o)) (L o) := .inl ⟨o, rfl, rfl⟩
section
variable {σ : Store} {x : DV} {l : List Int}
theorem RL.vw (h : RL σ x l) : view x = x := by
  rcases h with ⟨o, rfl, _⟩ | ⟨r, off, rfl, _⟩
  · exact sl_view o
  · rfl
theorem RL.len (h : RL σ x l) (τ : Store) : D.len PP 24 x τ = some (.p (.int .i64 (l.length : Nat))) := by
  rcases h with ⟨o, rfl, rfl⟩ | ⟨r, off, rfl, _⟩
  · exact len24 o τ
  · exact rs_len _ _ _ _
theorem RL.get (h : RL σ x l) {i : Nat} (hi : i < l.length) : ∃ p, indexAddr PP 24 x (.p (.int .i64 (i : Nat))) = some p ∧ load1 p σ = some (.p (.int .i64 (l.getD i 0))) := by
  rcases h with ⟨o, rfl, rfl⟩ | ⟨r, off, rfl, ⟨A, h1, h2, h3⟩⟩
  · exact ⟨_, (PL.sl o).idx hi, load1_getD hi σ⟩
  · refine ⟨_, rs_idx hi, ?_⟩
    rw [rs_ld h1 (by omega)]
    have e : l.getD i 0 = A.getD (off + i) 0 := by
      have : ((A.drop off).take l.length).getD i 0 = l.getD i 0 := by rw [h2]
      rw [← this, List.getD_eq_getElem?_getD, List.getD_eq_getElem?_getD, List.getElem?_take, if_pos hi, List.getElem?_drop]
    rw [e]
theorem RL.src (h : RL σ x l) : source σ 1 x = some (l.length, ints l) := by
  rcases h with ⟨o, rfl, rfl⟩ | ⟨r, off, rfl, ⟨A, h1, h2, h3⟩⟩
  · exact (PL.sl o).src σ
  · have h4 : off + l.length * 1 ≤ (ints A).length := by rw [ints_len]; omega
    have h5 : ((ints A).drop off).take (l.length * 1) = ints l := by rw [Nat.mul_one, ints_drop, ints_take, h2]
    simp only [source, if_true, loadN, h1, if_pos h4, h5, Option.map_some]
theorem RL.ext (h : RL σ x l) (τ : Store) : RL (σ ++ τ) x l := by
  rcases h with h | ⟨r, off, rfl, ⟨A, h1, h2, h3⟩⟩
  · exact .inl h
  · exact .inr ⟨r, off, rfl, ⟨A, by rw [List.getElem?_append_left (List.getElem?_eq_some_iff.1 h1).1]; exact h1, h2, h3⟩⟩
theorem RL.one (h : RL σ x l) : x.one = true := by
  rcases h with ⟨o, rfl, _⟩ | ⟨r, off, rfl, _⟩ <;> rfl
theorem RL.undef (h : RL σ x l) : x.isUndef = false := by
  rcases h with ⟨o, rfl, _⟩ | ⟨r, off, rfl, _⟩ <;> rfl
end
section
variable {x : DV} {l : List Int} {f : FuncId} {caps : List DV} {σ : Store} {q : Int → Bool} (hx : RL σ x l) (hl : l.length ≤ 100000) (hc : caps.all rowFree1 = false) (hq : ∀ v, pureV CC f (.p (.int .i64 v) :: caps) σ = some (.p (.bool (q v))))
include hx hl hq
include hc
end
section
variable {o : Option (List Edg)} {f : FuncId} {caps : List DV} {σ : Store} {q : Edg → Bool} (hl : (L o).length ≤ 100000) (hc : caps.all rowFree1 = true) (hq : ∀ e, pureV CC f (.agg (edgD e) :: caps) σ = some (.p (.bool (q e))))
include hl hq
end
section
variable {o : Option (List Edg)} {f : FuncId} {caps : List DV} {q : Edg → Bool} (hl : (L o).length ≤ 100000) (hc : caps.all rowFree1 = true) (hq : ∀ e, pureV CC f (.agg (edgD e) :: caps) [] = some (.p (.bool (q e))))
include hl hq hc
end
section
variable {x : Lb} (hx : LSm x) {q : DV} {Q : List Int}
include hx
end
end Go.D
end
/- Chapter 13: formulas put together, in plain Lean. -/
section
set_option linter.unusedVariables false
set_option linter.unusedSimpArgs false
namespace Go.D
namespace Las
def shN (d : Nat) (x : Nd) : Nd := ⟨x.k, x.n, oI ((L x.a).map (· + (d : Int)))⟩
structure Emb (F : List Nd) (d : Nat) (H : List Nd) : Prop where
  le : d + F.length ≤ H.length
  k : ∀ i, i < F.length → (H.getD (d + i) default).k = (F.getD i default).k
  n : ∀ i, i < F.length → (H.getD (d + i) default).n = (F.getD i default).n
  a : ∀ i, i < F.length → nA H (d + i) = (nA F i).map (· + (d : Int))
theorem emb_mk (A F B : List Nd) : Emb F A.length (A ++ F.map (shN A.length) ++ B) := by
  have key : ∀ i, i < F.length → (A ++ F.map (shN A.length) ++ B).getD (A.length + i) default = shN A.length (F.getD i default) := fun i hi => by
    rw [List.getD_eq_getElem?_getD, List.getElem?_append_left (by simp; omega), List.getElem?_append_right (by omega), Nat.add_sub_cancel_left, List.getElem?_map, List.getD_eq_getElem?_getD, List.getElem?_eq_getElem hi]
    rfl
  refine ⟨by simp only [List.length_append, List.length_map]; omega, fun i hi => by rw [key i hi]; rfl, fun i hi => by rw [key i hi]; rfl, fun i hi => ?_⟩
  unfold nA
  rw [key i hi]
  exact L_oI _
theorem map_getD {l : List Int} {d : Int} {i : Nat} (h : i < l.length) : (l.map (· + d)).getD i 0 = l.getD i 0 + d := by
  rw [List.getD_eq_getElem?_getD, List.getD_eq_getElem?_getD, List.getElem?_map, List.getElem?_eq_getElem h]; rfl
section
variable {F H : List Nd} {d : Nat} (he : Emb F d H)
include he
theorem emb_fo : ∀ (r : Nat), r < F.length → 0 ≤ fo F r → fo H (d + r) = fo F r + d := by
  intro r
  induction r using Nat.strongRecOn with
  | _ r ih =>
    intro hr h0
    rw [fo_eq F] at h0 ⊢
    rw [fo_eq H, he.a r hr]
    by_cases h1 : nA F r = []
    · rw [if_pos h1, h1, List.map_nil, if_pos rfl]; omega
    · have hp := List.length_pos_iff.2 h1
      have h2 : ¬ (nA F r).map (· + (d : Int)) = [] := by simpa using h1
      rw [if_neg h1] at h0
      rw [if_neg h1, if_neg h2, map_getD hp]
      by_cases h3 : 0 ≤ (nA F r).getD 0 0 ∧ (nA F r).getD 0 0 ≤ (r : Int) - 1
      · rw [if_pos h3] at h0
        rw [if_pos h3, if_pos (by omega)]
        have e : ((nA F r).getD 0 0 + (d : Int)).toNat = d + ((nA F r).getD 0 0).toNat := by omega
        rw [e]
        exact ih _ (by omega) (by omega) h0
      · rw [if_neg h3] at h0
        exact absurd h0 (by decide)
theorem emb_st {us : List Int} : ∀ (k : Nat) (x y : Int), k ≤ us.length → x ≤ F.length → stB F us x k = some y → stB H (us.map (· + (d : Int))) (x + d) k = some (y + d)
  | 0, x, y, hk, hx, h => by injection h with h; rw [h]; rfl
  | k + 1, x, y, hk, hx, h => by
    unfold stB at h ⊢
    rw [map_getD (by omega)]
    by_cases h1 : us.getD k 0 = x - 1
    · rw [if_pos h1] at h
      rw [if_pos (by omega)]
      by_cases h2 : foI F (x - 1) < 0
      · rw [if_pos h2] at h; exact absurd h (by simp)
      · rw [if_neg h2] at h
        have h3 : ¬ x - 1 < 0 := fun hh => h2 (by unfold foI; rw [if_pos hh]; decide)
        have h4 : foI F (x - 1) = fo F (x - 1).toNat := by unfold foI; rw [if_neg h3]
        have h5 : foI H (x + d - 1) = foI F (x - 1) + d := by
          unfold foI
          rw [if_neg h3, if_neg (by omega), show (x + (d : Int) - 1).toNat = d + (x - 1).toNat by omega]
          exact emb_fo he _ (by omega) (by rw [← h4]; omega)
        rw [h5, if_neg (by omega)]
        refine emb_st k _ y (by omega) ?_ h
        have := fo_le F (x - 1).toNat
        omega
    · rw [if_neg h1] at h; exact absurd h (by simp)
theorem emb_good {i : Nat} (hi : i < F.length) (h : Good F i) : Good H (d + i) := by
  obtain ⟨y, hy⟩ := Option.isSome_iff_exists.1 h.s
  refine ⟨by rw [he.k i hi]; exact h.k, by rw [he.a i hi, he.k i hi, List.length_map]; exact h.a, ?_, ?_⟩
  · unfold stands
    rw [he.a i hi, List.length_map]
    have := emb_st he (nA F i).length i y (Nat.le_refl _) (by omega) hy
    rw [show (i : Int) + (d : Int) = ((d + i : Nat) : Int) by omega] at this
    rw [this]; rfl
  · have := h.b
    unfold bad at this ⊢
    rw [he.k i hi, he.n i hi]; exact this
theorem emb_tv {u : Nat → Int} (hk : ∀ j, j < F.length → Good F j) : ∀ (r : Nat), r < F.length → tv (skB u) H (d + r) = tv (skB u) F r := by
  intro r
  induction r using Nat.strongRecOn with
  | _ r ih =>
    intro hr
    have hg := hk r hr
    have hg2 := emb_good he hr hg
    by_cases h0 : nA F r = []
    · have h02 : nA H (d + r) = [] := by rw [he.a r hr, h0]; rfl
      rw [skB_leaf (hg2.leaf h02) (fun _ => false) (fun _ => false), skB_leaf (hg.leaf h0) (fun _ => false) (fun _ => false), he.k r hr, he.n r hr]
    · have h02 : ¬ nA H (d + r) = [] := by rw [he.a r hr]; simpa using h0
      obtain ⟨h1, h2, h3, h4⟩ := hg.args h0
      have hp := List.length_pos_iff.2 h0
      rw [tv_eq hg2 h02, tv_eq hg h0, he.k r hr, he.n r hr]
      have eA : opA (skB u) H (d + r) = opA (skB u) F r := by
        unfold opA
        rw [he.a r hr, map_getD hp, show ((nA F r).getD 0 0 + (d : Int)).toNat = d + ((nA F r).getD 0 0).toNat by omega]
        exact ih _ (by omega) (by omega)
      have eB : opB (skB u) H (d + r) = opB (skB u) F r := by
        unfold opB
        rw [he.a r hr, List.length_map, map_getD (by omega), show ((nA F r).getD ((nA F r).length - 1) 0 + (d : Int)).toNat = d + ((nA F r).getD ((nA F r).length - 1) 0).toNat by omega]
        exact ih _ (by omega) (by omega)
      rw [eA, eB]
end
noncomputable def sem (u : Nat → Int) (F : List Nd) : NB := tv (skB u) F (F.length - 1)
def jn1 (k : Int) (F : List Nd) : List Nd := F.map (shN 0) ++ [⟨k, 0, some [(F.length : Int) - 1]⟩]
def jn2 (k : Int) (F G : List Nd) : List Nd := F.map (shN 0) ++ G.map (shN F.length) ++ [⟨k, 0, some [(F.length : Int) - 1, ((F.length + G.length : Nat) : Int) - 1]⟩]
theorem snoc_get (l : List Nd) (x : Nd) : (l ++ [x]).getD l.length default = x := by simp [List.getD_eq_getElem?_getD]
theorem jn1_ok {k : Int} {F : List Nd} (hk : k = 2 ∨ k = 6 ∨ k = 7) (hF : Ok F) (hl : F.length + 1 ≤ 40) : Ok (jn1 k F) ∧ (jn1 k F).length = F.length + 1 ∧ ∀ u, sem u (jn1 k F) = skB u k 0 (sem u F) (sem u F) := by
  have hp := hF.pos
  have he : Emb F 0 (jn1 k F) := emb_mk [] F _
  have hlen : (jn1 k F).length = F.length + 1 := by simp [jn1]
  have hroot : (jn1 k F).getD F.length default = ⟨k, 0, some [(F.length : Int) - 1]⟩ := by
    have := snoc_get (F.map (shN 0)) ⟨k, 0, some [(F.length : Int) - 1]⟩
    rw [List.length_map] at this
    exact this
  have hnA : nA (jn1 k F) F.length = [(F.length : Int) - 1] := by unfold nA; rw [hroot]; rfl
  have hfo : fo (jn1 k F) (F.length - 1) = 0 := by
    have := emb_fo he (F.length - 1) (by omega) (by rw [hF.fst]; exact Int.le_refl _)
    rw [hF.fst, Nat.zero_add] at this
    exact this
  have hst : stB (jn1 k F) [(F.length : Int) - 1] F.length 1 = some 0 := by
    unfold stB
    rw [if_pos (show ([(F.length : Int) - 1] : List Int).getD 0 0 = (F.length : Int) - 1 from rfl)]
    have : foI (jn1 k F) ((F.length : Int) - 1) = 0 := by
      unfold foI
      rw [if_neg (by omega), show ((F.length : Int) - 1).toNat = F.length - 1 by omega]
      exact hfo
    rw [this, if_neg (by decide)]; rfl
  have hg : Good (jn1 k F) F.length := by
    refine ⟨?_, ?_, ?_, ?_⟩
    · rw [hroot]; exact (inR_iff _ _ _).2 (by show 0 ≤ k ∧ k ≤ 9; omega)
    · rw [hnA, hroot]
      show ((1 : Nat) : Int) = ar k
      unfold ar
      rw [if_neg (by omega), if_pos hk]; rfl
    · unfold stands
      rw [hnA]
      exact congrArg Option.isSome hst
    · rw [hroot]
      show bad (⟨k, 0, _⟩ : Nd) = false
      unfold bad
      rw [if_neg (show ¬ k = 1 by omega)]; rfl
  have hgood : ∀ j, j < (jn1 k F).length → Good (jn1 k F) j := fun j hj => by
    rcases Nat.lt_or_ge j F.length with c | c
    · have := emb_good he c (hF.good j c)
      rwa [Nat.zero_add] at this
    · rw [show j = F.length by omega]; exact hg
  have hne : nA (jn1 k F) F.length ≠ [] := by rw [hnA]; simp
  refine ⟨⟨by omega, by omega, hgood, ?_⟩, hlen, fun u => ?_⟩
  · rw [hlen, Nat.add_sub_cancel]
    have := stands_fo (F := jn1 k F) (i := F.length) (y := 0) (by rw [hnA]; exact hst)
    exact this.symm
  · unfold sem
    rw [hlen, Nat.add_sub_cancel, tv_eq hg hne]
    have eA : opA (skB u) (jn1 k F) F.length = tv (skB u) F (F.length - 1) := by
      unfold opA
      rw [hnA, show (([(F.length : Int) - 1] : List Int).getD 0 0).toNat = 0 + (F.length - 1) by show ((F.length : Int) - 1).toNat = _; omega]
      exact emb_tv he hF.good _ (by omega)
    have eB : opB (skB u) (jn1 k F) F.length = tv (skB u) F (F.length - 1) := by
      have : opB (skB u) (jn1 k F) F.length = opA (skB u) (jn1 k F) F.length := by unfold opA opB; rw [hnA]; rfl
      rw [this, eA]
    rw [eA, eB, hroot]
theorem jn2_ok {k : Int} {F G : List Nd} (hk : 3 ≤ k ∧ k ≤ 9 ∧ k ≠ 6 ∧ k ≠ 7) (hF : Ok F) (hG : Ok G) (hl : F.length + G.length + 1 ≤ 40) : Ok (jn2 k F G) ∧ (jn2 k F G).length = F.length + G.length + 1 ∧ ∀ u, sem u (jn2 k F G) = skB u k 0 (sem u F) (sem u G) := by
  have hp := hF.pos
  have hq := hG.pos
  have he : Emb F 0 (jn2 k F G) := by
    have := emb_mk [] F (G.map (shN F.length) ++ [⟨k, 0, some [(F.length : Int) - 1, ((F.length + G.length : Nat) : Int) - 1]⟩])
    rw [← List.append_assoc] at this
    exact this
  have he2 : Emb G F.length (jn2 k F G) := by
    have := emb_mk (F.map (shN 0)) G [⟨k, 0, some [(F.length : Int) - 1, ((F.length + G.length : Nat) : Int) - 1]⟩]
    rw [List.length_map] at this
    exact this
  have hlen : (jn2 k F G).length = F.length + G.length + 1 := by simp [jn2]; omega
  have hroot : (jn2 k F G).getD (F.length + G.length) default = ⟨k, 0, some [(F.length : Int) - 1, ((F.length + G.length : Nat) : Int) - 1]⟩ := by
    have := snoc_get (F.map (shN 0) ++ G.map (shN F.length)) ⟨k, 0, some [(F.length : Int) - 1, ((F.length + G.length : Nat) : Int) - 1]⟩
    rw [List.length_append, List.length_map, List.length_map] at this
    exact this
  have hnA : nA (jn2 k F G) (F.length + G.length) = [(F.length : Int) - 1, ((F.length + G.length : Nat) : Int) - 1] := by unfold nA; rw [hroot]; rfl
  have hfo : fo (jn2 k F G) (F.length - 1) = 0 := by
    have := emb_fo he (F.length - 1) (by omega) (by rw [hF.fst]; exact Int.le_refl _)
    rw [hF.fst, Nat.zero_add] at this
    exact this
  have hfo2 : fo (jn2 k F G) (F.length + (G.length - 1)) = F.length := by
    have := emb_fo he2 (G.length - 1) (by omega) (by rw [hG.fst]; exact Int.le_refl _)
    rw [hG.fst, Int.zero_add] at this
    exact this
  have hst : stB (jn2 k F G) [(F.length : Int) - 1, ((F.length + G.length : Nat) : Int) - 1] ((F.length + G.length : Nat) : Int) 2 = some 0 := by
    unfold stB
    rw [if_pos (show ([(F.length : Int) - 1, ((F.length + G.length : Nat) : Int) - 1] : List Int).getD 1 0 = ((F.length + G.length : Nat) : Int) - 1 from rfl)]
    have h1 : foI (jn2 k F G) (((F.length + G.length : Nat) : Int) - 1) = F.length := by
      unfold foI
      rw [if_neg (by omega), show (((F.length + G.length : Nat) : Int) - 1).toNat = F.length + (G.length - 1) by omega]
      exact hfo2
    rw [h1, if_neg (by omega)]
    unfold stB
    rw [if_pos (show ([(F.length : Int) - 1, ((F.length + G.length : Nat) : Int) - 1] : List Int).getD 0 0 = (F.length : Int) - 1 from rfl)]
    have : foI (jn2 k F G) ((F.length : Int) - 1) = 0 := by
      unfold foI
      rw [if_neg (by omega), show ((F.length : Int) - 1).toNat = F.length - 1 by omega]
      exact hfo
    rw [this, if_neg (by decide)]; rfl
  have hg : Good (jn2 k F G) (F.length + G.length) := by
    refine ⟨?_, ?_, ?_, ?_⟩
    · rw [hroot]; exact (inR_iff _ _ _).2 (by show 0 ≤ k ∧ k ≤ 9; omega)
    · rw [hnA, hroot]
      show ((2 : Nat) : Int) = ar k
      unfold ar
      rw [if_neg (by omega), if_neg (by omega)]; rfl
    · unfold stands
      rw [hnA]
      exact congrArg Option.isSome hst
    · rw [hroot]
      show bad (⟨k, 0, _⟩ : Nd) = false
      unfold bad
      rw [if_neg (show ¬ k = 1 by omega)]; rfl
  have hgood : ∀ j, j < (jn2 k F G).length → Good (jn2 k F G) j := fun j hj => by
    rcases Nat.lt_or_ge j F.length with c | c
    · have := emb_good he c (hF.good j c)
      rwa [Nat.zero_add] at this
    · rcases Nat.lt_or_ge j (F.length + G.length) with c2 | c2
      · have := emb_good he2 (i := j - F.length) (by omega) (hG.good _ (by omega))
        rwa [show F.length + (j - F.length) = j by omega] at this
      · rw [show j = F.length + G.length by omega]; exact hg
  have hne : nA (jn2 k F G) (F.length + G.length) ≠ [] := by rw [hnA]; simp
  refine ⟨⟨by omega, by omega, hgood, ?_⟩, hlen, fun u => ?_⟩
  · rw [hlen, Nat.add_sub_cancel]
    have := stands_fo (F := jn2 k F G) (i := F.length + G.length) (y := 0) (by rw [hnA]; exact hst)
    exact this.symm
  · unfold sem
    rw [hlen, Nat.add_sub_cancel, tv_eq hg hne]
    have eA : opA (skB u) (jn2 k F G) (F.length + G.length) = tv (skB u) F (F.length - 1) := by
      unfold opA
      rw [hnA, show (([(F.length : Int) - 1, ((F.length + G.length : Nat) : Int) - 1] : List Int).getD 0 0).toNat = 0 + (F.length - 1) by show ((F.length : Int) - 1).toNat = _; omega]
      exact emb_tv he hF.good _ (by omega)
    have eB : opB (skB u) (jn2 k F G) (F.length + G.length) = tv (skB u) G (G.length - 1) := by
      unfold opB
      rw [hnA, show (([(F.length : Int) - 1, ((F.length + G.length : Nat) : Int) - 1] : List Int).getD (([(F.length : Int) - 1, ((F.length + G.length : Nat) : Int) - 1] : List Int).length - 1) 0).toNat = F.length + (G.length - 1) by show (((F.length + G.length : Nat) : Int) - 1).toNat = _; omega]
      exact emb_tv he2 hG.good _ (by omega)
    rw [eA, eB, hroot]
theorem ok_chk {F : List Nd} (h : Ok F) : (chk F).2 = 0 := by
  have key : ∀ (d i : Nat), i + d = F.length → (chkF F d i).2 = 0 := by
    intro d
    induction d with
    | zero => intro i _; unfold chkF; rw [if_pos h.fst]
    | succ d ih =>
      intro i hi
      have hg := h.good i (by omega)
      unfold chkF
      rw [if_pos hg.k, if_pos ⟨hg.a, hg.s⟩, if_neg (by rw [hg.b]; simp)]
      exact ih (i + 1) (by omega)
  have hp := h.pos
  have hl := h.le
  unfold chk
  rw [if_neg (by omega), if_neg (by omega)]
  exact key _ 0 (Nat.zero_add _)
theorem says_sem {F : List Nd} {P Q : List Int} (hk : Ok F) (hq : 0 < Q.length) : (says F P Q).getD 0 false = sem (atW P Q) F 0 := by
  have hb : P.length < P.length + Q.length := by omega
  have hp := hk.pos
  unfold says sem
  rw [tab_get (by omega)]
  have hu : ∀ s, (P ++ Q).getD (pl (P.length + Q.length) P.length s) 0 = atW P Q s := fun s => by
    unfold pl atW
    by_cases c : s < P.length
    · rw [if_pos c, if_pos c, List.getD_eq_getElem?_getD, List.getElem?_append_left c, ← List.getD_eq_getElem?_getD]
    · rw [if_neg c, if_neg c, List.getD_eq_getElem?_getD, List.getElem?_append_right (by omega), ← List.getD_eq_getElem?_getD, Nat.add_sub_cancel_left, Nat.add_sub_cancel_left]
  have := tv_pl hb hu hk.good (F.length - 1) (by omega) 0
  rw [pl_lt (by omega)] at this
  exact this
end Las
end Go.D
end
/- Equations of functions 6, 36, 37, 38, printed by gen.py. -/
section
set_option linter.unusedVariables false
set_option maxRecDepth 10000
namespace Go.D
open Go.Proofs
noncomputable section
variable (G : GuardT) (lo : Nat) {σ : Store} {r : DV × Store}
open _root_.Go.D.Code (fstC sndC)
open _root_.Go.D.Ann (left right)
def c6_0 : Code := bodyOf Tryz.f6
def a6_0 : Ann := (pol 6).ann
def a6_25 : Ann := right (left (right (right (right (right (right a6_0))))))
def a6_26 : Ann := left a6_25
def c6_27 : Code := fstC (fstC (sndC (fstC (sndC (sndC (sndC (sndC (sndC c6_0))))))))
def c6_47 : Code := sndC (sndC (sndC (sndC (sndC (sndC c6_0)))))
def a6_47 : Ann := right (right (right (right (right (right a6_0)))))
def f6_L0 (x0 x5 x8 x9 : DV) (σ : Store) : RS :=
 codeF G PP (pol 6) CC lo (.loop c6_27) a6_26 (x0 :: Z :: Z :: Z :: Z :: x5 :: Z :: Z :: x8 :: x9 :: zn 213 []) σ
 (blockC 0 a6_25 (seqC G PP (pol 6) CC lo c6_47 a6_47 (finR PP Tryz.f6.results.toList)))
def F6 (x0 x1 x2 : DV) (σ : Store) : RS :=
 codeF G PP (pol 6) CC lo c6_0 a6_0 (x0 :: x1 :: x2 :: zn 220 []) σ (finR PP Tryz.f6.results.toList)
theorem f6_L0_eq (G : GuardT) (hG : GuardOk G) (lo : Nat) (x0 x5 x8 x9 : DV) (σ : Store) : f6_L0 G lo x0 x5 x8 x9 σ =
 (len PP 68 x8 σ).bind fun x97 =>
 (binOp PP .lss 3 x9 x97).bind fun x98 =>
 condK x98
 (
 (indexAddr PP 68 x8 x9).bind fun x104 =>
 (load PP 64 x104 σ).bind fun x105 =>
 (indexAddr PP 64 x105 I0).bind fun x106 =>
 (load PP 23 x106 σ).bind fun x107 =>
 (load PP 26 x5 σ).bind fun x108 =>
 (pureFn CC (DV.fn 16 []) [x108] σ).bind fun x109 =>
 (pureFn CC (DV.fn 20 []) [x107, x109] σ).bind fun x110 =>
 (extractV x110 0).bind fun x111 =>
 (extractV x110 1).bind fun x112 =>
 (indexAddr PP 68 x8 x9).bind fun x116 =>
 (load PP 64 x116 σ).bind fun x117 =>
 (indexAddr PP 64 x117 I1).bind fun x118 =>
 (load PP 23 x118 σ).bind fun x119 =>
 (load PP 26 x5 σ).bind fun x120 =>
 (pureFn CC (DV.fn 16 []) [x120] σ).bind fun x121 =>
 (pureFn CC (DV.fn 20 []) [x119, x121] σ).bind fun x122 =>
 (extractV x122 0).bind fun x123 =>
 (extractV x122 1).bind fun x124 =>
 (binOp PP .neq 30 x112 I0).bind fun x126 =>
 G _ x126 false (some (x124, σ)) σ fun x128 σ29 =>
 G _ x126 false ((binOp PP .neq 30 x128 I0).bind fun v => some (v, σ29)) σ29 fun x129 σ30 =>
 (pickV x126 (DV.p (PV.bool true)) x129).bind fun x130 =>
 G _ x130 false (some (x111, σ30)) σ30 fun x132 σ31 =>
 G _ x130 false (some (x123, σ31)) σ31 fun x133 σ32 =>
 G _ x130 false ((binOp PP .neq 4 x132 x133).bind fun v => some (v, σ32)) σ32 fun x134 σ33 =>
 (pickV x130 (DV.p (PV.bool true)) x134).bind fun x135 =>
 condK x135
 (
 some ((DV.p (PV.bool false)), σ33)
 )
 (
 (binOp PP .add 3 x9 I1).bind fun x100 =>
 f6_L0 G lo x0 x5 x8 x100 σ33
 )
 )
 (
 (pureFn CC (DV.fn 19 []) [x0] σ).bind fun x138 =>
 (load PP 26 x5 σ).bind fun x139 =>
 (pureFn CC (DV.fn 16 []) [x139] σ).bind fun x140 =>
 (pureFn CC (DV.fn 20 []) [x138, x140] σ).bind fun x141 =>
 (extractV x141 0).bind fun x142 =>
 (extractV x141 1).bind fun x143 =>
 (pureFn CC (DV.fn 37 []) [x0] σ).bind fun x146 =>
 (load PP 26 x5 σ).bind fun x147 =>
 (pureFn CC (DV.fn 16 []) [x147] σ).bind fun x148 =>
 (pureFn CC (DV.fn 20 []) [x146, x148] σ).bind fun x149 =>
 (extractV x149 0).bind fun x150 =>
 (extractV x149 1).bind fun x151 =>
 (load PP 26 x5 σ).bind fun x153 =>
 (pureFn CC (DV.fn 16 []) [x153] σ).bind fun x154 =>
 (pureFn CC (DV.fn 31 []) [x154] σ).bind fun x155 =>
 (extractV x155 0).bind fun x156 =>
 (extractV x155 1).bind fun x157 =>
 (zeroOf PP 26).bind fun z18 =>
 (store PP lo 26 (DV.ptr (List.length σ) 0) x156 (σ ++ [Row.mix z18])).bind fun σ34 =>
 (load PP 26 x5 σ34).bind fun x159 =>
 (pureFn CC (DV.fn 16 []) [x159] σ34).bind fun x160 =>
 (pureFn CC (DV.fn 32 []) [x160] σ34).bind fun x161 =>
 (extractV x161 0).bind fun x162 =>
 (extractV x161 1).bind fun x163 =>
 (zeroOf PP 26).bind fun z20 =>
 (store PP lo 26 (DV.ptr (List.length σ34) 0) x162 (σ34 ++ [Row.mix z20])).bind fun σ35 =>
 (binOp PP .neq 30 x143 I0).bind fun x165 =>
 G _ x165 false (some (x151, σ35)) σ35 fun x167 σ36 =>
 G _ x165 false ((binOp PP .neq 30 x167 I0).bind fun v => some (v, σ36)) σ36 fun x168 σ37 =>
 (pickV x165 (DV.p (PV.bool true)) x168).bind fun x169 =>
 G _ x169 false (some (x142, σ37)) σ37 fun x171 σ38 =>
 G _ x169 false (some (x150, σ38)) σ38 fun x172 σ39 =>
 G _ x169 false ((binOp PP .eql 4 x171 x172).bind fun v => some (v, σ39)) σ39 fun x173 σ40 =>
 (pickV x169 (DV.p (PV.bool true)) x173).bind fun x174 =>
 G _ x174 false (some (x157, σ40)) σ40 fun x176 σ41 =>
 G _ x174 false ((binOp PP .neq 30 x176 I0).bind fun v => some (v, σ41)) σ41 fun x177 σ42 =>
 (pickV x174 (DV.p (PV.bool true)) x177).bind fun x178 =>
 G _ x178 false (some (x163, σ42)) σ42 fun x180 σ43 =>
 G _ x178 false ((binOp PP .neq 30 x180 I0).bind fun v => some (v, σ43)) σ43 fun x181 σ44 =>
 (pickV x178 (DV.p (PV.bool true)) x181).bind fun x182 =>
 G _ x182 false ((load PP 26 (DV.ptr (List.length σ) 0) σ44).bind fun v => some (v, σ44)) σ44 fun x184 σ45 =>
 G _ x182 false ((pureFn CC (DV.fn 17 []) [x184] σ45).bind fun v => some (v, σ45)) σ45 fun x185 σ46 =>
 G _ x182 false ((binOp PP .neq 3 x185 I0).bind fun v => some (v, σ46)) σ46 fun x186 σ47 =>
 (pickV x182 (DV.p (PV.bool true)) x186).bind fun x187 =>
 G _ x187 false ((load PP 26 (DV.ptr (List.length σ34) 0) σ47).bind fun v => some (v, σ47)) σ47 fun x189 σ48 =>
 G _ x187 false ((pureFn CC (DV.fn 17 []) [x189] σ48).bind fun v => some (v, σ48)) σ48 fun x190 σ49 =>
 G _ x187 false ((binOp PP .neq 3 x190 I0).bind fun v => some (v, σ49)) σ49 fun x191 σ50 =>
 (pickV x187 (DV.p (PV.bool true)) x191).bind fun x192 =>
 condK x192
 (
 some ((DV.p (PV.bool false)), σ50)
 )
 (
 (pureFn CC (DV.fn 19 []) [x0] σ50).bind fun x195 =>
 (load PP 26 (DV.ptr (List.length σ) 0) σ50).bind fun x196 =>
 (pureFn CC (DV.fn 20 []) [x195, x196] σ50).bind fun x197 =>
 (extractV x197 0).bind fun x198 =>
 (extractV x197 1).bind fun x199 =>
 (pureFn CC (DV.fn 19 []) [x0] σ50).bind fun x202 =>
 (load PP 26 (DV.ptr (List.length σ34) 0) σ50).bind fun x203 =>
 (pureFn CC (DV.fn 20 []) [x202, x203] σ50).bind fun x204 =>
 (extractV x204 0).bind fun x205 =>
 (extractV x204 1).bind fun x206 =>
 (binOp PP .eql 30 x199 I0).bind fun x208 =>
 G _ x208 true (some (x198, σ50)) σ50 fun x210 σ51 =>
 G _ x208 true (some (x142, σ51)) σ51 fun x211 σ52 =>
 G _ x208 true ((binOp PP .eql 4 x210 x211).bind fun v => some (v, σ52)) σ52 fun x212 σ53 =>
 (pickV x208 x212 (DV.p (PV.bool false))).bind fun x213 =>
 G _ x213 true (some (x206, σ53)) σ53 fun x215 σ54 =>
 G _ x213 true ((binOp PP .eql 30 x215 I0).bind fun v => some (v, σ54)) σ54 fun x216 σ55 =>
 (pickV x213 x216 (DV.p (PV.bool false))).bind fun x217 =>
 G _ x217 true (some (x205, σ55)) σ55 fun x219 σ56 =>
 G _ x217 true (some (x142, σ56)) σ56 fun x220 σ57 =>
 G _ x217 true ((binOp PP .eql 4 x219 x220).bind fun v => some (v, σ57)) σ57 fun x221 σ58 =>
 (pickV x217 x221 (DV.p (PV.bool false))).bind fun x222 =>
 some (x222, σ58)
 )
 ) := (loopF_eq G hG).trans (by kernel_rfl)
theorem F6_eq (G : GuardT) (lo : Nat) (x0 x1 x2 : DV) (σ : Store) : F6 G lo x0 x1 x2 σ =
 (boxP x2).bind fun x5 =>
 (pureFn CC (DV.fn 12 []) [] σ).bind fun x26 =>
 (unOp .not x26).bind fun x27 =>
 condK x27
 (
 some ((DV.p (PV.bool false)), σ)
 )
 (
 (pureFn CC (DV.fn 13 []) [x0] σ).bind fun x29 =>
 (unOp .not x29).bind fun x30 =>
 G _ x30 false (some (x1, σ)) σ fun x32 σ1 =>
 G _ x30 false ((pureFn CC (DV.fn 13 []) [x32] σ1).bind fun v => some (v, σ1)) σ1 fun x33 σ2 =>
 G _ x30 false ((unOp .not x33).bind fun v => some (v, σ2)) σ2 fun x34 σ3 =>
 (pickV x30 (DV.p (PV.bool true)) x34).bind fun x35 =>
 G _ x35 false (some (x0, σ3)) σ3 fun x37 σ4 =>
 G _ x35 false ((len PP 23 x37 σ4).bind fun v => some (v, σ4)) σ4 fun x38 σ5 =>
 G _ x35 false ((binOp PP .gtr 3 x38 (DV.p (PV.int IntKind.i64 (15)))).bind fun v => some (v, σ5)) σ5 fun x39 σ6 =>
 (pickV x35 (DV.p (PV.bool true)) x39).bind fun x40 =>
 G _ x40 false (some (x1, σ6)) σ6 fun x42 σ7 =>
 G _ x40 false ((len PP 23 x42 σ7).bind fun v => some (v, σ7)) σ7 fun x43 σ8 =>
 G _ x40 false ((binOp PP .gtr 3 x43 (DV.p (PV.int IntKind.i64 (15)))).bind fun v => some (v, σ8)) σ8 fun x44 σ9 =>
 (pickV x40 (DV.p (PV.bool true)) x44).bind fun x45 =>
 G _ x45 false ((load PP 26 x5 σ9).bind fun v => some (v, σ9)) σ9 fun x47 σ10 =>
 G _ x45 false ((pureFn CC (DV.fn 14 []) [x47] σ10).bind fun v => some (v, σ10)) σ10 fun x48 σ11 =>
 G _ x45 false ((unOp .not x48).bind fun v => some (v, σ11)) σ11 fun x49 σ12 =>
 (pickV x45 (DV.p (PV.bool true)) x49).bind fun x50 =>
 G _ x50 false (some (x0, σ12)) σ12 fun x52 σ13 =>
 G _ x50 false ((load PP 26 x5 σ13).bind fun v => some (v, σ13)) σ13 fun x53 σ14 =>
 G _ x50 false ((pureFn CC (DV.fn 21 []) [x52, x53] σ14).bind fun v => some (v, σ14)) σ14 fun x54 σ15 =>
 G _ x50 false ((binOp PP .neq 3 x54 I0).bind fun v => some (v, σ15)) σ15 fun x55 σ16 =>
 (pickV x50 (DV.p (PV.bool true)) x55).bind fun x56 =>
 G _ x56 false (some (x1, σ16)) σ16 fun x58 σ17 =>
 G _ x56 false ((pureFn CC (DV.fn 25 []) [x58] σ17).bind fun v => some (v, σ17)) σ17 fun x59 σ18 =>
 G _ x56 false ((binOp PP .neq 3 x59 I0).bind fun v => some (v, σ18)) σ18 fun x60 σ19 =>
 (pickV x56 (DV.p (PV.bool true)) x60).bind fun x61 =>
 condK x61
 (
 some ((DV.p (PV.bool true)), σ19)
 )
 (
 (pureFn CC (DV.fn 37 []) [x0] σ19).bind fun x63 =>
 (pureFn CC (DV.fn 36 []) [(DV.p (PV.int IntKind.i64 (7))), x63] σ19).bind fun x64 =>
 (pureFn CC (DV.fn 37 []) [x0] σ19).bind fun x66 =>
 (pureFn CC (DV.fn 37 []) [x66] σ19).bind fun x67 =>
 (buildSlice PP none 64 2 [(0, x67), (1, x0)] σ19).bind fun r69_20 =>
 (pureFn CC (DV.fn 36 []) [(DV.p (PV.int IntKind.i64 (6))), x0] r69_20.2).bind fun x71 =>
 (pureFn CC (DV.fn 37 []) [x64] r69_20.2).bind fun x73 =>
 (buildSlice PP none 64 2 [(0, x71), (1, x73)] r69_20.2).bind fun r74_21 =>
 (buildSlice PP none 64 2 [(0, x0), (1, x1)] r74_21.2).bind fun r77_22 =>
 (pureFn CC (DV.fn 38 []) [(DV.p (PV.int IntKind.i64 (8))), r77_22.1] r77_22.2).bind fun x78 =>
 (pureFn CC (DV.fn 36 []) [(DV.p (PV.int IntKind.i64 (7))), x1] r77_22.2).bind fun x81 =>
 (buildSlice PP none 64 2 [(0, x0), (1, x81)] r77_22.2).bind fun r82_23 =>
 (pureFn CC (DV.fn 38 []) [(DV.p (PV.int IntKind.i64 (5))), r82_23.1] r82_23.2).bind fun x83 =>
 (pureFn CC (DV.fn 36 []) [(DV.p (PV.int IntKind.i64 (6))), x83] r82_23.2).bind fun x84 =>
 (buildSlice PP none 64 2 [(0, x78), (1, x84)] r82_23.2).bind fun r85_24 =>
 (pureFn CC (DV.fn 36 []) [(DV.p (PV.int IntKind.i64 (7))), x0] r85_24.2).bind fun x87 =>
 (build PP 67 [(0, I0)]).bind fun x88 =>
 (buildSlice PP none 23 1 [(0, x88)] r85_24.2).bind fun r89_25 =>
 (buildSlice PP none 64 2 [(0, r89_25.1), (1, x0)] r89_25.2).bind fun r91_26 =>
 (pureFn CC (DV.fn 38 []) [(DV.p (PV.int IntKind.i64 (9))), r91_26.1] r91_26.2).bind fun x92 =>
 (buildSlice PP none 64 2 [(0, x87), (1, x92)] r91_26.2).bind fun r93_27 =>
 (buildSlice PP none 68 4 [(0, r69_20.1), (1, r74_21.1), (2, r85_24.1), (3, r93_27.1)] r93_27.2).bind fun r94_28 =>
 f6_L0 G lo x0 x5 r94_28.1 I0 r94_28.2
 )
 ) := by kernel_rfl
theorem F6_call {lo : Nat} {x0 x1 x2 : DV} (h : F6 guardT lo x0 x1 x2 σ = some r) : CC lo 6 [x0, x1, x2] σ = some r :=
 callL_run Tryz.func6 (by decide +kernel) rfl (by decide +kernel) h
def c36_0 : Code := bodyOf Tryz.f36
def a36_0 : Ann := (pol 36).ann
def F36 (x0 x1 : DV) (σ : Store) : RS :=
 codeF G PP (pol 36) CC lo c36_0 a36_0 (x0 :: x1 :: zn 7 []) σ (finR PP Tryz.f36.results.toList)
theorem F36_eq (G : GuardT) (lo : Nat) (x0 x1 : DV) (σ : Store) : F36 G lo x0 x1 σ =
 (buildSlice PP none 64 1 [(0, x1)] σ).bind fun r7_1 =>
 (pureFn CC (DV.fn 38 []) [x0, r7_1.1] r7_1.2).bind fun x8 =>
 some (x8, r7_1.2) := by kernel_rfl
theorem F36_call {lo : Nat} {x0 x1 : DV} (h : F36 guardT lo x0 x1 σ = some r) : CC lo 36 [x0, x1] σ = some r :=
 callL_run Tryz.func36 (by decide +kernel) rfl (by decide +kernel) h
def c37_0 : Code := bodyOf Tryz.f37
def a37_0 : Ann := (pol 37).ann
def F37 (x0 : DV) (σ : Store) : RS :=
 codeF G PP (pol 37) CC lo c37_0 a37_0 (x0 :: zn 5 []) σ (finR PP Tryz.f37.results.toList)
theorem F37_eq (G : GuardT) (lo : Nat) (x0 : DV) (σ : Store) : F37 G lo x0 σ =
 (buildSlice PP none 64 1 [(0, x0)] σ).bind fun r4_1 =>
 (pureFn CC (DV.fn 38 []) [(DV.p (PV.int IntKind.i64 (2))), r4_1.1] r4_1.2).bind fun x5 =>
 some (x5, r4_1.2) := by kernel_rfl
theorem F37_call {lo : Nat} {x0 : DV} (h : F37 guardT lo x0 σ = some r) : CC lo 37 [x0] σ = some r :=
 callL_run Tryz.func37 (by decide +kernel) rfl (by decide +kernel) h
def c38_0 : Code := bodyOf Tryz.f38
def a38_0 : Ann := (pol 38).ann
def a38_9 : Ann := right (left (right (right (right a38_0))))
def a38_10 : Ann := left a38_9
def c38_11 : Code := fstC (fstC (sndC (fstC (sndC (sndC (sndC c38_0))))))
def a38_18 : Ann := left (right (left a38_10))
def a38_24 : Ann := right (left (right (left a38_18)))
def a38_25 : Ann := left a38_24
def c38_26 : Code := fstC (fstC (sndC (fstC (sndC (fstC (fstC (sndC c38_11)))))))
def a38_33 : Ann := left (right (left a38_25))
def a38_41 : Ann := right (left (right (right (left a38_33))))
def a38_42 : Ann := left a38_41
def c38_43 : Code := fstC (fstC (sndC (fstC (sndC (sndC (fstC (fstC (sndC c38_26))))))))
def c38_53 : Code := sndC (sndC (sndC (fstC (fstC (sndC c38_26)))))
def a38_53 : Ann := right (right (right (left a38_33)))
def c38_56 : Code := sndC (sndC c38_26)
def a38_56 : Ann := right (right (left a38_25))
def c38_57 : Code := sndC (sndC (fstC (fstC (sndC c38_11))))
def a38_57 : Ann := right (right (left a38_18))
def c38_58 : Code := sndC (sndC c38_11)
def a38_58 : Ann := right (right (left a38_10))
def c38_59 : Code := sndC (sndC (sndC (sndC c38_0)))
def a38_59 : Ann := right (right (right (right a38_0)))
def f38_L0 (x0 x1 x5 x6 x7 : DV) (σ : Store) : RS :=
 codeF G PP (pol 38) CC lo (.loop c38_11) a38_10 (x0 :: x1 :: Z :: Z :: Z :: x5 :: x6 :: x7 :: zn 64 []) σ
 (blockC 0 a38_9 (seqC G PP (pol 38) CC lo c38_59 a38_59 (finR PP Tryz.f38.results.toList)))
def f38_L1 (x0 x1 x5 x6 x7 x8 x9 : DV) (σ : Store) : RS :=
 codeF G PP (pol 38) CC lo (.loop c38_26) a38_25 (x0 :: x1 :: Z :: Z :: Z :: x5 :: x6 :: x7 :: x8 :: x9 :: zn 62 []) σ
 (blockC 2 a38_24 (seqC G PP (pol 38) CC lo c38_57 a38_57 (blockC 1 a38_18 (seqC G PP (pol 38) CC lo c38_58 a38_58 (loopC G PP (pol 38) CC lo c38_11 a38_10 (blockC 0 a38_9 (seqC G PP (pol 38) CC lo c38_59 a38_59 (finR PP Tryz.f38.results.toList))))))))
def f38_L2 (x0 x1 x5 x6 x7 x8 x9 x10 x11 x12 : DV) (σ : Store) : RS :=
 codeF G PP (pol 38) CC lo (.loop c38_43) a38_42 (x0 :: x1 :: Z :: Z :: Z :: x5 :: x6 :: x7 :: x8 :: x9 :: x10 :: x11 :: x12 :: zn 59 []) σ
 (blockC 4 a38_41 (seqC G PP (pol 38) CC lo c38_53 a38_53 (blockC 3 a38_33 (seqC G PP (pol 38) CC lo c38_56 a38_56 (loopC G PP (pol 38) CC lo c38_26 a38_25 (blockC 2 a38_24 (seqC G PP (pol 38) CC lo c38_57 a38_57 (blockC 1 a38_18 (seqC G PP (pol 38) CC lo c38_58 a38_58 (loopC G PP (pol 38) CC lo c38_11 a38_10 (blockC 0 a38_9 (seqC G PP (pol 38) CC lo c38_59 a38_59 (finR PP Tryz.f38.results.toList)))))))))))))
def F38 (x0 x1 : DV) (σ : Store) : RS :=
 codeF G PP (pol 38) CC lo c38_0 a38_0 (x0 :: x1 :: zn 70 []) σ (finR PP Tryz.f38.results.toList)
theorem f38_L0_eq (G : GuardT) (hG : GuardOk G) (lo : Nat) (x0 x1 x5 x6 x7 : DV) (σ : Store) : f38_L0 G lo x0 x1 x5 x6 x7 σ =
 (len PP 64 x1 σ).bind fun x15 =>
 (binOp PP .lss 3 x7 x15).bind fun x16 =>
 condK x16
 (
 (len PP 23 x5 σ).bind fun x20 =>
 f38_L1 G lo x0 x1 x5 x6 x7 x20 I0 σ
 )
 (
 (build PP 67 [(0, x0), (2, x6)]).bind fun x69 =>
 (buildSlice PP none 23 1 [(0, x69)] σ).bind fun r70_9 =>
 (append PP lo false 23 23 x5 r70_9.1 r70_9.2).bind fun r71_10 =>
 some (r71_10.1, r71_10.2)
 ) := (loopF_eq G hG).trans (by kernel_rfl)
theorem f38_L1_eq (G : GuardT) (hG : GuardOk G) (lo : Nat) (x0 x1 x5 x6 x7 x8 x9 : DV) (σ : Store) : f38_L1 G lo x0 x1 x5 x6 x7 x8 x9 σ =
 (indexAddr PP 64 x1 x7).bind fun x24 =>
 (load PP 23 x24 σ).bind fun x25 =>
 (len PP 23 x25 σ).bind fun x26 =>
 (binOp PP .lss 3 x9 x26).bind fun x27 =>
 condK x27
 (
 (indexAddr PP 64 x1 x7).bind fun x32 =>
 (load PP 23 x32 σ).bind fun x33 =>
 (indexAddr PP 23 x33 x9).bind fun x35 =>
 (load PP 67 x35 σ).bind fun x36 =>
 (zeroOf PP 67).bind fun z10 =>
 (store PP lo 67 (DV.ptr (List.length σ) 0) x36 (σ ++ [Row.mix z10])).bind fun σ1 =>
 f38_L2 G lo x0 x1 x5 x6 x7 x8 x9 (DV.ptr (List.length σ) 0) (DV.p PV.nilsl) I0 σ1
 )
 (
 (len PP 23 x5 σ).bind fun x62 =>
 (binOp PP .sub 3 x62 I1).bind fun x63 =>
 (buildSlice PP none 24 1 [(0, x63)] σ).bind fun r64_7 =>
 (append PP lo false 24 24 x6 r64_7.1 r64_7.2).bind fun r65_8 =>
 (binOp PP .add 3 x7 I1).bind fun x18 =>
 f38_L0 G lo x0 x1 x5 r65_8.1 x18 r65_8.2
 ) := (loopF_eq G hG).trans (by kernel_rfl)
theorem f38_L2_eq (G : GuardT) (hG : GuardOk G) (lo : Nat) (x0 x1 x5 x6 x7 x8 x9 x10 x11 x12 : DV) (σ : Store) : f38_L2 G lo x0 x1 x5 x6 x7 x8 x9 x10 x11 x12 σ =
 (fieldAddr PP 67 x10 2).bind fun x38 =>
 (load PP 24 x38 σ).bind fun x39 =>
 (len PP 24 x39 σ).bind fun x40 =>
 (binOp PP .lss 3 x12 x40).bind fun x41 =>
 condK x41
 (
 (fieldAddr PP 67 x10 2).bind fun x45 =>
 (load PP 24 x45 σ).bind fun x46 =>
 (indexAddr PP 24 x46 x12).bind fun x48 =>
 (load PP 3 x48 σ).bind fun x49 =>
 (binOp PP .add 3 x49 x8).bind fun x51 =>
 (buildSlice PP none 24 1 [(0, x51)] σ).bind fun r52_2 =>
 (append PP lo false 24 24 x11 r52_2.1 r52_2.2).bind fun r53_3 =>
 (binOp PP .add 3 x12 I1).bind fun x43 =>
 f38_L2 G lo x0 x1 x5 x6 x7 x8 x9 x10 r53_3.1 x43 r53_3.2
 )
 (
 (fieldAddr PP 67 x10 2).bind fun x55 =>
 (store PP lo 24 x55 x11 σ).bind fun σ4 =>
 (load PP 67 x10 σ4).bind fun x57 =>
 (buildSlice PP none 23 1 [(0, x57)] σ4).bind fun r58_5 =>
 (append PP lo false 23 23 x5 r58_5.1 r58_5.2).bind fun r59_6 =>
 (binOp PP .add 3 x9 I1).bind fun x29 =>
 f38_L1 G lo x0 x1 r59_6.1 x6 x7 x8 x29 r59_6.2
 ) := (loopF_eq G hG).trans (by kernel_rfl)
theorem F38_eq (G : GuardT) (lo : Nat) (x0 x1 : DV) (σ : Store) : F38 G lo x0 x1 σ =
 f38_L0 G lo x0 x1 (DV.p PV.nilsl) (DV.p PV.nilsl) I0 σ := by kernel_rfl
theorem F38_call {lo : Nat} {x0 x1 : DV} (h : F38 guardT lo x0 x1 σ = some r) : CC lo 38 [x0, x1] σ = some r :=
 callL_run Tryz.func38 (by decide +kernel) rfl (by decide +kernel) h
end
end Go.D
end
/- Chapter 13: fairness, by the program and by the reference. -/
section
set_option linter.unusedVariables false
set_option linter.unusedSimpArgs false
set_option maxRecDepth 8000
namespace Go.D
open Las
section
variable {x : Lb} (hx : LSm x) {q : DV} {Q : List Int} {σ : Store} (hq : RL σ q Q) (hl : Q.length ≤ 1000)
include hx hq hl
end
section
variable {x : Lb} (hx : LSm x) {p q : DV} {Q : List Int} (hl : Q.length ≤ 1000)
include hx hl
end
section
variable {x : Lb} (hx : LSm x) {w : Wd} (hl : (L w.l).length ≤ 1000)
include hx hl
end
end Go.D
end
/- Chapter 13: letters of steps: plain terms, and atoms put into letters. -/
section
set_option linter.unusedVariables false
set_option linter.unusedSimpArgs false
set_option maxRecDepth 8000
namespace Go.D
open Las
def okL (c : Int) : Prop := 0 ≤ c ∧ c ≤ 4095
def okAt (n : Int) : Prop := -1 ≤ n ∧ n ≤ 11
structure LbOk (x : Lb) : Prop where
  g : isG x.g = true
  n : x.g.n ≤ 60
  la : ((L x.la).length : Int) = x.g.n
  se : (L x.st).length = (L x.en).length
  s12 : (L x.st).length ≤ 12
  lv : ∀ i, i < (L x.la).length → okL ((L x.la).getD i 0)
  sv : ∀ i, i < (L x.st).length → okAt ((L x.st).getD i 0)
  ev : ∀ i, i < (L x.en).length → okAt ((L x.en).getD i 0)
  av : ∀ i, i < (L x.g.edges).length → 0 ≤ ((L x.g.edges).getD i default).a ∧ ((L x.g.edges).getD i default).a < (L x.st).length
section
variable {x : Lb} (hk : LbOk x)
include hk
end
end Go.D
end
/- Chapter 13: the word of a behaviour, by the program and by the reference. -/
section
set_option linter.unusedVariables false
set_option linter.unusedSimpArgs false
set_option maxRecDepth 8000
namespace Go.D
open Las
theorem take_getD {l : List Int} {i : Nat} (h : i < l.length) : l.take (i + 1) = l.take i ++ [l.getD i 0] := by
  rw [List.take_add_one, List.getElem?_eq_getElem h, List.getD_eq_getElem?_getD, List.getElem?_eq_getElem h]; rfl
section
variable {x : Lb} (hx : LSm x) (hk : LbOk x)
include hx hk
end
end Go.D
end
/- Equations of functions 12, printed by gen.py. -/
section
set_option linter.unusedVariables false
set_option maxRecDepth 10000
namespace Go.D
open Go.Proofs
noncomputable section
variable (G : GuardT) (lo : Nat) {σ : Store} {r : DV × Store}
open _root_.Go.D.Code (fstC sndC)
open _root_.Go.D.Ann (left right)
def lstr0 : ByteArray := ⟨#[40, 112, 48, 32, 126, 62, 32, 60, 62, 112, 49, 41]⟩
def c12_0 : Code := bodyOf Tryz.f12
def a12_0 : Ann := (pol 12).ann
def F12 (σ : Store) : RS :=
 codeF G PP (pol 12) CC lo c12_0 a12_0 (zn 80 []) σ (finR PP Tryz.f12.results.toList)
theorem F12_eq (G : GuardT) (lo : Nat) (σ : Store) : F12 G lo σ =
 (pureFn CC (DV.fn 48 []) [(DV.p (PV.str lstr0))] σ).bind fun x11 =>
 (extractV x11 0).bind fun x12 =>
 (extractV x11 1).bind fun x13 =>
 (extractV x11 2).bind fun x14 =>
 (pureFn CC (DV.fn 62 []) [I0] σ).bind fun x16 =>
 (pureFn CC (DV.fn 62 []) [I1] σ).bind fun x17 =>
 (buildSlice PP none 64 2 [(0, x16), (1, x17)] σ).bind fun r18_1 =>
 (pureFn CC (DV.fn 38 []) [(DV.p (PV.int IntKind.i64 (8))), r18_1.1] r18_1.2).bind fun x19 =>
 (buildSlice PP none 24 2 [(0, I0), (1, I1)] r18_1.2).bind fun r20_2 =>
 (buildSlice PP none 24 2 [(0, (DV.p (PV.int IntKind.i64 (2)))), (1, I0)] r20_2.2).bind fun r21_3 =>
 (build PP 26 [(0, r20_2.1), (1, r21_3.1)]).bind fun x22 =>
 (pureFn CC (DV.fn 20 []) [x19, x22] r21_3.2).bind fun x23 =>
 (extractV x23 0).bind fun x24 =>
 (extractV x23 1).bind fun x25 =>
 (buildSlice PP none 24 3 [(0, I1), (1, I1), (2, (DV.p (PV.int IntKind.i64 (2))))] r21_3.2).bind fun r27_4 =>
 (buildSlice PP none 24 3 [(0, (DV.p (PV.int IntKind.i64 (3)))), (1, (DV.p (PV.int IntKind.i64 (2)))), (2, (DV.p (PV.int IntKind.i64 (2))))] r27_4.2).bind fun r28_5 =>
 (build PP 26 [(0, r27_4.1), (1, r28_5.1)]).bind fun x29 =>
 (pureFn CC (DV.fn 32 []) [x29] r28_5.2).bind fun x30 =>
 (extractV x30 0).bind fun x31 =>
 (extractV x30 1).bind fun x32 =>
 (zeroOf PP 26).bind fun z6 =>
 (store PP lo 26 (DV.ptr (List.length r28_5.2) 0) x31 (r28_5.2 ++ [Row.mix z6])).bind fun σ6 =>
 (pureFn CC (DV.fn 63 []) [(DV.p PV.nilsl)] σ6).bind fun x34 =>
 (pureFn CC (DV.fn 62 []) [I0] σ6).bind fun x35 =>
 (buildSlice PP none 64 1 [(0, x35)] σ6).bind fun r36_7 =>
 (pureFn CC (DV.fn 38 []) [(DV.p (PV.int IntKind.i64 (7))), r36_7.1] r36_7.2).bind fun x37 =>
 (pureFn CC (DV.fn 27 []) [x34, x37, (DV.p (PV.int IntKind.i64 (2)))] r36_7.2).bind fun x38 =>
 (extractV x38 0).bind fun x39 =>
 (extractV x38 1).bind fun x40 =>
 (zeroOf PP 52).bind fun z8 =>
 (store PP lo 52 (DV.ptr (List.length r36_7.2) 0) x39 (r36_7.2 ++ [Row.mix z8])).bind fun σ8 =>
 (binOp PP .eql 30 x14 I0).bind fun x42 =>
 G _ x42 true (some (x13, σ8)) σ8 fun x44 σ9 =>
 G _ x42 true ((binOp PP .eql 3 x44 (DV.p (PV.int IntKind.i64 (12)))).bind fun v => some (v, σ9)) σ9 fun x45 σ10 =>
 (pickV x42 x45 (DV.p (PV.bool false))).bind fun x46 =>
 G _ x46 true (some (x12, σ10)) σ10 fun x48 σ11 =>
 G _ x46 true ((len PP 23 x48 σ11).bind fun v => some (v, σ11)) σ11 fun x49 σ12 =>
 G _ x46 true ((binOp PP .eql 3 x49 (DV.p (PV.int IntKind.i64 (4)))).bind fun v => some (v, σ12)) σ12 fun x50 σ13 =>
 (pickV x46 x50 (DV.p (PV.bool false))).bind fun x51 =>
 G _ x51 true (some (x25, σ13)) σ13 fun x53 σ14 =>
 G _ x51 true ((binOp PP .eql 30 x53 I0).bind fun v => some (v, σ14)) σ14 fun x54 σ15 =>
 (pickV x51 x54 (DV.p (PV.bool false))).bind fun x55 =>
 G _ x55 true (some (x24, σ15)) σ15 fun x57 σ16 =>
 (pickV x55 x57 (DV.p (PV.bool false))).bind fun x58 =>
 G _ x58 true (some (x32, σ16)) σ16 fun x60 σ17 =>
 G _ x58 true ((binOp PP .eql 30 x60 I0).bind fun v => some (v, σ17)) σ17 fun x61 σ18 =>
 (pickV x58 x61 (DV.p (PV.bool false))).bind fun x62 =>
 G _ x62 true ((load PP 26 (DV.ptr (List.length r28_5.2) 0) σ18).bind fun v => some (v, σ18)) σ18 fun x64 σ19 =>
 G _ x62 true ((buildSlice PP none 24 1 [(0, I1)] σ19).bind fun r => some (r.1, r.2)) σ19 fun x65 σ20 =>
 G _ x62 true ((buildSlice PP none 24 2 [(0, (DV.p (PV.int IntKind.i64 (2)))), (1, (DV.p (PV.int IntKind.i64 (3))))] σ20).bind fun r => some (r.1, r.2)) σ20 fun x66 σ21 =>
 G _ x62 true ((build PP 26 [(0, x65), (1, x66)]).bind fun v => some (v, σ21)) σ21 fun x67 σ22 =>
 G _ x62 true ((pureFn CC (DV.fn 33 []) [x64, x67] σ22).bind fun v => some (v, σ22)) σ22 fun x68 σ23 =>
 (pickV x62 x68 (DV.p (PV.bool false))).bind fun x69 =>
 G _ x69 true (some (x40, σ23)) σ23 fun x71 σ24 =>
 G _ x69 true ((binOp PP .eql 30 x71 I0).bind fun v => some (v, σ24)) σ24 fun x72 σ25 =>
 (pickV x69 x72 (DV.p (PV.bool false))).bind fun x73 =>
 G _ x73 true ((load PP 52 (DV.ptr (List.length r36_7.2) 0) σ25).bind fun v => some (v, σ25)) σ25 fun x75 σ26 =>
 G _ x73 true ((buildSlice PP none 24 1 [(0, I0)] σ26).bind fun r => some (r.1, r.2)) σ26 fun x76 σ27 =>
 G _ x73 true ((build PP 52 [(1, x76)]).bind fun v => some (v, σ27)) σ27 fun x77 σ28 =>
 G _ x73 true ((pureFn CC (DV.fn 29 []) [x75, x77] σ28).bind fun v => some (v, σ28)) σ28 fun x78 σ29 =>
 (pickV x73 x78 (DV.p (PV.bool false))).bind fun x79 =>
 some (x79, σ29) := by kernel_rfl
theorem F12_call {lo : Nat} (h : F12 guardT lo σ = some r) : CC lo 12 [] σ = some r :=
 callL_run Tryz.func12 (by decide +kernel) rfl (by decide +kernel) h
end
end Go.D
end
