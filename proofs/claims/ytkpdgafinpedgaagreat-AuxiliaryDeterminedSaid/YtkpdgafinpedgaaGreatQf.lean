/- Equations of functions 124, 145, 154, 155, 164, 156, 157, 165, 166, 167, 158, 159, 160, 161, printed by gen.py. -/
import Derived.Test.YtkpdgafinpedgaaGreatQd
import Derived.Test.YtkpdgafinpedgaaGreatQe
import Derived.Test.YtkpdgafinpedgaaGreatQc
section
set_option linter.unusedVariables false
set_option maxRecDepth 10000
namespace Go.D
open Go.Proofs
noncomputable section
variable (G : GuardT) (lo : Nat) {σ : Store} {r : DV × Store}
open _root_.Go.D.Code (fstC sndC)
open _root_.Go.D.Ann (left right)
def c124_0 : Code := bodyOf Tryz.f124
def a124_0 : Ann := (pol 124).ann
def F124 (x0 x1 : DV) (σ : Store) : RS :=
 codeF G PP (pol 124) CC lo c124_0 a124_0 (x0 :: x1 :: zn 12 []) σ (finR PP Tryz.f124.results.toList)
theorem F124_eq (G : GuardT) (lo : Nat) (x0 x1 : DV) (σ : Store) : F124 G lo x0 x1 σ =
 (len PP 23 x0 σ).bind fun x6 =>
 (convert PP 3 165 x6).bind fun x10 =>
 (pureFn CC (DV.fn 122 []) [x10] σ).bind fun x11 =>
 (plainFn CC lo (DV.fn 145 []) [x0, I0, x6, x11, x1] σ).bind fun r13_1 =>
 some ((DV.tuple []), r13_1.2) := by kernel_rfl
theorem F124_call {lo : Nat} {x0 x1 : DV} (h : F124 guardT lo x0 x1 σ = some r) : CC lo 124 [x0, x1] σ = some r :=
 callL_run Tryz.func124 (by decide +kernel) rfl (by decide +kernel) h
def c145_0 : Code := bodyOf Tryz.f145
def a145_0 : Ann := (pol 145).ann
def a145_4 : Ann := right (right a145_0)
def a145_5 : Ann := left a145_4
def c145_6 : Code := fstC (fstC (sndC (sndC c145_0)))
def a145_6 : Ann := left a145_5
def c145_33 : Code := sndC (sndC (sndC (sndC (fstC c145_6))))
def a145_33 : Ann := right (right (right (right (left a145_6))))
def c145_45 : Code := sndC (sndC c145_33)
def a145_45 : Ann := right (right a145_33)
def c145_55 : Code := sndC c145_45
def a145_55 : Ann := right a145_45
def f145_L0 (x0 x1 x2 x3 x4 x10 x11 : DV) (σ : Store) : RS :=
 codeF G PP (pol 145) CC lo (.loop c145_6) a145_5 (x0 :: x1 :: x2 :: x3 :: x4 :: zn 5 (x10 :: x11 :: zn 136 [])) σ
 (blockC 0 a145_4 (finR PP Tryz.f145.results.toList))
def f145_J0_fr (x0 x1 x2 x3 x4 x10 x11 x12 x21 x22 x23 x24 x25 x31 x32 x38 x39 x40 x41 x42 x43 x44 x45 x46 : DV) : Frame := (x0 :: x1 :: x2 :: x3 :: x4 :: zn 5 (x10 :: x11 :: x12 :: zn 8 (x21 :: x22 :: x23 :: x24 :: x25 :: zn 5 (x31 :: x32 :: zn 5 (x38 :: x39 :: x40 :: x41 :: x42 :: x43 :: x44 :: x45 :: x46 :: zn 101 [])))))
def f145_J0 (x0 x1 x2 x3 x4 x10 x11 x12 x21 x22 x23 x24 x25 x31 x32 x38 x39 x40 x41 x42 x43 x44 x45 x46 : DV) (σ : Store) : RS :=
 (seqC G PP (pol 145) CC lo c145_33 a145_33 (blockC 1 a145_6 (loopC G PP (pol 145) CC lo c145_6 a145_5 (blockC 0 a145_4 (finR PP Tryz.f145.results.toList))))) .normal (f145_J0_fr x0 x1 x2 x3 x4 x10 x11 x12 x21 x22 x23 x24 x25 x31 x32 x38 x39 x40 x41 x42 x43 x44 x45 x46) σ
def f145_J1_fr (x0 x1 x2 x3 x4 x10 x11 x12 x13 x14 x21 x22 x23 x24 x25 x31 x32 x38 x39 x40 x41 x42 x43 x44 x45 x46 x47 x48 x49 x50 x51 x52 x53 x54 x55 x56 x57 x58 x59 x60 x61 x62 x63 x64 x65 x66 x67 : DV) : Frame := (x0 :: x1 :: x2 :: x3 :: x4 :: zn 5 (x10 :: x11 :: x12 :: x13 :: x14 :: zn 6 (x21 :: x22 :: x23 :: x24 :: x25 :: zn 5 (x31 :: x32 :: zn 5 (x38 :: x39 :: x40 :: x41 :: x42 :: x43 :: x44 :: x45 :: x46 :: x47 :: x48 :: x49 :: x50 :: x51 :: x52 :: x53 :: x54 :: x55 :: x56 :: x57 :: x58 :: x59 :: x60 :: x61 :: x62 :: x63 :: x64 :: x65 :: x66 :: x67 :: zn 80 [])))))
def f145_J1 (x0 x1 x2 x3 x4 x10 x11 x12 x13 x14 x21 x22 x23 x24 x25 x31 x32 x38 x39 x40 x41 x42 x43 x44 x45 x46 x47 x48 x49 x50 x51 x52 x53 x54 x55 x56 x57 x58 x59 x60 x61 x62 x63 x64 x65 x66 x67 : DV) (σ : Store) : RS :=
 (seqC G PP (pol 145) CC lo c145_45 a145_45 (blockC 1 a145_6 (loopC G PP (pol 145) CC lo c145_6 a145_5 (blockC 0 a145_4 (finR PP Tryz.f145.results.toList))))) .normal (f145_J1_fr x0 x1 x2 x3 x4 x10 x11 x12 x13 x14 x21 x22 x23 x24 x25 x31 x32 x38 x39 x40 x41 x42 x43 x44 x45 x46 x47 x48 x49 x50 x51 x52 x53 x54 x55 x56 x57 x58 x59 x60 x61 x62 x63 x64 x65 x66 x67) σ
def f145_J2_fr (x0 x1 x2 x3 x4 x10 x11 x12 x13 x14 x21 x22 x23 x24 x25 x31 x32 x38 x39 x40 x41 x42 x43 x44 x45 x46 x47 x48 x49 x50 x51 x52 x53 x54 x55 x56 x57 x58 x59 x60 x61 x62 x63 x64 x65 x66 x67 x68 x69 x70 x71 x72 x73 x74 x75 x76 x77 x78 x79 x80 : DV) : Frame := (x0 :: x1 :: x2 :: x3 :: x4 :: zn 5 (x10 :: x11 :: x12 :: x13 :: x14 :: zn 6 (x21 :: x22 :: x23 :: x24 :: x25 :: zn 5 (x31 :: x32 :: zn 5 (x38 :: x39 :: x40 :: x41 :: x42 :: x43 :: x44 :: x45 :: x46 :: x47 :: x48 :: x49 :: x50 :: x51 :: x52 :: x53 :: x54 :: x55 :: x56 :: x57 :: x58 :: x59 :: x60 :: x61 :: x62 :: x63 :: x64 :: x65 :: x66 :: x67 :: x68 :: x69 :: x70 :: x71 :: x72 :: x73 :: x74 :: x75 :: x76 :: x77 :: x78 :: x79 :: x80 :: zn 67 [])))))
def f145_J2 (x0 x1 x2 x3 x4 x10 x11 x12 x13 x14 x21 x22 x23 x24 x25 x31 x32 x38 x39 x40 x41 x42 x43 x44 x45 x46 x47 x48 x49 x50 x51 x52 x53 x54 x55 x56 x57 x58 x59 x60 x61 x62 x63 x64 x65 x66 x67 x68 x69 x70 x71 x72 x73 x74 x75 x76 x77 x78 x79 x80 : DV) (σ : Store) : RS :=
 (seqC G PP (pol 145) CC lo c145_55 a145_55 (blockC 1 a145_6 (loopC G PP (pol 145) CC lo c145_6 a145_5 (blockC 0 a145_4 (finR PP Tryz.f145.results.toList))))) .normal (f145_J2_fr x0 x1 x2 x3 x4 x10 x11 x12 x13 x14 x21 x22 x23 x24 x25 x31 x32 x38 x39 x40 x41 x42 x43 x44 x45 x46 x47 x48 x49 x50 x51 x52 x53 x54 x55 x56 x57 x58 x59 x60 x61 x62 x63 x64 x65 x66 x67 x68 x69 x70 x71 x72 x73 x74 x75 x76 x77 x78 x79 x80) σ
def F145 (x0 x1 x2 x3 x4 : DV) (σ : Store) : RS :=
 codeF G PP (pol 145) CC lo c145_0 a145_0 (x0 :: x1 :: x2 :: x3 :: x4 :: zn 143 []) σ (finR PP Tryz.f145.results.toList)
theorem f145_J0_eq (G : GuardT) (lo : Nat) (x0 x1 x2 x3 x4 x10 x11 x12 x21 x22 x23 x24 x25 x31 x32 x38 x39 x40 x41 x42 x43 x44 x45 x46 : DV) (σ : Store) : f145_J0 G lo x0 x1 x2 x3 x4 x10 x11 x12 x21 x22 x23 x24 x25 x31 x32 x38 x39 x40 x41 x42 x43 x44 x45 x46 σ =
 (plainFn CC lo (DV.fn 157 []) [x0, x1, x2, x4] σ).bind fun r52_4 =>
 (extractV r52_4.1 0).bind fun x53 =>
 (extractV r52_4.1 1).bind fun x54 =>
 (binOp PP .eql 169 x54 (DV.p (PV.int IntKind.i64 (2)))).bind fun x56 =>
 condK x56
 (
 (plainFn CC lo (DV.fn 158 []) [x0, x1, x2, x4] r52_4.2).bind fun r61_5 =>
 (binOp PP .sub 3 x2 I1).bind fun x63 =>
 (binOp PP .sub 3 x53 x1).bind fun x66 =>
 (binOp PP .sub 3 x63 x66).bind fun x67 =>
 f145_J1 G lo x0 x1 x2 x3 x4 x10 x11 x12 x67 I1 x21 x22 x23 x24 x25 x31 x32 x38 x39 x40 x41 x42 x43 x44 x45 x46 r52_4.1 x0 x1 x2 x4 r52_4.1 x53 x54 x54 x56 x0 x1 x2 x4 r61_5.1 x2 x63 x53 x1 x66 x67 r61_5.2
 )
 (
 f145_J1 G lo x0 x1 x2 x3 x4 x10 x11 x12 x53 x54 x21 x22 x23 x24 x25 x31 x32 x38 x39 x40 x41 x42 x43 x44 x45 x46 r52_4.1 x0 x1 x2 x4 r52_4.1 x53 x54 x54 x56 Z Z Z Z Z Z Z Z Z Z Z r52_4.2
 ) := by kernel_rfl
theorem f145_J1_eq (G : GuardT) (lo : Nat) (x0 x1 x2 x3 x4 x10 x11 x12 x13 x14 x21 x22 x23 x24 x25 x31 x32 x38 x39 x40 x41 x42 x43 x44 x45 x46 x47 x48 x49 x50 x51 x52 x53 x54 x55 x56 x57 x58 x59 x60 x61 x62 x63 x64 x65 x66 x67 : DV) (σ : Store) : f145_J1 G lo x0 x1 x2 x3 x4 x10 x11 x12 x13 x14 x21 x22 x23 x24 x25 x31 x32 x38 x39 x40 x41 x42 x43 x44 x45 x46 x47 x48 x49 x50 x51 x52 x53 x54 x55 x56 x57 x58 x59 x60 x61 x62 x63 x64 x65 x66 x67 σ =
 G _ x10 true (some (x11, σ)) σ fun x70 σ6 =>
 (pickV x10 x70 (DV.p (PV.bool false))).bind fun x71 =>
 G _ x71 true (some (x14, σ6)) σ6 fun x73 σ7 =>
 G _ x71 true ((binOp PP .eql 169 x73 I1).bind fun v => some (v, σ7)) σ7 fun x74 σ8 =>
 (pickV x71 x74 (DV.p (PV.bool false))).bind fun x75 =>
 condK x75
 (
 (plainFn CC lo (DV.fn 159 []) [x0, x1, x2, x4] σ8).bind fun r80_9 =>
 condK r80_9.1
 (
 some ((DV.tuple []), r80_9.2)
 )
 (
 f145_J2 G lo x0 x1 x2 x3 x4 x10 x11 x12 x13 x14 x21 x22 x23 x24 x25 x31 x32 x38 x39 x40 x41 x42 x43 x44 x45 x46 x47 x48 x49 x50 x51 x52 x53 x54 x55 x56 x57 x58 x59 x60 x61 x62 x63 x64 x65 x66 x67 x10 x10 x70 x71 x71 x73 x74 x75 x0 x1 x2 x4 r80_9.1 r80_9.2
 )
 )
 (
 f145_J2 G lo x0 x1 x2 x3 x4 x10 x11 x12 x13 x14 x21 x22 x23 x24 x25 x31 x32 x38 x39 x40 x41 x42 x43 x44 x45 x46 x47 x48 x49 x50 x51 x52 x53 x54 x55 x56 x57 x58 x59 x60 x61 x62 x63 x64 x65 x66 x67 x10 x10 x70 x71 x71 x73 x74 x75 Z Z Z Z Z σ8
 ) := by kernel_rfl
theorem f145_J2_eq (G : GuardT) (lo : Nat) (x0 x1 x2 x3 x4 x10 x11 x12 x13 x14 x21 x22 x23 x24 x25 x31 x32 x38 x39 x40 x41 x42 x43 x44 x45 x46 x47 x48 x49 x50 x51 x52 x53 x54 x55 x56 x57 x58 x59 x60 x61 x62 x63 x64 x65 x66 x67 x68 x69 x70 x71 x72 x73 x74 x75 x76 x77 x78 x79 x80 : DV) (σ : Store) : f145_J2 G lo x0 x1 x2 x3 x4 x10 x11 x12 x13 x14 x21 x22 x23 x24 x25 x31 x32 x38 x39 x40 x41 x42 x43 x44 x45 x46 x47 x48 x49 x50 x51 x52 x53 x54 x55 x56 x57 x58 x59 x60 x61 x62 x63 x64 x65 x66 x67 x68 x69 x70 x71 x72 x73 x74 x75 x76 x77 x78 x79 x80 σ =
 (binOp PP .gtr 3 x1 I0).bind fun x82 =>
 G _ x82 true (some (x4, σ)) σ fun x84 σ10 =>
 G _ x82 true (some (x0, σ10)) σ10 fun x85 σ11 =>
 G _ x82 true (some (x1, σ11)) σ11 fun x86 σ12 =>
 G _ x82 true ((binOp PP .sub 3 x86 I1).bind fun v => some (v, σ12)) σ12 fun x87 σ13 =>
 G _ x82 true ((indexAddr PP 23 x85 x87).bind fun v => some (v, σ13)) σ13 fun x88 σ14 =>
 G _ x82 true ((load PP 69 x88 σ14).bind fun v => some (v, σ14)) σ14 fun x89 σ15 =>
 G _ x82 true (some (x0, σ15)) σ15 fun x90 σ16 =>
 G _ x82 true (some (x13, σ16)) σ16 fun x91 σ17 =>
 G _ x82 true ((indexAddr PP 23 x90 x91).bind fun v => some (v, σ17)) σ17 fun x92 σ18 =>
 G _ x82 true ((load PP 69 x92 σ18).bind fun v => some (v, σ18)) σ18 fun x93 σ19 =>
 G _ x82 true ((pureFn CC x84 [x89, x93] σ19).bind fun v => some (v, σ19)) σ19 fun x94 σ20 =>
 G _ x82 true ((binOp PP .lss 3 x94 I0).bind fun v => some (v, σ20)) σ20 fun x95 σ21 =>
 G _ x82 true ((unOp .not x95).bind fun v => some (v, σ21)) σ21 fun x96 σ22 =>
 (pickV x82 x96 (DV.p (PV.bool false))).bind fun x97 =>
 condK x97
 (
 (plainFn CC lo (DV.fn 160 []) [x0, x1, x2, x13, x4] σ22).bind fun r103_23 =>
 f145_L0 G lo x0 r103_23.1 x2 x3 x4 x10 x11 r103_23.2
 )
 (
 (plainFn CC lo (DV.fn 161 []) [x0, x1, x2, x13, x4] σ22).bind fun r111_24 =>
 (extractV r111_24.1 0).bind fun x112 =>
 (extractV r111_24.1 1).bind fun x113 =>
 (binOp PP .sub 3 x112 x1).bind fun x117 =>
 (binOp PP .sub 3 x2 x112).bind fun x120 =>
 (binOp PP .quo 3 x12 (DV.p (PV.int IntKind.i64 (8)))).bind fun x122 =>
 (binOp PP .lss 3 x117 x120).bind fun x125 =>
 condK x125
 (
 (binOp PP .geq 3 x117 x122).bind fun x128 =>
 (plainFn CC lo (DV.fn 145 []) [x0, x1, x112, x3, x4] r111_24.2).bind fun r134_25 =>
 (binOp PP .add 3 x112 I1).bind fun x136 =>
 f145_L0 G lo x0 x136 x2 x3 x4 x128 x113 r134_25.2
 )
 (
 (binOp PP .geq 3 x120 x122).bind fun x139 =>
 (binOp PP .add 3 x112 I1).bind fun x142 =>
 (plainFn CC lo (DV.fn 145 []) [x0, x142, x2, x3, x4] r111_24.2).bind fun r146_26 =>
 f145_L0 G lo x0 x1 x112 x3 x4 x139 x113 r146_26.2
 )
 ) := by kernel_rfl
theorem f145_L0_eqN (G : GuardT) (hG : GuardOk G) (lo : Nat) (x0 x1 x2 x3 x4 x10 x11 : DV) (σ : Store) : f145_L0 G lo x0 x1 x2 x3 x4 x10 x11 σ =
 (binOp PP .sub 3 x2 x1).bind fun x23 =>
 (binOp PP .leq 3 x23 (DV.p (PV.int IntKind.i64 (12)))).bind fun x25 =>
 condK x25
 (
 (plainFn CC lo (DV.fn 154 []) [x0, x1, x2, x4] σ).bind fun r30_1 =>
 some ((DV.tuple []), r30_1.2)
 )
 (
 (binOp PP .eql 3 x3 I0).bind fun x32 =>
 condK x32
 (
 (plainFn CC lo (DV.fn 155 []) [x0, x1, x2, x4] σ).bind fun r37_2 =>
 some ((DV.tuple []), r37_2.2)
 )
 (
 (unOp .not x10).bind fun x39 =>
 condK x39
 (
 (plainFn CC lo (DV.fn 156 []) [x0, x1, x2, x4] σ).bind fun r44_3 =>
 (binOp PP .sub 3 x3 I1).bind fun x46 =>
 (plainFn CC lo (DV.fn 157 []) [x0, x1, x2, x4] r44_3.2).bind fun r52_4 =>
 (extractV r52_4.1 0).bind fun x53 =>
 (extractV r52_4.1 1).bind fun x54 =>
 (binOp PP .eql 169 x54 (DV.p (PV.int IntKind.i64 (2)))).bind fun x56 =>
 condK x56
 (
 (plainFn CC lo (DV.fn 158 []) [x0, x1, x2, x4] r52_4.2).bind fun r61_5 =>
 (binOp PP .sub 3 x2 I1).bind fun x63 =>
 (binOp PP .sub 3 x53 x1).bind fun x66 =>
 (binOp PP .sub 3 x63 x66).bind fun x67 =>
 G _ x10 true (some (x11, r61_5.2)) r61_5.2 fun x70 σ6 =>
 (pickV x10 x70 (DV.p (PV.bool false))).bind fun x71 =>
 G _ x71 true (some (I1, σ6)) σ6 fun x73 σ7 =>
 G _ x71 true ((binOp PP .eql 169 x73 I1).bind fun v => some (v, σ7)) σ7 fun x74 σ8 =>
 (pickV x71 x74 (DV.p (PV.bool false))).bind fun x75 =>
 condK x75
 (
 (plainFn CC lo (DV.fn 159 []) [x0, x1, x2, x4] σ8).bind fun r80_9 =>
 condK r80_9.1
 (
 some ((DV.tuple []), r80_9.2)
 )
 (
 (binOp PP .gtr 3 x1 I0).bind fun x82 =>
 G _ x82 true (some (x4, r80_9.2)) r80_9.2 fun x84 σ10 =>
 G _ x82 true (some (x0, σ10)) σ10 fun x85 σ11 =>
 G _ x82 true (some (x1, σ11)) σ11 fun x86 σ12 =>
 G _ x82 true ((binOp PP .sub 3 x86 I1).bind fun v => some (v, σ12)) σ12 fun x87 σ13 =>
 G _ x82 true ((indexAddr PP 23 x85 x87).bind fun v => some (v, σ13)) σ13 fun x88 σ14 =>
 G _ x82 true ((load PP 69 x88 σ14).bind fun v => some (v, σ14)) σ14 fun x89 σ15 =>
 G _ x82 true (some (x0, σ15)) σ15 fun x90 σ16 =>
 G _ x82 true (some (x67, σ16)) σ16 fun x91 σ17 =>
 G _ x82 true ((indexAddr PP 23 x90 x91).bind fun v => some (v, σ17)) σ17 fun x92 σ18 =>
 G _ x82 true ((load PP 69 x92 σ18).bind fun v => some (v, σ18)) σ18 fun x93 σ19 =>
 G _ x82 true ((pureFn CC x84 [x89, x93] σ19).bind fun v => some (v, σ19)) σ19 fun x94 σ20 =>
 G _ x82 true ((binOp PP .lss 3 x94 I0).bind fun v => some (v, σ20)) σ20 fun x95 σ21 =>
 G _ x82 true ((unOp .not x95).bind fun v => some (v, σ21)) σ21 fun x96 σ22 =>
 (pickV x82 x96 (DV.p (PV.bool false))).bind fun x97 =>
 condK x97
 (
 (plainFn CC lo (DV.fn 160 []) [x0, x1, x2, x67, x4] σ22).bind fun r103_23 =>
 f145_L0 G lo x0 r103_23.1 x2 x46 x4 x10 x11 r103_23.2
 )
 (
 (plainFn CC lo (DV.fn 161 []) [x0, x1, x2, x67, x4] σ22).bind fun r111_24 =>
 (extractV r111_24.1 0).bind fun x112 =>
 (extractV r111_24.1 1).bind fun x113 =>
 (binOp PP .sub 3 x112 x1).bind fun x117 =>
 (binOp PP .sub 3 x2 x112).bind fun x120 =>
 (binOp PP .quo 3 x23 (DV.p (PV.int IntKind.i64 (8)))).bind fun x122 =>
 (binOp PP .lss 3 x117 x120).bind fun x125 =>
 condK x125
 (
 (binOp PP .geq 3 x117 x122).bind fun x128 =>
 (plainFn CC lo (DV.fn 145 []) [x0, x1, x112, x46, x4] r111_24.2).bind fun r134_25 =>
 (binOp PP .add 3 x112 I1).bind fun x136 =>
 f145_L0 G lo x0 x136 x2 x46 x4 x128 x113 r134_25.2
 )
 (
 (binOp PP .geq 3 x120 x122).bind fun x139 =>
 (binOp PP .add 3 x112 I1).bind fun x142 =>
 (plainFn CC lo (DV.fn 145 []) [x0, x142, x2, x46, x4] r111_24.2).bind fun r146_26 =>
 f145_L0 G lo x0 x1 x112 x46 x4 x139 x113 r146_26.2
 )
 )
 )
 )
 (
 (binOp PP .gtr 3 x1 I0).bind fun x82 =>
 G _ x82 true (some (x4, σ8)) σ8 fun x84 σ27 =>
 G _ x82 true (some (x0, σ27)) σ27 fun x85 σ28 =>
 G _ x82 true (some (x1, σ28)) σ28 fun x86 σ29 =>
 G _ x82 true ((binOp PP .sub 3 x86 I1).bind fun v => some (v, σ29)) σ29 fun x87 σ30 =>
 G _ x82 true ((indexAddr PP 23 x85 x87).bind fun v => some (v, σ30)) σ30 fun x88 σ31 =>
 G _ x82 true ((load PP 69 x88 σ31).bind fun v => some (v, σ31)) σ31 fun x89 σ32 =>
 G _ x82 true (some (x0, σ32)) σ32 fun x90 σ33 =>
 G _ x82 true (some (x67, σ33)) σ33 fun x91 σ34 =>
 G _ x82 true ((indexAddr PP 23 x90 x91).bind fun v => some (v, σ34)) σ34 fun x92 σ35 =>
 G _ x82 true ((load PP 69 x92 σ35).bind fun v => some (v, σ35)) σ35 fun x93 σ36 =>
 G _ x82 true ((pureFn CC x84 [x89, x93] σ36).bind fun v => some (v, σ36)) σ36 fun x94 σ37 =>
 G _ x82 true ((binOp PP .lss 3 x94 I0).bind fun v => some (v, σ37)) σ37 fun x95 σ38 =>
 G _ x82 true ((unOp .not x95).bind fun v => some (v, σ38)) σ38 fun x96 σ39 =>
 (pickV x82 x96 (DV.p (PV.bool false))).bind fun x97 =>
 condK x97
 (
 (plainFn CC lo (DV.fn 160 []) [x0, x1, x2, x67, x4] σ39).bind fun r103_40 =>
 f145_L0 G lo x0 r103_40.1 x2 x46 x4 x10 x11 r103_40.2
 )
 (
 (plainFn CC lo (DV.fn 161 []) [x0, x1, x2, x67, x4] σ39).bind fun r111_41 =>
 (extractV r111_41.1 0).bind fun x112 =>
 (extractV r111_41.1 1).bind fun x113 =>
 (binOp PP .sub 3 x112 x1).bind fun x117 =>
 (binOp PP .sub 3 x2 x112).bind fun x120 =>
 (binOp PP .quo 3 x23 (DV.p (PV.int IntKind.i64 (8)))).bind fun x122 =>
 (binOp PP .lss 3 x117 x120).bind fun x125 =>
 condK x125
 (
 (binOp PP .geq 3 x117 x122).bind fun x128 =>
 (plainFn CC lo (DV.fn 145 []) [x0, x1, x112, x46, x4] r111_41.2).bind fun r134_42 =>
 (binOp PP .add 3 x112 I1).bind fun x136 =>
 f145_L0 G lo x0 x136 x2 x46 x4 x128 x113 r134_42.2
 )
 (
 (binOp PP .geq 3 x120 x122).bind fun x139 =>
 (binOp PP .add 3 x112 I1).bind fun x142 =>
 (plainFn CC lo (DV.fn 145 []) [x0, x142, x2, x46, x4] r111_41.2).bind fun r146_43 =>
 f145_L0 G lo x0 x1 x112 x46 x4 x139 x113 r146_43.2
 )
 )
 )
 )
 (
 G _ x10 true (some (x11, r52_4.2)) r52_4.2 fun x70 σ44 =>
 (pickV x10 x70 (DV.p (PV.bool false))).bind fun x71 =>
 G _ x71 true (some (x54, σ44)) σ44 fun x73 σ45 =>
 G _ x71 true ((binOp PP .eql 169 x73 I1).bind fun v => some (v, σ45)) σ45 fun x74 σ46 =>
 (pickV x71 x74 (DV.p (PV.bool false))).bind fun x75 =>
 condK x75
 (
 (plainFn CC lo (DV.fn 159 []) [x0, x1, x2, x4] σ46).bind fun r80_47 =>
 condK r80_47.1
 (
 some ((DV.tuple []), r80_47.2)
 )
 (
 (binOp PP .gtr 3 x1 I0).bind fun x82 =>
 G _ x82 true (some (x4, r80_47.2)) r80_47.2 fun x84 σ48 =>
 G _ x82 true (some (x0, σ48)) σ48 fun x85 σ49 =>
 G _ x82 true (some (x1, σ49)) σ49 fun x86 σ50 =>
 G _ x82 true ((binOp PP .sub 3 x86 I1).bind fun v => some (v, σ50)) σ50 fun x87 σ51 =>
 G _ x82 true ((indexAddr PP 23 x85 x87).bind fun v => some (v, σ51)) σ51 fun x88 σ52 =>
 G _ x82 true ((load PP 69 x88 σ52).bind fun v => some (v, σ52)) σ52 fun x89 σ53 =>
 G _ x82 true (some (x0, σ53)) σ53 fun x90 σ54 =>
 G _ x82 true (some (x53, σ54)) σ54 fun x91 σ55 =>
 G _ x82 true ((indexAddr PP 23 x90 x91).bind fun v => some (v, σ55)) σ55 fun x92 σ56 =>
 G _ x82 true ((load PP 69 x92 σ56).bind fun v => some (v, σ56)) σ56 fun x93 σ57 =>
 G _ x82 true ((pureFn CC x84 [x89, x93] σ57).bind fun v => some (v, σ57)) σ57 fun x94 σ58 =>
 G _ x82 true ((binOp PP .lss 3 x94 I0).bind fun v => some (v, σ58)) σ58 fun x95 σ59 =>
 G _ x82 true ((unOp .not x95).bind fun v => some (v, σ59)) σ59 fun x96 σ60 =>
 (pickV x82 x96 (DV.p (PV.bool false))).bind fun x97 =>
 condK x97
 (
 (plainFn CC lo (DV.fn 160 []) [x0, x1, x2, x53, x4] σ60).bind fun r103_61 =>
 f145_L0 G lo x0 r103_61.1 x2 x46 x4 x10 x11 r103_61.2
 )
 (
 (plainFn CC lo (DV.fn 161 []) [x0, x1, x2, x53, x4] σ60).bind fun r111_62 =>
 (extractV r111_62.1 0).bind fun x112 =>
 (extractV r111_62.1 1).bind fun x113 =>
 (binOp PP .sub 3 x112 x1).bind fun x117 =>
 (binOp PP .sub 3 x2 x112).bind fun x120 =>
 (binOp PP .quo 3 x23 (DV.p (PV.int IntKind.i64 (8)))).bind fun x122 =>
 (binOp PP .lss 3 x117 x120).bind fun x125 =>
 condK x125
 (
 (binOp PP .geq 3 x117 x122).bind fun x128 =>
 (plainFn CC lo (DV.fn 145 []) [x0, x1, x112, x46, x4] r111_62.2).bind fun r134_63 =>
 (binOp PP .add 3 x112 I1).bind fun x136 =>
 f145_L0 G lo x0 x136 x2 x46 x4 x128 x113 r134_63.2
 )
 (
 (binOp PP .geq 3 x120 x122).bind fun x139 =>
 (binOp PP .add 3 x112 I1).bind fun x142 =>
 (plainFn CC lo (DV.fn 145 []) [x0, x142, x2, x46, x4] r111_62.2).bind fun r146_64 =>
 f145_L0 G lo x0 x1 x112 x46 x4 x139 x113 r146_64.2
 )
 )
 )
 )
 (
 (binOp PP .gtr 3 x1 I0).bind fun x82 =>
 G _ x82 true (some (x4, σ46)) σ46 fun x84 σ65 =>
 G _ x82 true (some (x0, σ65)) σ65 fun x85 σ66 =>
 G _ x82 true (some (x1, σ66)) σ66 fun x86 σ67 =>
 G _ x82 true ((binOp PP .sub 3 x86 I1).bind fun v => some (v, σ67)) σ67 fun x87 σ68 =>
 G _ x82 true ((indexAddr PP 23 x85 x87).bind fun v => some (v, σ68)) σ68 fun x88 σ69 =>
 G _ x82 true ((load PP 69 x88 σ69).bind fun v => some (v, σ69)) σ69 fun x89 σ70 =>
 G _ x82 true (some (x0, σ70)) σ70 fun x90 σ71 =>
 G _ x82 true (some (x53, σ71)) σ71 fun x91 σ72 =>
 G _ x82 true ((indexAddr PP 23 x90 x91).bind fun v => some (v, σ72)) σ72 fun x92 σ73 =>
 G _ x82 true ((load PP 69 x92 σ73).bind fun v => some (v, σ73)) σ73 fun x93 σ74 =>
 G _ x82 true ((pureFn CC x84 [x89, x93] σ74).bind fun v => some (v, σ74)) σ74 fun x94 σ75 =>
 G _ x82 true ((binOp PP .lss 3 x94 I0).bind fun v => some (v, σ75)) σ75 fun x95 σ76 =>
 G _ x82 true ((unOp .not x95).bind fun v => some (v, σ76)) σ76 fun x96 σ77 =>
 (pickV x82 x96 (DV.p (PV.bool false))).bind fun x97 =>
 condK x97
 (
 (plainFn CC lo (DV.fn 160 []) [x0, x1, x2, x53, x4] σ77).bind fun r103_78 =>
 f145_L0 G lo x0 r103_78.1 x2 x46 x4 x10 x11 r103_78.2
 )
 (
 (plainFn CC lo (DV.fn 161 []) [x0, x1, x2, x53, x4] σ77).bind fun r111_79 =>
 (extractV r111_79.1 0).bind fun x112 =>
 (extractV r111_79.1 1).bind fun x113 =>
 (binOp PP .sub 3 x112 x1).bind fun x117 =>
 (binOp PP .sub 3 x2 x112).bind fun x120 =>
 (binOp PP .quo 3 x23 (DV.p (PV.int IntKind.i64 (8)))).bind fun x122 =>
 (binOp PP .lss 3 x117 x120).bind fun x125 =>
 condK x125
 (
 (binOp PP .geq 3 x117 x122).bind fun x128 =>
 (plainFn CC lo (DV.fn 145 []) [x0, x1, x112, x46, x4] r111_79.2).bind fun r134_80 =>
 (binOp PP .add 3 x112 I1).bind fun x136 =>
 f145_L0 G lo x0 x136 x2 x46 x4 x128 x113 r134_80.2
 )
 (
 (binOp PP .geq 3 x120 x122).bind fun x139 =>
 (binOp PP .add 3 x112 I1).bind fun x142 =>
 (plainFn CC lo (DV.fn 145 []) [x0, x142, x2, x46, x4] r111_79.2).bind fun r146_81 =>
 f145_L0 G lo x0 x1 x112 x46 x4 x139 x113 r146_81.2
 )
 )
 )
 )
 )
 (
 (plainFn CC lo (DV.fn 157 []) [x0, x1, x2, x4] σ).bind fun r52_82 =>
 (extractV r52_82.1 0).bind fun x53 =>
 (extractV r52_82.1 1).bind fun x54 =>
 (binOp PP .eql 169 x54 (DV.p (PV.int IntKind.i64 (2)))).bind fun x56 =>
 condK x56
 (
 (plainFn CC lo (DV.fn 158 []) [x0, x1, x2, x4] r52_82.2).bind fun r61_83 =>
 (binOp PP .sub 3 x2 I1).bind fun x63 =>
 (binOp PP .sub 3 x53 x1).bind fun x66 =>
 (binOp PP .sub 3 x63 x66).bind fun x67 =>
 G _ x10 true (some (x11, r61_83.2)) r61_83.2 fun x70 σ84 =>
 (pickV x10 x70 (DV.p (PV.bool false))).bind fun x71 =>
 G _ x71 true (some (I1, σ84)) σ84 fun x73 σ85 =>
 G _ x71 true ((binOp PP .eql 169 x73 I1).bind fun v => some (v, σ85)) σ85 fun x74 σ86 =>
 (pickV x71 x74 (DV.p (PV.bool false))).bind fun x75 =>
 condK x75
 (
 (plainFn CC lo (DV.fn 159 []) [x0, x1, x2, x4] σ86).bind fun r80_87 =>
 condK r80_87.1
 (
 some ((DV.tuple []), r80_87.2)
 )
 (
 (binOp PP .gtr 3 x1 I0).bind fun x82 =>
 G _ x82 true (some (x4, r80_87.2)) r80_87.2 fun x84 σ88 =>
 G _ x82 true (some (x0, σ88)) σ88 fun x85 σ89 =>
 G _ x82 true (some (x1, σ89)) σ89 fun x86 σ90 =>
 G _ x82 true ((binOp PP .sub 3 x86 I1).bind fun v => some (v, σ90)) σ90 fun x87 σ91 =>
 G _ x82 true ((indexAddr PP 23 x85 x87).bind fun v => some (v, σ91)) σ91 fun x88 σ92 =>
 G _ x82 true ((load PP 69 x88 σ92).bind fun v => some (v, σ92)) σ92 fun x89 σ93 =>
 G _ x82 true (some (x0, σ93)) σ93 fun x90 σ94 =>
 G _ x82 true (some (x67, σ94)) σ94 fun x91 σ95 =>
 G _ x82 true ((indexAddr PP 23 x90 x91).bind fun v => some (v, σ95)) σ95 fun x92 σ96 =>
 G _ x82 true ((load PP 69 x92 σ96).bind fun v => some (v, σ96)) σ96 fun x93 σ97 =>
 G _ x82 true ((pureFn CC x84 [x89, x93] σ97).bind fun v => some (v, σ97)) σ97 fun x94 σ98 =>
 G _ x82 true ((binOp PP .lss 3 x94 I0).bind fun v => some (v, σ98)) σ98 fun x95 σ99 =>
 G _ x82 true ((unOp .not x95).bind fun v => some (v, σ99)) σ99 fun x96 σ100 =>
 (pickV x82 x96 (DV.p (PV.bool false))).bind fun x97 =>
 condK x97
 (
 (plainFn CC lo (DV.fn 160 []) [x0, x1, x2, x67, x4] σ100).bind fun r103_101 =>
 f145_L0 G lo x0 r103_101.1 x2 x3 x4 x10 x11 r103_101.2
 )
 (
 (plainFn CC lo (DV.fn 161 []) [x0, x1, x2, x67, x4] σ100).bind fun r111_102 =>
 (extractV r111_102.1 0).bind fun x112 =>
 (extractV r111_102.1 1).bind fun x113 =>
 (binOp PP .sub 3 x112 x1).bind fun x117 =>
 (binOp PP .sub 3 x2 x112).bind fun x120 =>
 (binOp PP .quo 3 x23 (DV.p (PV.int IntKind.i64 (8)))).bind fun x122 =>
 (binOp PP .lss 3 x117 x120).bind fun x125 =>
 condK x125
 (
 (binOp PP .geq 3 x117 x122).bind fun x128 =>
 (plainFn CC lo (DV.fn 145 []) [x0, x1, x112, x3, x4] r111_102.2).bind fun r134_103 =>
 (binOp PP .add 3 x112 I1).bind fun x136 =>
 f145_L0 G lo x0 x136 x2 x3 x4 x128 x113 r134_103.2
 )
 (
 (binOp PP .geq 3 x120 x122).bind fun x139 =>
 (binOp PP .add 3 x112 I1).bind fun x142 =>
 (plainFn CC lo (DV.fn 145 []) [x0, x142, x2, x3, x4] r111_102.2).bind fun r146_104 =>
 f145_L0 G lo x0 x1 x112 x3 x4 x139 x113 r146_104.2
 )
 )
 )
 )
 (
 (binOp PP .gtr 3 x1 I0).bind fun x82 =>
 G _ x82 true (some (x4, σ86)) σ86 fun x84 σ105 =>
 G _ x82 true (some (x0, σ105)) σ105 fun x85 σ106 =>
 G _ x82 true (some (x1, σ106)) σ106 fun x86 σ107 =>
 G _ x82 true ((binOp PP .sub 3 x86 I1).bind fun v => some (v, σ107)) σ107 fun x87 σ108 =>
 G _ x82 true ((indexAddr PP 23 x85 x87).bind fun v => some (v, σ108)) σ108 fun x88 σ109 =>
 G _ x82 true ((load PP 69 x88 σ109).bind fun v => some (v, σ109)) σ109 fun x89 σ110 =>
 G _ x82 true (some (x0, σ110)) σ110 fun x90 σ111 =>
 G _ x82 true (some (x67, σ111)) σ111 fun x91 σ112 =>
 G _ x82 true ((indexAddr PP 23 x90 x91).bind fun v => some (v, σ112)) σ112 fun x92 σ113 =>
 G _ x82 true ((load PP 69 x92 σ113).bind fun v => some (v, σ113)) σ113 fun x93 σ114 =>
 G _ x82 true ((pureFn CC x84 [x89, x93] σ114).bind fun v => some (v, σ114)) σ114 fun x94 σ115 =>
 G _ x82 true ((binOp PP .lss 3 x94 I0).bind fun v => some (v, σ115)) σ115 fun x95 σ116 =>
 G _ x82 true ((unOp .not x95).bind fun v => some (v, σ116)) σ116 fun x96 σ117 =>
 (pickV x82 x96 (DV.p (PV.bool false))).bind fun x97 =>
 condK x97
 (
 (plainFn CC lo (DV.fn 160 []) [x0, x1, x2, x67, x4] σ117).bind fun r103_118 =>
 f145_L0 G lo x0 r103_118.1 x2 x3 x4 x10 x11 r103_118.2
 )
 (
 (plainFn CC lo (DV.fn 161 []) [x0, x1, x2, x67, x4] σ117).bind fun r111_119 =>
 (extractV r111_119.1 0).bind fun x112 =>
 (extractV r111_119.1 1).bind fun x113 =>
 (binOp PP .sub 3 x112 x1).bind fun x117 =>
 (binOp PP .sub 3 x2 x112).bind fun x120 =>
 (binOp PP .quo 3 x23 (DV.p (PV.int IntKind.i64 (8)))).bind fun x122 =>
 (binOp PP .lss 3 x117 x120).bind fun x125 =>
 condK x125
 (
 (binOp PP .geq 3 x117 x122).bind fun x128 =>
 (plainFn CC lo (DV.fn 145 []) [x0, x1, x112, x3, x4] r111_119.2).bind fun r134_120 =>
 (binOp PP .add 3 x112 I1).bind fun x136 =>
 f145_L0 G lo x0 x136 x2 x3 x4 x128 x113 r134_120.2
 )
 (
 (binOp PP .geq 3 x120 x122).bind fun x139 =>
 (binOp PP .add 3 x112 I1).bind fun x142 =>
 (plainFn CC lo (DV.fn 145 []) [x0, x142, x2, x3, x4] r111_119.2).bind fun r146_121 =>
 f145_L0 G lo x0 x1 x112 x3 x4 x139 x113 r146_121.2
 )
 )
 )
 )
 (
 G _ x10 true (some (x11, r52_82.2)) r52_82.2 fun x70 σ122 =>
 (pickV x10 x70 (DV.p (PV.bool false))).bind fun x71 =>
 G _ x71 true (some (x54, σ122)) σ122 fun x73 σ123 =>
 G _ x71 true ((binOp PP .eql 169 x73 I1).bind fun v => some (v, σ123)) σ123 fun x74 σ124 =>
 (pickV x71 x74 (DV.p (PV.bool false))).bind fun x75 =>
 condK x75
 (
 (plainFn CC lo (DV.fn 159 []) [x0, x1, x2, x4] σ124).bind fun r80_125 =>
 condK r80_125.1
 (
 some ((DV.tuple []), r80_125.2)
 )
 (
 (binOp PP .gtr 3 x1 I0).bind fun x82 =>
 G _ x82 true (some (x4, r80_125.2)) r80_125.2 fun x84 σ126 =>
 G _ x82 true (some (x0, σ126)) σ126 fun x85 σ127 =>
 G _ x82 true (some (x1, σ127)) σ127 fun x86 σ128 =>
 G _ x82 true ((binOp PP .sub 3 x86 I1).bind fun v => some (v, σ128)) σ128 fun x87 σ129 =>
 G _ x82 true ((indexAddr PP 23 x85 x87).bind fun v => some (v, σ129)) σ129 fun x88 σ130 =>
 G _ x82 true ((load PP 69 x88 σ130).bind fun v => some (v, σ130)) σ130 fun x89 σ131 =>
 G _ x82 true (some (x0, σ131)) σ131 fun x90 σ132 =>
 G _ x82 true (some (x53, σ132)) σ132 fun x91 σ133 =>
 G _ x82 true ((indexAddr PP 23 x90 x91).bind fun v => some (v, σ133)) σ133 fun x92 σ134 =>
 G _ x82 true ((load PP 69 x92 σ134).bind fun v => some (v, σ134)) σ134 fun x93 σ135 =>
 G _ x82 true ((pureFn CC x84 [x89, x93] σ135).bind fun v => some (v, σ135)) σ135 fun x94 σ136 =>
 G _ x82 true ((binOp PP .lss 3 x94 I0).bind fun v => some (v, σ136)) σ136 fun x95 σ137 =>
 G _ x82 true ((unOp .not x95).bind fun v => some (v, σ137)) σ137 fun x96 σ138 =>
 (pickV x82 x96 (DV.p (PV.bool false))).bind fun x97 =>
 condK x97
 (
 (plainFn CC lo (DV.fn 160 []) [x0, x1, x2, x53, x4] σ138).bind fun r103_139 =>
 f145_L0 G lo x0 r103_139.1 x2 x3 x4 x10 x11 r103_139.2
 )
 (
 (plainFn CC lo (DV.fn 161 []) [x0, x1, x2, x53, x4] σ138).bind fun r111_140 =>
 (extractV r111_140.1 0).bind fun x112 =>
 (extractV r111_140.1 1).bind fun x113 =>
 (binOp PP .sub 3 x112 x1).bind fun x117 =>
 (binOp PP .sub 3 x2 x112).bind fun x120 =>
 (binOp PP .quo 3 x23 (DV.p (PV.int IntKind.i64 (8)))).bind fun x122 =>
 (binOp PP .lss 3 x117 x120).bind fun x125 =>
 condK x125
 (
 (binOp PP .geq 3 x117 x122).bind fun x128 =>
 (plainFn CC lo (DV.fn 145 []) [x0, x1, x112, x3, x4] r111_140.2).bind fun r134_141 =>
 (binOp PP .add 3 x112 I1).bind fun x136 =>
 f145_L0 G lo x0 x136 x2 x3 x4 x128 x113 r134_141.2
 )
 (
 (binOp PP .geq 3 x120 x122).bind fun x139 =>
 (binOp PP .add 3 x112 I1).bind fun x142 =>
 (plainFn CC lo (DV.fn 145 []) [x0, x142, x2, x3, x4] r111_140.2).bind fun r146_142 =>
 f145_L0 G lo x0 x1 x112 x3 x4 x139 x113 r146_142.2
 )
 )
 )
 )
 (
 (binOp PP .gtr 3 x1 I0).bind fun x82 =>
 G _ x82 true (some (x4, σ124)) σ124 fun x84 σ143 =>
 G _ x82 true (some (x0, σ143)) σ143 fun x85 σ144 =>
 G _ x82 true (some (x1, σ144)) σ144 fun x86 σ145 =>
 G _ x82 true ((binOp PP .sub 3 x86 I1).bind fun v => some (v, σ145)) σ145 fun x87 σ146 =>
 G _ x82 true ((indexAddr PP 23 x85 x87).bind fun v => some (v, σ146)) σ146 fun x88 σ147 =>
 G _ x82 true ((load PP 69 x88 σ147).bind fun v => some (v, σ147)) σ147 fun x89 σ148 =>
 G _ x82 true (some (x0, σ148)) σ148 fun x90 σ149 =>
 G _ x82 true (some (x53, σ149)) σ149 fun x91 σ150 =>
 G _ x82 true ((indexAddr PP 23 x90 x91).bind fun v => some (v, σ150)) σ150 fun x92 σ151 =>
 G _ x82 true ((load PP 69 x92 σ151).bind fun v => some (v, σ151)) σ151 fun x93 σ152 =>
 G _ x82 true ((pureFn CC x84 [x89, x93] σ152).bind fun v => some (v, σ152)) σ152 fun x94 σ153 =>
 G _ x82 true ((binOp PP .lss 3 x94 I0).bind fun v => some (v, σ153)) σ153 fun x95 σ154 =>
 G _ x82 true ((unOp .not x95).bind fun v => some (v, σ154)) σ154 fun x96 σ155 =>
 (pickV x82 x96 (DV.p (PV.bool false))).bind fun x97 =>
 condK x97
 (
 (plainFn CC lo (DV.fn 160 []) [x0, x1, x2, x53, x4] σ155).bind fun r103_156 =>
 f145_L0 G lo x0 r103_156.1 x2 x3 x4 x10 x11 r103_156.2
 )
 (
 (plainFn CC lo (DV.fn 161 []) [x0, x1, x2, x53, x4] σ155).bind fun r111_157 =>
 (extractV r111_157.1 0).bind fun x112 =>
 (extractV r111_157.1 1).bind fun x113 =>
 (binOp PP .sub 3 x112 x1).bind fun x117 =>
 (binOp PP .sub 3 x2 x112).bind fun x120 =>
 (binOp PP .quo 3 x23 (DV.p (PV.int IntKind.i64 (8)))).bind fun x122 =>
 (binOp PP .lss 3 x117 x120).bind fun x125 =>
 condK x125
 (
 (binOp PP .geq 3 x117 x122).bind fun x128 =>
 (plainFn CC lo (DV.fn 145 []) [x0, x1, x112, x3, x4] r111_157.2).bind fun r134_158 =>
 (binOp PP .add 3 x112 I1).bind fun x136 =>
 f145_L0 G lo x0 x136 x2 x3 x4 x128 x113 r134_158.2
 )
 (
 (binOp PP .geq 3 x120 x122).bind fun x139 =>
 (binOp PP .add 3 x112 I1).bind fun x142 =>
 (plainFn CC lo (DV.fn 145 []) [x0, x142, x2, x3, x4] r111_157.2).bind fun r146_159 =>
 f145_L0 G lo x0 x1 x112 x3 x4 x139 x113 r146_159.2
 )
 )
 )
 )
 )
 )
 ) := (loopF_eq G hG).trans (by kernel_rfl)
theorem f145_L0_eq (G : GuardT) (hG : GuardOk G) (lo : Nat) (x0 x1 x2 x3 x4 x10 x11 : DV) (σ : Store) : f145_L0 G lo x0 x1 x2 x3 x4 x10 x11 σ =
 (binOp PP .sub 3 x2 x1).bind fun x23 =>
 (binOp PP .leq 3 x23 (DV.p (PV.int IntKind.i64 (12)))).bind fun x25 =>
 condK x25
 (
 (plainFn CC lo (DV.fn 154 []) [x0, x1, x2, x4] σ).bind fun r30_1 =>
 some ((DV.tuple []), r30_1.2)
 )
 (
 (binOp PP .eql 3 x3 I0).bind fun x32 =>
 condK x32
 (
 (plainFn CC lo (DV.fn 155 []) [x0, x1, x2, x4] σ).bind fun r37_2 =>
 some ((DV.tuple []), r37_2.2)
 )
 (
 (unOp .not x10).bind fun x39 =>
 condK x39
 (
 (plainFn CC lo (DV.fn 156 []) [x0, x1, x2, x4] σ).bind fun r44_3 =>
 (binOp PP .sub 3 x3 I1).bind fun x46 =>
 f145_J0 G lo x0 x1 x2 x46 x4 x10 x11 x23 x2 x1 x23 x23 x25 x3 x32 x10 x39 x0 x1 x2 x4 r44_3.1 x3 x46 r44_3.2
 )
 (
 f145_J0 G lo x0 x1 x2 x3 x4 x10 x11 x23 x2 x1 x23 x23 x25 x3 x32 x10 x39 Z Z Z Z Z Z Z σ
 )
 )
 ) := (f145_L0_eqN G hG lo x0 x1 x2 x3 x4 x10 x11 σ).trans (by simp only [f145_J0_eq, f145_J1_eq, f145_J2_eq])
theorem F145_eq (G : GuardT) (lo : Nat) (x0 x1 x2 x3 x4 : DV) (σ : Store) : F145 G lo x0 x1 x2 x3 x4 σ =
 f145_L0 G lo x0 x1 x2 x3 x4 (DV.p (PV.bool true)) (DV.p (PV.bool true)) σ := by kernel_rfl
theorem F145_call {lo : Nat} {x0 x1 x2 x3 x4 : DV} (h : F145 guardT lo x0 x1 x2 x3 x4 σ = some r) : CC lo 145 [x0, x1, x2, x3, x4] σ = some r :=
 callL_run Tryz.func145 (by decide +kernel) rfl (by decide +kernel) h
def c154_0 : Code := bodyOf Tryz.f154
def a154_0 : Ann := (pol 154).ann
def a154_2 : Ann := right a154_0
def a154_3 : Ann := left a154_2
def c154_4 : Code := fstC (fstC (sndC c154_0))
def a154_11 : Ann := left (right (left a154_3))
def a154_14 : Ann := right (left a154_11)
def a154_15 : Ann := left a154_14
def c154_16 : Code := fstC (fstC (sndC (fstC (fstC (sndC c154_4)))))
def c154_26 : Code := sndC (sndC c154_4)
def a154_26 : Ann := right (right (left a154_3))
def f154_L0 (x0 x1 x2 x3 x8 : DV) (σ : Store) : RS :=
 codeF G PP (pol 154) CC lo (.loop c154_4) a154_3 (x0 :: x1 :: x2 :: x3 :: Z :: Z :: Z :: Z :: x8 :: zn 44 []) σ
 (blockC 0 a154_2 (finR PP Tryz.f154.results.toList))
def f154_L1 (x0 x1 x2 x3 x8 x9 : DV) (σ : Store) : RS :=
 codeF G PP (pol 154) CC lo (.loop c154_16) a154_15 (x0 :: x1 :: x2 :: x3 :: Z :: Z :: Z :: Z :: x8 :: x9 :: zn 43 []) σ
 (blockC 2 a154_14 (blockC 1 a154_11 (seqC G PP (pol 154) CC lo c154_26 a154_26 (loopC G PP (pol 154) CC lo c154_4 a154_3 (blockC 0 a154_2 (finR PP Tryz.f154.results.toList))))))
def F154 (x0 x1 x2 x3 : DV) (σ : Store) : RS :=
 codeF G PP (pol 154) CC lo c154_0 a154_0 (x0 :: x1 :: x2 :: x3 :: zn 49 []) σ (finR PP Tryz.f154.results.toList)
theorem f154_L0_eq (G : GuardT) (hG : GuardOk G) (lo : Nat) (x0 x1 x2 x3 x8 : DV) (σ : Store) : f154_L0 G lo x0 x1 x2 x3 x8 σ =
 (binOp PP .lss 3 x8 x2).bind fun x14 =>
 condK x14
 (
 f154_L1 G lo x0 x1 x2 x3 x8 x8 σ
 )
 (
 some ((DV.tuple []), σ)
 ) := (loopF_eq G hG).trans (by kernel_rfl)
theorem f154_L1_eq (G : GuardT) (hG : GuardOk G) (lo : Nat) (x0 x1 x2 x3 x8 x9 : DV) (σ : Store) : f154_L1 G lo x0 x1 x2 x3 x8 x9 σ =
 (binOp PP .gtr 3 x9 x1).bind fun x20 =>
 G _ x20 true (some (x3, σ)) σ fun x22 σ1 =>
 G _ x20 true (some (x0, σ1)) σ1 fun x23 σ2 =>
 G _ x20 true (some (x9, σ2)) σ2 fun x24 σ3 =>
 G _ x20 true ((indexAddr PP 23 x23 x24).bind fun v => some (v, σ3)) σ3 fun x25 σ4 =>
 G _ x20 true ((load PP 69 x25 σ4).bind fun v => some (v, σ4)) σ4 fun x26 σ5 =>
 G _ x20 true (some (x0, σ5)) σ5 fun x27 σ6 =>
 G _ x20 true (some (x9, σ6)) σ6 fun x28 σ7 =>
 G _ x20 true ((binOp PP .sub 3 x28 I1).bind fun v => some (v, σ7)) σ7 fun x29 σ8 =>
 G _ x20 true ((indexAddr PP 23 x27 x29).bind fun v => some (v, σ8)) σ8 fun x30 σ9 =>
 G _ x20 true ((load PP 69 x30 σ9).bind fun v => some (v, σ9)) σ9 fun x31 σ10 =>
 G _ x20 true ((pureFn CC x22 [x26, x31] σ10).bind fun v => some (v, σ10)) σ10 fun x32 σ11 =>
 G _ x20 true ((binOp PP .lss 3 x32 I0).bind fun v => some (v, σ11)) σ11 fun x33 σ12 =>
 (pickV x20 x33 (DV.p (PV.bool false))).bind fun x34 =>
 condK x34
 (
 (binOp PP .sub 3 x9 I1).bind fun x41 =>
 (binOp PP .sub 3 x9 I1).bind fun x44 =>
 (indexAddr PP 23 x0 x44).bind fun x45 =>
 (load PP 69 x45 σ12).bind fun x46 =>
 (indexAddr PP 23 x0 x9).bind fun x49 =>
 (load PP 69 x49 σ12).bind fun x50 =>
 (indexAddr PP 23 x0 x9).bind fun x51 =>
 (store PP lo 69 x51 x46 σ12).bind fun σ13 =>
 (indexAddr PP 23 x0 x41).bind fun x52 =>
 (store PP lo 69 x52 x50 σ13).bind fun σ14 =>
 (binOp PP .sub 3 x9 I1).bind fun x36 =>
 f154_L1 G lo x0 x1 x2 x3 x8 x36 σ14
 )
 (
 (binOp PP .add 3 x8 I1).bind fun x16 =>
 f154_L0 G lo x0 x1 x2 x3 x16 σ12
 ) := (loopF_eq G hG).trans (by kernel_rfl)
theorem F154_eq (G : GuardT) (lo : Nat) (x0 x1 x2 x3 : DV) (σ : Store) : F154 G lo x0 x1 x2 x3 σ =
 (binOp PP .add 3 x1 I1).bind fun x11 =>
 f154_L0 G lo x0 x1 x2 x3 x11 σ := by kernel_rfl
theorem F154_call {lo : Nat} {x0 x1 x2 x3 : DV} (h : F154 guardT lo x0 x1 x2 x3 σ = some r) : CC lo 154 [x0, x1, x2, x3] σ = some r :=
 callL_run Tryz.func154 (by decide +kernel) rfl (by decide +kernel) h
def c155_0 : Code := bodyOf Tryz.f155
def a155_0 : Ann := (pol 155).ann
def a155_9 : Ann := right (left (right (right (right a155_0))))
def a155_10 : Ann := left a155_9
def c155_11 : Code := fstC (fstC (sndC (fstC (sndC (sndC (sndC c155_0))))))
def c155_21 : Code := sndC (sndC (sndC (sndC c155_0)))
def a155_21 : Ann := right (right (right (right a155_0)))
def a155_23 : Ann := right a155_21
def a155_24 : Ann := left a155_23
def c155_25 : Code := fstC (fstC (sndC c155_21))
def f155_L0 (x0 x3 x8 x9 x10 x11 : DV) (σ : Store) : RS :=
 codeF G PP (pol 155) CC lo (.loop c155_11) a155_10 (x0 :: Z :: Z :: x3 :: Z :: Z :: Z :: Z :: x8 :: x9 :: x10 :: x11 :: zn 48 []) σ
 (blockC 0 a155_9 (seqC G PP (pol 155) CC lo c155_21 a155_21 (finR PP Tryz.f155.results.toList)))
def f155_L1 (x0 x3 x8 x9 x12 : DV) (σ : Store) : RS :=
 codeF G PP (pol 155) CC lo (.loop c155_25) a155_24 (x0 :: Z :: Z :: x3 :: Z :: Z :: Z :: Z :: x8 :: x9 :: Z :: Z :: x12 :: zn 47 []) σ
 (blockC 2 a155_23 (finR PP Tryz.f155.results.toList))
def F155 (x0 x1 x2 x3 : DV) (σ : Store) : RS :=
 codeF G PP (pol 155) CC lo c155_0 a155_0 (x0 :: x1 :: x2 :: x3 :: zn 56 []) σ (finR PP Tryz.f155.results.toList)
theorem f155_L0_eq (G : GuardT) (hG : GuardOk G) (lo : Nat) (x0 x3 x8 x9 x10 x11 : DV) (σ : Store) : f155_L0 G lo x0 x3 x8 x9 x10 x11 σ =
 (binOp PP .geq 3 x11 I0).bind fun x21 =>
 condK x21
 (
 (plainFn CC lo (DV.fn 164 []) [x0, x11, x10, x8, x3] σ).bind fun r29_1 =>
 (binOp PP .sub 3 x11 I1).bind fun x23 =>
 f155_L0 G lo x0 x3 x8 x9 x10 x23 r29_1.2
 )
 (
 (binOp PP .sub 3 x10 I1).bind fun x31 =>
 f155_L1 G lo x0 x3 x8 x9 x31 σ
 ) := (loopF_eq G hG).trans (by kernel_rfl)
theorem f155_L1_eq (G : GuardT) (hG : GuardOk G) (lo : Nat) (x0 x3 x8 x9 x12 : DV) (σ : Store) : f155_L1 G lo x0 x3 x8 x9 x12 σ =
 (binOp PP .geq 3 x12 I0).bind fun x33 =>
 condK x33
 (
 (binOp PP .add 3 x8 x12).bind fun x41 =>
 (binOp PP .add 3 x8 x12).bind fun x45 =>
 (indexAddr PP 23 x0 x45).bind fun x46 =>
 (load PP 69 x46 σ).bind fun x47 =>
 (indexAddr PP 23 x0 x8).bind fun x50 =>
 (load PP 69 x50 σ).bind fun x51 =>
 (indexAddr PP 23 x0 x8).bind fun x52 =>
 (store PP lo 69 x52 x47 σ).bind fun σ2 =>
 (indexAddr PP 23 x0 x41).bind fun x53 =>
 (store PP lo 69 x53 x51 σ2).bind fun σ3 =>
 (plainFn CC lo (DV.fn 164 []) [x0, x9, x12, x8, x3] σ3).bind fun r59_4 =>
 (binOp PP .sub 3 x12 I1).bind fun x35 =>
 f155_L1 G lo x0 x3 x8 x9 x35 r59_4.2
 )
 (
 some ((DV.tuple []), σ)
 ) := (loopF_eq G hG).trans (by kernel_rfl)
theorem F155_eq (G : GuardT) (lo : Nat) (x0 x1 x2 x3 : DV) (σ : Store) : F155 G lo x0 x1 x2 x3 σ =
 (binOp PP .sub 3 x2 x1).bind fun x16 =>
 (binOp PP .sub 3 x16 I1).bind fun x18 =>
 (binOp PP .quo 3 x18 (DV.p (PV.int IntKind.i64 (2)))).bind fun x19 =>
 f155_L0 G lo x0 x3 x1 I0 x16 x19 σ := by kernel_rfl
theorem F155_call {lo : Nat} {x0 x1 x2 x3 : DV} (h : F155 guardT lo x0 x1 x2 x3 σ = some r) : CC lo 155 [x0, x1, x2, x3] σ = some r :=
 callL_run Tryz.func155 (by decide +kernel) rfl (by decide +kernel) h
def c164_0 : Code := bodyOf Tryz.f164
def a164_0 : Ann := (pol 164).ann
def a164_2 : Ann := right a164_0
def a164_3 : Ann := left a164_2
def c164_4 : Code := fstC (fstC (sndC c164_0))
def a164_4 : Ann := left a164_3
def c164_19 : Code := sndC (sndC (sndC (fstC c164_4)))
def a164_19 : Ann := right (right (right (left a164_4)))
def f164_L0 (x0 x2 x3 x4 x10 : DV) (σ : Store) : RS :=
 codeF G PP (pol 164) CC lo (.loop c164_4) a164_3 (x0 :: Z :: x2 :: x3 :: x4 :: zn 5 (x10 :: zn 71 [])) σ
 (blockC 0 a164_2 (finR PP Tryz.f164.results.toList))
def f164_J0_fr (x0 x2 x3 x4 x10 x11 x13 x14 x15 x16 x17 x18 x19 x20 x21 x22 x23 x24 x25 x26 x27 x28 x29 x30 x31 x32 x33 x34 x35 x36 x37 x38 x39 x40 x41 x42 : DV) : Frame := (x0 :: Z :: x2 :: x3 :: x4 :: zn 5 (x10 :: x11 :: Z :: x13 :: x14 :: x15 :: x16 :: x17 :: x18 :: x19 :: x20 :: x21 :: x22 :: x23 :: x24 :: x25 :: x26 :: x27 :: x28 :: x29 :: x30 :: x31 :: x32 :: x33 :: x34 :: x35 :: x36 :: x37 :: x38 :: x39 :: x40 :: x41 :: x42 :: zn 39 []))
def f164_J0 (x0 x2 x3 x4 x10 x11 x13 x14 x15 x16 x17 x18 x19 x20 x21 x22 x23 x24 x25 x26 x27 x28 x29 x30 x31 x32 x33 x34 x35 x36 x37 x38 x39 x40 x41 x42 : DV) (σ : Store) : RS :=
 (seqC G PP (pol 164) CC lo c164_19 a164_19 (blockC 1 a164_4 (loopC G PP (pol 164) CC lo c164_4 a164_3 (blockC 0 a164_2 (finR PP Tryz.f164.results.toList))))) .normal (f164_J0_fr x0 x2 x3 x4 x10 x11 x13 x14 x15 x16 x17 x18 x19 x20 x21 x22 x23 x24 x25 x26 x27 x28 x29 x30 x31 x32 x33 x34 x35 x36 x37 x38 x39 x40 x41 x42) σ
def F164 (x0 x1 x2 x3 x4 : DV) (σ : Store) : RS :=
 codeF G PP (pol 164) CC lo c164_0 a164_0 (x0 :: x1 :: x2 :: x3 :: x4 :: zn 77 []) σ (finR PP Tryz.f164.results.toList)
theorem f164_J0_eq (G : GuardT) (lo : Nat) (x0 x2 x3 x4 x10 x11 x13 x14 x15 x16 x17 x18 x19 x20 x21 x22 x23 x24 x25 x26 x27 x28 x29 x30 x31 x32 x33 x34 x35 x36 x37 x38 x39 x40 x41 x42 : DV) (σ : Store) : f164_J0 G lo x0 x2 x3 x4 x10 x11 x13 x14 x15 x16 x17 x18 x19 x20 x21 x22 x23 x24 x25 x26 x27 x28 x29 x30 x31 x32 x33 x34 x35 x36 x37 x38 x39 x40 x41 x42 σ =
 (binOp PP .add 3 x3 x10).bind fun x47 =>
 (indexAddr PP 23 x0 x47).bind fun x48 =>
 (load PP 69 x48 σ).bind fun x49 =>
 (binOp PP .add 3 x3 x11).bind fun x53 =>
 (indexAddr PP 23 x0 x53).bind fun x54 =>
 (load PP 69 x54 σ).bind fun x55 =>
 (pureFn CC x4 [x49, x55] σ).bind fun x56 =>
 (binOp PP .lss 3 x56 I0).bind fun x57 =>
 (unOp .not x57).bind fun x58 =>
 condK x58
 (
 some ((DV.tuple []), σ)
 )
 (
 (binOp PP .add 3 x3 x10).bind fun x62 =>
 (binOp PP .add 3 x3 x11).bind fun x66 =>
 (binOp PP .add 3 x3 x11).bind fun x70 =>
 (indexAddr PP 23 x0 x70).bind fun x71 =>
 (load PP 69 x71 σ).bind fun x72 =>
 (binOp PP .add 3 x3 x10).bind fun x76 =>
 (indexAddr PP 23 x0 x76).bind fun x77 =>
 (load PP 69 x77 σ).bind fun x78 =>
 (indexAddr PP 23 x0 x62).bind fun x79 =>
 (store PP lo 69 x79 x72 σ).bind fun σ17 =>
 (indexAddr PP 23 x0 x66).bind fun x80 =>
 (store PP lo 69 x80 x78 σ17).bind fun σ18 =>
 f164_L0 G lo x0 x2 x3 x4 x11 σ18
 ) := by kernel_rfl
theorem f164_L0_eqN (G : GuardT) (hG : GuardOk G) (lo : Nat) (x0 x2 x3 x4 x10 : DV) (σ : Store) : f164_L0 G lo x0 x2 x3 x4 x10 σ =
 (binOp PP .mul 3 (DV.p (PV.int IntKind.i64 (2))) x10).bind fun x14 =>
 (binOp PP .add 3 x14 I1).bind fun x15 =>
 (binOp PP .geq 3 x15 x2).bind fun x18 =>
 condK x18
 (
 some ((DV.tuple []), σ)
 )
 (
 (binOp PP .add 3 x15 I1).bind fun x20 =>
 (binOp PP .lss 3 x20 x2).bind fun x22 =>
 G _ x22 true (some (x4, σ)) σ fun x24 σ1 =>
 G _ x22 true (some (x0, σ1)) σ1 fun x25 σ2 =>
 G _ x22 true (some (x3, σ2)) σ2 fun x26 σ3 =>
 G _ x22 true (some (x15, σ3)) σ3 fun x27 σ4 =>
 G _ x22 true ((binOp PP .add 3 x26 x27).bind fun v => some (v, σ4)) σ4 fun x28 σ5 =>
 G _ x22 true ((indexAddr PP 23 x25 x28).bind fun v => some (v, σ5)) σ5 fun x29 σ6 =>
 G _ x22 true ((load PP 69 x29 σ6).bind fun v => some (v, σ6)) σ6 fun x30 σ7 =>
 G _ x22 true (some (x0, σ7)) σ7 fun x31 σ8 =>
 G _ x22 true (some (x3, σ8)) σ8 fun x32 σ9 =>
 G _ x22 true (some (x15, σ9)) σ9 fun x33 σ10 =>
 G _ x22 true ((binOp PP .add 3 x32 x33).bind fun v => some (v, σ10)) σ10 fun x34 σ11 =>
 G _ x22 true ((binOp PP .add 3 x34 I1).bind fun v => some (v, σ11)) σ11 fun x35 σ12 =>
 G _ x22 true ((indexAddr PP 23 x31 x35).bind fun v => some (v, σ12)) σ12 fun x36 σ13 =>
 G _ x22 true ((load PP 69 x36 σ13).bind fun v => some (v, σ13)) σ13 fun x37 σ14 =>
 G _ x22 true ((pureFn CC x24 [x30, x37] σ14).bind fun v => some (v, σ14)) σ14 fun x38 σ15 =>
 G _ x22 true ((binOp PP .lss 3 x38 I0).bind fun v => some (v, σ15)) σ15 fun x39 σ16 =>
 (pickV x22 x39 (DV.p (PV.bool false))).bind fun x40 =>
 condK x40
 (
 (binOp PP .add 3 x15 I1).bind fun x42 =>
 (binOp PP .add 3 x3 x10).bind fun x47 =>
 (indexAddr PP 23 x0 x47).bind fun x48 =>
 (load PP 69 x48 σ16).bind fun x49 =>
 (binOp PP .add 3 x3 x42).bind fun x53 =>
 (indexAddr PP 23 x0 x53).bind fun x54 =>
 (load PP 69 x54 σ16).bind fun x55 =>
 (pureFn CC x4 [x49, x55] σ16).bind fun x56 =>
 (binOp PP .lss 3 x56 I0).bind fun x57 =>
 (unOp .not x57).bind fun x58 =>
 condK x58
 (
 some ((DV.tuple []), σ16)
 )
 (
 (binOp PP .add 3 x3 x10).bind fun x62 =>
 (binOp PP .add 3 x3 x42).bind fun x66 =>
 (binOp PP .add 3 x3 x42).bind fun x70 =>
 (indexAddr PP 23 x0 x70).bind fun x71 =>
 (load PP 69 x71 σ16).bind fun x72 =>
 (binOp PP .add 3 x3 x10).bind fun x76 =>
 (indexAddr PP 23 x0 x76).bind fun x77 =>
 (load PP 69 x77 σ16).bind fun x78 =>
 (indexAddr PP 23 x0 x62).bind fun x79 =>
 (store PP lo 69 x79 x72 σ16).bind fun σ17 =>
 (indexAddr PP 23 x0 x66).bind fun x80 =>
 (store PP lo 69 x80 x78 σ17).bind fun σ18 =>
 f164_L0 G lo x0 x2 x3 x4 x42 σ18
 )
 )
 (
 (binOp PP .add 3 x3 x10).bind fun x47 =>
 (indexAddr PP 23 x0 x47).bind fun x48 =>
 (load PP 69 x48 σ16).bind fun x49 =>
 (binOp PP .add 3 x3 x15).bind fun x53 =>
 (indexAddr PP 23 x0 x53).bind fun x54 =>
 (load PP 69 x54 σ16).bind fun x55 =>
 (pureFn CC x4 [x49, x55] σ16).bind fun x56 =>
 (binOp PP .lss 3 x56 I0).bind fun x57 =>
 (unOp .not x57).bind fun x58 =>
 condK x58
 (
 some ((DV.tuple []), σ16)
 )
 (
 (binOp PP .add 3 x3 x10).bind fun x62 =>
 (binOp PP .add 3 x3 x15).bind fun x66 =>
 (binOp PP .add 3 x3 x15).bind fun x70 =>
 (indexAddr PP 23 x0 x70).bind fun x71 =>
 (load PP 69 x71 σ16).bind fun x72 =>
 (binOp PP .add 3 x3 x10).bind fun x76 =>
 (indexAddr PP 23 x0 x76).bind fun x77 =>
 (load PP 69 x77 σ16).bind fun x78 =>
 (indexAddr PP 23 x0 x62).bind fun x79 =>
 (store PP lo 69 x79 x72 σ16).bind fun σ19 =>
 (indexAddr PP 23 x0 x66).bind fun x80 =>
 (store PP lo 69 x80 x78 σ19).bind fun σ20 =>
 f164_L0 G lo x0 x2 x3 x4 x15 σ20
 )
 )
 ) := (loopF_eq G hG).trans (by kernel_rfl)
theorem f164_L0_eq (G : GuardT) (hG : GuardOk G) (lo : Nat) (x0 x2 x3 x4 x10 : DV) (σ : Store) : f164_L0 G lo x0 x2 x3 x4 x10 σ =
 (binOp PP .mul 3 (DV.p (PV.int IntKind.i64 (2))) x10).bind fun x14 =>
 (binOp PP .add 3 x14 I1).bind fun x15 =>
 (binOp PP .geq 3 x15 x2).bind fun x18 =>
 condK x18
 (
 some ((DV.tuple []), σ)
 )
 (
 (binOp PP .add 3 x15 I1).bind fun x20 =>
 (binOp PP .lss 3 x20 x2).bind fun x22 =>
 G _ x22 true (some (x4, σ)) σ fun x24 σ1 =>
 G _ x22 true (some (x0, σ1)) σ1 fun x25 σ2 =>
 G _ x22 true (some (x3, σ2)) σ2 fun x26 σ3 =>
 G _ x22 true (some (x15, σ3)) σ3 fun x27 σ4 =>
 G _ x22 true ((binOp PP .add 3 x26 x27).bind fun v => some (v, σ4)) σ4 fun x28 σ5 =>
 G _ x22 true ((indexAddr PP 23 x25 x28).bind fun v => some (v, σ5)) σ5 fun x29 σ6 =>
 G _ x22 true ((load PP 69 x29 σ6).bind fun v => some (v, σ6)) σ6 fun x30 σ7 =>
 G _ x22 true (some (x0, σ7)) σ7 fun x31 σ8 =>
 G _ x22 true (some (x3, σ8)) σ8 fun x32 σ9 =>
 G _ x22 true (some (x15, σ9)) σ9 fun x33 σ10 =>
 G _ x22 true ((binOp PP .add 3 x32 x33).bind fun v => some (v, σ10)) σ10 fun x34 σ11 =>
 G _ x22 true ((binOp PP .add 3 x34 I1).bind fun v => some (v, σ11)) σ11 fun x35 σ12 =>
 G _ x22 true ((indexAddr PP 23 x31 x35).bind fun v => some (v, σ12)) σ12 fun x36 σ13 =>
 G _ x22 true ((load PP 69 x36 σ13).bind fun v => some (v, σ13)) σ13 fun x37 σ14 =>
 G _ x22 true ((pureFn CC x24 [x30, x37] σ14).bind fun v => some (v, σ14)) σ14 fun x38 σ15 =>
 G _ x22 true ((binOp PP .lss 3 x38 I0).bind fun v => some (v, σ15)) σ15 fun x39 σ16 =>
 (pickV x22 x39 (DV.p (PV.bool false))).bind fun x40 =>
 condK x40
 (
 (binOp PP .add 3 x15 I1).bind fun x42 =>
 f164_J0 G lo x0 x2 x3 x4 x10 x42 x10 x14 x15 x15 x2 x18 x15 x20 x2 x22 x22 x24 x25 x26 x27 x28 x29 x30 x31 x32 x33 x34 x35 x36 x37 x38 x39 x40 x15 x42 σ16
 )
 (
 f164_J0 G lo x0 x2 x3 x4 x10 x15 x10 x14 x15 x15 x2 x18 x15 x20 x2 x22 x22 x24 x25 x26 x27 x28 x29 x30 x31 x32 x33 x34 x35 x36 x37 x38 x39 x40 Z Z σ16
 )
 ) := (f164_L0_eqN G hG lo x0 x2 x3 x4 x10 σ).trans (by simp only [f164_J0_eq])
theorem F164_eq (G : GuardT) (lo : Nat) (x0 x1 x2 x3 x4 : DV) (σ : Store) : F164 G lo x0 x1 x2 x3 x4 σ =
 f164_L0 G lo x0 x2 x3 x4 x1 σ := by kernel_rfl
theorem F164_call {lo : Nat} {x0 x1 x2 x3 x4 : DV} (h : F164 guardT lo x0 x1 x2 x3 x4 σ = some r) : CC lo 164 [x0, x1, x2, x3, x4] σ = some r :=
 callL_run Tryz.func164 (by decide +kernel) rfl (by decide +kernel) h
def c156_0 : Code := bodyOf Tryz.f156
def a156_0 : Ann := (pol 156).ann
def a156_11 : Ann := right (right (right (left (right (right a156_0)))))
def a156_12 : Ann := left a156_11
def c156_13 : Code := fstC (fstC (sndC (sndC (sndC (fstC (sndC (sndC c156_0)))))))
def a156_20 : Ann := left (right (left a156_12))
def c156_29 : Code := sndC (sndC (fstC (fstC (sndC c156_13))))
def a156_29 : Ann := right (right (left a156_20))
def c156_30 : Code := sndC (sndC c156_13)
def a156_30 : Ann := right (right (left a156_12))
def f156_L0 (x0 x1 x8 x9 x10 x11 : DV) (σ : Store) : RS :=
 codeF G PP (pol 156) CC lo (.loop c156_13) a156_12 (x0 :: x1 :: zn 6 (x8 :: x9 :: x10 :: x11 :: zn 55 [])) σ
 (blockC 0 a156_11 (finR PP Tryz.f156.results.toList))
def f156_J0_fr (x0 x1 x8 x9 x10 x11 x12 x28 x29 x30 x31 x32 x33 x34 x35 x38 x39 x40 x41 x42 x43 x44 x45 x46 x47 x48 : DV) : Frame := (x0 :: x1 :: zn 6 (x8 :: x9 :: x10 :: x11 :: x12 :: zn 15 (x28 :: x29 :: x30 :: x31 :: x32 :: x33 :: x34 :: x35 :: Z :: Z :: x38 :: x39 :: x40 :: x41 :: x42 :: x43 :: x44 :: x45 :: x46 :: x47 :: x48 :: zn 18 [])))
def f156_J0 (x0 x1 x8 x9 x10 x11 x12 x28 x29 x30 x31 x32 x33 x34 x35 x38 x39 x40 x41 x42 x43 x44 x45 x46 x47 x48 : DV) (σ : Store) : RS :=
 (seqC G PP (pol 156) CC lo c156_29 a156_29 (blockC 1 a156_20 (seqC G PP (pol 156) CC lo c156_30 a156_30 (loopC G PP (pol 156) CC lo c156_13 a156_12 (blockC 0 a156_11 (finR PP Tryz.f156.results.toList)))))) .normal (f156_J0_fr x0 x1 x8 x9 x10 x11 x12 x28 x29 x30 x31 x32 x33 x34 x35 x38 x39 x40 x41 x42 x43 x44 x45 x46 x47 x48) σ
def F156 (x0 x1 x2 x3 : DV) (σ : Store) : RS :=
 codeF G PP (pol 156) CC lo c156_0 a156_0 (x0 :: x1 :: x2 :: x3 :: zn 63 []) σ (finR PP Tryz.f156.results.toList)
theorem f156_J0_eq (G : GuardT) (lo : Nat) (x0 x1 x8 x9 x10 x11 x12 x28 x29 x30 x31 x32 x33 x34 x35 x38 x39 x40 x41 x42 x43 x44 x45 x46 x47 x48 : DV) (σ : Store) : f156_J0 G lo x0 x1 x8 x9 x10 x11 x12 x28 x29 x30 x31 x32 x33 x34 x35 x38 x39 x40 x41 x42 x43 x44 x45 x46 x47 x48 σ =
 (binOp PP .add 3 x1 x12).bind fun x54 =>
 (binOp PP .add 3 x1 x12).bind fun x58 =>
 (indexAddr PP 23 x0 x58).bind fun x59 =>
 (load PP 69 x59 σ).bind fun x60 =>
 (indexAddr PP 23 x0 x11).bind fun x63 =>
 (load PP 69 x63 σ).bind fun x64 =>
 (indexAddr PP 23 x0 x11).bind fun x65 =>
 (store PP lo 69 x65 x60 σ).bind fun σ3 =>
 (indexAddr PP 23 x0 x54).bind fun x66 =>
 (store PP lo 69 x66 x64 σ3).bind fun σ4 =>
 (binOp PP .add 3 x11 I1).bind fun x37 =>
 f156_L0 G lo x0 x1 x8 x9 x10 x37 σ4 := by kernel_rfl
theorem f156_L0_eqN (G : GuardT) (hG : GuardOk G) (lo : Nat) (x0 x1 x8 x9 x10 x11 : DV) (σ : Store) : f156_L0 G lo x0 x1 x8 x9 x10 x11 σ =
 (binOp PP .quo 3 x8 (DV.p (PV.int IntKind.i64 (4)))).bind fun x31 =>
 (binOp PP .mul 3 x31 (DV.p (PV.int IntKind.i64 (2)))).bind fun x32 =>
 (binOp PP .add 3 x1 x32).bind fun x33 =>
 (binOp PP .add 3 x33 I1).bind fun x34 =>
 (binOp PP .leq 3 x11 x34).bind fun x35 =>
 condK x35
 (
 (plainFn CC lo (DV.fn 148 []) [x9] σ).bind fun r38_2 =>
 (binOp PP .sub 165 x10 (DV.p (PV.int IntKind.u64 (1)))).bind fun x40 =>
 (binOp PP .and 165 r38_2.1 x40).bind fun x41 =>
 (convert PP 165 3 x41).bind fun x42 =>
 (binOp PP .geq 3 x42 x8).bind fun x45 =>
 condK x45
 (
 (binOp PP .sub 3 x42 x8).bind fun x48 =>
 (binOp PP .add 3 x1 x48).bind fun x54 =>
 (binOp PP .add 3 x1 x48).bind fun x58 =>
 (indexAddr PP 23 x0 x58).bind fun x59 =>
 (load PP 69 x59 r38_2.2).bind fun x60 =>
 (indexAddr PP 23 x0 x11).bind fun x63 =>
 (load PP 69 x63 r38_2.2).bind fun x64 =>
 (indexAddr PP 23 x0 x11).bind fun x65 =>
 (store PP lo 69 x65 x60 r38_2.2).bind fun σ3 =>
 (indexAddr PP 23 x0 x54).bind fun x66 =>
 (store PP lo 69 x66 x64 σ3).bind fun σ4 =>
 (binOp PP .add 3 x11 I1).bind fun x37 =>
 f156_L0 G lo x0 x1 x8 x9 x10 x37 σ4
 )
 (
 (binOp PP .add 3 x1 x42).bind fun x54 =>
 (binOp PP .add 3 x1 x42).bind fun x58 =>
 (indexAddr PP 23 x0 x58).bind fun x59 =>
 (load PP 69 x59 r38_2.2).bind fun x60 =>
 (indexAddr PP 23 x0 x11).bind fun x63 =>
 (load PP 69 x63 r38_2.2).bind fun x64 =>
 (indexAddr PP 23 x0 x11).bind fun x65 =>
 (store PP lo 69 x65 x60 r38_2.2).bind fun σ5 =>
 (indexAddr PP 23 x0 x54).bind fun x66 =>
 (store PP lo 69 x66 x64 σ5).bind fun σ6 =>
 (binOp PP .add 3 x11 I1).bind fun x37 =>
 f156_L0 G lo x0 x1 x8 x9 x10 x37 σ6
 )
 )
 (
 some ((DV.tuple []), σ)
 ) := (loopF_eq G hG).trans (by kernel_rfl)
theorem f156_L0_eq (G : GuardT) (hG : GuardOk G) (lo : Nat) (x0 x1 x8 x9 x10 x11 : DV) (σ : Store) : f156_L0 G lo x0 x1 x8 x9 x10 x11 σ =
 (binOp PP .quo 3 x8 (DV.p (PV.int IntKind.i64 (4)))).bind fun x31 =>
 (binOp PP .mul 3 x31 (DV.p (PV.int IntKind.i64 (2)))).bind fun x32 =>
 (binOp PP .add 3 x1 x32).bind fun x33 =>
 (binOp PP .add 3 x33 I1).bind fun x34 =>
 (binOp PP .leq 3 x11 x34).bind fun x35 =>
 condK x35
 (
 (plainFn CC lo (DV.fn 148 []) [x9] σ).bind fun r38_2 =>
 (binOp PP .sub 165 x10 (DV.p (PV.int IntKind.u64 (1)))).bind fun x40 =>
 (binOp PP .and 165 r38_2.1 x40).bind fun x41 =>
 (convert PP 165 3 x41).bind fun x42 =>
 (binOp PP .geq 3 x42 x8).bind fun x45 =>
 condK x45
 (
 (binOp PP .sub 3 x42 x8).bind fun x48 =>
 f156_J0 G lo x0 x1 x8 x9 x10 x11 x48 x11 x1 x8 x31 x32 x33 x34 x35 r38_2.1 x10 x40 x41 x42 x42 x8 x45 x42 x8 x48 r38_2.2
 )
 (
 f156_J0 G lo x0 x1 x8 x9 x10 x11 x42 x11 x1 x8 x31 x32 x33 x34 x35 r38_2.1 x10 x40 x41 x42 x42 x8 x45 Z Z Z r38_2.2
 )
 )
 (
 some ((DV.tuple []), σ)
 ) := (f156_L0_eqN G hG lo x0 x1 x8 x9 x10 x11 σ).trans (by simp only [f156_J0_eq])
theorem F156_eq (G : GuardT) (lo : Nat) (x0 x1 x2 x3 : DV) (σ : Store) : F156 G lo x0 x1 x2 x3 σ =
 (binOp PP .sub 3 x2 x1).bind fun x15 =>
 (binOp PP .geq 3 x15 (DV.p (PV.int IntKind.i64 (8)))).bind fun x17 =>
 condK x17
 (
 (convert PP 3 185 x15).bind fun x19 =>
 (zeroOf PP 185).bind fun z9 =>
 (store PP lo 185 (DV.ptr (List.length σ) 0) x19 (σ ++ [Row.mix z9])).bind fun σ1 =>
 (pureFn CC (DV.fn 147 []) [x15] σ1).bind fun x21 =>
 (binOp PP .quo 3 x15 (DV.p (PV.int IntKind.i64 (4)))).bind fun x24 =>
 (binOp PP .mul 3 x24 (DV.p (PV.int IntKind.i64 (2)))).bind fun x25 =>
 (binOp PP .add 3 x1 x25).bind fun x26 =>
 (binOp PP .sub 3 x26 I1).bind fun x27 =>
 f156_L0 G lo x0 x1 x15 (DV.ptr (List.length σ) 0) x21 x27 σ1
 )
 (
 some ((DV.tuple []), σ)
 ) := by kernel_rfl
theorem F156_call {lo : Nat} {x0 x1 x2 x3 : DV} (h : F156 guardT lo x0 x1 x2 x3 σ = some r) : CC lo 156 [x0, x1, x2, x3] σ = some r :=
 callL_run Tryz.func156 (by decide +kernel) rfl (by decide +kernel) h
def c157_0 : Code := bodyOf Tryz.f157
def a157_0 : Ann := (pol 157).ann
def c157_26 : Code := sndC (fstC (sndC (fstC (sndC (sndC (sndC (sndC (sndC (sndC c157_0)))))))))
def a157_26 : Ann := right (left (right (left (right (right (right (right (right (right a157_0)))))))))
def c157_28 : Code := sndC (sndC (sndC (sndC (sndC (sndC (sndC c157_0))))))
def a157_28 : Ann := right (right (right (right (right (right (right a157_0))))))
def f157_J0_fr (x0 x1 x2 x3 x8 x9 x10 x11 x12 x13 x14 x15 x16 x17 x18 x19 x20 x21 x22 x23 x24 x25 x26 x27 x28 x29 x30 x31 x32 x33 x34 x35 x36 x37 x38 x39 x40 x41 x42 x43 x44 x45 x46 x47 x48 : DV) : Frame := (x0 :: x1 :: x2 :: x3 :: Z :: Z :: Z :: Z :: x8 :: x9 :: x10 :: x11 :: x12 :: x13 :: x14 :: x15 :: x16 :: x17 :: x18 :: x19 :: x20 :: x21 :: x22 :: x23 :: x24 :: x25 :: x26 :: x27 :: x28 :: x29 :: x30 :: x31 :: x32 :: x33 :: x34 :: x35 :: x36 :: x37 :: x38 :: x39 :: x40 :: x41 :: x42 :: x43 :: x44 :: x45 :: x46 :: x47 :: x48 :: zn 14 [])
def f157_J0 (x0 x1 x2 x3 x8 x9 x10 x11 x12 x13 x14 x15 x16 x17 x18 x19 x20 x21 x22 x23 x24 x25 x26 x27 x28 x29 x30 x31 x32 x33 x34 x35 x36 x37 x38 x39 x40 x41 x42 x43 x44 x45 x46 x47 x48 : DV) (σ : Store) : RS :=
 (seqC G PP (pol 157) CC lo c157_26 a157_26 (seqC G PP (pol 157) CC lo c157_28 a157_28 (finR PP Tryz.f157.results.toList))) .normal (f157_J0_fr x0 x1 x2 x3 x8 x9 x10 x11 x12 x13 x14 x15 x16 x17 x18 x19 x20 x21 x22 x23 x24 x25 x26 x27 x28 x29 x30 x31 x32 x33 x34 x35 x36 x37 x38 x39 x40 x41 x42 x43 x44 x45 x46 x47 x48) σ
def f157_J1_fr (x0 x1 x2 x3 x8 x9 x10 x11 x12 x13 x14 x15 x16 x17 x18 x19 x20 x21 x22 x23 x24 x25 x26 x27 x28 x29 x30 x31 x32 x33 x34 x35 x36 x37 x38 x39 x40 x41 x42 x43 x44 x45 x46 x47 x48 x49 x50 x51 x52 x53 x54 : DV) : Frame := (x0 :: x1 :: x2 :: x3 :: Z :: Z :: Z :: Z :: x8 :: x9 :: x10 :: x11 :: x12 :: x13 :: x14 :: x15 :: x16 :: x17 :: x18 :: x19 :: x20 :: x21 :: x22 :: x23 :: x24 :: x25 :: x26 :: x27 :: x28 :: x29 :: x30 :: x31 :: x32 :: x33 :: x34 :: x35 :: x36 :: x37 :: x38 :: x39 :: x40 :: x41 :: x42 :: x43 :: x44 :: x45 :: x46 :: x47 :: x48 :: x49 :: x50 :: x51 :: x52 :: x53 :: x54 :: zn 8 [])
def f157_J1 (x0 x1 x2 x3 x8 x9 x10 x11 x12 x13 x14 x15 x16 x17 x18 x19 x20 x21 x22 x23 x24 x25 x26 x27 x28 x29 x30 x31 x32 x33 x34 x35 x36 x37 x38 x39 x40 x41 x42 x43 x44 x45 x46 x47 x48 x49 x50 x51 x52 x53 x54 : DV) (σ : Store) : RS :=
 (seqC G PP (pol 157) CC lo c157_28 a157_28 (finR PP Tryz.f157.results.toList)) .normal (f157_J1_fr x0 x1 x2 x3 x8 x9 x10 x11 x12 x13 x14 x15 x16 x17 x18 x19 x20 x21 x22 x23 x24 x25 x26 x27 x28 x29 x30 x31 x32 x33 x34 x35 x36 x37 x38 x39 x40 x41 x42 x43 x44 x45 x46 x47 x48 x49 x50 x51 x52 x53 x54) σ
def F157 (x0 x1 x2 x3 : DV) (σ : Store) : RS :=
 codeF G PP (pol 157) CC lo c157_0 a157_0 (x0 :: x1 :: x2 :: x3 :: zn 59 []) σ (finR PP Tryz.f157.results.toList)
theorem f157_J0_gen (G : GuardT) (lo : Nat) (N0 : Frame → Store → Option (DV × Store)) (x0 x1 x2 x3 x8 x9 x10 x11 x12 x13 x14 x15 x16 x17 x18 x19 x20 x21 x22 x23 x24 x25 x26 x27 x28 x29 x30 x31 x32 x33 x34 x35 x36 x37 x38 x39 x40 x41 x42 x43 x44 x45 x46 x47 x48 : DV) (σ : Store) : (seqC G PP (pol 157) CC lo c157_26 a157_26 (splitC N0 (seqC G PP (pol 157) CC lo c157_28 a157_28 (finR PP Tryz.f157.results.toList)))) .normal (f157_J0_fr x0 x1 x2 x3 x8 x9 x10 x11 x12 x13 x14 x15 x16 x17 x18 x19 x20 x21 x22 x23 x24 x25 x26 x27 x28 x29 x30 x31 x32 x33 x34 x35 x36 x37 x38 x39 x40 x41 x42 x43 x44 x45 x46 x47 x48) σ =
 (plainFn CC lo (DV.fn 166 []) [x0, x12, x13, x14, x11, x3] σ).bind fun r54_4 =>
 N0 (f157_J1_fr x0 x1 x2 x3 x8 x9 x10 x11 x12 r54_4.1 x14 x15 x16 x17 x18 x19 x20 x21 x22 x23 x24 x25 x26 x27 x28 x29 x30 x31 x32 x33 x34 x35 x36 x37 x38 x39 x40 x41 x42 x43 x44 x45 x46 x47 x48 x0 x12 x13 x14 x3 r54_4.1) r54_4.2 := by kernel_rfl
theorem f157_J0_eq (G : GuardT) (lo : Nat) (x0 x1 x2 x3 x8 x9 x10 x11 x12 x13 x14 x15 x16 x17 x18 x19 x20 x21 x22 x23 x24 x25 x26 x27 x28 x29 x30 x31 x32 x33 x34 x35 x36 x37 x38 x39 x40 x41 x42 x43 x44 x45 x46 x47 x48 : DV) (σ : Store) : f157_J0 G lo x0 x1 x2 x3 x8 x9 x10 x11 x12 x13 x14 x15 x16 x17 x18 x19 x20 x21 x22 x23 x24 x25 x26 x27 x28 x29 x30 x31 x32 x33 x34 x35 x36 x37 x38 x39 x40 x41 x42 x43 x44 x45 x46 x47 x48 σ =
 (plainFn CC lo (DV.fn 166 []) [x0, x12, x13, x14, x11, x3] σ).bind fun r54_4 =>
 f157_J1 G lo x0 x1 x2 x3 x8 x9 x10 x11 x12 r54_4.1 x14 x15 x16 x17 x18 x19 x20 x21 x22 x23 x24 x25 x26 x27 x28 x29 x30 x31 x32 x33 x34 x35 x36 x37 x38 x39 x40 x41 x42 x43 x44 x45 x46 x47 x48 x0 x12 x13 x14 x3 r54_4.1 r54_4.2 := by
 have h := f157_J0_gen (N0 := (seqC G PP (pol 157) CC lo c157_28 a157_28 (finR PP Tryz.f157.results.toList)) .normal) G lo x0 x1 x2 x3 x8 x9 x10 x11 x12 x13 x14 x15 x16 x17 x18 x19 x20 x21 x22 x23 x24 x25 x26 x27 x28 x29 x30 x31 x32 x33 x34 x35 x36 x37 x38 x39 x40 x41 x42 x43 x44 x45 x46 x47 x48 σ
 simp only [splitC_eta] at h
 exact h
theorem f157_J1_eq (G : GuardT) (lo : Nat) (x0 x1 x2 x3 x8 x9 x10 x11 x12 x13 x14 x15 x16 x17 x18 x19 x20 x21 x22 x23 x24 x25 x26 x27 x28 x29 x30 x31 x32 x33 x34 x35 x36 x37 x38 x39 x40 x41 x42 x43 x44 x45 x46 x47 x48 x49 x50 x51 x52 x53 x54 : DV) (σ : Store) : f157_J1 G lo x0 x1 x2 x3 x8 x9 x10 x11 x12 x13 x14 x15 x16 x17 x18 x19 x20 x21 x22 x23 x24 x25 x26 x27 x28 x29 x30 x31 x32 x33 x34 x35 x36 x37 x38 x39 x40 x41 x42 x43 x44 x45 x46 x47 x48 x49 x50 x51 x52 x53 x54 σ =
 (load PP 3 x11 σ).bind fun x55 =>
 (binOp PP .eql 3 x55 I0).bind fun x58 =>
 condK x58
 (
 some ((DV.tuple [x13, I1]), σ)
 )
 (
 (binOp PP .eql 3 x55 (DV.p (PV.int IntKind.i64 (12)))).bind fun x61 =>
 condK x61
 (
 some ((DV.tuple [x13, (DV.p (PV.int IntKind.i64 (2)))]), σ)
 )
 (
 some ((DV.tuple [x13, I0]), σ)
 )
 ) := by kernel_rfl
theorem F157_eqN (G : GuardT) (lo : Nat) (x0 x1 x2 x3 : DV) (σ : Store) : F157 G lo x0 x1 x2 x3 σ =
 (binOp PP .sub 3 x2 x1).bind fun x17 =>
 (zeroOf PP 3).bind fun z11 =>
 (binOp PP .quo 3 x17 (DV.p (PV.int IntKind.i64 (4)))).bind fun x20 =>
 (binOp PP .mul 3 x20 I1).bind fun x21 =>
 (binOp PP .add 3 x1 x21).bind fun x22 =>
 (binOp PP .quo 3 x17 (DV.p (PV.int IntKind.i64 (4)))).bind fun x25 =>
 (binOp PP .mul 3 x25 (DV.p (PV.int IntKind.i64 (2)))).bind fun x26 =>
 (binOp PP .add 3 x1 x26).bind fun x27 =>
 (binOp PP .quo 3 x17 (DV.p (PV.int IntKind.i64 (4)))).bind fun x30 =>
 (binOp PP .mul 3 x30 (DV.p (PV.int IntKind.i64 (3)))).bind fun x31 =>
 (binOp PP .add 3 x1 x31).bind fun x32 =>
 (binOp PP .geq 3 x17 (DV.p (PV.int IntKind.i64 (8)))).bind fun x34 =>
 condK x34
 (
 (binOp PP .geq 3 x17 (DV.p (PV.int IntKind.i64 (50)))).bind fun x36 =>
 condK x36
 (
 (plainFn CC lo (DV.fn 165 []) [x0, x22, (DV.ptr (List.length σ) 0), x3] (σ ++ [Row.mix z11])).bind fun r40_1 =>
 (plainFn CC lo (DV.fn 165 []) [x0, x27, (DV.ptr (List.length σ) 0), x3] r40_1.2).bind fun r44_2 =>
 (plainFn CC lo (DV.fn 165 []) [x0, x32, (DV.ptr (List.length σ) 0), x3] r44_2.2).bind fun r48_3 =>
 (plainFn CC lo (DV.fn 166 []) [x0, r40_1.1, r44_2.1, r48_3.1, (DV.ptr (List.length σ) 0), x3] r48_3.2).bind fun r54_4 =>
 (load PP 3 (DV.ptr (List.length σ) 0) r54_4.2).bind fun x55 =>
 (binOp PP .eql 3 x55 I0).bind fun x58 =>
 condK x58
 (
 some ((DV.tuple [r54_4.1, I1]), r54_4.2)
 )
 (
 (binOp PP .eql 3 x55 (DV.p (PV.int IntKind.i64 (12)))).bind fun x61 =>
 condK x61
 (
 some ((DV.tuple [r54_4.1, (DV.p (PV.int IntKind.i64 (2)))]), r54_4.2)
 )
 (
 some ((DV.tuple [r54_4.1, I0]), r54_4.2)
 )
 )
 )
 (
 (plainFn CC lo (DV.fn 166 []) [x0, x22, x27, x32, (DV.ptr (List.length σ) 0), x3] (σ ++ [Row.mix z11])).bind fun r54_5 =>
 (load PP 3 (DV.ptr (List.length σ) 0) r54_5.2).bind fun x55 =>
 (binOp PP .eql 3 x55 I0).bind fun x58 =>
 condK x58
 (
 some ((DV.tuple [r54_5.1, I1]), r54_5.2)
 )
 (
 (binOp PP .eql 3 x55 (DV.p (PV.int IntKind.i64 (12)))).bind fun x61 =>
 condK x61
 (
 some ((DV.tuple [r54_5.1, (DV.p (PV.int IntKind.i64 (2)))]), r54_5.2)
 )
 (
 some ((DV.tuple [r54_5.1, I0]), r54_5.2)
 )
 )
 )
 )
 (
 (load PP 3 (DV.ptr (List.length σ) 0) (σ ++ [Row.mix z11])).bind fun x55 =>
 (binOp PP .eql 3 x55 I0).bind fun x58 =>
 condK x58
 (
 some ((DV.tuple [x27, I1]), (σ ++ [Row.mix z11]))
 )
 (
 (binOp PP .eql 3 x55 (DV.p (PV.int IntKind.i64 (12)))).bind fun x61 =>
 condK x61
 (
 some ((DV.tuple [x27, (DV.p (PV.int IntKind.i64 (2)))]), (σ ++ [Row.mix z11]))
 )
 (
 some ((DV.tuple [x27, I0]), (σ ++ [Row.mix z11]))
 )
 )
 ) := by kernel_rfl
theorem F157_eq (G : GuardT) (lo : Nat) (x0 x1 x2 x3 : DV) (σ : Store) : F157 G lo x0 x1 x2 x3 σ =
 (binOp PP .sub 3 x2 x1).bind fun x17 =>
 (zeroOf PP 3).bind fun z11 =>
 (binOp PP .quo 3 x17 (DV.p (PV.int IntKind.i64 (4)))).bind fun x20 =>
 (binOp PP .mul 3 x20 I1).bind fun x21 =>
 (binOp PP .add 3 x1 x21).bind fun x22 =>
 (binOp PP .quo 3 x17 (DV.p (PV.int IntKind.i64 (4)))).bind fun x25 =>
 (binOp PP .mul 3 x25 (DV.p (PV.int IntKind.i64 (2)))).bind fun x26 =>
 (binOp PP .add 3 x1 x26).bind fun x27 =>
 (binOp PP .quo 3 x17 (DV.p (PV.int IntKind.i64 (4)))).bind fun x30 =>
 (binOp PP .mul 3 x30 (DV.p (PV.int IntKind.i64 (3)))).bind fun x31 =>
 (binOp PP .add 3 x1 x31).bind fun x32 =>
 (binOp PP .geq 3 x17 (DV.p (PV.int IntKind.i64 (8)))).bind fun x34 =>
 condK x34
 (
 (binOp PP .geq 3 x17 (DV.p (PV.int IntKind.i64 (50)))).bind fun x36 =>
 condK x36
 (
 (plainFn CC lo (DV.fn 165 []) [x0, x22, (DV.ptr (List.length σ) 0), x3] (σ ++ [Row.mix z11])).bind fun r40_1 =>
 (plainFn CC lo (DV.fn 165 []) [x0, x27, (DV.ptr (List.length σ) 0), x3] r40_1.2).bind fun r44_2 =>
 (plainFn CC lo (DV.fn 165 []) [x0, x32, (DV.ptr (List.length σ) 0), x3] r44_2.2).bind fun r48_3 =>
 f157_J0 G lo x0 x1 x2 x3 I0 I0 x17 (DV.ptr (List.length σ) 0) r40_1.1 r44_2.1 r48_3.1 x2 x1 x17 x1 x17 x20 x21 x22 x1 x17 x25 x26 x27 x1 x17 x30 x31 x32 x17 x34 x17 x36 x0 x22 x3 r40_1.1 x0 x27 x3 r44_2.1 x0 x32 x3 r48_3.1 r48_3.2
 )
 (
 f157_J0 G lo x0 x1 x2 x3 I0 I0 x17 (DV.ptr (List.length σ) 0) x22 x27 x32 x2 x1 x17 x1 x17 x20 x21 x22 x1 x17 x25 x26 x27 x1 x17 x30 x31 x32 x17 x34 x17 x36 Z Z Z Z Z Z Z Z Z Z Z Z (σ ++ [Row.mix z11])
 )
 )
 (
 f157_J1 G lo x0 x1 x2 x3 I0 I0 x17 (DV.ptr (List.length σ) 0) x22 x27 x32 x2 x1 x17 x1 x17 x20 x21 x22 x1 x17 x25 x26 x27 x1 x17 x30 x31 x32 x17 x34 Z Z Z Z Z Z Z Z Z Z Z Z Z Z Z Z Z Z Z Z (σ ++ [Row.mix z11])
 ) := (F157_eqN G lo x0 x1 x2 x3 σ).trans (by simp only [f157_J0_eq, f157_J1_eq])
theorem F157_call {lo : Nat} {x0 x1 x2 x3 : DV} (h : F157 guardT lo x0 x1 x2 x3 σ = some r) : CC lo 157 [x0, x1, x2, x3] σ = some r :=
 callL_run Tryz.func157 (by decide +kernel) rfl (by decide +kernel) h
def c165_0 : Code := bodyOf Tryz.f165
def a165_0 : Ann := (pol 165).ann
def F165 (x0 x1 x2 x3 : DV) (σ : Store) : RS :=
 codeF G PP (pol 165) CC lo c165_0 a165_0 (x0 :: x1 :: x2 :: x3 :: zn 14 []) σ (finR PP Tryz.f165.results.toList)
theorem F165_eq (G : GuardT) (lo : Nat) (x0 x1 x2 x3 : DV) (σ : Store) : F165 G lo x0 x1 x2 x3 σ =
 (binOp PP .sub 3 x1 I1).bind fun x11 =>
 (binOp PP .add 3 x1 I1).bind fun x14 =>
 (plainFn CC lo (DV.fn 166 []) [x0, x11, x1, x14, x2, x3] σ).bind fun r17_1 =>
 some (r17_1.1, r17_1.2) := by kernel_rfl
theorem F165_call {lo : Nat} {x0 x1 x2 x3 : DV} (h : F165 guardT lo x0 x1 x2 x3 σ = some r) : CC lo 165 [x0, x1, x2, x3] σ = some r :=
 callL_run Tryz.func165 (by decide +kernel) rfl (by decide +kernel) h
def c166_0 : Code := bodyOf Tryz.f166
def a166_0 : Ann := (pol 166).ann
def F166 (x0 x1 x2 x3 x4 x5 : DV) (σ : Store) : RS :=
 codeF G PP (pol 166) CC lo c166_0 a166_0 (x0 :: x1 :: x2 :: x3 :: x4 :: x5 :: zn 35 []) σ (finR PP Tryz.f166.results.toList)
theorem F166_eq (G : GuardT) (lo : Nat) (x0 x1 x2 x3 x4 x5 : DV) (σ : Store) : F166 G lo x0 x1 x2 x3 x4 x5 σ =
 (plainFn CC lo (DV.fn 167 []) [x0, x1, x2, x4, x5] σ).bind fun r19_1 =>
 (extractV r19_1.1 0).bind fun x20 =>
 (extractV r19_1.1 1).bind fun x21 =>
 (plainFn CC lo (DV.fn 167 []) [x0, x21, x3, x4, x5] r19_1.2).bind fun r28_2 =>
 (extractV r28_2.1 0).bind fun x29 =>
 (extractV r28_2.1 1).bind fun x30 =>
 (plainFn CC lo (DV.fn 167 []) [x0, x20, x29, x4, x5] r28_2.2).bind fun r37_3 =>
 (extractV r37_3.1 0).bind fun x38 =>
 (extractV r37_3.1 1).bind fun x39 =>
 some (x39, r37_3.2) := by kernel_rfl
theorem F166_call {lo : Nat} {x0 x1 x2 x3 x4 x5 : DV} (h : F166 guardT lo x0 x1 x2 x3 x4 x5 σ = some r) : CC lo 166 [x0, x1, x2, x3, x4, x5] σ = some r :=
 callL_run Tryz.func166 (by decide +kernel) rfl (by decide +kernel) h
def c167_0 : Code := bodyOf Tryz.f167
def a167_0 : Ann := (pol 167).ann
def F167 (x0 x1 x2 x3 x4 : DV) (σ : Store) : RS :=
 codeF G PP (pol 167) CC lo c167_0 a167_0 (x0 :: x1 :: x2 :: x3 :: x4 :: zn 27 []) σ (finR PP Tryz.f167.results.toList)
theorem F167_eq (G : GuardT) (lo : Nat) (x0 x1 x2 x3 x4 : DV) (σ : Store) : F167 G lo x0 x1 x2 x3 x4 σ =
 (indexAddr PP 23 x0 x2).bind fun x15 =>
 (load PP 69 x15 σ).bind fun x16 =>
 (indexAddr PP 23 x0 x1).bind fun x19 =>
 (load PP 69 x19 σ).bind fun x20 =>
 (pureFn CC x4 [x16, x20] σ).bind fun x21 =>
 (binOp PP .lss 3 x21 I0).bind fun x22 =>
 condK x22
 (
 (nilCheckV x3).bind fun x24 =>
 (load PP 3 x24 σ).bind fun x25 =>
 (binOp PP .add 3 x25 I1).bind fun x26 =>
 (nilCheckV x3).bind fun x27 =>
 (store PP lo 3 x27 x26 σ).bind fun σ1 =>
 some ((DV.tuple [x2, x1]), σ1)
 )
 (
 some ((DV.tuple [x1, x2]), σ)
 ) := by kernel_rfl
theorem F167_call {lo : Nat} {x0 x1 x2 x3 x4 : DV} (h : F167 guardT lo x0 x1 x2 x3 x4 σ = some r) : CC lo 167 [x0, x1, x2, x3, x4] σ = some r :=
 callL_run Tryz.func167 (by decide +kernel) rfl (by decide +kernel) h
def c158_0 : Code := bodyOf Tryz.f158
def a158_0 : Ann := (pol 158).ann
def a158_4 : Ann := right (right a158_0)
def a158_5 : Ann := left a158_4
def c158_6 : Code := fstC (fstC (sndC (sndC c158_0)))
def f158_L0 (x0 x8 x9 : DV) (σ : Store) : RS :=
 codeF G PP (pol 158) CC lo (.loop c158_6) a158_5 (x0 :: zn 7 (x8 :: x9 :: zn 24 [])) σ
 (blockC 0 a158_4 (finR PP Tryz.f158.results.toList))
def F158 (x0 x1 x2 x3 : DV) (σ : Store) : RS :=
 codeF G PP (pol 158) CC lo c158_0 a158_0 (x0 :: x1 :: x2 :: x3 :: zn 30 []) σ (finR PP Tryz.f158.results.toList)
theorem f158_L0_eq (G : GuardT) (hG : GuardOk G) (lo : Nat) (x0 x8 x9 : DV) (σ : Store) : f158_L0 G lo x0 x8 x9 σ =
 (binOp PP .lss 3 x8 x9).bind fun x15 =>
 condK x15
 (
 (indexAddr PP 23 x0 x9).bind fun x22 =>
 (load PP 69 x22 σ).bind fun x23 =>
 (indexAddr PP 23 x0 x8).bind fun x26 =>
 (load PP 69 x26 σ).bind fun x27 =>
 (indexAddr PP 23 x0 x8).bind fun x28 =>
 (store PP lo 69 x28 x23 σ).bind fun σ1 =>
 (indexAddr PP 23 x0 x9).bind fun x29 =>
 (store PP lo 69 x29 x27 σ1).bind fun σ2 =>
 (binOp PP .add 3 x8 I1).bind fun x31 =>
 (binOp PP .sub 3 x9 I1).bind fun x33 =>
 f158_L0 G lo x0 x31 x33 σ2
 )
 (
 some ((DV.tuple []), σ)
 ) := (loopF_eq G hG).trans (by kernel_rfl)
theorem F158_eq (G : GuardT) (lo : Nat) (x0 x1 x2 x3 : DV) (σ : Store) : F158 G lo x0 x1 x2 x3 σ =
 (binOp PP .sub 3 x2 I1).bind fun x12 =>
 f158_L0 G lo x0 x1 x12 σ := by kernel_rfl
theorem F158_call {lo : Nat} {x0 x1 x2 x3 : DV} (h : F158 guardT lo x0 x1 x2 x3 σ = some r) : CC lo 158 [x0, x1, x2, x3] σ = some r :=
 callL_run Tryz.func158 (by decide +kernel) rfl (by decide +kernel) h
def c159_0 : Code := bodyOf Tryz.f159
def a159_0 : Ann := (pol 159).ann
def a159_7 : Ann := right (left (right (right a159_0)))
def a159_8 : Ann := left a159_7
def c159_9 : Code := fstC (fstC (sndC (fstC (sndC (sndC c159_0)))))
def a159_16 : Ann := left (right (left a159_8))
def a159_18 : Ann := left (left a159_16)
def a159_19 : Ann := left a159_18
def c159_20 : Code := fstC (fstC (fstC (fstC (fstC (sndC c159_9)))))
def c159_28 : Code := sndC (fstC (fstC (sndC c159_9)))
def a159_28 : Ann := right (left a159_16)
def a159_52 : Ann := right (left (right (left (right (right (right a159_28))))))
def a159_53 : Ann := left a159_52
def c159_54 : Code := fstC (fstC (sndC (fstC (sndC (fstC (sndC (sndC (sndC c159_28))))))))
def c159_71 : Code := sndC (sndC (sndC (sndC c159_28)))
def a159_71 : Ann := right (right (right (right a159_28)))
def a159_76 : Ann := right (left (right a159_71))
def a159_77 : Ann := left a159_76
def c159_78 : Code := fstC (fstC (sndC (fstC (sndC c159_71))))
def c159_95 : Code := sndC (sndC c159_9)
def a159_95 : Ann := right (right (left a159_8))
def c159_96 : Code := sndC (sndC (sndC c159_0))
def a159_96 : Ann := right (right (right a159_0))
def f159_L0 (x0 x1 x2 x3 x9 x10 : DV) (σ : Store) : RS :=
 codeF G PP (pol 159) CC lo (.loop c159_9) a159_8 (x0 :: x1 :: x2 :: x3 :: zn 5 (x9 :: x10 :: zn 130 [])) σ
 (blockC 0 a159_7 (seqC G PP (pol 159) CC lo c159_96 a159_96 (finR PP Tryz.f159.results.toList)))
def f159_L1 (x0 x1 x2 x3 x9 x10 : DV) (σ : Store) : RS :=
 codeF G PP (pol 159) CC lo (.loop c159_20) a159_19 (x0 :: x1 :: x2 :: x3 :: zn 5 (x9 :: x10 :: zn 130 [])) σ
 (blockC 2 a159_18 (seqC G PP (pol 159) CC lo c159_28 a159_28 (blockC 1 a159_16 (seqC G PP (pol 159) CC lo c159_95 a159_95 (loopC G PP (pol 159) CC lo c159_9 a159_8 (blockC 0 a159_7 (seqC G PP (pol 159) CC lo c159_96 a159_96 (finR PP Tryz.f159.results.toList))))))))
def f159_L2 (x0 x1 x2 x3 x9 x10 x11 : DV) (σ : Store) : RS :=
 codeF G PP (pol 159) CC lo (.loop c159_54) a159_53 (x0 :: x1 :: x2 :: x3 :: zn 5 (x9 :: x10 :: x11 :: zn 129 [])) σ
 (blockC 4 a159_52 (seqC G PP (pol 159) CC lo c159_71 a159_71 (blockC 1 a159_16 (seqC G PP (pol 159) CC lo c159_95 a159_95 (loopC G PP (pol 159) CC lo c159_9 a159_8 (blockC 0 a159_7 (seqC G PP (pol 159) CC lo c159_96 a159_96 (finR PP Tryz.f159.results.toList))))))))
def f159_J0_fr (x0 x1 x2 x3 x9 x10 x11 x39 x40 x41 x42 x43 x44 x45 x46 x47 x48 x49 x50 x51 x52 x53 x54 x55 x56 x57 x58 x59 x60 x61 x62 x63 x64 x65 x66 x67 x68 x69 x70 x71 x72 x73 x74 x75 x76 x77 x78 x79 x80 x81 x82 x83 x84 x85 x86 x87 x88 x89 x90 x91 x92 x93 x94 x95 x96 x97 x98 x99 x100 : DV) : Frame := (x0 :: x1 :: x2 :: x3 :: zn 5 (x9 :: x10 :: x11 :: zn 27 (x39 :: x40 :: x41 :: x42 :: x43 :: x44 :: x45 :: x46 :: x47 :: x48 :: x49 :: x50 :: x51 :: x52 :: x53 :: x54 :: x55 :: x56 :: x57 :: x58 :: x59 :: x60 :: x61 :: x62 :: x63 :: x64 :: x65 :: x66 :: x67 :: x68 :: x69 :: x70 :: x71 :: x72 :: x73 :: x74 :: x75 :: x76 :: x77 :: x78 :: x79 :: x80 :: x81 :: x82 :: x83 :: x84 :: x85 :: x86 :: x87 :: x88 :: x89 :: x90 :: x91 :: x92 :: x93 :: x94 :: x95 :: x96 :: x97 :: x98 :: x99 :: x100 :: zn 40 [])))
def f159_J0 (x0 x1 x2 x3 x9 x10 x11 x39 x40 x41 x42 x43 x44 x45 x46 x47 x48 x49 x50 x51 x52 x53 x54 x55 x56 x57 x58 x59 x60 x61 x62 x63 x64 x65 x66 x67 x68 x69 x70 x71 x72 x73 x74 x75 x76 x77 x78 x79 x80 x81 x82 x83 x84 x85 x86 x87 x88 x89 x90 x91 x92 x93 x94 x95 x96 x97 x98 x99 x100 : DV) (σ : Store) : RS :=
 (seqC G PP (pol 159) CC lo c159_71 a159_71 (blockC 1 a159_16 (seqC G PP (pol 159) CC lo c159_95 a159_95 (loopC G PP (pol 159) CC lo c159_9 a159_8 (blockC 0 a159_7 (seqC G PP (pol 159) CC lo c159_96 a159_96 (finR PP Tryz.f159.results.toList))))))) .normal (f159_J0_fr x0 x1 x2 x3 x9 x10 x11 x39 x40 x41 x42 x43 x44 x45 x46 x47 x48 x49 x50 x51 x52 x53 x54 x55 x56 x57 x58 x59 x60 x61 x62 x63 x64 x65 x66 x67 x68 x69 x70 x71 x72 x73 x74 x75 x76 x77 x78 x79 x80 x81 x82 x83 x84 x85 x86 x87 x88 x89 x90 x91 x92 x93 x94 x95 x96 x97 x98 x99 x100) σ
def f159_L3 (x0 x1 x2 x3 x9 x10 x12 : DV) (σ : Store) : RS :=
 codeF G PP (pol 159) CC lo (.loop c159_78) a159_77 (x0 :: x1 :: x2 :: x3 :: zn 5 (x9 :: x10 :: Z :: x12 :: zn 128 [])) σ
 (blockC 6 a159_76 (blockC 1 a159_16 (seqC G PP (pol 159) CC lo c159_95 a159_95 (loopC G PP (pol 159) CC lo c159_9 a159_8 (blockC 0 a159_7 (seqC G PP (pol 159) CC lo c159_96 a159_96 (finR PP Tryz.f159.results.toList)))))))
def f159_J1_fr (x0 x1 x2 x3 x9 x10 x11 x12 x39 x40 x41 x42 x43 x44 x45 x46 x47 x48 x49 x50 x51 x52 x53 x54 x55 x56 x57 x58 x59 x60 x61 x62 x63 x64 x65 x66 x67 x68 x69 x70 x71 x72 x73 x74 x75 x76 x77 x78 x79 x80 x81 x82 x83 x84 x85 x86 x87 x88 x89 x90 x91 x92 x93 x94 x95 x96 x97 x98 x99 x100 x101 x102 x103 x104 x105 x106 x107 x108 x109 x110 x111 x112 x113 x114 x115 x116 x117 x118 x119 x120 x121 x122 x123 x124 x125 x126 x127 x128 x129 x130 x131 x132 x133 x134 x135 x136 x137 x138 x139 x140 : DV) : Frame := (x0 :: x1 :: x2 :: x3 :: zn 5 (x9 :: x10 :: x11 :: x12 :: zn 26 ([x39, x40, x41, x42, x43, x44, x45, x46, x47, x48, x49, x50, x51, x52, x53, x54, x55, x56, x57, x58, x59, x60, x61, x62, x63, x64, x65, x66, x67, x68, x69, x70, x71, x72, x73, x74, x75, x76, x77, x78, x79, x80, x81, x82, x83, x84, x85, x86, x87, x88, x89, x90, x91, x92, x93, x94, x95, x96, x97, x98, x99, x100, x101, x102, x103, x104, x105, x106, x107, x108, x109, x110, x111, x112, x113, x114, x115, x116, x117, x118, x119, x120, x121, x122, x123, x124, x125, x126, x127, x128, x129, x130, x131, x132, x133, x134, x135, x136, x137, x138, x139, x140])))
def f159_J1 (x0 x1 x2 x3 x9 x10 x11 x12 x39 x40 x41 x42 x43 x44 x45 x46 x47 x48 x49 x50 x51 x52 x53 x54 x55 x56 x57 x58 x59 x60 x61 x62 x63 x64 x65 x66 x67 x68 x69 x70 x71 x72 x73 x74 x75 x76 x77 x78 x79 x80 x81 x82 x83 x84 x85 x86 x87 x88 x89 x90 x91 x92 x93 x94 x95 x96 x97 x98 x99 x100 x101 x102 x103 x104 x105 x106 x107 x108 x109 x110 x111 x112 x113 x114 x115 x116 x117 x118 x119 x120 x121 x122 x123 x124 x125 x126 x127 x128 x129 x130 x131 x132 x133 x134 x135 x136 x137 x138 x139 x140 : DV) (σ : Store) : RS :=
 (blockC 1 a159_16 (seqC G PP (pol 159) CC lo c159_95 a159_95 (loopC G PP (pol 159) CC lo c159_9 a159_8 (blockC 0 a159_7 (seqC G PP (pol 159) CC lo c159_96 a159_96 (finR PP Tryz.f159.results.toList)))))) .normal (f159_J1_fr x0 x1 x2 x3 x9 x10 x11 x12 x39 x40 x41 x42 x43 x44 x45 x46 x47 x48 x49 x50 x51 x52 x53 x54 x55 x56 x57 x58 x59 x60 x61 x62 x63 x64 x65 x66 x67 x68 x69 x70 x71 x72 x73 x74 x75 x76 x77 x78 x79 x80 x81 x82 x83 x84 x85 x86 x87 x88 x89 x90 x91 x92 x93 x94 x95 x96 x97 x98 x99 x100 x101 x102 x103 x104 x105 x106 x107 x108 x109 x110 x111 x112 x113 x114 x115 x116 x117 x118 x119 x120 x121 x122 x123 x124 x125 x126 x127 x128 x129 x130 x131 x132 x133 x134 x135 x136 x137 x138 x139 x140) σ
def F159 (x0 x1 x2 x3 : DV) (σ : Store) : RS :=
 codeF G PP (pol 159) CC lo c159_0 a159_0 (x0 :: x1 :: x2 :: x3 :: zn 137 []) σ (finR PP Tryz.f159.results.toList)
theorem f159_L0_eq (G : GuardT) (hG : GuardOk G) (lo : Nat) (x0 x1 x2 x3 x9 x10 : DV) (σ : Store) : f159_L0 G lo x0 x1 x2 x3 x9 x10 σ =
 (binOp PP .lss 3 x10 (DV.p (PV.int IntKind.i64 (5)))).bind fun x16 =>
 condK x16
 (
 f159_L1 G lo x0 x1 x2 x3 x9 x10 σ
 )
 (
 some ((DV.p (PV.bool false)), σ)
 ) := (loopF_eq G hG).trans (by kernel_rfl)
theorem f159_L1_eq (G : GuardT) (hG : GuardOk G) (lo : Nat) (x0 x1 x2 x3 x9 x10 : DV) (σ : Store) : f159_L1 G lo x0 x1 x2 x3 x9 x10 σ =
 (binOp PP .lss 3 x9 x2).bind fun x21 =>
 G _ x21 true (some (x3, σ)) σ fun x23 σ1 =>
 G _ x21 true (some (x0, σ1)) σ1 fun x24 σ2 =>
 G _ x21 true (some (x9, σ2)) σ2 fun x25 σ3 =>
 G _ x21 true ((indexAddr PP 23 x24 x25).bind fun v => some (v, σ3)) σ3 fun x26 σ4 =>
 G _ x21 true ((load PP 69 x26 σ4).bind fun v => some (v, σ4)) σ4 fun x27 σ5 =>
 G _ x21 true (some (x0, σ5)) σ5 fun x28 σ6 =>
 G _ x21 true (some (x9, σ6)) σ6 fun x29 σ7 =>
 G _ x21 true ((binOp PP .sub 3 x29 I1).bind fun v => some (v, σ7)) σ7 fun x30 σ8 =>
 G _ x21 true ((indexAddr PP 23 x28 x30).bind fun v => some (v, σ8)) σ8 fun x31 σ9 =>
 G _ x21 true ((load PP 69 x31 σ9).bind fun v => some (v, σ9)) σ9 fun x32 σ10 =>
 G _ x21 true ((pureFn CC x23 [x27, x32] σ10).bind fun v => some (v, σ10)) σ10 fun x33 σ11 =>
 G _ x21 true ((binOp PP .lss 3 x33 I0).bind fun v => some (v, σ11)) σ11 fun x34 σ12 =>
 G _ x21 true ((unOp .not x34).bind fun v => some (v, σ12)) σ12 fun x35 σ13 =>
 (pickV x21 x35 (DV.p (PV.bool false))).bind fun x36 =>
 condK x36
 (
 (binOp PP .add 3 x9 I1).bind fun x38 =>
 f159_L1 G lo x0 x1 x2 x3 x38 x10 σ13
 )
 (
 (binOp PP .eql 3 x9 x2).bind fun x41 =>
 condK x41
 (
 some ((DV.p (PV.bool true)), σ13)
 )
 (
 (binOp PP .sub 3 x2 x1).bind fun x44 =>
 (binOp PP .lss 3 x44 (DV.p (PV.int IntKind.i64 (50)))).bind fun x45 =>
 condK x45
 (
 some ((DV.p (PV.bool false)), σ13)
 )
 (
 (binOp PP .sub 3 x9 I1).bind fun x50 =>
 (binOp PP .sub 3 x9 I1).bind fun x53 =>
 (indexAddr PP 23 x0 x53).bind fun x54 =>
 (load PP 69 x54 σ13).bind fun x55 =>
 (indexAddr PP 23 x0 x9).bind fun x58 =>
 (load PP 69 x58 σ13).bind fun x59 =>
 (indexAddr PP 23 x0 x9).bind fun x60 =>
 (store PP lo 69 x60 x55 σ13).bind fun σ14 =>
 (indexAddr PP 23 x0 x50).bind fun x61 =>
 (store PP lo 69 x61 x59 σ14).bind fun σ15 =>
 (binOp PP .sub 3 x9 x1).bind fun x64 =>
 (binOp PP .geq 3 x64 (DV.p (PV.int IntKind.i64 (2)))).bind fun x65 =>
 condK x65
 (
 (binOp PP .sub 3 x9 I1).bind fun x67 =>
 f159_L2 G lo x0 x1 x2 x3 x9 x10 x67 σ15
 )
 (
 f159_J0 G lo x0 x1 x2 x3 x9 x10 Z x9 x2 x41 x2 x1 x44 x45 x0 x9 x0 x9 x50 x0 x9 x53 x54 x55 x0 x9 x58 x59 x60 x61 x9 x1 x64 x65 Z Z Z Z Z Z Z Z Z Z Z Z Z Z Z Z Z Z Z Z Z Z Z Z Z Z Z Z Z Z Z Z Z Z Z σ15
 )
 )
 )
 ) := (loopF_eq G hG).trans (by kernel_rfl)
theorem f159_L2_gen (G : GuardT) (hG : GuardOk G) (lo : Nat) (N0 : Frame → Store → Option (DV × Store)) (x0 x1 x2 x3 x9 x10 x11 : DV) (σ : Store) : codeF G PP (pol 159) CC lo (.loop c159_54) a159_53 (x0 :: x1 :: x2 :: x3 :: zn 5 (x9 :: x10 :: x11 :: zn 129 [])) σ
 (blockC 4 a159_52 (splitC N0 (seqC G PP (pol 159) CC lo c159_71 a159_71 (blockC 1 a159_16 (seqC G PP (pol 159) CC lo c159_95 a159_95 (loopC G PP (pol 159) CC lo c159_9 a159_8 (blockC 0 a159_7 (seqC G PP (pol 159) CC lo c159_96 a159_96 (finR PP Tryz.f159.results.toList))))))))) =
 (binOp PP .geq 3 x11 I1).bind fun x69 =>
 condK x69
 (
 (indexAddr PP 23 x0 x11).bind fun x75 =>
 (load PP 69 x75 σ).bind fun x76 =>
 (binOp PP .sub 3 x11 I1).bind fun x79 =>
 (indexAddr PP 23 x0 x79).bind fun x80 =>
 (load PP 69 x80 σ).bind fun x81 =>
 (pureFn CC x3 [x76, x81] σ).bind fun x82 =>
 (binOp PP .lss 3 x82 I0).bind fun x83 =>
 (unOp .not x83).bind fun x84 =>
 condK x84
 (
 N0 (f159_J0_fr x0 x1 x2 x3 x9 x10 Z Z Z Z Z Z Z Z Z Z Z Z Z Z Z Z Z Z Z Z Z Z Z Z Z Z Z Z Z Z Z Z Z Z Z Z Z Z Z Z Z Z Z Z Z Z Z Z Z Z Z Z Z Z Z Z Z Z Z Z Z Z Z) σ
 )
 (
 (binOp PP .sub 3 x11 I1).bind fun x89 =>
 (binOp PP .sub 3 x11 I1).bind fun x92 =>
 (indexAddr PP 23 x0 x92).bind fun x93 =>
 (load PP 69 x93 σ).bind fun x94 =>
 (indexAddr PP 23 x0 x11).bind fun x97 =>
 (load PP 69 x97 σ).bind fun x98 =>
 (indexAddr PP 23 x0 x11).bind fun x99 =>
 (store PP lo 69 x99 x94 σ).bind fun σ18 =>
 (indexAddr PP 23 x0 x89).bind fun x100 =>
 (store PP lo 69 x100 x98 σ18).bind fun σ19 =>
 (binOp PP .sub 3 x11 I1).bind fun x71 =>
 codeF G PP (pol 159) CC lo (.loop c159_54) a159_53 (x0 :: x1 :: x2 :: x3 :: zn 5 (x9 :: x10 :: x71 :: zn 129 [])) σ19 (blockC 4 a159_52 (splitC N0 (seqC G PP (pol 159) CC lo c159_71 a159_71 (blockC 1 a159_16 (seqC G PP (pol 159) CC lo c159_95 a159_95 (loopC G PP (pol 159) CC lo c159_9 a159_8 (blockC 0 a159_7 (seqC G PP (pol 159) CC lo c159_96 a159_96 (finR PP Tryz.f159.results.toList)))))))))
 )
 )
 (
 N0 (f159_J0_fr x0 x1 x2 x3 x9 x10 Z Z Z Z Z Z Z Z Z Z Z Z Z Z Z Z Z Z Z Z Z Z Z Z Z Z Z Z Z Z Z Z Z Z Z Z Z Z Z Z Z Z Z Z Z Z Z Z Z Z Z Z Z Z Z Z Z Z Z Z Z Z Z) σ
 ) := (loopF_eq G hG).trans (by kernel_rfl)
theorem f159_L2_eq (G : GuardT) (hG : GuardOk G) (lo : Nat) (x0 x1 x2 x3 x9 x10 x11 : DV) (σ : Store) : f159_L2 G lo x0 x1 x2 x3 x9 x10 x11 σ =
 (binOp PP .geq 3 x11 I1).bind fun x69 =>
 condK x69
 (
 (indexAddr PP 23 x0 x11).bind fun x75 =>
 (load PP 69 x75 σ).bind fun x76 =>
 (binOp PP .sub 3 x11 I1).bind fun x79 =>
 (indexAddr PP 23 x0 x79).bind fun x80 =>
 (load PP 69 x80 σ).bind fun x81 =>
 (pureFn CC x3 [x76, x81] σ).bind fun x82 =>
 (binOp PP .lss 3 x82 I0).bind fun x83 =>
 (unOp .not x83).bind fun x84 =>
 condK x84
 (
 f159_J0 G lo x0 x1 x2 x3 x9 x10 Z Z Z Z Z Z Z Z Z Z Z Z Z Z Z Z Z Z Z Z Z Z Z Z Z Z Z Z Z Z Z Z Z Z Z Z Z Z Z Z Z Z Z Z Z Z Z Z Z Z Z Z Z Z Z Z Z Z Z Z Z Z Z σ
 )
 (
 (binOp PP .sub 3 x11 I1).bind fun x89 =>
 (binOp PP .sub 3 x11 I1).bind fun x92 =>
 (indexAddr PP 23 x0 x92).bind fun x93 =>
 (load PP 69 x93 σ).bind fun x94 =>
 (indexAddr PP 23 x0 x11).bind fun x97 =>
 (load PP 69 x97 σ).bind fun x98 =>
 (indexAddr PP 23 x0 x11).bind fun x99 =>
 (store PP lo 69 x99 x94 σ).bind fun σ18 =>
 (indexAddr PP 23 x0 x89).bind fun x100 =>
 (store PP lo 69 x100 x98 σ18).bind fun σ19 =>
 (binOp PP .sub 3 x11 I1).bind fun x71 =>
 f159_L2 G lo x0 x1 x2 x3 x9 x10 x71 σ19
 )
 )
 (
 f159_J0 G lo x0 x1 x2 x3 x9 x10 Z Z Z Z Z Z Z Z Z Z Z Z Z Z Z Z Z Z Z Z Z Z Z Z Z Z Z Z Z Z Z Z Z Z Z Z Z Z Z Z Z Z Z Z Z Z Z Z Z Z Z Z Z Z Z Z Z Z Z Z Z Z Z σ
 ) := by
 have h := f159_L2_gen (N0 := (seqC G PP (pol 159) CC lo c159_71 a159_71 (blockC 1 a159_16 (seqC G PP (pol 159) CC lo c159_95 a159_95 (loopC G PP (pol 159) CC lo c159_9 a159_8 (blockC 0 a159_7 (seqC G PP (pol 159) CC lo c159_96 a159_96 (finR PP Tryz.f159.results.toList))))))) .normal) G hG lo x0 x1 x2 x3 x9 x10 x11 σ
 simp only [splitC_eta] at h
 exact h
theorem f159_J0_eq (G : GuardT) (lo : Nat) (x0 x1 x2 x3 x9 x10 x11 x39 x40 x41 x42 x43 x44 x45 x46 x47 x48 x49 x50 x51 x52 x53 x54 x55 x56 x57 x58 x59 x60 x61 x62 x63 x64 x65 x66 x67 x68 x69 x70 x71 x72 x73 x74 x75 x76 x77 x78 x79 x80 x81 x82 x83 x84 x85 x86 x87 x88 x89 x90 x91 x92 x93 x94 x95 x96 x97 x98 x99 x100 : DV) (σ : Store) : f159_J0 G lo x0 x1 x2 x3 x9 x10 x11 x39 x40 x41 x42 x43 x44 x45 x46 x47 x48 x49 x50 x51 x52 x53 x54 x55 x56 x57 x58 x59 x60 x61 x62 x63 x64 x65 x66 x67 x68 x69 x70 x71 x72 x73 x74 x75 x76 x77 x78 x79 x80 x81 x82 x83 x84 x85 x86 x87 x88 x89 x90 x91 x92 x93 x94 x95 x96 x97 x98 x99 x100 σ =
 (binOp PP .sub 3 x2 x9).bind fun x103 =>
 (binOp PP .geq 3 x103 (DV.p (PV.int IntKind.i64 (2)))).bind fun x104 =>
 condK x104
 (
 (binOp PP .add 3 x9 I1).bind fun x106 =>
 f159_L3 G lo x0 x1 x2 x3 x9 x10 x106 σ
 )
 (
 f159_J1 G lo x0 x1 x2 x3 x9 x10 x11 Z x39 x40 x41 x42 x43 x44 x45 x46 x47 x48 x49 x50 x51 x52 x53 x54 x55 x56 x57 x58 x59 x60 x61 x62 x63 x64 x65 x66 x67 x68 x69 x70 x71 x72 x73 x74 x75 x76 x77 x78 x79 x80 x81 x82 x83 x84 x85 x86 x87 x88 x89 x90 x91 x92 x93 x94 x95 x96 x97 x98 x99 x100 x2 x9 x103 x104 Z Z Z Z Z Z Z Z Z Z Z Z Z Z Z Z Z Z Z Z Z Z Z Z Z Z Z Z Z Z Z Z Z Z Z Z σ
 ) := by kernel_rfl
theorem f159_L3_gen (G : GuardT) (hG : GuardOk G) (lo : Nat) (N0 : Frame → Store → Option (DV × Store)) (x0 x1 x2 x3 x9 x10 x12 : DV) (σ : Store) : codeF G PP (pol 159) CC lo (.loop c159_78) a159_77 (x0 :: x1 :: x2 :: x3 :: zn 5 (x9 :: x10 :: Z :: x12 :: zn 128 [])) σ
 (blockC 6 a159_76 (splitC N0 (blockC 1 a159_16 (seqC G PP (pol 159) CC lo c159_95 a159_95 (loopC G PP (pol 159) CC lo c159_9 a159_8 (blockC 0 a159_7 (seqC G PP (pol 159) CC lo c159_96 a159_96 (finR PP Tryz.f159.results.toList)))))))) =
 (binOp PP .lss 3 x12 x2).bind fun x109 =>
 condK x109
 (
 (indexAddr PP 23 x0 x12).bind fun x115 =>
 (load PP 69 x115 σ).bind fun x116 =>
 (binOp PP .sub 3 x12 I1).bind fun x119 =>
 (indexAddr PP 23 x0 x119).bind fun x120 =>
 (load PP 69 x120 σ).bind fun x121 =>
 (pureFn CC x3 [x116, x121] σ).bind fun x122 =>
 (binOp PP .lss 3 x122 I0).bind fun x123 =>
 (unOp .not x123).bind fun x124 =>
 condK x124
 (
 N0 (f159_J1_fr x0 x1 x2 x3 x9 x10 Z Z Z Z Z Z Z Z Z Z Z Z Z Z Z Z Z Z Z Z Z Z Z Z Z Z Z Z Z Z Z Z Z Z Z Z Z Z Z Z Z Z Z Z Z Z Z Z Z Z Z Z Z Z Z Z Z Z Z Z Z Z Z Z Z Z Z Z Z Z Z Z Z Z Z Z Z Z Z Z Z Z Z Z Z Z Z Z Z Z Z Z Z Z Z Z Z Z Z Z Z Z Z Z) σ
 )
 (
 (binOp PP .sub 3 x12 I1).bind fun x129 =>
 (binOp PP .sub 3 x12 I1).bind fun x132 =>
 (indexAddr PP 23 x0 x132).bind fun x133 =>
 (load PP 69 x133 σ).bind fun x134 =>
 (indexAddr PP 23 x0 x12).bind fun x137 =>
 (load PP 69 x137 σ).bind fun x138 =>
 (indexAddr PP 23 x0 x12).bind fun x139 =>
 (store PP lo 69 x139 x134 σ).bind fun σ16 =>
 (indexAddr PP 23 x0 x129).bind fun x140 =>
 (store PP lo 69 x140 x138 σ16).bind fun σ17 =>
 (binOp PP .add 3 x12 I1).bind fun x111 =>
 codeF G PP (pol 159) CC lo (.loop c159_78) a159_77 (x0 :: x1 :: x2 :: x3 :: zn 5 (x9 :: x10 :: Z :: x111 :: zn 128 [])) σ17 (blockC 6 a159_76 (splitC N0 (blockC 1 a159_16 (seqC G PP (pol 159) CC lo c159_95 a159_95 (loopC G PP (pol 159) CC lo c159_9 a159_8 (blockC 0 a159_7 (seqC G PP (pol 159) CC lo c159_96 a159_96 (finR PP Tryz.f159.results.toList))))))))
 )
 )
 (
 N0 (f159_J1_fr x0 x1 x2 x3 x9 x10 Z Z Z Z Z Z Z Z Z Z Z Z Z Z Z Z Z Z Z Z Z Z Z Z Z Z Z Z Z Z Z Z Z Z Z Z Z Z Z Z Z Z Z Z Z Z Z Z Z Z Z Z Z Z Z Z Z Z Z Z Z Z Z Z Z Z Z Z Z Z Z Z Z Z Z Z Z Z Z Z Z Z Z Z Z Z Z Z Z Z Z Z Z Z Z Z Z Z Z Z Z Z Z Z) σ
 ) := (loopF_eq G hG).trans (by kernel_rfl)
theorem f159_L3_eq (G : GuardT) (hG : GuardOk G) (lo : Nat) (x0 x1 x2 x3 x9 x10 x12 : DV) (σ : Store) : f159_L3 G lo x0 x1 x2 x3 x9 x10 x12 σ =
 (binOp PP .lss 3 x12 x2).bind fun x109 =>
 condK x109
 (
 (indexAddr PP 23 x0 x12).bind fun x115 =>
 (load PP 69 x115 σ).bind fun x116 =>
 (binOp PP .sub 3 x12 I1).bind fun x119 =>
 (indexAddr PP 23 x0 x119).bind fun x120 =>
 (load PP 69 x120 σ).bind fun x121 =>
 (pureFn CC x3 [x116, x121] σ).bind fun x122 =>
 (binOp PP .lss 3 x122 I0).bind fun x123 =>
 (unOp .not x123).bind fun x124 =>
 condK x124
 (
 f159_J1 G lo x0 x1 x2 x3 x9 x10 Z Z Z Z Z Z Z Z Z Z Z Z Z Z Z Z Z Z Z Z Z Z Z Z Z Z Z Z Z Z Z Z Z Z Z Z Z Z Z Z Z Z Z Z Z Z Z Z Z Z Z Z Z Z Z Z Z Z Z Z Z Z Z Z Z Z Z Z Z Z Z Z Z Z Z Z Z Z Z Z Z Z Z Z Z Z Z Z Z Z Z Z Z Z Z Z Z Z Z Z Z Z Z Z σ
 )
 (
 (binOp PP .sub 3 x12 I1).bind fun x129 =>
 (binOp PP .sub 3 x12 I1).bind fun x132 =>
 (indexAddr PP 23 x0 x132).bind fun x133 =>
 (load PP 69 x133 σ).bind fun x134 =>
 (indexAddr PP 23 x0 x12).bind fun x137 =>
 (load PP 69 x137 σ).bind fun x138 =>
 (indexAddr PP 23 x0 x12).bind fun x139 =>
 (store PP lo 69 x139 x134 σ).bind fun σ16 =>
 (indexAddr PP 23 x0 x129).bind fun x140 =>
 (store PP lo 69 x140 x138 σ16).bind fun σ17 =>
 (binOp PP .add 3 x12 I1).bind fun x111 =>
 f159_L3 G lo x0 x1 x2 x3 x9 x10 x111 σ17
 )
 )
 (
 f159_J1 G lo x0 x1 x2 x3 x9 x10 Z Z Z Z Z Z Z Z Z Z Z Z Z Z Z Z Z Z Z Z Z Z Z Z Z Z Z Z Z Z Z Z Z Z Z Z Z Z Z Z Z Z Z Z Z Z Z Z Z Z Z Z Z Z Z Z Z Z Z Z Z Z Z Z Z Z Z Z Z Z Z Z Z Z Z Z Z Z Z Z Z Z Z Z Z Z Z Z Z Z Z Z Z Z Z Z Z Z Z Z Z Z Z Z σ
 ) := by
 have h := f159_L3_gen (N0 := (blockC 1 a159_16 (seqC G PP (pol 159) CC lo c159_95 a159_95 (loopC G PP (pol 159) CC lo c159_9 a159_8 (blockC 0 a159_7 (seqC G PP (pol 159) CC lo c159_96 a159_96 (finR PP Tryz.f159.results.toList)))))) .normal) G hG lo x0 x1 x2 x3 x9 x10 x12 σ
 simp only [splitC_eta] at h
 exact h
theorem f159_J1_eq (G : GuardT) (lo : Nat) (x0 x1 x2 x3 x9 x10 x11 x12 x39 x40 x41 x42 x43 x44 x45 x46 x47 x48 x49 x50 x51 x52 x53 x54 x55 x56 x57 x58 x59 x60 x61 x62 x63 x64 x65 x66 x67 x68 x69 x70 x71 x72 x73 x74 x75 x76 x77 x78 x79 x80 x81 x82 x83 x84 x85 x86 x87 x88 x89 x90 x91 x92 x93 x94 x95 x96 x97 x98 x99 x100 x101 x102 x103 x104 x105 x106 x107 x108 x109 x110 x111 x112 x113 x114 x115 x116 x117 x118 x119 x120 x121 x122 x123 x124 x125 x126 x127 x128 x129 x130 x131 x132 x133 x134 x135 x136 x137 x138 x139 x140 : DV) (σ : Store) : f159_J1 G lo x0 x1 x2 x3 x9 x10 x11 x12 x39 x40 x41 x42 x43 x44 x45 x46 x47 x48 x49 x50 x51 x52 x53 x54 x55 x56 x57 x58 x59 x60 x61 x62 x63 x64 x65 x66 x67 x68 x69 x70 x71 x72 x73 x74 x75 x76 x77 x78 x79 x80 x81 x82 x83 x84 x85 x86 x87 x88 x89 x90 x91 x92 x93 x94 x95 x96 x97 x98 x99 x100 x101 x102 x103 x104 x105 x106 x107 x108 x109 x110 x111 x112 x113 x114 x115 x116 x117 x118 x119 x120 x121 x122 x123 x124 x125 x126 x127 x128 x129 x130 x131 x132 x133 x134 x135 x136 x137 x138 x139 x140 σ =
 (binOp PP .add 3 x10 I1).bind fun x18 =>
 f159_L0 G lo x0 x1 x2 x3 x9 x18 σ := by kernel_rfl
theorem F159_eq (G : GuardT) (lo : Nat) (x0 x1 x2 x3 : DV) (σ : Store) : F159 G lo x0 x1 x2 x3 σ =
 (binOp PP .add 3 x1 I1).bind fun x14 =>
 f159_L0 G lo x0 x1 x2 x3 x14 I0 σ := by kernel_rfl
theorem F159_call {lo : Nat} {x0 x1 x2 x3 : DV} (h : F159 guardT lo x0 x1 x2 x3 σ = some r) : CC lo 159 [x0, x1, x2, x3] σ = some r :=
 callL_run Tryz.func159 (by decide +kernel) rfl (by decide +kernel) h
def c160_0 : Code := bodyOf Tryz.f160
def a160_0 : Ann := (pol 160).ann
def a160_7 : Ann := left (right (right (right a160_0)))
def a160_8 : Ann := left a160_7
def c160_9 : Code := fstC (fstC (fstC (sndC (sndC (sndC c160_0)))))
def a160_9 : Ann := left a160_8
def a160_11 : Ann := left (left a160_9)
def a160_12 : Ann := left a160_11
def c160_13 : Code := fstC (fstC (fstC (fstC c160_9)))
def c160_21 : Code := sndC (fstC c160_9)
def a160_21 : Ann := right (left a160_9)
def a160_22 : Ann := left a160_21
def a160_23 : Ann := left a160_22
def c160_24 : Code := fstC (fstC (fstC c160_21))
def c160_32 : Code := sndC c160_21
def a160_32 : Ann := right a160_21
def c160_43 : Code := sndC (sndC (sndC (sndC c160_0)))
def a160_43 : Ann := right (right (right (right a160_0)))
def f160_L0 (x0 x1 x4 x11 x12 : DV) (σ : Store) : RS :=
 codeF G PP (pol 160) CC lo (.loop c160_9) a160_8 (x0 :: x1 :: Z :: Z :: x4 :: zn 6 (x11 :: x12 :: zn 77 [])) σ
 (blockC 0 a160_7 (seqC G PP (pol 160) CC lo c160_43 a160_43 (finR PP Tryz.f160.results.toList)))
def f160_L1 (x0 x1 x4 x11 x12 : DV) (σ : Store) : RS :=
 codeF G PP (pol 160) CC lo (.loop c160_13) a160_12 (x0 :: x1 :: Z :: Z :: x4 :: zn 6 (x11 :: x12 :: zn 77 [])) σ
 (blockC 2 a160_11 (seqC G PP (pol 160) CC lo c160_21 a160_21 (blockC 1 a160_9 (loopC G PP (pol 160) CC lo c160_9 a160_8 (blockC 0 a160_7 (seqC G PP (pol 160) CC lo c160_43 a160_43 (finR PP Tryz.f160.results.toList)))))))
def f160_L2 (x0 x1 x4 x11 x12 : DV) (σ : Store) : RS :=
 codeF G PP (pol 160) CC lo (.loop c160_24) a160_23 (x0 :: x1 :: Z :: Z :: x4 :: zn 6 (x11 :: x12 :: zn 77 [])) σ
 (blockC 4 a160_22 (seqC G PP (pol 160) CC lo c160_32 a160_32 (blockC 1 a160_9 (loopC G PP (pol 160) CC lo c160_9 a160_8 (blockC 0 a160_7 (seqC G PP (pol 160) CC lo c160_43 a160_43 (finR PP Tryz.f160.results.toList)))))))
def F160 (x0 x1 x2 x3 x4 : DV) (σ : Store) : RS :=
 codeF G PP (pol 160) CC lo c160_0 a160_0 (x0 :: x1 :: x2 :: x3 :: x4 :: zn 85 []) σ (finR PP Tryz.f160.results.toList)
theorem f160_L0_eq (G : GuardT) (hG : GuardOk G) (lo : Nat) (x0 x1 x4 x11 x12 : DV) (σ : Store) : f160_L0 G lo x0 x1 x4 x11 x12 σ =
 f160_L1 G lo x0 x1 x4 x11 x12 σ := (loopF_eq G hG).trans (by kernel_rfl)
theorem f160_L1_eq (G : GuardT) (hG : GuardOk G) (lo : Nat) (x0 x1 x4 x11 x12 : DV) (σ : Store) : f160_L1 G lo x0 x1 x4 x11 x12 σ =
 (binOp PP .leq 3 x11 x12).bind fun x33 =>
 G _ x33 true (some (x4, σ)) σ fun x35 σ3 =>
 G _ x33 true (some (x0, σ3)) σ3 fun x36 σ4 =>
 G _ x33 true (some (x1, σ4)) σ4 fun x37 σ5 =>
 G _ x33 true ((indexAddr PP 23 x36 x37).bind fun v => some (v, σ5)) σ5 fun x38 σ6 =>
 G _ x33 true ((load PP 69 x38 σ6).bind fun v => some (v, σ6)) σ6 fun x39 σ7 =>
 G _ x33 true (some (x0, σ7)) σ7 fun x40 σ8 =>
 G _ x33 true (some (x11, σ8)) σ8 fun x41 σ9 =>
 G _ x33 true ((indexAddr PP 23 x40 x41).bind fun v => some (v, σ9)) σ9 fun x42 σ10 =>
 G _ x33 true ((load PP 69 x42 σ10).bind fun v => some (v, σ10)) σ10 fun x43 σ11 =>
 G _ x33 true ((pureFn CC x35 [x39, x43] σ11).bind fun v => some (v, σ11)) σ11 fun x44 σ12 =>
 G _ x33 true ((binOp PP .lss 3 x44 I0).bind fun v => some (v, σ12)) σ12 fun x45 σ13 =>
 G _ x33 true ((unOp .not x45).bind fun v => some (v, σ13)) σ13 fun x46 σ14 =>
 (pickV x33 x46 (DV.p (PV.bool false))).bind fun x47 =>
 condK x47
 (
 (binOp PP .add 3 x11 I1).bind fun x49 =>
 f160_L1 G lo x0 x1 x4 x49 x12 σ14
 )
 (
 f160_L2 G lo x0 x1 x4 x11 x12 σ14
 ) := (loopF_eq G hG).trans (by kernel_rfl)
theorem f160_L2_eq (G : GuardT) (hG : GuardOk G) (lo : Nat) (x0 x1 x4 x11 x12 : DV) (σ : Store) : f160_L2 G lo x0 x1 x4 x11 x12 σ =
 (binOp PP .leq 3 x11 x12).bind fun x52 =>
 G _ x52 true (some (x4, σ)) σ fun x54 σ15 =>
 G _ x52 true (some (x0, σ15)) σ15 fun x55 σ16 =>
 G _ x52 true (some (x1, σ16)) σ16 fun x56 σ17 =>
 G _ x52 true ((indexAddr PP 23 x55 x56).bind fun v => some (v, σ17)) σ17 fun x57 σ18 =>
 G _ x52 true ((load PP 69 x57 σ18).bind fun v => some (v, σ18)) σ18 fun x58 σ19 =>
 G _ x52 true (some (x0, σ19)) σ19 fun x59 σ20 =>
 G _ x52 true (some (x12, σ20)) σ20 fun x60 σ21 =>
 G _ x52 true ((indexAddr PP 23 x59 x60).bind fun v => some (v, σ21)) σ21 fun x61 σ22 =>
 G _ x52 true ((load PP 69 x61 σ22).bind fun v => some (v, σ22)) σ22 fun x62 σ23 =>
 G _ x52 true ((pureFn CC x54 [x58, x62] σ23).bind fun v => some (v, σ23)) σ23 fun x63 σ24 =>
 G _ x52 true ((binOp PP .lss 3 x63 I0).bind fun v => some (v, σ24)) σ24 fun x64 σ25 =>
 (pickV x52 x64 (DV.p (PV.bool false))).bind fun x65 =>
 condK x65
 (
 (binOp PP .sub 3 x12 I1).bind fun x67 =>
 f160_L2 G lo x0 x1 x4 x11 x67 σ25
 )
 (
 (binOp PP .gtr 3 x11 x12).bind fun x70 =>
 condK x70
 (
 some (x11, σ25)
 )
 (
 (indexAddr PP 23 x0 x12).bind fun x77 =>
 (load PP 69 x77 σ25).bind fun x78 =>
 (indexAddr PP 23 x0 x11).bind fun x81 =>
 (load PP 69 x81 σ25).bind fun x82 =>
 (indexAddr PP 23 x0 x11).bind fun x83 =>
 (store PP lo 69 x83 x78 σ25).bind fun σ26 =>
 (indexAddr PP 23 x0 x12).bind fun x84 =>
 (store PP lo 69 x84 x82 σ26).bind fun σ27 =>
 (binOp PP .add 3 x11 I1).bind fun x86 =>
 (binOp PP .sub 3 x12 I1).bind fun x88 =>
 f160_L0 G lo x0 x1 x4 x86 x88 σ27
 )
 ) := (loopF_eq G hG).trans (by kernel_rfl)
theorem F160_eq (G : GuardT) (lo : Nat) (x0 x1 x2 x3 x4 : DV) (σ : Store) : F160 G lo x0 x1 x2 x3 x4 σ =
 (indexAddr PP 23 x0 x3).bind fun x19 =>
 (load PP 69 x19 σ).bind fun x20 =>
 (indexAddr PP 23 x0 x1).bind fun x23 =>
 (load PP 69 x23 σ).bind fun x24 =>
 (indexAddr PP 23 x0 x1).bind fun x25 =>
 (store PP lo 69 x25 x20 σ).bind fun σ1 =>
 (indexAddr PP 23 x0 x3).bind fun x26 =>
 (store PP lo 69 x26 x24 σ1).bind fun σ2 =>
 (binOp PP .add 3 x1 I1).bind fun x28 =>
 (binOp PP .sub 3 x2 I1).bind fun x30 =>
 f160_L0 G lo x0 x1 x4 x28 x30 σ2 := by kernel_rfl
theorem F160_call {lo : Nat} {x0 x1 x2 x3 x4 : DV} (h : F160 guardT lo x0 x1 x2 x3 x4 σ = some r) : CC lo 160 [x0, x1, x2, x3, x4] σ = some r :=
 callL_run Tryz.func160 (by decide +kernel) rfl (by decide +kernel) h
def c161_0 : Code := bodyOf Tryz.f161
def a161_0 : Ann := (pol 161).ann
def a161_7 : Ann := left (right (right (right a161_0)))
def a161_8 : Ann := left a161_7
def c161_9 : Code := fstC (fstC (fstC (sndC (sndC (sndC c161_0)))))
def c161_17 : Code := sndC (sndC (sndC (sndC c161_0)))
def a161_17 : Ann := right (right (right (right a161_0)))
def a161_18 : Ann := left a161_17
def a161_19 : Ann := left a161_18
def c161_20 : Code := fstC (fstC (fstC c161_17))
def c161_28 : Code := sndC c161_17
def a161_28 : Ann := right a161_17
def a161_45 : Ann := left (right (right (right (right a161_28))))
def a161_46 : Ann := left a161_45
def c161_47 : Code := fstC (fstC (fstC (sndC (sndC (sndC (sndC c161_28))))))
def a161_47 : Ann := left a161_46
def a161_49 : Ann := left (left a161_47)
def a161_50 : Ann := left a161_49
def c161_51 : Code := fstC (fstC (fstC (fstC c161_47)))
def c161_59 : Code := sndC (fstC c161_47)
def a161_59 : Ann := right (left a161_47)
def a161_60 : Ann := left a161_59
def a161_61 : Ann := left a161_60
def c161_62 : Code := fstC (fstC (fstC c161_59))
def c161_70 : Code := sndC c161_59
def a161_70 : Ann := right a161_59
def c161_81 : Code := sndC (sndC (sndC (sndC (sndC c161_28))))
def a161_81 : Ann := right (right (right (right (right a161_28))))
def f161_L0 (x0 x1 x4 x12 x13 : DV) (σ : Store) : RS :=
 codeF G PP (pol 161) CC lo (.loop c161_9) a161_8 (x0 :: x1 :: Z :: Z :: x4 :: zn 7 (x12 :: x13 :: zn 164 [])) σ
 (blockC 0 a161_7 (seqC G PP (pol 161) CC lo c161_17 a161_17 (finR PP Tryz.f161.results.toList)))
def f161_L1 (x0 x1 x4 x12 x13 : DV) (σ : Store) : RS :=
 codeF G PP (pol 161) CC lo (.loop c161_20) a161_19 (x0 :: x1 :: Z :: Z :: x4 :: zn 7 (x12 :: x13 :: zn 164 [])) σ
 (blockC 2 a161_18 (seqC G PP (pol 161) CC lo c161_28 a161_28 (finR PP Tryz.f161.results.toList)))
def f161_L2 (x0 x1 x4 x12 x13 : DV) (σ : Store) : RS :=
 codeF G PP (pol 161) CC lo (.loop c161_47) a161_46 (x0 :: x1 :: Z :: Z :: x4 :: zn 7 (x12 :: x13 :: zn 164 [])) σ
 (blockC 4 a161_45 (seqC G PP (pol 161) CC lo c161_81 a161_81 (finR PP Tryz.f161.results.toList)))
def f161_L3 (x0 x1 x4 x12 x13 : DV) (σ : Store) : RS :=
 codeF G PP (pol 161) CC lo (.loop c161_51) a161_50 (x0 :: x1 :: Z :: Z :: x4 :: zn 7 (x12 :: x13 :: zn 164 [])) σ
 (blockC 6 a161_49 (seqC G PP (pol 161) CC lo c161_59 a161_59 (blockC 5 a161_47 (loopC G PP (pol 161) CC lo c161_47 a161_46 (blockC 4 a161_45 (seqC G PP (pol 161) CC lo c161_81 a161_81 (finR PP Tryz.f161.results.toList)))))))
def f161_L4 (x0 x1 x4 x12 x13 : DV) (σ : Store) : RS :=
 codeF G PP (pol 161) CC lo (.loop c161_62) a161_61 (x0 :: x1 :: Z :: Z :: x4 :: zn 7 (x12 :: x13 :: zn 164 [])) σ
 (blockC 8 a161_60 (seqC G PP (pol 161) CC lo c161_70 a161_70 (blockC 5 a161_47 (loopC G PP (pol 161) CC lo c161_47 a161_46 (blockC 4 a161_45 (seqC G PP (pol 161) CC lo c161_81 a161_81 (finR PP Tryz.f161.results.toList)))))))
def F161 (x0 x1 x2 x3 x4 : DV) (σ : Store) : RS :=
 codeF G PP (pol 161) CC lo c161_0 a161_0 (x0 :: x1 :: x2 :: x3 :: x4 :: zn 173 []) σ (finR PP Tryz.f161.results.toList)
theorem f161_L0_eq (G : GuardT) (hG : GuardOk G) (lo : Nat) (x0 x1 x4 x12 x13 : DV) (σ : Store) : f161_L0 G lo x0 x1 x4 x12 x13 σ =
 (binOp PP .leq 3 x12 x13).bind fun x34 =>
 G _ x34 true (some (x4, σ)) σ fun x36 σ3 =>
 G _ x34 true (some (x0, σ3)) σ3 fun x37 σ4 =>
 G _ x34 true (some (x12, σ4)) σ4 fun x38 σ5 =>
 G _ x34 true ((indexAddr PP 23 x37 x38).bind fun v => some (v, σ5)) σ5 fun x39 σ6 =>
 G _ x34 true ((load PP 69 x39 σ6).bind fun v => some (v, σ6)) σ6 fun x40 σ7 =>
 G _ x34 true (some (x0, σ7)) σ7 fun x41 σ8 =>
 G _ x34 true (some (x1, σ8)) σ8 fun x42 σ9 =>
 G _ x34 true ((indexAddr PP 23 x41 x42).bind fun v => some (v, σ9)) σ9 fun x43 σ10 =>
 G _ x34 true ((load PP 69 x43 σ10).bind fun v => some (v, σ10)) σ10 fun x44 σ11 =>
 G _ x34 true ((pureFn CC x36 [x40, x44] σ11).bind fun v => some (v, σ11)) σ11 fun x45 σ12 =>
 G _ x34 true ((binOp PP .lss 3 x45 I0).bind fun v => some (v, σ12)) σ12 fun x46 σ13 =>
 (pickV x34 x46 (DV.p (PV.bool false))).bind fun x47 =>
 condK x47
 (
 (binOp PP .add 3 x12 I1).bind fun x49 =>
 f161_L0 G lo x0 x1 x4 x49 x13 σ13
 )
 (
 f161_L1 G lo x0 x1 x4 x12 x13 σ13
 ) := (loopF_eq G hG).trans (by kernel_rfl)
theorem f161_L1_eq (G : GuardT) (hG : GuardOk G) (lo : Nat) (x0 x1 x4 x12 x13 : DV) (σ : Store) : f161_L1 G lo x0 x1 x4 x12 x13 σ =
 (binOp PP .leq 3 x12 x13).bind fun x52 =>
 G _ x52 true (some (x4, σ)) σ fun x54 σ14 =>
 G _ x52 true (some (x0, σ14)) σ14 fun x55 σ15 =>
 G _ x52 true (some (x13, σ15)) σ15 fun x56 σ16 =>
 G _ x52 true ((indexAddr PP 23 x55 x56).bind fun v => some (v, σ16)) σ16 fun x57 σ17 =>
 G _ x52 true ((load PP 69 x57 σ17).bind fun v => some (v, σ17)) σ17 fun x58 σ18 =>
 G _ x52 true (some (x0, σ18)) σ18 fun x59 σ19 =>
 G _ x52 true (some (x1, σ19)) σ19 fun x60 σ20 =>
 G _ x52 true ((indexAddr PP 23 x59 x60).bind fun v => some (v, σ20)) σ20 fun x61 σ21 =>
 G _ x52 true ((load PP 69 x61 σ21).bind fun v => some (v, σ21)) σ21 fun x62 σ22 =>
 G _ x52 true ((pureFn CC x54 [x58, x62] σ22).bind fun v => some (v, σ22)) σ22 fun x63 σ23 =>
 G _ x52 true ((binOp PP .lss 3 x63 I0).bind fun v => some (v, σ23)) σ23 fun x64 σ24 =>
 G _ x52 true ((unOp .not x64).bind fun v => some (v, σ24)) σ24 fun x65 σ25 =>
 (pickV x52 x65 (DV.p (PV.bool false))).bind fun x66 =>
 condK x66
 (
 (binOp PP .sub 3 x13 I1).bind fun x68 =>
 f161_L1 G lo x0 x1 x4 x12 x68 σ25
 )
 (
 (binOp PP .gtr 3 x12 x13).bind fun x71 =>
 condK x71
 (
 (indexAddr PP 23 x0 x1).bind fun x78 =>
 (load PP 69 x78 σ25).bind fun x79 =>
 (indexAddr PP 23 x0 x13).bind fun x82 =>
 (load PP 69 x82 σ25).bind fun x83 =>
 (indexAddr PP 23 x0 x13).bind fun x84 =>
 (store PP lo 69 x84 x79 σ25).bind fun σ26 =>
 (indexAddr PP 23 x0 x1).bind fun x85 =>
 (store PP lo 69 x85 x83 σ26).bind fun σ27 =>
 some ((DV.tuple [x13, (DV.p (PV.bool true))]), σ27)
 )
 (
 (indexAddr PP 23 x0 x13).bind fun x93 =>
 (load PP 69 x93 σ25).bind fun x94 =>
 (indexAddr PP 23 x0 x12).bind fun x97 =>
 (load PP 69 x97 σ25).bind fun x98 =>
 (indexAddr PP 23 x0 x12).bind fun x99 =>
 (store PP lo 69 x99 x94 σ25).bind fun σ28 =>
 (indexAddr PP 23 x0 x13).bind fun x100 =>
 (store PP lo 69 x100 x98 σ28).bind fun σ29 =>
 (binOp PP .add 3 x12 I1).bind fun x102 =>
 (binOp PP .sub 3 x13 I1).bind fun x104 =>
 f161_L2 G lo x0 x1 x4 x102 x104 σ29
 )
 ) := (loopF_eq G hG).trans (by kernel_rfl)
theorem f161_L2_eq (G : GuardT) (hG : GuardOk G) (lo : Nat) (x0 x1 x4 x12 x13 : DV) (σ : Store) : f161_L2 G lo x0 x1 x4 x12 x13 σ =
 f161_L3 G lo x0 x1 x4 x12 x13 σ := (loopF_eq G hG).trans (by kernel_rfl)
theorem f161_L3_eq (G : GuardT) (hG : GuardOk G) (lo : Nat) (x0 x1 x4 x12 x13 : DV) (σ : Store) : f161_L3 G lo x0 x1 x4 x12 x13 σ =
 (binOp PP .leq 3 x12 x13).bind fun x107 =>
 G _ x107 true (some (x4, σ)) σ fun x109 σ30 =>
 G _ x107 true (some (x0, σ30)) σ30 fun x110 σ31 =>
 G _ x107 true (some (x12, σ31)) σ31 fun x111 σ32 =>
 G _ x107 true ((indexAddr PP 23 x110 x111).bind fun v => some (v, σ32)) σ32 fun x112 σ33 =>
 G _ x107 true ((load PP 69 x112 σ33).bind fun v => some (v, σ33)) σ33 fun x113 σ34 =>
 G _ x107 true (some (x0, σ34)) σ34 fun x114 σ35 =>
 G _ x107 true (some (x1, σ35)) σ35 fun x115 σ36 =>
 G _ x107 true ((indexAddr PP 23 x114 x115).bind fun v => some (v, σ36)) σ36 fun x116 σ37 =>
 G _ x107 true ((load PP 69 x116 σ37).bind fun v => some (v, σ37)) σ37 fun x117 σ38 =>
 G _ x107 true ((pureFn CC x109 [x113, x117] σ38).bind fun v => some (v, σ38)) σ38 fun x118 σ39 =>
 G _ x107 true ((binOp PP .lss 3 x118 I0).bind fun v => some (v, σ39)) σ39 fun x119 σ40 =>
 (pickV x107 x119 (DV.p (PV.bool false))).bind fun x120 =>
 condK x120
 (
 (binOp PP .add 3 x12 I1).bind fun x122 =>
 f161_L3 G lo x0 x1 x4 x122 x13 σ40
 )
 (
 f161_L4 G lo x0 x1 x4 x12 x13 σ40
 ) := (loopF_eq G hG).trans (by kernel_rfl)
theorem f161_L4_eq (G : GuardT) (hG : GuardOk G) (lo : Nat) (x0 x1 x4 x12 x13 : DV) (σ : Store) : f161_L4 G lo x0 x1 x4 x12 x13 σ =
 (binOp PP .leq 3 x12 x13).bind fun x125 =>
 G _ x125 true (some (x4, σ)) σ fun x127 σ41 =>
 G _ x125 true (some (x0, σ41)) σ41 fun x128 σ42 =>
 G _ x125 true (some (x13, σ42)) σ42 fun x129 σ43 =>
 G _ x125 true ((indexAddr PP 23 x128 x129).bind fun v => some (v, σ43)) σ43 fun x130 σ44 =>
 G _ x125 true ((load PP 69 x130 σ44).bind fun v => some (v, σ44)) σ44 fun x131 σ45 =>
 G _ x125 true (some (x0, σ45)) σ45 fun x132 σ46 =>
 G _ x125 true (some (x1, σ46)) σ46 fun x133 σ47 =>
 G _ x125 true ((indexAddr PP 23 x132 x133).bind fun v => some (v, σ47)) σ47 fun x134 σ48 =>
 G _ x125 true ((load PP 69 x134 σ48).bind fun v => some (v, σ48)) σ48 fun x135 σ49 =>
 G _ x125 true ((pureFn CC x127 [x131, x135] σ49).bind fun v => some (v, σ49)) σ49 fun x136 σ50 =>
 G _ x125 true ((binOp PP .lss 3 x136 I0).bind fun v => some (v, σ50)) σ50 fun x137 σ51 =>
 G _ x125 true ((unOp .not x137).bind fun v => some (v, σ51)) σ51 fun x138 σ52 =>
 (pickV x125 x138 (DV.p (PV.bool false))).bind fun x139 =>
 condK x139
 (
 (binOp PP .sub 3 x13 I1).bind fun x141 =>
 f161_L4 G lo x0 x1 x4 x12 x141 σ52
 )
 (
 (binOp PP .gtr 3 x12 x13).bind fun x144 =>
 condK x144
 (
 (indexAddr PP 23 x0 x1).bind fun x169 =>
 (load PP 69 x169 σ52).bind fun x170 =>
 (indexAddr PP 23 x0 x13).bind fun x173 =>
 (load PP 69 x173 σ52).bind fun x174 =>
 (indexAddr PP 23 x0 x13).bind fun x175 =>
 (store PP lo 69 x175 x170 σ52).bind fun σ53 =>
 (indexAddr PP 23 x0 x1).bind fun x176 =>
 (store PP lo 69 x176 x174 σ53).bind fun σ54 =>
 some ((DV.tuple [x13, (DV.p (PV.bool false))]), σ54)
 )
 (
 (indexAddr PP 23 x0 x13).bind fun x151 =>
 (load PP 69 x151 σ52).bind fun x152 =>
 (indexAddr PP 23 x0 x12).bind fun x155 =>
 (load PP 69 x155 σ52).bind fun x156 =>
 (indexAddr PP 23 x0 x12).bind fun x157 =>
 (store PP lo 69 x157 x152 σ52).bind fun σ55 =>
 (indexAddr PP 23 x0 x13).bind fun x158 =>
 (store PP lo 69 x158 x156 σ55).bind fun σ56 =>
 (binOp PP .add 3 x12 I1).bind fun x160 =>
 (binOp PP .sub 3 x13 I1).bind fun x162 =>
 f161_L2 G lo x0 x1 x4 x160 x162 σ56
 )
 ) := (loopF_eq G hG).trans (by kernel_rfl)
theorem F161_eq (G : GuardT) (lo : Nat) (x0 x1 x2 x3 x4 : DV) (σ : Store) : F161 G lo x0 x1 x2 x3 x4 σ =
 (indexAddr PP 23 x0 x3).bind fun x20 =>
 (load PP 69 x20 σ).bind fun x21 =>
 (indexAddr PP 23 x0 x1).bind fun x24 =>
 (load PP 69 x24 σ).bind fun x25 =>
 (indexAddr PP 23 x0 x1).bind fun x26 =>
 (store PP lo 69 x26 x21 σ).bind fun σ1 =>
 (indexAddr PP 23 x0 x3).bind fun x27 =>
 (store PP lo 69 x27 x25 σ1).bind fun σ2 =>
 (binOp PP .add 3 x1 I1).bind fun x29 =>
 (binOp PP .sub 3 x2 I1).bind fun x31 =>
 f161_L0 G lo x0 x1 x4 x29 x31 σ2 := by kernel_rfl
theorem F161_call {lo : Nat} {x0 x1 x2 x3 x4 : DV} (h : F161 guardT lo x0 x1 x2 x3 x4 σ = some r) : CC lo 161 [x0, x1, x2, x3, x4] σ = some r :=
 callL_run Tryz.func161 (by decide +kernel) rfl (by decide +kernel) h
end
end Go.D
end
/- Sorting by the library's pdqsort over elements of type 69: the program's functions do what Go.D.Srt says. -/
section
set_option linter.unusedVariables false
set_option linter.unusedSimpArgs false
namespace Go.D.StT
open Go.D.Srt
abbrev E : Type := Edg
def cel (e : E) : List DV := [.p (.int .i64 e.f), .p (.int .i64 e.t), .p (.int .i64 e.a)]
def val (e : E) : DV := .agg (cel e)
def cels (A : List E) : List DV := A.flatMap cel
theorem cel_len (e : E) : (cel e).length = 3 := rfl
theorem cel_one (e : E) : (cel e).all DV.one = true := rfl
theorem cels_len (A : List E) : (cels A).length = A.length * 3 := by
  induction A with
  | nil => rfl
  | cons a A ih =>
    have e : cels (a :: A) = cel a ++ cels A := rfl
    rw [e, List.length_append, ih, cel_len, List.length_cons]; omega
theorem cels_app (A B : List E) : cels (A ++ B) = cels A ++ cels B := by simp [cels]
theorem cels_at {A : List E} {i : Nat} (h : i < A.length) : cels A = cels (A.take i) ++ (cel (ge A i) ++ cels (A.drop (i + 1))) := by
  have e1 : A = A.take i ++ (ge A i :: A.drop (i + 1)) := by
    have e2 : ge A i = A[i] := by unfold ge; rw [List.getD_eq_getElem?_getD, List.getElem?_eq_getElem h]; rfl
    rw [e2, ← List.drop_eq_getElem_cons h, List.take_append_drop]
  have e3 : cels (ge A i :: A.drop (i + 1)) = cel (ge A i) ++ cels (A.drop (i + 1)) := rfl
  rw [← e3, ← cels_app, ← e1]
theorem take_len {A : List E} {i : Nat} (h : i < A.length) : (cels (A.take i)).length = i * 3 := by
  rw [cels_len, List.length_take, Nat.min_eq_left (by omega)]
theorem cels_get {A : List E} {i : Nat} (h : i < A.length) : ((cels A).drop (i * 3)).take 3 = cel (ge A i) := by
  rw [cels_at h, ← take_len h, List.drop_left, List.take_append_of_le_length (by rw [cel_len]; exact Nat.le_refl _), List.take_of_length_le (by rw [cel_len]; exact Nat.le_refl _)]
theorem cels_set {A : List E} {i : Nat} (h : i < A.length) (v : E) : splice (cels A) (i * 3) (cel v) = cels (A.set i v) := by
  have h2 : i < (A.set i v).length := by rw [List.length_set]; exact h
  rw [cels_at h2, ge_set h, if_pos rfl, List.take_set_of_le (Nat.le_refl _), List.drop_set_of_lt (by omega)]
  unfold splice
  rw [cels_at h, List.take_append_of_le_length (by rw [take_len h]; exact Nat.le_refl _), List.take_of_length_le (by rw [take_len h]; exact Nat.le_refl _), List.append_assoc]
  congr 2
  rw [← List.append_assoc, List.drop_append_of_le_length (by rw [List.length_append, take_len h, cel_len, cel_len]; exact Nat.le_refl _), List.drop_of_length_le (by rw [List.length_append, take_len h, cel_len, cel_len]; exact Nat.le_refl _), List.nil_append]
def W (σ : Store) (r : Nat) (A : List E) : Store := σ.set r (.mix (cels A))
theorem W_get {σ : Store} {r : Nat} (hr : r < σ.length) (A : List E) : (W σ r A)[r]? = some (.mix (cels A)) := by rw [W, List.getElem?_set_self hr]
theorem W_eq {σ : Store} {r : Nat} {A : List E} (h : σ[r]? = some (.mix (cels A))) : W σ r A = σ := by
  refine List.ext_getElem? fun i => ?_
  rw [W]
  by_cases e : r = i
  · subst e; rw [List.getElem?_set_self (get_lt h), h]
  · rw [List.getElem?_set_ne e]
theorem W_len (σ : Store) (r : Nat) (A : List E) : (W σ r A).length = σ.length := by simp [W]
theorem W_snoc {σ : Store} {r : Nat} (hr : r < σ.length) (A : List E) (row : Row) : W σ r A ++ [row] = W (σ ++ [row]) r A := by
  rw [W, W, List.set_append_left _ _ hr]
theorem uL : PP.underlying 23 = some (.slice 69) := Eq.trans (by kernel_rfl) rfl
theorem sE : size? PP 69 = some 3 := Eq.trans (by kernel_rfl) rfl
theorem loadE (x : DV) (σ : Store) : load PP 69 x σ = (loadN σ 3 x).map .agg := Eq.trans (by kernel_rfl) rfl
theorem idxL {r n i : Nat} (h : i < n) : indexAddr PP 23 (.rsl r 3 0 n) (.p (pI (i : Nat))) = some (.ptr r (i * 3)) := by
  have h2 : (0 : Int) ≤ (i : Int) ∧ (i : Int) < (n : Nat) := by omega
  simp [indexAddr, uL, sE, h2]
theorem ldW {σ : Store} {r i : Nat} {A : List E} (hr : r < σ.length) (h : i < A.length) : load PP 69 (.ptr r (i * 3)) (W σ r A) = some (val (ge A i)) := by
  rw [loadE, loadN_ptr (W_get hr A) (cels_get h) (by rw [cels_len]; omega)]; rfl
theorem stW {σ : Store} {r i lo : Nat} {A : List E} (hr : r < σ.length) (h : i < A.length) (hlo : lo ≤ r) (v : E) : store PP lo 69 (.ptr r (i * 3)) (val v) (W σ r A) = some (W σ r (A.set i v)) := by
  have e1 : (val v).cells = cel v := rfl
  have e2 : i * 3 + 3 ≤ (cels A).length := by rw [cels_len]; omega
  simp only [store, sE, e1, cel_len, if_true, storeN, hlo, W_get hr, cel_one, e2, decide_true, Bool.and_self, cels_set h]
  rw [W, W, List.set_set]
theorem set_len (A : List E) (i : Nat) (v : E) : (A.set i v).length = A.length := List.length_set
theorem add1 {a : Nat} (h : a ≤ 1000000) : binOp PP .add 3 (.p (.int .i64 (a : Nat))) (.p (.int .i64 1)) = some (.p (.int .i64 ((a + 1 : Nat) : Int))) := by
  rw [b_add, wrap_ok (by omega) (by omega)]; rfl
theorem sub1 {a : Nat} (h0 : 0 < a) (h : a ≤ 1000000) : binOp PP .sub 3 (.p (.int .i64 (a : Nat))) (.p (.int .i64 1)) = some (.p (.int .i64 ((a - 1 : Nat) : Int))) := by
  rw [b_sub, wrap_ok (by omega) (by omega)]
  congr 3
  omega
theorem addN {a b : Nat} (h : a + b ≤ 1000000) : binOp PP .add 3 (.p (.int .i64 (a : Nat))) (.p (.int .i64 (b : Nat))) = some (.p (.int .i64 ((a + b : Nat) : Int))) := by
  rw [b_add, wrap_ok (by omega) (by omega)]; rfl
theorem subN {a b : Nat} (h0 : b ≤ a) (h : a ≤ 1000000) : binOp PP .sub 3 (.p (.int .i64 (a : Nat))) (.p (.int .i64 (b : Nat))) = some (.p (.int .i64 ((a - b : Nat) : Int))) := by
  rw [b_sub, wrap_ok (by omega) (by omega)]
  congr 3
  omega
theorem mul2 {a : Nat} (h : a ≤ 1000000) : binOp PP .mul 3 (.p (.int .i64 2)) (.p (.int .i64 (a : Nat))) = some (.p (.int .i64 ((2 * a : Nat) : Int))) := by
  rw [b_mul, wrap_ok (by omega) (by omega)]
  congr 3
theorem ltT {a b : Int} (h : a < b) : decide (a < b) = true := decide_eq_true h
theorem ltF {a b : Int} (h : ¬ a < b) : decide (a < b) = false := decide_eq_false h
theorem leT {a b : Int} (h : a ≤ b) : decide (a ≤ b) = true := decide_eq_true h
theorem leF {a b : Int} (h : ¬ a ≤ b) : decide (a ≤ b) = false := decide_eq_false h
theorem gtT {a b : Int} (h : a > b) : decide (a > b) = true := decide_eq_true h
theorem gtF {a b : Int} (h : ¬ a > b) : decide (a > b) = false := decide_eq_false h
theorem geT {a b : Int} (h : a ≥ b) : decide (a ≥ b) = true := decide_eq_true h
theorem geF {a b : Int} (h : ¬ a ≥ b) : decide (a ≥ b) = false := decide_eq_false h
theorem eqT {a b : Int} (h : a = b) : decide (a = b) = true := decide_eq_true h
theorem eqF {a b : Int} (h : ¬ a = b) : decide (a = b) = false := decide_eq_false h
section
variable {cf : FuncId} {cmp : E → E → Int} (hc : ∀ (x y : E) (σ : Store), pureV CC cf [val x, val y] σ = some (.p (.int .i64 (cmp x y))))
variable {r n lo : Nat} {σ : Store}
def ltc (cmp : E → E → Int) (x y : E) : Bool := decide (cmp x y < 0)
abbrev V (r n : Nat) : DV := .rsl r 3 0 n
abbrev N (i : Nat) : DV := .p (.int .i64 (i : Int))
include hc in
theorem ins_L1 (hr : r < σ.length) (hlo : lo ≤ r) (hn : n ≤ 100000) {a b i : Nat} (hi : i ≤ 100000) : ∀ (j : Nat) (A : List E), a ≤ j → j < n → A.length = n →
    f154_L1 guardT lo (V r n) (N a) (N b) (.fn cf []) (N i) (N j) (W σ r A) = f154_L0 guardT lo (V r n) (N a) (N b) (.fn cf []) (N (i + 1)) (W σ r (insIn (ltc cmp) a j A))
  | 0, A, ha, hj, hA => by
    rw [f154_L1_eq guardT rfl]
    simp (disch := omega) only [V, N, b_gtr, gtF, gG, add1, insIn]
  | j + 1, A, ha, hj, hA => by
    rw [f154_L1_eq guardT rfl]
    by_cases h1 : a < j + 1
    · by_cases h2 : cmp (ge A (j + 1)) (ge A j) < 0
      · have ih := ins_L1 hr hlo hn (a := a) (b := b) hi j (swp A (j + 1) j) (by omega) (by omega) (by rw [swp_len]; exact hA)
        have e : insIn (ltc cmp) a (j + 1) A = insIn (ltc cmp) a j (swp A (j + 1) j) := by
          rw [insIn, if_pos ⟨h1, decide_eq_true h2⟩]
        have h3 : (A.set (j + 1) (ge A j)).length = n := by rw [set_len]; exact hA
        rw [e, ← ih]
        simp (disch := omega) only [V, N, b_gtr, gtT, gG, sub1, idxL, ldW, Nat.add_sub_cancel, pureFn_fn, List.append_nil, hc, b_lss, ltT, stW, swp]
      · have e : insIn (ltc cmp) a (j + 1) A = A := by
          rw [insIn, if_neg (fun h => h2 (of_decide_eq_true h.2))]
        rw [e]
        simp (disch := omega) only [V, N, b_gtr, gtT, gG, sub1, idxL, ldW, Nat.add_sub_cancel, pureFn_fn, List.append_nil, hc, b_lss, ltF, add1]
    · have e : insIn (ltc cmp) a (j + 1) A = A := by
        rw [insIn, if_neg (fun h => h1 h.1)]
      rw [e]
      simp (disch := omega) only [V, N, b_gtr, gtF, gG, add1]
theorem insIn_len (lt : E → E → Bool) (a : Nat) : ∀ (j : Nat) (A : List E), (insIn lt a j A).length = A.length
  | 0, A => rfl
  | j + 1, A => by
    unfold insIn
    split
    · rw [insIn_len lt a j, swp_len]
    · rfl
include hc in
theorem ins_L0 (hr : r < σ.length) (hlo : lo ≤ r) (hn : n ≤ 100000) {a b : Nat} (hb : b ≤ n) : ∀ (k i : Nat) (A : List E), b - i = k → a ≤ i → A.length = n →
    f154_L0 guardT lo (V r n) (N a) (N b) (.fn cf []) (N i) (W σ r A) = some (.tuple [], W σ r (insOut (ltc cmp) a (b - i) i A))
  | 0, i, A, hk, ha, hA => by
    rw [f154_L0_eq guardT rfl, hk]
    simp (disch := omega) only [V, N, b_lss, ltF, gG, insOut]
  | k + 1, i, A, hk, ha, hA => by
    rw [f154_L0_eq guardT rfl]
    have h := ins_L1 hc hr hlo hn (a := a) (b := b) (i := i) (by omega) i A ha (by omega) hA
    have ih := ins_L0 hr hlo hn (a := a) hb k (i + 1) (insIn (ltc cmp) a i A) (by omega) (by omega) (by rw [insIn_len]; exact hA)
    have e : insOut (ltc cmp) a (b - i) i A = insOut (ltc cmp) a (b - (i + 1)) (i + 1) (insIn (ltc cmp) a i A) := by
      rw [show b - i = (b - (i + 1)) + 1 by omega, insOut]
    rw [e, ← ih, ← h]
    simp (disch := omega) only [V, N, b_lss, ltT, gG]
include hc in
theorem ins_ok (hr : r < σ.length) (hlo : lo ≤ r) (hn : n ≤ 100000) {a b : Nat} (hb : b ≤ n) (ha : a ≤ n) (A : List E) (hA : A.length = n) :
    CC lo 154 [V r n, N a, N b, .fn cf []] (W σ r A) = some (.tuple [], W σ r (insOut (ltc cmp) a (b - (a + 1)) (a + 1) A)) := by
  refine F154_call ?_
  rw [F154_eq]
  simp (disch := omega) only [N, add1, gG]
  exact ins_L0 hc hr hlo hn hb _ (a + 1) A rfl (by omega) hA
end
end Go.D.StT
end
/- Heap sort over elements of type 69. -/
section
set_option linter.unusedVariables false
set_option linter.unusedSimpArgs false
namespace Go.D.StT
open Go.D.Srt
section
variable {cf : FuncId} {cmp : E → E → Int} (hc : ∀ (x y : E) (σ : Store), pureV CC cf [val x, val y] σ = some (.p (.int .i64 (cmp x y))))
variable {r n lo : Nat} {σ : Store}
include hc in
theorem sd_J0 (hr : r < σ.length) (hlo : lo ≤ r) (hn : n ≤ 100000) {f hi root c : Nat} (hf : f + hi ≤ n) (h1 : root < hi) (h2 : c < hi) (A : List E) (hA : A.length = n) (x13 x14 x15 x16 x17 x18 x19 x20 x21 x22 x23 x24 x25 x26 x27 x28 x29 x30 x31 x32 x33 x34 x35 x36 x37 x38 x39 x40 x41 x42 : DV) :
    f164_J0 guardT lo (V r n) (N hi) (N f) (.fn cf []) (N root) (N c) x13 x14 x15 x16 x17 x18 x19 x20 x21 x22 x23 x24 x25 x26 x27 x28 x29 x30 x31 x32 x33 x34 x35 x36 x37 x38 x39 x40 x41 x42 (W σ r A) =
      if ltc cmp (ge A (f + root)) (ge A (f + c)) = true then f164_L0 guardT lo (V r n) (N hi) (N f) (.fn cf []) (N c) (W σ r (swp A (f + root) (f + c))) else some (.tuple [], W σ r A) := by
  rw [f164_J0_eq guardT]
  have h3 : (A.set (f + root) (ge A (f + c))).length = n := by rw [set_len]; exact hA
  by_cases h : cmp (ge A (f + root)) (ge A (f + c)) < 0
  · rw [if_pos (show ltc cmp _ _ = true from decide_eq_true h)]
    simp (disch := omega) only [V, N, addN, gG, idxL, ldW, pureFn_fn, List.append_nil, hc, b_lss, ltT, stW, swp]
  · rw [if_neg (show ¬ ltc cmp _ _ = true from fun e => h (of_decide_eq_true e))]
    simp (disch := omega) only [V, N, addN, gG, idxL, ldW, pureFn_fn, List.append_nil, hc, b_lss, ltF, stW, swp]
include hc in
theorem sd_L0 (hr : r < σ.length) (hlo : lo ≤ r) (hn : n ≤ 100000) {f hi : Nat} (hf : f + hi ≤ n) : ∀ (k root : Nat) (A : List E), hi - root ≤ k → root ≤ 100000 → A.length = n →
    f164_L0 guardT lo (V r n) (N hi) (N f) (.fn cf []) (N root) (W σ r A) = some (.tuple [], W σ r (sift (ltc cmp) f hi k root A))
  | 0, root, A, hk, hro, hA => by
    rw [f164_L0_eq guardT rfl]
    simp (disch := omega) only [V, N, mul2, add1, b_geq, geT, gG, sift]
  | k + 1, root, A, hk, hro, hA => by
    rw [f164_L0_eq guardT rfl]
    by_cases h0 : hi ≤ 2 * root + 1
    · rw [sift, if_pos h0]
      simp (disch := omega) only [V, N, mul2, add1, b_geq, geT, gG]
    · have e1 : f + (2 * root + 1) + 1 = f + (2 * root + 2) := rfl
      have e2 : 2 * root + 1 + 1 = 2 * root + 2 := rfl
      by_cases h1 : 2 * root + 2 < hi
      · by_cases h2 : cmp (ge A (f + (2 * root + 1))) (ge A (f + (2 * root + 2))) < 0
        · have ih := sd_L0 hr hlo hn hf k (2 * root + 2) (swp A (f + root) (f + (2 * root + 2))) (by omega) (by omega) (by rw [swp_len]; exact hA)
          rw [sift, if_neg h0]
          simp only [h1, show ltc cmp (ge A (f + (2 * root + 1))) (ge A (f + (2 * root + 2))) = true from decide_eq_true h2, and_self, if_true]
          simp (disch := omega) only [V, N, mul2, add1, e1, e2, addN, b_geq, geF, b_lss, ltT, idxL, ldW, pureFn_fn, List.append_nil, hc, gG]
          refine (sd_J0 hc hr hlo hn hf (by omega) h1 A hA _ _ _ _ _ _ _ _ _ _ _ _ _ _ _ _ _ _ _ _ _ _ _ _ _ _ _ _ _ _).trans ?_
          split
          · exact ih
          · rfl
        · have ih := sd_L0 hr hlo hn hf k (2 * root + 1) (swp A (f + root) (f + (2 * root + 1))) (by omega) (by omega) (by rw [swp_len]; exact hA)
          rw [sift, if_neg h0]
          simp only [h1, show ltc cmp (ge A (f + (2 * root + 1))) (ge A (f + (2 * root + 2))) = false from decide_eq_false h2, Bool.false_eq_true, and_false, if_false]
          simp (disch := omega) only [V, N, mul2, add1, e1, e2, addN, b_geq, geF, b_lss, ltT, ltF, idxL, ldW, pureFn_fn, List.append_nil, hc, gG]
          refine (sd_J0 hc hr hlo hn hf (by omega) (show 2 * root + 1 < hi by omega) A hA _ _ _ _ _ _ _ _ _ _ _ _ _ _ _ _ _ _ _ _ _ _ _ _ _ _ _ _ _ _).trans ?_
          split
          · exact ih
          · rfl
      · have ih := sd_L0 hr hlo hn hf k (2 * root + 1) (swp A (f + root) (f + (2 * root + 1))) (by omega) (by omega) (by rw [swp_len]; exact hA)
        rw [sift, if_neg h0]
        simp only [h1, false_and, if_false]
        simp (disch := omega) only [V, N, mul2, add1, e1, e2, addN, b_geq, geF, b_lss, ltF, gG]
        refine (sd_J0 hc hr hlo hn hf (by omega) (show 2 * root + 1 < hi by omega) A hA _ _ _ _ _ _ _ _ _ _ _ _ _ _ _ _ _ _ _ _ _ _ _ _ _ _ _ _ _ _).trans ?_
        split
        · exact ih
        · rfl
theorem sift_len (lt : E → E → Bool) (f hi : Nat) : ∀ (k root : Nat) (A : List E), (sift lt f hi k root A).length = A.length
  | 0, root, A => rfl
  | k + 1, root, A => by
    unfold sift
    split
    · rfl
    · simp only
      generalize (if 2 * root + 2 < hi ∧ lt (ge A (f + (2 * root + 1))) (ge A (f + (2 * root + 2))) = true then 2 * root + 2 else 2 * root + 1) = c
      split
      · rw [sift_len lt f hi k, swp_len]
      · rfl
include hc in
theorem sd_ok (hr : r < σ.length) (hlo : lo ≤ r) (hn : n ≤ 100000) {f hi root : Nat} (hf : f + hi ≤ n) (hro : root ≤ 100000) (A : List E) (hA : A.length = n) :
    CC lo 164 [V r n, N root, N hi, N f, .fn cf []] (W σ r A) = some (.tuple [], W σ r (sift (ltc cmp) f hi hi root A)) := by
  refine F164_call ?_
  rw [F164_eq]
  exact sd_L0 hc hr hlo hn hf hi root A (by omega) hro hA
theorem sub1_0 : binOp PP .sub 3 (.p (.int .i64 ((0 : Nat) : Int))) (.p (.int .i64 1)) = some (.p (.int .i64 (-1))) := by
  rw [b_sub]; rfl
include hc in
theorem hs_L1 (hr : r < σ.length) (hlo : lo ≤ r) (hn : n ≤ 100000) {f m : Nat} : ∀ (i : Nat) (A : List E), i ≤ n → (0 < i → f + i ≤ n) → A.length = n →
    f155_L1 guardT lo (V r n) (.fn cf []) (N f) (N 0) (.p (.int .i64 ((i : Int) - 1))) (W σ r A) = some (.tuple [], W σ r (hpB (ltc cmp) f i A))
  | 0, A, hi, hf, hA => by
    rw [f155_L1_eq guardT rfl]
    simp (disch := omega) only [N, b_geq, geF, gG, hpB]
  | i + 1, A, hi, hf, hA => by
    have hf := hf (Nat.succ_pos _)
    have e : ((i + 1 : Nat) : Int) - 1 = (i : Nat) := by omega
    have h3 : (A.set f (ge A (f + i))).length = n := by rw [set_len]; exact hA
    have h1 := sd_ok hc hr hlo hn (f := f) (hi := i) (root := 0) (by omega) (by omega) (swp A f (f + i)) (by rw [swp_len]; exact hA)
    have ih := hs_L1 hr hlo hn (f := f) (m := m) i (sift (ltc cmp) f i i 0 (swp A f (f + i))) (by omega) (fun _ => by omega) (by rw [sift_len, swp_len]; exact hA)
    have e2 : binOp PP .sub 3 (.p (.int .i64 ((i : Nat) : Int))) (.p (.int .i64 1)) = some (.p (.int .i64 ((i : Int) - 1))) := by rw [b_sub, wrap_ok (by omega) (by omega)]
    rw [f155_L1_eq guardT rfl, e]
    rw [hpB, ← ih]
    simp only [V, N, swp] at h1
    simp (disch := omega) only [V, N, b_geq, geT, addN, idxL, ldW, stW, gG, e2, plainFn_fn, List.append_nil]
    rw [h1]
    simp only [gG, swp]
include hc in
theorem hs_L0 (hr : r < σ.length) (hlo : lo ≤ r) (hn : n ≤ 100000) {f m : Nat} (hf : f + m ≤ n) : ∀ (i : Nat) (A : List E), i ≤ 100000 → A.length = n →
    f155_L0 guardT lo (V r n) (.fn cf []) (N f) (N 0) (N m) (N i) (W σ r A) = some (.tuple [], W σ r (hpB (ltc cmp) f m (hpA (ltc cmp) f m i A)))
  | 0, A, hi, hA => by
    have h1 := sd_ok hc hr hlo hn (f := f) (hi := m) (root := 0) hf (by omega) A hA
    have h2 := hs_L1 hc hr hlo hn (f := f) (m := m) m (sift (ltc cmp) f m m 0 A) (by omega) (fun _ => hf) (by rw [sift_len]; exact hA)
    have e2 : binOp PP .sub 3 (.p (.int .i64 ((m : Nat) : Int))) (.p (.int .i64 1)) = some (.p (.int .i64 ((m : Int) - 1))) := by rw [b_sub, wrap_ok (by omega) (by omega)]
    rw [f155_L0_eq guardT rfl]
    simp only [V, N] at h1
    simp (disch := omega) only [V, N, b_geq, geT, gG, plainFn_fn, List.append_nil]
    rw [h1]
    simp only [gG, sub1_0]
    rw [f155_L0_eq guardT rfl]
    simp (disch := omega) only [V, N, b_geq, geF, gG, e2]
    rw [hpA]
    exact h2
  | i + 1, A, hi, hA => by
    have h1 := sd_ok hc hr hlo hn (f := f) (hi := m) (root := i + 1) hf (by omega) A hA
    have ih := hs_L0 hr hlo hn hf i (sift (ltc cmp) f m m (i + 1) A) (by omega) (by rw [sift_len]; exact hA)
    rw [f155_L0_eq guardT rfl]
    simp only [V, N] at h1
    simp (disch := omega) only [V, N, b_geq, geT, gG, plainFn_fn, List.append_nil]
    rw [h1]
    simp (disch := omega) only [gG, sub1, Nat.add_sub_cancel]
    rw [hpA]
    exact ih
include hc in
theorem hs_ok (hr : r < σ.length) (hlo : lo ≤ r) (hn : n ≤ 100000) {a b : Nat} (hab : a < b) (hb : b ≤ n) (A : List E) (hA : A.length = n) :
    CC lo 155 [V r n, N a, N b, .fn cf []] (W σ r A) = some (.tuple [], W σ r (hpB (ltc cmp) a (b - a) (hpA (ltc cmp) a (b - a) ((b - a - 1) / 2) A))) := by
  refine F155_call ?_
  have e2 : binOp PP .quo 3 (.p (.int .i64 ((b - a - 1 : Nat) : Int))) (.p (.int .i64 2)) = some (.p (.int .i64 (((b - a - 1) / 2 : Nat) : Int))) := by
    have e3 : ((b - a - 1 : Nat) : Int).tdiv 2 = (((b - a - 1) / 2 : Nat) : Int) := by rw [Int.tdiv_eq_ediv_of_nonneg (by omega)]; omega
    have e4 : binOp PP .quo 3 (.p (.int .i64 ((b - a - 1 : Nat) : Int))) (.p (.int .i64 2)) = some (.p (.int .i64 (IntKind.wrap .i64 (((b - a - 1 : Nat) : Int).tdiv 2)))) := Eq.trans rfl rfl
    rw [e4, e3, wrap_ok (by omega) (by omega)]
  rw [F155_eq]
  simp (disch := omega) only [N, subN, sub1, e2, gG]
  exact hs_L0 hc hr hlo hn (by omega) _ A (by omega) hA
end
end Go.D.StT
end
/- Partitions over elements of type 69. -/
section
set_option linter.unusedVariables false
set_option linter.unusedSimpArgs false
namespace Go.D.StT
open Go.D.Srt
def uA (cmp : E → E → Int) (pv x : E) : Bool := ltc cmp x pv
def vA (cmp : E → E → Int) (pv x : E) : Bool := !ltc cmp x pv
def uE (cmp : E → E → Int) (pv x : E) : Bool := !ltc cmp pv x
def vE (cmp : E → E → Int) (pv x : E) : Bool := ltc cmp pv x
theorem huvA (cmp : E → E → Int) (x y : E) : vA cmp x y = !uA cmp x y := rfl
theorem huvE (cmp : E → E → Int) (x y : E) : vE cmp x y = !uE cmp x y := by simp [uE, vE]
theorem nT {p : Prop} [Decidable p] (h : ¬ p) : (!decide p) = true := by simp [h]
theorem nF {p : Prop} [Decidable p] (h : (!decide p) = true) : ¬ p := by simpa using h
section
variable {cf : FuncId} {cmp : E → E → Int} (hc : ∀ (x y : E) (σ : Store), pureV CC cf [val x, val y] σ = some (.p (.int .i64 (cmp x y))))
variable {r n lo : Nat} {σ : Store}
include hc in
theorem upA0 (hr : r < σ.length) (hlo : lo ≤ r) (hn : n ≤ 100000) {a j : Nat} {A : List E} (hA : A.length = n) (hj : j < n) : ∀ (k i : Nat), k = j + 1 - i → a + 1 ≤ i → i ≤ n →
    f161_L0 guardT lo (V r n) (N a) (.fn cf []) (N i) (N j) (W σ r A) = f161_L1 guardT lo (V r n) (N a) (.fn cf []) (N (upI (uA cmp (ge A a)) A k i j)) (N j) (W σ r A)
  | 0, i, hk, ha, hi => by
    rw [f161_L0_eq guardT rfl, upI]
    simp (disch := omega) only [V, N, b_leq, leF, gG]
  | k + 1, i, hk, ha, hi => by
    rw [f161_L0_eq guardT rfl, upI]
    by_cases h : cmp (ge A i) (ge A a) < 0
    · rw [if_pos ⟨by omega, decide_eq_true h⟩, ← upA0 hr hlo hn hA hj k (i + 1) (by omega) (by omega) (by omega)]
      simp (disch := omega) only [V, N, b_leq, leT, idxL, ldW, pureFn_fn, List.append_nil, hc, b_lss, ltT, ltF, add1, gG]
    · rw [if_neg (fun hh => h (of_decide_eq_true hh.2))]
      simp (disch := omega) only [V, N, b_leq, leT, idxL, ldW, pureFn_fn, List.append_nil, hc, b_lss, ltT, ltF, add1, gG]
include hc in
theorem upA1 (hr : r < σ.length) (hlo : lo ≤ r) (hn : n ≤ 100000) {a j : Nat} {A : List E} (hA : A.length = n) (hj : j < n) : ∀ (k i : Nat), k = j + 1 - i → a + 1 ≤ i → i ≤ n →
    f161_L3 guardT lo (V r n) (N a) (.fn cf []) (N i) (N j) (W σ r A) = f161_L4 guardT lo (V r n) (N a) (.fn cf []) (N (upI (uA cmp (ge A a)) A k i j)) (N j) (W σ r A)
  | 0, i, hk, ha, hi => by
    rw [f161_L3_eq guardT rfl, upI]
    simp (disch := omega) only [V, N, b_leq, leF, gG]
  | k + 1, i, hk, ha, hi => by
    rw [f161_L3_eq guardT rfl, upI]
    by_cases h : cmp (ge A i) (ge A a) < 0
    · rw [if_pos ⟨by omega, decide_eq_true h⟩, ← upA1 hr hlo hn hA hj k (i + 1) (by omega) (by omega) (by omega)]
      simp (disch := omega) only [V, N, b_leq, leT, idxL, ldW, pureFn_fn, List.append_nil, hc, b_lss, ltT, ltF, add1, gG]
    · rw [if_neg (fun hh => h (of_decide_eq_true hh.2))]
      simp (disch := omega) only [V, N, b_leq, leT, idxL, ldW, pureFn_fn, List.append_nil, hc, b_lss, ltT, ltF, add1, gG]
include hc in
theorem upE (hr : r < σ.length) (hlo : lo ≤ r) (hn : n ≤ 100000) {a j : Nat} {A : List E} (hA : A.length = n) (hj : j < n) : ∀ (k i : Nat), k = j + 1 - i → a + 1 ≤ i → i ≤ n →
    f160_L1 guardT lo (V r n) (N a) (.fn cf []) (N i) (N j) (W σ r A) = f160_L2 guardT lo (V r n) (N a) (.fn cf []) (N (upI (uE cmp (ge A a)) A k i j)) (N j) (W σ r A)
  | 0, i, hk, ha, hi => by
    rw [f160_L1_eq guardT rfl, upI]
    simp (disch := omega) only [V, N, b_leq, leF, gG]
  | k + 1, i, hk, ha, hi => by
    rw [f160_L1_eq guardT rfl, upI]
    by_cases h : ¬ cmp (ge A a) (ge A i) < 0
    · rw [if_pos ⟨by omega, nT h⟩, ← upE hr hlo hn hA hj k (i + 1) (by omega) (by omega) (by omega)]
      simp (disch := omega) only [V, N, b_leq, leT, idxL, ldW, pureFn_fn, List.append_nil, hc, b_lss, ltT, ltF, add1, gG]
    · rw [if_neg (fun hh => h (nF hh.2))]
      simp (disch := omega) only [V, N, b_leq, leT, idxL, ldW, pureFn_fn, List.append_nil, hc, b_lss, ltT, ltF, add1, gG]
def enA0 (σ : Store) (r a i J : Nat) (A : List E) : DV × Store := (.tuple [N J, .p (.bool true)], W σ r (swp A J a))
include hc in
theorem dnA0 (hr : r < σ.length) (hlo : lo ≤ r) (hn : n ≤ 100000) {a i : Nat} {A : List E} (hA : A.length = n) (ha : a + 1 ≤ i) (ha2 : a < n) : ∀ (k j : Nat), k = j + 1 - i → i ≤ j + 1 → j < n →
    f161_L1 guardT lo (V r n) (N a) (.fn cf []) (N i) (N j) (W σ r A) =
      if dnJ (vA cmp (ge A a)) A k i j < i then some (enA0 σ r a i (dnJ (vA cmp (ge A a)) A k i j) A)
      else f161_L2 guardT lo (V r n) (N a) (.fn cf []) (N (i + 1)) (N (dnJ (vA cmp (ge A a)) A k i j - 1)) (W σ r (swp A i (dnJ (vA cmp (ge A a)) A k i j)))
  | 0, j, hk, hi, hj => by
    have h3 : (A.set j (ge A a)).length = n := by rw [set_len]; exact hA
    rw [f161_L1_eq guardT rfl, dnJ, if_pos (by omega)]
    simp (disch := omega) only [V, N, b_leq, leF, b_gtr, gtT, idxL, ldW, stW, gG, enA0, swp]
  | k + 1, j, hk, hi, hj => by
    have h3 : (A.set i (ge A j)).length = n := by rw [set_len]; exact hA
    rw [f161_L1_eq guardT rfl, dnJ]
    by_cases h : ¬ cmp (ge A j) (ge A a) < 0
    · rw [if_pos (show i ≤ j ∧ vA cmp (ge A a) (ge A j) = true from ⟨by omega, nT h⟩), ← dnA0 hr hlo hn hA ha ha2 k (j - 1) (by omega) (by omega) (by omega)]
      simp (disch := omega) only [V, N, b_leq, leT, idxL, ldW, pureFn_fn, List.append_nil, hc, b_lss, ltT, ltF, sub1, gG]
    · rw [if_neg (show ¬ (i ≤ j ∧ vA cmp (ge A a) (ge A j) = true) from fun hh => h (nF hh.2)), if_neg (by omega)]
      simp (disch := omega) only [V, N, b_leq, leT, idxL, ldW, pureFn_fn, List.append_nil, hc, b_lss, ltT, ltF, b_gtr, gtF, stW, add1, sub1, swp, gG]
def enA1 (σ : Store) (r a i J : Nat) (A : List E) : DV × Store := (.tuple [N J, .p (.bool false)], W σ r (swp A J a))
include hc in
theorem dnA1 (hr : r < σ.length) (hlo : lo ≤ r) (hn : n ≤ 100000) {a i : Nat} {A : List E} (hA : A.length = n) (ha : a + 1 ≤ i) (ha2 : a < n) : ∀ (k j : Nat), k = j + 1 - i → i ≤ j + 1 → j < n →
    f161_L4 guardT lo (V r n) (N a) (.fn cf []) (N i) (N j) (W σ r A) =
      if dnJ (vA cmp (ge A a)) A k i j < i then some (enA1 σ r a i (dnJ (vA cmp (ge A a)) A k i j) A)
      else f161_L2 guardT lo (V r n) (N a) (.fn cf []) (N (i + 1)) (N (dnJ (vA cmp (ge A a)) A k i j - 1)) (W σ r (swp A i (dnJ (vA cmp (ge A a)) A k i j)))
  | 0, j, hk, hi, hj => by
    have h3 : (A.set j (ge A a)).length = n := by rw [set_len]; exact hA
    rw [f161_L4_eq guardT rfl, dnJ, if_pos (by omega)]
    simp (disch := omega) only [V, N, b_leq, leF, b_gtr, gtT, idxL, ldW, stW, gG, enA1, swp]
  | k + 1, j, hk, hi, hj => by
    have h3 : (A.set i (ge A j)).length = n := by rw [set_len]; exact hA
    rw [f161_L4_eq guardT rfl, dnJ]
    by_cases h : ¬ cmp (ge A j) (ge A a) < 0
    · rw [if_pos (show i ≤ j ∧ vA cmp (ge A a) (ge A j) = true from ⟨by omega, nT h⟩), ← dnA1 hr hlo hn hA ha ha2 k (j - 1) (by omega) (by omega) (by omega)]
      simp (disch := omega) only [V, N, b_leq, leT, idxL, ldW, pureFn_fn, List.append_nil, hc, b_lss, ltT, ltF, sub1, gG]
    · rw [if_neg (show ¬ (i ≤ j ∧ vA cmp (ge A a) (ge A j) = true) from fun hh => h (nF hh.2)), if_neg (by omega)]
      simp (disch := omega) only [V, N, b_leq, leT, idxL, ldW, pureFn_fn, List.append_nil, hc, b_lss, ltT, ltF, b_gtr, gtF, stW, add1, sub1, swp, gG]
def enE (σ : Store) (r a i J : Nat) (A : List E) : DV × Store := (N i, W σ r A)
include hc in
theorem dnE (hr : r < σ.length) (hlo : lo ≤ r) (hn : n ≤ 100000) {a i : Nat} {A : List E} (hA : A.length = n) (ha : a + 1 ≤ i) (ha2 : a < n) : ∀ (k j : Nat), k = j + 1 - i → i ≤ j + 1 → j < n →
    f160_L2 guardT lo (V r n) (N a) (.fn cf []) (N i) (N j) (W σ r A) =
      if dnJ (vE cmp (ge A a)) A k i j < i then some (enE σ r a i (dnJ (vE cmp (ge A a)) A k i j) A)
      else f160_L0 guardT lo (V r n) (N a) (.fn cf []) (N (i + 1)) (N (dnJ (vE cmp (ge A a)) A k i j - 1)) (W σ r (swp A i (dnJ (vE cmp (ge A a)) A k i j)))
  | 0, j, hk, hi, hj => by
    have h3 : (A.set j (ge A a)).length = n := by rw [set_len]; exact hA
    rw [f160_L2_eq guardT rfl, dnJ, if_pos (by omega)]
    simp (disch := omega) only [V, N, b_leq, leF, b_gtr, gtT, idxL, ldW, stW, gG, enE, swp]
  | k + 1, j, hk, hi, hj => by
    have h3 : (A.set i (ge A j)).length = n := by rw [set_len]; exact hA
    rw [f160_L2_eq guardT rfl, dnJ]
    by_cases h : cmp (ge A a) (ge A j) < 0
    · rw [if_pos (show i ≤ j ∧ vE cmp (ge A a) (ge A j) = true from ⟨by omega, decide_eq_true h⟩), ← dnE hr hlo hn hA ha ha2 k (j - 1) (by omega) (by omega) (by omega)]
      simp (disch := omega) only [V, N, b_leq, leT, idxL, ldW, pureFn_fn, List.append_nil, hc, b_lss, ltT, ltF, sub1, gG]
    · rw [if_neg (show ¬ (i ≤ j ∧ vE cmp (ge A a) (ge A j) = true) from fun hh => h (of_decide_eq_true hh.2)), if_neg (by omega)]
      simp (disch := omega) only [V, N, b_leq, leT, idxL, ldW, pureFn_fn, List.append_nil, hc, b_lss, ltT, ltF, b_gtr, gtF, stW, add1, sub1, swp, gG]
include hc in
theorem lpA (hr : r < σ.length) (hlo : lo ≤ r) (hn : n ≤ 100000) {a : Nat} (ha2 : a < n) : ∀ (k i j : Nat) (A : List E), j + 1 - i < k → a + 1 ≤ i → i ≤ j + 1 → j < n → A.length = n →
    f161_L2 guardT lo (V r n) (N a) (.fn cf []) (N i) (N j) (W σ r A) = some (enA1 σ r a (prt (uA cmp) (vA cmp) a k i j A).1 (prt (uA cmp) (vA cmp) a k i j A).2.1 (prt (uA cmp) (vA cmp) a k i j A).2.2)
  | 0, i, j, A, hk, ha, hi, hj, hA => by omega
  | k + 1, i, j, A, hk, ha, hi, hj, hA => by
    obtain ⟨a1, a2, a3, a4⟩ := upI_ok (q := uA cmp (ge A a)) (A := A) (j + 1 - i) i j (Nat.le_refl _) hi
    have h1 := upA1 hc hr hlo hn hA hj _ i rfl ha (by omega)
    obtain ⟨b1, b2, b3, b4⟩ := dnJ_ok (q := vA cmp (ge A a)) (A := A) (j + 1 - upI (uA cmp (ge A a)) A (j + 1 - i) i j) (upI (uA cmp (ge A a)) A (j + 1 - i) i j) j (Nat.le_refl _) a2 (by omega)
    rw [f161_L2_eq guardT rfl, h1, prt]
    generalize upI (uA cmp (ge A a)) A (j + 1 - i) i j = i' at *
    have h2 := dnA1 hc hr hlo hn hA (show a + 1 ≤ i' by omega) ha2 _ j rfl a2 hj
    rw [h2]
    generalize dnJ (vA cmp (ge A a)) A (j + 1 - i') i' j = j' at *
    split
    · rename_i hlt
      rfl
    · rename_i hlt
      have c1 := a4 (by omega)
      have c2 := b4 (by omega)
      have hne : i' ≠ j' := by
        rintro rfl
        rw [huvA, c1] at c2
        exact absurd c2 (by decide)
      exact lpA hr hlo hn ha2 k (i' + 1) (j' - 1) (swp A i' j') (by omega) (by omega) (by omega) (by omega) (by rw [swp_len]; exact hA)
include hc in
theorem lpE (hr : r < σ.length) (hlo : lo ≤ r) (hn : n ≤ 100000) {a : Nat} (ha2 : a < n) : ∀ (k i j : Nat) (A : List E), j + 1 - i < k → a + 1 ≤ i → i ≤ j + 1 → j < n → A.length = n →
    f160_L0 guardT lo (V r n) (N a) (.fn cf []) (N i) (N j) (W σ r A) = some (enE σ r a (prt (uE cmp) (vE cmp) a k i j A).1 (prt (uE cmp) (vE cmp) a k i j A).2.1 (prt (uE cmp) (vE cmp) a k i j A).2.2)
  | 0, i, j, A, hk, ha, hi, hj, hA => by omega
  | k + 1, i, j, A, hk, ha, hi, hj, hA => by
    obtain ⟨a1, a2, a3, a4⟩ := upI_ok (q := uE cmp (ge A a)) (A := A) (j + 1 - i) i j (Nat.le_refl _) hi
    have h1 := upE hc hr hlo hn hA hj _ i rfl ha (by omega)
    obtain ⟨b1, b2, b3, b4⟩ := dnJ_ok (q := vE cmp (ge A a)) (A := A) (j + 1 - upI (uE cmp (ge A a)) A (j + 1 - i) i j) (upI (uE cmp (ge A a)) A (j + 1 - i) i j) j (Nat.le_refl _) a2 (by omega)
    rw [f160_L0_eq guardT rfl, h1, prt]
    generalize upI (uE cmp (ge A a)) A (j + 1 - i) i j = i' at *
    have h2 := dnE hc hr hlo hn hA (show a + 1 ≤ i' by omega) ha2 _ j rfl a2 hj
    rw [h2]
    generalize dnJ (vE cmp (ge A a)) A (j + 1 - i') i' j = j' at *
    split
    · rename_i hlt
      rfl
    · rename_i hlt
      have c1 := a4 (by omega)
      have c2 := b4 (by omega)
      have hne : i' ≠ j' := by
        rintro rfl
        rw [huvE, c1] at c2
        exact absurd c2 (by decide)
      exact lpE hr hlo hn ha2 k (i' + 1) (j' - 1) (swp A i' j') (by omega) (by omega) (by omega) (by omega) (by rw [swp_len]; exact hA)
include hc in
theorem pe_ok (hr : r < σ.length) (hlo : lo ≤ r) (hn : n ≤ 100000) {a b p : Nat} (hab : a < b) (hb : b ≤ n) (hp : p < n) (A : List E) (hA : A.length = n) :
    CC lo 160 [V r n, N a, N b, N p, .fn cf []] (W σ r A) = some (enE σ r a (prt (uE cmp) (vE cmp) a (b - a + 1) (a + 1) (b - 1) (swp A a p)).1 0 (prt (uE cmp) (vE cmp) a (b - a + 1) (a + 1) (b - 1) (swp A a p)).2.2) := by
  refine F160_call ?_
  have h3 : (A.set a (ge A p)).length = n := by rw [set_len]; exact hA
  rw [F160_eq]
  simp (disch := omega) only [V, N, idxL, ldW, stW, add1, sub1, gG]
  exact lpE hc hr hlo hn (by omega) (b - a + 1) (a + 1) (b - 1) (swp A a p) (by omega) (by omega) (by omega) (by omega) (by rw [swp_len]; exact hA)
include hc in
theorem pa_ok (hr : r < σ.length) (hlo : lo ≤ r) (hn : n ≤ 100000) {a b p : Nat} (hab : a < b) (hb : b ≤ n) (hp : p < n) (A : List E) (hA : A.length = n) :
    ∃ f : Bool, CC lo 161 [V r n, N a, N b, N p, .fn cf []] (W σ r A) = some (.tuple [N (prt (uA cmp) (vA cmp) a (b - a + 1) (a + 1) (b - 1) (swp A a p)).2.1, .p (.bool f)], W σ r (swp (prt (uA cmp) (vA cmp) a (b - a + 1) (a + 1) (b - 1) (swp A a p)).2.2 (prt (uA cmp) (vA cmp) a (b - a + 1) (a + 1) (b - 1) (swp A a p)).2.1 a)) := by
  have h3 : (A.set a (ge A p)).length = n := by rw [set_len]; exact hA
  have hB : (swp A a p).length = n := by rw [swp_len]; exact hA
  have key : ∃ f : Bool, f161_L0 guardT lo (V r n) (N a) (.fn cf []) (N (a + 1)) (N (b - 1)) (W σ r (swp A a p)) = some (.tuple [N (prt (uA cmp) (vA cmp) a (b - a + 1) (a + 1) (b - 1) (swp A a p)).2.1, .p (.bool f)], W σ r (swp (prt (uA cmp) (vA cmp) a (b - a + 1) (a + 1) (b - 1) (swp A a p)).2.2 (prt (uA cmp) (vA cmp) a (b - a + 1) (a + 1) (b - 1) (swp A a p)).2.1 a)) := by
    generalize swp A a p = B at *
    have hi : a + 1 ≤ b - 1 + 1 := by omega
    obtain ⟨a1, a2, a3, a4⟩ := upI_ok (q := uA cmp (ge B a)) (A := B) (b - 1 + 1 - (a + 1)) (a + 1) (b - 1) (Nat.le_refl _) hi
    have h1 := upA0 hc hr hlo hn hB (show b - 1 < n by omega) _ (a + 1) rfl (Nat.le_refl _) (by omega)
    obtain ⟨b1, b2, b3, b4⟩ := dnJ_ok (q := vA cmp (ge B a)) (A := B) (b - 1 + 1 - upI (uA cmp (ge B a)) B (b - 1 + 1 - (a + 1)) (a + 1) (b - 1)) (upI (uA cmp (ge B a)) B (b - 1 + 1 - (a + 1)) (a + 1) (b - 1)) (b - 1) (Nat.le_refl _) a2 (by omega)
    rw [h1, prt]
    generalize upI (uA cmp (ge B a)) B (b - 1 + 1 - (a + 1)) (a + 1) (b - 1) = i' at *
    have h2 := dnA0 hc hr hlo hn hB (show a + 1 ≤ i' by omega) (by omega) _ (b - 1) rfl a2 (by omega)
    rw [h2]
    generalize dnJ (vA cmp (ge B a)) B (b - 1 + 1 - i') i' (b - 1) = j' at *
    split
    · rename_i hlt
      exact ⟨true, rfl⟩
    · rename_i hlt
      have c1 := a4 (by omega)
      have c2 := b4 (by omega)
      have hne : i' ≠ j' := by
        rintro rfl
        rw [huvA, c1] at c2
        exact absurd c2 (by decide)
      exact ⟨false, lpA hc hr hlo hn (by omega) (b - a) (i' + 1) (j' - 1) (swp B i' j') (by omega) (by omega) (by omega) (by omega) (by rw [swp_len]; exact hB)⟩
  obtain ⟨f, hf⟩ := key
  refine ⟨f, F161_call ?_⟩
  rw [F161_eq]
  simp (disch := omega) only [V, N, idxL, ldW, stW, add1, sub1, gG]
  exact hf
end
end Go.D.StT
end
/- Partial insertion over elements of type 69. -/
section
set_option linter.unusedVariables false
set_option linter.unusedSimpArgs false
namespace Go.D.StT
open Go.D.Srt
theorem insUp_len (lt : E → E → Bool) : ∀ (k j : Nat) (A : List E), (insUp lt k j A).length = A.length
  | 0, j, A => rfl
  | k + 1, j, A => by
    unfold insUp
    split
    · rw [insUp_len lt k, swp_len]
    · rfl
section
variable {cf : FuncId} {cmp : E → E → Int} (hc : ∀ (x y : E) (σ : Store), pureV CC cf [val x, val y] σ = some (.p (.int .i64 (cmp x y))))
variable {r n lo : Nat} {σ : Store}
include hc in
theorem pi_L3 (hr : r < σ.length) (hlo : lo ≤ r) (hn : n ≤ 100000) {a b i c : Nat} (hb : b ≤ n) (hcc : c ≤ 1000) : ∀ (k j : Nat) (A : List E), k = b - j → 1 ≤ j → A.length = n →
    f159_L3 guardT lo (V r n) (N a) (N b) (.fn cf []) (N i) (N c) (N j) (W σ r A) = f159_L0 guardT lo (V r n) (N a) (N b) (.fn cf []) (N i) (N (c + 1)) (W σ r (insUp (ltc cmp) k j A))
  | 0, j, A, hk, hj, hA => by
    rw [f159_L3_eq guardT rfl, insUp]
    simp (disch := omega) only [V, N, b_lss, ltF, gG, f159_J1_eq, add1]
  | k + 1, j, A, hk, hj, hA => by
    have h3 : (A.set j (ge A (j - 1))).length = n := by rw [set_len]; exact hA
    rw [f159_L3_eq guardT rfl, insUp]
    by_cases h : cmp (ge A j) (ge A (j - 1)) < 0
    · rw [if_pos (show ltc cmp _ _ = true from decide_eq_true h), ← pi_L3 hr hlo hn hb hcc k (j + 1) (swp A j (j - 1)) (by omega) (by omega) (by rw [swp_len]; exact hA)]
      simp (disch := omega) only [V, N, b_lss, ltT, sub1, idxL, ldW, stW, pureFn_fn, List.append_nil, hc, gG, add1, swp]
    · rw [if_neg (show ¬ ltc cmp _ _ = true from fun e => h (of_decide_eq_true e))]
      simp (disch := omega) only [V, N, b_lss, ltT, ltF, sub1, idxL, ldW, stW, pureFn_fn, List.append_nil, hc, gG, f159_J1_eq, add1]
include hc in
theorem pi_J0 (hr : r < σ.length) (hlo : lo ≤ r) (hn : n ≤ 100000) {a b i c : Nat} (hb : b ≤ n) (hi : i ≤ b) (hcc : c ≤ 1000) (A : List E) (hA : A.length = n) (x11 x39 x40 x41 x42 x43 x44 x45 x46 x47 x48 x49 x50 x51 x52 x53 x54 x55 x56 x57 x58 x59 x60 x61 x62 x63 x64 x65 x66 x67 x68 x69 x70 x71 x72 x73 x74 x75 x76 x77 x78 x79 x80 x81 x82 x83 x84 x85 x86 x87 x88 x89 x90 x91 x92 x93 x94 x95 x96 x97 x98 x99 x100 : DV) :
    f159_J0 guardT lo (V r n) (N a) (N b) (.fn cf []) (N i) (N c) x11 x39 x40 x41 x42 x43 x44 x45 x46 x47 x48 x49 x50 x51 x52 x53 x54 x55 x56 x57 x58 x59 x60 x61 x62 x63 x64 x65 x66 x67 x68 x69 x70 x71 x72 x73 x74 x75 x76 x77 x78 x79 x80 x81 x82 x83 x84 x85 x86 x87 x88 x89 x90 x91 x92 x93 x94 x95 x96 x97 x98 x99 x100 (W σ r A) = f159_L0 guardT lo (V r n) (N a) (N b) (.fn cf []) (N i) (N (c + 1)) (W σ r (if 2 ≤ b - i then insUp (ltc cmp) (b - (i + 1)) (i + 1) A else A)) := by
  have h3 := pi_L3 hc hr hlo hn (a := a) (i := i) hb hcc (b - (i + 1)) (i + 1) A rfl (by omega) hA
  rw [f159_J0_eq guardT]
  by_cases h : 2 ≤ b - i
  · rw [if_pos h, ← h3]
    simp (disch := omega) only [V, N, subN, b_geq, geT, gG, add1]
  · rw [if_neg h]
    simp (disch := omega) only [V, N, subN, b_geq, geF, gG, add1, f159_J1_eq]
include hc in
theorem pi_L2 (hr : r < σ.length) (hlo : lo ≤ r) (hn : n ≤ 100000) {a b i c : Nat} (hb : b ≤ n) (hi : i ≤ b) (hcc : c ≤ 1000) : ∀ (j : Nat) (A : List E), j < n → A.length = n →
    f159_L2 guardT lo (V r n) (N a) (N b) (.fn cf []) (N i) (N c) (N j) (W σ r A) =
      f159_L0 guardT lo (V r n) (N a) (N b) (.fn cf []) (N i) (N (c + 1)) (W σ r (if 2 ≤ b - i then insUp (ltc cmp) (b - (i + 1)) (i + 1) (insIn (ltc cmp) 0 j A) else insIn (ltc cmp) 0 j A))
  | 0, A, hj, hA => by
    rw [f159_L2_eq guardT rfl, insIn]
    simp (disch := omega) only [V, N, b_geq, geF, gG]
    exact pi_J0 hc hr hlo hn hb hi hcc A hA _ _ _ _ _ _ _ _ _ _ _ _ _ _ _ _ _ _ _ _ _ _ _ _ _ _ _ _ _ _ _ _ _ _ _ _ _ _ _ _ _ _ _ _ _ _ _ _ _ _ _ _ _ _ _ _ _ _ _ _ _ _ _
  | j + 1, A, hj, hA => by
    have h3 : (A.set (j + 1) (ge A j)).length = n := by rw [set_len]; exact hA
    rw [f159_L2_eq guardT rfl]
    by_cases h : cmp (ge A (j + 1)) (ge A j) < 0
    · have e : insIn (ltc cmp) 0 (j + 1) A = insIn (ltc cmp) 0 j (swp A (j + 1) j) := by
        rw [insIn, if_pos ⟨by omega, decide_eq_true h⟩]
      rw [e, ← pi_L2 hr hlo hn hb hi hcc j (swp A (j + 1) j) (by omega) (by rw [swp_len]; exact hA)]
      simp (disch := omega) only [V, N, b_geq, geT, b_lss, ltT, sub1, Nat.add_sub_cancel, idxL, ldW, stW, pureFn_fn, List.append_nil, hc, gG, swp]
    · have e : insIn (ltc cmp) 0 (j + 1) A = A := by
        rw [insIn, if_neg (fun hh => h (of_decide_eq_true hh.2))]
      rw [e]
      simp (disch := omega) only [V, N, b_geq, geT, b_lss, ltF, sub1, Nat.add_sub_cancel, idxL, ldW, stW, pureFn_fn, List.append_nil, hc, gG]
      exact pi_J0 hc hr hlo hn hb hi hcc A hA _ _ _ _ _ _ _ _ _ _ _ _ _ _ _ _ _ _ _ _ _ _ _ _ _ _ _ _ _ _ _ _ _ _ _ _ _ _ _ _ _ _ _ _ _ _ _ _ _ _ _ _ _ _ _ _ _ _ _ _ _ _ _
def pA3 (cmp : E → E → Int) (a b i : Nat) (A : List E) : List E :=
  let A1 := swp A i (i - 1)
  let A2 := if 2 ≤ i - a then insIn (ltc cmp) 0 (i - 1) A1 else A1
  if 2 ≤ b - i then insUp (ltc cmp) (b - (i + 1)) (i + 1) A2 else A2
include hc in
theorem pi_L1 (hr : r < σ.length) (hlo : lo ≤ r) (hn : n ≤ 100000) {a b c : Nat} (hb : b ≤ n) (hcc : c ≤ 1000) {A : List E} (hA : A.length = n) : ∀ (k i : Nat), k = b - i → a + 1 ≤ i → i ≤ b →
    f159_L1 guardT lo (V r n) (N a) (N b) (.fn cf []) (N i) (N c) (W σ r A) =
      if scanI (ltc cmp) A b k i = b then some (.p (.bool true), W σ r A) else if b - a < 50 then some (.p (.bool false), W σ r A)
      else f159_L0 guardT lo (V r n) (N a) (N b) (.fn cf []) (N (scanI (ltc cmp) A b k i)) (N (c + 1)) (W σ r (pA3 cmp a b (scanI (ltc cmp) A b k i) A))
  | 0, i, hk, ha, hi => by
    rw [f159_L1_eq guardT rfl, scanI, if_pos (by omega)]
    simp (disch := omega) only [V, N, b_lss, ltF, b_eql, eqT, gG]
  | k + 1, i, hk, ha, hi => by
    rw [f159_L1_eq guardT rfl, scanI]
    by_cases h : cmp (ge A i) (ge A (i - 1)) < 0
    · rw [if_neg (show ¬ (i < b ∧ ltc cmp (ge A i) (ge A (i - 1)) = false) from fun hh => of_decide_eq_false hh.2 h), if_neg (by omega)]
      by_cases h5 : b - a < 50
      · rw [if_pos h5]
        simp (disch := omega) only [V, N, b_lss, ltT, sub1, subN, idxL, ldW, pureFn_fn, List.append_nil, hc, b_eql, eqF, gG]
      · rw [if_neg h5]
        have h3 : (A.set i (ge A (i - 1))).length = n := by rw [set_len]; exact hA
        by_cases h6 : 2 ≤ i - a
        · have e := pi_L2 hc hr hlo hn (a := a) hb (show i ≤ b from hi) hcc (i - 1) (swp A i (i - 1)) (by omega) (by rw [swp_len]; exact hA)
          have e2 : pA3 cmp a b i A = if 2 ≤ b - i then insUp (ltc cmp) (b - (i + 1)) (i + 1) (insIn (ltc cmp) 0 (i - 1) (swp A i (i - 1))) else insIn (ltc cmp) 0 (i - 1) (swp A i (i - 1)) := by
            simp only [pA3, if_pos h6]
          rw [e2, ← e]
          simp (disch := omega) only [V, N, b_lss, ltT, ltF, sub1, subN, idxL, ldW, stW, pureFn_fn, List.append_nil, hc, b_eql, eqF, b_geq, geT, gG, swp]
        · have e2 : pA3 cmp a b i A = if 2 ≤ b - i then insUp (ltc cmp) (b - (i + 1)) (i + 1) (swp A i (i - 1)) else swp A i (i - 1) := by
            simp only [pA3, if_neg h6]
          rw [e2]
          simp (disch := omega) only [V, N, b_lss, ltT, ltF, sub1, subN, idxL, ldW, stW, pureFn_fn, List.append_nil, hc, b_eql, eqF, b_geq, geF, gG]
          exact pi_J0 hc hr hlo hn (a := a) hb (show i ≤ b from hi) hcc (swp A i (i - 1)) (by rw [swp_len]; exact hA) _ _ _ _ _ _ _ _ _ _ _ _ _ _ _ _ _ _ _ _ _ _ _ _ _ _ _ _ _ _ _ _ _ _ _ _ _ _ _ _ _ _ _ _ _ _ _ _ _ _ _ _ _ _ _ _ _ _ _ _ _ _ _
    · rw [if_pos (show i < b ∧ ltc cmp (ge A i) (ge A (i - 1)) = false from ⟨by omega, decide_eq_false h⟩), ← pi_L1 hr hlo hn hb hcc hA k (i + 1) (by omega) (by omega) (by omega)]
      simp (disch := omega) only [V, N, b_lss, ltT, ltF, sub1, idxL, ldW, pureFn_fn, List.append_nil, hc, add1, gG]
theorem pA3_len (a b i : Nat) (A : List E) : (pA3 cmp a b i A).length = A.length := by
  unfold pA3
  simp only
  split <;> split <;> simp only [insUp_len, insIn_len, swp_len]
include hc in
theorem pi_L0 (hr : r < σ.length) (hlo : lo ≤ r) (hn : n ≤ 100000) {a b : Nat} (hb : b ≤ n) (hab : a < b) : ∀ (s i : Nat) (A : List E), s ≤ 5 → a + 1 ≤ i → i ≤ b → A.length = n →
    f159_L0 guardT lo (V r n) (N a) (N b) (.fn cf []) (N i) (N (5 - s)) (W σ r A) = some (.p (.bool (pins (ltc cmp) a b s i A).1), W σ r (pins (ltc cmp) a b s i A).2)
  | 0, i, A, hs, ha, hi, hA => by
    rw [f159_L0_eq guardT rfl, pins]
    simp (disch := omega) only [V, N, b_lss, ltF, gG]
  | s + 1, i, A, hs, ha, hi, hA => by
    have h1 := pi_L1 hc hr hlo hn (c := 5 - (s + 1)) hb (by omega) hA (b - i) i rfl ha hi
    have hle : i ≤ scanI (ltc cmp) A b (b - i) i ∧ scanI (ltc cmp) A b (b - i) i ≤ b := scan_le (b - i) i rfl hi
    rw [f159_L0_eq guardT rfl, pins]
    have e : f159_L1 guardT lo (V r n) (N a) (N b) (.fn cf []) (N i) (N (5 - (s + 1))) (W σ r A) = _ := h1
    have e5 : decide (((5 - (s + 1) : Nat) : Int) < 5) = true := decide_eq_true (by omega)
    simp only [b_lss, e5, gG, e]
    generalize scanI (ltc cmp) A b (b - i) i = i' at *
    split
    · rfl
    · split
      · rfl
      · have ih := pi_L0 hr hlo hn hb hab s i' (pA3 cmp a b i' A) (by omega) (by omega) (by omega) (by rw [pA3_len]; exact hA)
        rw [show 5 - (s + 1) + 1 = 5 - s by omega]
        exact ih
where
  scan_le {A : List E} {b : Nat} : ∀ (k i : Nat), k = b - i → i ≤ b → i ≤ scanI (ltc cmp) A b k i ∧ scanI (ltc cmp) A b k i ≤ b
  | 0, i, hk, hi => ⟨Nat.le_refl _, hi⟩
  | k + 1, i, hk, hi => by
    unfold scanI
    split
    · have := scan_le (A := A) (b := b) k (i + 1) (by omega) (by omega)
      exact ⟨by omega, this.2⟩
    · exact ⟨Nat.le_refl _, hi⟩
include hc in
theorem pi_ok (hr : r < σ.length) (hlo : lo ≤ r) (hn : n ≤ 100000) {a b : Nat} (hb : b ≤ n) (hab : a < b) (A : List E) (hA : A.length = n) :
    CC lo 159 [V r n, N a, N b, .fn cf []] (W σ r A) = some (.p (.bool (pins (ltc cmp) a b 5 (a + 1) A).1), W σ r (pins (ltc cmp) a b 5 (a + 1) A).2) := by
  refine F159_call ?_
  rw [F159_eq]
  simp (disch := omega) only [N, add1, gG]
  exact pi_L0 hc hr hlo hn hb hab 5 (a + 1) A (by omega) (by omega) (by omega) hA
end
end Go.D.StT
end
/- Reversing, and the choice of a pivot, over elements of type 69. -/
section
set_option linter.unusedVariables false
set_option linter.unusedSimpArgs false
namespace Go.D.StT
open Go.D.Srt
section
variable {cf : FuncId} {cmp : E → E → Int} (hc : ∀ (x y : E) (σ : Store), pureV CC cf [val x, val y] σ = some (.p (.int .i64 (cmp x y))))
variable {r n lo : Nat} {σ : Store}
theorem rv_L0 (hr : r < σ.length) (hlo : lo ≤ r) (hn : n ≤ 100000) {a b : Nat} (hb : b ≤ n) : ∀ (k i j : Nat) (A : List E), j - i ≤ k → a ≤ i → j < b → A.length = n →
    ∃ B, RP a b A B ∧ f158_L0 guardT lo (V r n) (N i) (N j) (W σ r A) = some (.tuple [], W σ r B)
  | 0, i, j, A, hk, ha, hj, hA => by
    refine ⟨A, RP.refl _ _ _, ?_⟩
    rw [f158_L0_eq guardT rfl]
    simp (disch := omega) only [V, N, b_lss, ltF, gG]
  | k + 1, i, j, A, hk, ha, hj, hA => by
    by_cases h : i < j
    · obtain ⟨B, h1, h2⟩ := rv_L0 hr hlo hn (a := a) hb k (i + 1) (j - 1) (swp A i j) (by omega) (by omega) (by omega) (by rw [swp_len]; exact hA)
      refine ⟨B, (RP.swap (a := a) (b := b) (i := i) (j := j) ⟨ha, by omega⟩ ⟨by omega, hj⟩ (by omega)).trans h1, ?_⟩
      have h3 : (A.set i (ge A j)).length = n := by rw [set_len]; exact hA
      rw [f158_L0_eq guardT rfl, ← h2]
      simp (disch := omega) only [V, N, b_lss, ltT, idxL, ldW, stW, add1, sub1, gG, swp]
    · refine ⟨A, RP.refl _ _ _, ?_⟩
      rw [f158_L0_eq guardT rfl]
      simp (disch := omega) only [V, N, b_lss, ltF, gG]
theorem rv_ok (hr : r < σ.length) (hlo : lo ≤ r) (hn : n ≤ 100000) {a b : Nat} (hab : a < b) (hb : b ≤ n) (A : List E) (hA : A.length = n) (y : DV) :
    ∃ B, RP a b A B ∧ CC lo 158 [V r n, N a, N b, y] (W σ r A) = some (.tuple [], W σ r B) := by
  obtain ⟨B, h1, h2⟩ := rv_L0 hr hlo hn (a := a) hb (b - 1 - a) a (b - 1) A (Nat.le_refl _) (Nat.le_refl _) (by omega) hA
  refine ⟨B, h1, F158_call ?_⟩
  rw [F158_eq]
  simp (disch := omega) only [N, sub1, gG]
  exact h2
def Q (σ : Store) (r : Nat) (A : List E) (k : Int) : Store := W (σ ++ [Row.mix [.p (.int .i64 k)]]) r A
theorem Q_load (hr : r < σ.length) (A : List E) (k : Int) : load PP 3 (.ptr σ.length 0) (Q σ r A k) = some (.p (.int .i64 k)) := by
  rw [load3, load1_ptr (off := 0) (cs := [.p (.int .i64 k)]) ?_ rfl]
  exact get_set_ne get_snoc (by omega)
theorem s3i : size? PP 3 = some 1 := Eq.trans (by kernel_rfl) rfl
theorem Q_store (hr : r < σ.length) (hlo : lo ≤ r) (A : List E) (k k' : Int) : store PP lo 3 (.ptr σ.length 0) (.p (.int .i64 k')) (Q σ r A k) = some (Q σ r A k') := by
  have h1 : (Q σ r A k)[σ.length]? = some (.mix [.p (.int .i64 k)]) := get_set_ne get_snoc (by omega)
  have h2 : lo ≤ σ.length := by omega
  have h3 : (Q σ r A k).set σ.length (.mix [.p (.int .i64 k')]) = Q σ r A k' := by
    unfold Q
    rw [W, List.set_comm _ _ (by omega), List.set_append_right _ _ (Nat.le_refl _), Nat.sub_self]
    rfl
  simp only [store, s3i, DV.cells, List.length_singleton, if_true, storeN, h2, h1]
  rw [← h3]
  rfl
include hc in
theorem o2_ok (hr : r < σ.length) (hlo : lo ≤ r) {i j : Nat} (hi : i < n) (hj : j < n) {A : List E} (hA : A.length = n) (k : Int) :
    ∃ i' j' k', CC lo 167 [V r n, N i, N j, .ptr σ.length 0, .fn cf []] (Q σ r A k) = some (.tuple [N i', N j'], Q σ r A k') ∧ ((i' = i ∧ j' = j) ∨ (i' = j ∧ j' = i)) := by
  have hr' : r < (σ ++ [Row.mix [.p (.int .i64 k)]]).length := by simp; omega
  by_cases h : cmp (ge A j) (ge A i) < 0
  · refine ⟨j, i, IntKind.wrap .i64 (k + 1), F167_call ?_, .inr ⟨rfl, rfl⟩⟩
    rw [F167_eq]
    have e1 := Q_load hr A k
    have e2 := Q_store hr hlo A k (IntKind.wrap .i64 (k + 1))
    have e3 : ∀ s off, nilCheckV (.ptr s off) = some (.ptr s off) := fun _ _ => rfl
    have e4 : ∀ i, i < A.length → load PP 69 (.ptr r (i * 3)) (Q σ r A k) = some (val (ge A i)) := fun i hi => ldW hr' hi
    simp (disch := omega) only [V, N, idxL, e4, pureFn_fn, List.append_nil, hc, b_lss, ltT, gG, e3, e1, b_add, e2]
  · refine ⟨i, j, k, F167_call ?_, .inl ⟨rfl, rfl⟩⟩
    rw [F167_eq]
    have e4 : ∀ i, i < A.length → load PP 69 (.ptr r (i * 3)) (Q σ r A k) = some (val (ge A i)) := fun i hi => ldW hr' hi
    simp (disch := omega) only [V, N, idxL, e4, pureFn_fn, List.append_nil, hc, b_lss, ltF, gG]
theorem ex2_0 (x y : DV) : extractV (.tuple [x, y]) 0 = some x := rfl
theorem ex2_1 (x y : DV) : extractV (.tuple [x, y]) 1 = some y := rfl
include hc in
theorem me_ok (hr : r < σ.length) (hlo : lo ≤ r) {i j l : Nat} (hi : i < n) (hj : j < n) (hl : l < n) {A : List E} (hA : A.length = n) (k : Int) :
    ∃ m k', CC lo 166 [V r n, N i, N j, N l, .ptr σ.length 0, .fn cf []] (Q σ r A k) = some (N m, Q σ r A k') ∧ (m = i ∨ m = j ∨ m = l) := by
  obtain ⟨i1, j1, k1, e1, h1⟩ := o2_ok hc hr hlo hi hj hA k
  obtain ⟨i2, j2, k2, e2, h2⟩ := o2_ok hc hr hlo (i := j1) (j := l) (by omega) hl hA k1
  obtain ⟨i3, j3, k3, e3, h3⟩ := o2_ok hc hr hlo (i := i1) (j := i2) (by omega) (by omega) hA k2
  refine ⟨j3, k3, F166_call ?_, by omega⟩
  rw [F166_eq]
  simp only [plainFn_fn, List.append_nil, e1, e2, e3, gG, ex2_0, ex2_1]
include hc in
theorem ma_ok (hr : r < σ.length) (hlo : lo ≤ r) (hn : n ≤ 100000) {i : Nat} (h0 : 1 ≤ i) (hi : i + 1 < n) {A : List E} (hA : A.length = n) (k : Int) :
    ∃ m k', CC lo 165 [V r n, N i, .ptr σ.length 0, .fn cf []] (Q σ r A k) = some (N m, Q σ r A k') ∧ i - 1 ≤ m ∧ m ≤ i + 1 := by
  obtain ⟨m, k1, e1, h1⟩ := me_ok hc hr hlo (i := i - 1) (j := i) (l := i + 1) (by omega) (by omega) hi hA k
  refine ⟨m, k1, F165_call ?_, by omega⟩
  rw [F165_eq]
  simp only [N] at e1
  simp (disch := omega) only [N, sub1, add1, plainFn_fn, List.append_nil, e1, gG]
theorem cp_J1 (hr : r < σ.length) (A : List E) (k : Int) (p : Nat) (x0 x1 x2 x3 x8 x9 x10 x12 x14 x15 x16 x17 x18 x19 x20 x21 x22 x23 x24 x25 x26 x27 x28 x29 x30 x31 x32 x33 x34 x35 x36 x37 x38 x39 x40 x41 x42 x43 x44 x45 x46 x47 x48 x49 x50 x51 x52 x53 x54 : DV) :
    ∃ h : Int, f157_J1 guardT lo x0 x1 x2 x3 x8 x9 x10 (.ptr σ.length 0) x12 (N p) x14 x15 x16 x17 x18 x19 x20 x21 x22 x23 x24 x25 x26 x27 x28 x29 x30 x31 x32 x33 x34 x35 x36 x37 x38 x39 x40 x41 x42 x43 x44 x45 x46 x47 x48 x49 x50 x51 x52 x53 x54 (Q σ r A k) = some (.tuple [N p, .p (.int .i64 h)], Q σ r A k) := by
  rw [f157_J1_eq guardT]
  simp only [Q_load hr, b_eql, gG]
  by_cases h1 : k = 0
  · exact ⟨1, by simp only [eqT h1, gG]⟩
  · by_cases h2 : k = 12
    · exact ⟨2, by simp only [eqF h1, eqT h2, gG]⟩
    · exact ⟨0, by simp only [eqF h1, eqF h2, gG]⟩
include hc in
theorem cp_J0 (hr : r < σ.length) (hlo : lo ≤ r) {i j l : Nat} (hi : i < n) (hj : j < n) (hl : l < n) {A : List E} (hA : A.length = n) (k : Int) (x1 x2 x8 x9 x10 x15 x16 x17 x18 x19 x20 x21 x22 x23 x24 x25 x26 x27 x28 x29 x30 x31 x32 x33 x34 x35 x36 x37 x38 x39 x40 x41 x42 x43 x44 x45 x46 x47 x48 : DV) :
    ∃ m h k', f157_J0 guardT lo (V r n) x1 x2 (.fn cf []) x8 x9 x10 (.ptr σ.length 0) (N i) (N j) (N l) x15 x16 x17 x18 x19 x20 x21 x22 x23 x24 x25 x26 x27 x28 x29 x30 x31 x32 x33 x34 x35 x36 x37 x38 x39 x40 x41 x42 x43 x44 x45 x46 x47 x48 (Q σ r A k) = some (.tuple [N m, .p (.int .i64 h)], Q σ r A k') ∧ (m = i ∨ m = j ∨ m = l) := by
  obtain ⟨m, k', e1, h1⟩ := me_ok hc hr hlo hi hj hl hA k
  rw [f157_J0_eq guardT]
  simp only [plainFn_fn, List.append_nil, e1, gG]
  obtain ⟨h, e2⟩ := cp_J1 (lo := lo) hr A k' m _ _ _ _ _ _ _ _ _ _ _ _ _ _ _ _ _ _ _ _ _ _ _ _ _ _ _ _ _ _ _ _ _ _ _ _ _ _ _ _ _ _ _ _ _ _ _ _ _
  exact ⟨m, h, k', e2, h1⟩
theorem quo4 {l : Nat} (h : l ≤ 1000000) : binOp PP .quo 3 (.p (.int .i64 (l : Nat))) (.p (.int .i64 4)) = some (.p (.int .i64 ((l / 4 : Nat) : Int))) := by
  have e3 : ((l : Nat) : Int).tdiv 4 = ((l / 4 : Nat) : Int) := by rw [Int.tdiv_eq_ediv_of_nonneg (by omega)]; omega
  have e4 : binOp PP .quo 3 (.p (.int .i64 ((l : Nat) : Int))) (.p (.int .i64 4)) = some (.p (.int .i64 (IntKind.wrap .i64 (((l : Nat) : Int).tdiv 4)))) := Eq.trans rfl rfl
  rw [e4, e3, wrap_ok (by omega) (by omega)]
theorem mulC {a c : Nat} (h : a ≤ 1000000) (hc : c ≤ 3) : binOp PP .mul 3 (.p (.int .i64 (a : Nat))) (.p (.int .i64 (c : Nat))) = some (.p (.int .i64 ((a * c : Nat) : Int))) := by
  have : a * c ≤ 1000000 * 3 := Nat.mul_le_mul h hc
  rw [b_mul, wrap_ok (by have := Int.natCast_nonneg (a * c); rw [Int.natCast_mul] at this; omega) (by rw [← Int.natCast_mul]; omega)]
  rfl
theorem mul1 {a : Nat} (h : a ≤ 1000000) : binOp PP .mul 3 (.p (.int .i64 (a : Nat))) (.p (.int .i64 1)) = some (.p (.int .i64 ((a : Nat) : Int))) := (mulC (c := 1) h (by omega)).trans (by rw [Nat.mul_one])
theorem mulB {a : Nat} (h : a ≤ 1000000) : binOp PP .mul 3 (.p (.int .i64 (a : Nat))) (.p (.int .i64 2)) = some (.p (.int .i64 ((a * 2 : Nat) : Int))) := mulC (c := 2) h (by omega)
theorem mulD {a : Nat} (h : a ≤ 1000000) : binOp PP .mul 3 (.p (.int .i64 (a : Nat))) (.p (.int .i64 3)) = some (.p (.int .i64 ((a * 3 : Nat) : Int))) := mulC (c := 3) h (by omega)
theorem z3 : zeroOf PP 3 = some [.p (.int .i64 0)] := Eq.trans (by kernel_rfl) rfl
include hc in
theorem cp_ok (hr : r < σ.length) (hlo : lo ≤ r) (hn : n ≤ 100000) {a b : Nat} (hab : a + 12 < b) (hb : b ≤ n) {A : List E} (hA : A.length = n) :
    ∃ p h k', CC lo 157 [V r n, N a, N b, .fn cf []] (W σ r A) = some (.tuple [N p, .p (.int .i64 h)], Q σ r A k') ∧ a ≤ p ∧ p < b := by
  have hw : (W σ r A) ++ [Row.mix [.p (.int .i64 0)]] = Q σ r A 0 := W_snoc hr A _
  have hl : List.length (W σ r A) = σ.length := W_len _ _ _
  by_cases h50 : b - a < 50
  · obtain ⟨m, h, k', e1, h1⟩ := cp_J0 (lo := lo) hc hr hlo (i := a + (b - a) / 4) (j := a + (b - a) / 4 * 2) (l := a + (b - a) / 4 * 3) (by omega) (by omega) (by omega) hA 0 _ _ _ _ _ _ _ _ _ _ _ _ _ _ _ _ _ _ _ _ _ _ _ _ _ _ _ _ _ _ _ _ _ _ _ _ _ _ _
    refine ⟨m, h, k', F157_call ?_, by omega, by omega⟩
    rw [F157_eq]
    simp (disch := omega) only [V, N, subN, z3, quo4, mul1, mulB, mulD, addN, b_geq, geT, geF, gG, hw, hl]
    exact e1
  · obtain ⟨m1, k1, f1, g1⟩ := ma_ok hc hr hlo hn (i := a + (b - a) / 4) (by omega) (by omega) hA 0
    obtain ⟨m2, k2, f2, g2⟩ := ma_ok hc hr hlo hn (i := a + (b - a) / 4 * 2) (by omega) (by omega) hA k1
    obtain ⟨m3, k3, f3, g3⟩ := ma_ok hc hr hlo hn (i := a + (b - a) / 4 * 3) (by omega) (by omega) hA k2
    obtain ⟨m, h, k', e1, h1⟩ := cp_J0 (lo := lo) hc hr hlo (i := m1) (j := m2) (l := m3) (by omega) (by omega) (by omega) hA k3 _ _ _ _ _ _ _ _ _ _ _ _ _ _ _ _ _ _ _ _ _ _ _ _ _ _ _ _ _ _ _ _ _ _ _ _ _ _ _
    refine ⟨m, h, k', F157_call ?_, by omega, by omega⟩
    rw [F157_eq]
    simp only [V, N] at f1 f2 f3
    simp (disch := omega) only [V, N, subN, z3, quo4, mul1, mulB, mulD, addN, b_geq, geT, gG, hw, hl, plainFn_fn, List.append_nil]
    rw [f1]
    simp only [gG]
    rw [f2]
    simp only [gG]
    rw [f3]
    simp only [gG]
    exact e1
end
end Go.D.StT
end
/- The length of numbers in bits, the library's small random numbers, and the breaking of patterns. -/
section
set_option linter.unusedVariables false
set_option linter.unusedSimpArgs false
namespace Go.D.StT
open Go.D.Srt
theorem tab_ok : (List.range 256).all (fun m => match xstr0[m]? with | some b => decide (2 ^ b.toNat ≤ 2 * max m 1) && decide (b.toNat ≤ 8) | none => false) = true := by decide +kernel
theorem tab_at {m : Nat} (h : m < 256) : ∃ b, xstr0[m]? = some b ∧ 2 ^ b.toNat ≤ 2 * max m 1 ∧ b.toNat ≤ 8 := by
  have h1 := List.all_eq_true.1 tab_ok m (List.mem_range.2 h)
  cases e : xstr0[m]? with
  | none => rw [e] at h1; simp at h1
  | some b =>
    rw [e] at h1
    simp only [Bool.and_eq_true, decide_eq_true_eq] at h1
    exact ⟨b, rfl, h1⟩
theorem wrapU {x : Int} (h0 : 0 ≤ x) (h1 : x < 18446744073709551616) : IntKind.wrap .u64 x = x := by
  simp [IntKind.wrap, IntKind.signed, IntKind.bits]
  omega
theorem wrapB {x : Int} (h0 : 0 ≤ x) (h1 : x < 256) : IntKind.wrap .u8 x = x := by
  simp [IntKind.wrap, IntKind.signed, IntKind.bits]
  omega
abbrev U (i : Nat) : DV := .p (.int .u64 (i : Int))
theorem geqU (t : TypeId) (a b : Int) : binOp PP .geq t (.p (.int .u64 a)) (.p (.int .u64 b)) = some (.p (.bool (decide (a ≥ b)))) := Eq.trans rfl rfl
theorem shr16 (t : TypeId) (n : Nat) : binOp PP .shr t (.p (.int .u64 (n : Int))) (.p (.int .u64 16)) = some (.p (.int .u64 ((n / 65536 : Nat) : Int))) := by
  have e : binOp PP .shr t (.p (.int .u64 (n : Int))) (.p (.int .u64 16)) = some (.p (.int .u64 ((n : Int).fdiv (2 ^ 16)))) := Eq.trans rfl rfl
  rw [e, Int.fdiv_eq_ediv_of_nonneg _ (by decide)]
  congr 3
theorem shr8 (t : TypeId) (n : Nat) : binOp PP .shr t (.p (.int .u64 (n : Int))) (.p (.int .u64 8)) = some (.p (.int .u64 ((n / 256 : Nat) : Int))) := by
  have e : binOp PP .shr t (.p (.int .u64 (n : Int))) (.p (.int .u64 8)) = some (.p (.int .u64 ((n : Int).fdiv (2 ^ 8)))) := Eq.trans rfl rfl
  rw [e, Int.fdiv_eq_ediv_of_nonneg _ (by decide)]
  congr 3
theorem cv_ub {m : Nat} (h : m < 256) : convert PP 178 5 (.p (.int .u64 (m : Int))) = some (.p (.int .u8 (m : Int))) := by
  have e : convert PP 178 5 (.p (.int .u64 (m : Int))) = some (.p (.int .u8 (IntKind.wrap .u8 m))) := Eq.trans (by kernel_rfl) rfl
  rw [e, wrapB (by omega) (by omega)]
theorem cv_bi {m : Nat} (h : m < 256) : convert PP 5 3 (.p (.int .u8 (m : Int))) = some (.p (.int .i64 (m : Int))) := by
  have e : convert PP 5 3 (.p (.int .u8 (m : Int))) = some (.p (.int .i64 (IntKind.wrap .i64 m))) := Eq.trans (by kernel_rfl) rfl
  rw [e, wrap_ok (by omega) (by omega)]
theorem cv_iu {m : Nat} (h : m ≤ 1000000) : convert PP 3 165 (.p (.int .i64 (m : Int))) = some (.p (.int .u64 (m : Int))) := by
  have e : convert PP 3 165 (.p (.int .i64 (m : Int))) = some (.p (.int .u64 (IntKind.wrap .u64 m))) := Eq.trans (by kernel_rfl) rfl
  rw [e, wrapU (by omega) (by omega)]
theorem cv_ix {m : Nat} (h : m ≤ 1000000) : convert PP 3 185 (.p (.int .i64 (m : Int))) = some (.p (.int .u64 (m : Int))) := by
  have e : convert PP 3 185 (.p (.int .i64 (m : Int))) = some (.p (.int .u64 (IntKind.wrap .u64 m))) := Eq.trans (by kernel_rfl) rfl
  rw [e, wrapU (by omega) (by omega)]
theorem cv_ui {m : Nat} (h : m ≤ 1000000) : convert PP 165 3 (.p (.int .u64 (m : Int))) = some (.p (.int .i64 (m : Int))) := by
  have e : convert PP 165 3 (.p (.int .u64 (m : Int))) = some (.p (.int .i64 (IntKind.wrap .i64 m))) := Eq.trans (by kernel_rfl) rfl
  rw [e, wrap_ok (by omega) (by omega)]
theorem uTS : PP.underlying 9 = some .string := Eq.trans (by kernel_rfl) rfl
theorem idx_tab {m : Nat} {b : UInt8} (h : xstr0[m]? = some b) : index PP 9 (.p (.str xstr0)) (.p (.int .u8 (m : Int))) = some (.p (.int .u8 b.toNat)) := by
  have h0 : (0 : Int) ≤ (m : Int) := by omega
  simp only [index, uTS, h0, if_true, Int.toNat_natCast, h]
theorem L64_J2 {m c : Nat} (hm : m < 256) (hc : c ≤ 100) (x3 x4 x5 x6 x7 x8 x9 x10 x11 x12 x13 x14 x15 x16 x17 x18 : DV) (σ : Store) : ∃ b : Nat, f135_J2 guardT 0 (U m) (N c) x3 x4 x5 x6 x7 x8 x9 x10 x11 x12 x13 x14 x15 x16 x17 x18 σ = some (N (c + b), σ) ∧ 2 ^ b ≤ 2 * max m 1 ∧ b ≤ 8 := by
  obtain ⟨b, h1, h2, h3⟩ := tab_at hm
  refine ⟨b.toNat, ?_, h2, h3⟩
  rw [f135_J2_eq guardT]
  simp (disch := omega) only [U, N, cv_ub hm, idx_tab h1, gG]
  rw [cv_bi (by omega)]
  simp (disch := omega) only [addN, gG]
theorem L64_run {n : Nat} (hn : n ≤ 1000000) : ∃ b : Nat, F135 guardT 0 (U n) [] = some (N b, []) ∧ 2 ^ b ≤ 2 * max n 1 ∧ b ≤ 24 := by
  rw [F135_eq]
  have h0 : ¬ ((n : Int) ≥ 4294967296) := by omega
  have a8 : binOp PP .add 3 (.p (.int .i64 0)) (.p (.int .i64 8)) = some (N 8) := by rw [b_add]; rfl
  have a16 : binOp PP .add 3 (.p (.int .i64 0)) (.p (.int .i64 16)) = some (N 16) := by rw [b_add]; rfl
  by_cases h1 : n < 256
  · obtain ⟨b, e, h2, h3⟩ := L64_J2 (c := 0) h1 (by omega) _ _ _ _ _ _ _ _ _ _ _ _ _ _ _ _ []
    refine ⟨b, ?_, h2, by omega⟩
    simp (disch := omega) only [U, N, geqU, geF, gG, f135_J0_eq, f135_J1_eq]
    rw [Nat.zero_add] at e
    exact e
  · by_cases h4 : n < 65536
    · obtain ⟨b, e, h2, h3⟩ := L64_J2 (m := n / 256) (c := 8) (by omega) (by omega) _ _ _ _ _ _ _ _ _ _ _ _ _ _ _ _ []
      refine ⟨8 + b, ?_, ?_, by omega⟩
      · simp (disch := omega) only [U, N, geqU, geF, geT, gG, f135_J0_eq, f135_J1_eq, shr8, a8]
        exact e
      · rw [Nat.pow_add]; omega
    · obtain ⟨b, e, h2, h3⟩ := L64_J2 (m := n / 65536) (c := 16) (by omega) (by omega) _ _ _ _ _ _ _ _ _ _ _ _ _ _ _ _ []
      refine ⟨16 + b, ?_, ?_, by omega⟩
      · simp (disch := omega) only [U, N, geqU, geF, geT, gG, f135_J0_eq, f135_J1_eq, shr16, a16]
        exact e
      · rw [Nat.pow_add]; omega
theorem bl_ok {n : Nat} (hn : n ≤ 1000000) : ∃ b : Nat, (∀ σ, pureV CC 122 [U n] σ = some (N b)) ∧ 2 ^ b ≤ 2 * max n 1 ∧ b ≤ 24 := by
  obtain ⟨b, e, h2, h3⟩ := L64_run hn
  refine ⟨b, fun σ => ?_, h2, h3⟩
  have h1 : ∀ σ, pureV CC 135 [U n] σ = some (N b) := fun σ => pureV_free rfl rfl (F135_call e) rfl
  refine pureV_free rfl rfl (F122_call (r := (N b, [])) ?_) rfl
  rw [F122_eq]
  simp only [U, N] at h1
  simp only [U, N, gG, pureFn_fn, List.append_nil, h1]
theorem np_ok {n : Nat} (hn : n ≤ 1000000) : ∃ m : Nat, (∀ σ, pureV CC 147 [N n] σ = some (U m)) ∧ m ≤ 2 * max n 1 ∧ 1 ≤ m := by
  obtain ⟨b, e, h2, h3⟩ := bl_ok hn
  have hb : 2 ^ b ≤ 2 ^ 24 := Nat.pow_le_pow_right (by decide) h3
  refine ⟨2 ^ b, fun σ => pureV_free rfl rfl (F147_call (r := (U (2 ^ b), [])) ?_) rfl, h2, Nat.pos_of_ne_zero (by simp)⟩
  have e1 : binOp PP .shl 165 (.p (.int .u64 1)) (.p (.int .i64 (b : Nat))) = some (.p (.int .u64 ((2 ^ b : Nat) : Int))) := by
    have e2 : binOp PP .shl 165 (.p (.int .u64 1)) (.p (.int .i64 (b : Nat))) = some (.p (.int .u64 (IntKind.wrap .u64 (1 * 2 ^ (min b 64))))) := by
      have h0 : ¬ ((b : Nat) : Int) < 0 := by omega
      have e5 : IntKind.bits .u64 = 64 := rfl
      simp only [binOp, binShift, h0, if_false, Int.toNat_natCast, Option.map_some, e5]
    have e3 : (1 : Int) * 2 ^ (min b 64) = ((2 ^ b : Nat) : Int) := by rw [Nat.min_eq_left (by omega)]; simp
    have e6 : ((2 ^ b : Nat) : Int) < 18446744073709551616 := by omega
    rw [e2, e3, wrapU (Int.natCast_nonneg _) e6]
  simp only [U] at e
  rw [F147_eq]
  simp (disch := omega) only [U, N, cv_iu, gG, pureFn_fn, List.append_nil, e, e1]
def QU (σ : Store) (r : Nat) (A : List E) (k : Int) : Store := W (σ ++ [Row.mix [.p (.int .u64 k)]]) r A
section
variable {r n lo : Nat} {σ : Store}
theorem QU_load (hr : r < σ.length) (A : List E) (k : Int) : load PP 185 (.ptr σ.length 0) (QU σ r A k) = some (.p (.int .u64 k)) := by
  have e : ∀ x σ, load PP 185 x σ = load1 x σ := fun x σ => Eq.trans (by kernel_rfl) rfl
  rw [e, load1_ptr (off := 0) (cs := [.p (.int .u64 k)]) ?_ rfl]
  exact get_set_ne get_snoc (by omega)
theorem sX : size? PP 185 = some 1 := Eq.trans (by kernel_rfl) rfl
theorem QU_store (hr : r < σ.length) (hlo : lo ≤ r) (A : List E) (k k' : Int) : store PP lo 185 (.ptr σ.length 0) (.p (.int .u64 k')) (QU σ r A k) = some (QU σ r A k') := by
  have h1 : (QU σ r A k)[σ.length]? = some (.mix [.p (.int .u64 k)]) := get_set_ne get_snoc (by omega)
  have h2 : lo ≤ σ.length := by omega
  have h3 : (QU σ r A k).set σ.length (.mix [.p (.int .u64 k')]) = QU σ r A k' := by
    unfold QU
    rw [W, List.set_comm _ _ (by omega), List.set_append_right _ _ (Nat.le_refl _), Nat.sub_self]
    rfl
  simp only [store, sX, DV.cells, List.length_singleton, if_true, storeN, h2, h1]
  rw [← h3]
  rfl
theorem shlX (t : TypeId) (a : Int) : ∃ v, binOp PP .shl t (.p (.int .u64 a)) (.p (.int .u64 13)) = some (.p (.int .u64 v)) := ⟨_, Eq.trans rfl rfl⟩
theorem shrX (t : TypeId) (a : Int) : ∃ v, binOp PP .shr t (.p (.int .u64 a)) (.p (.int .u64 7)) = some (.p (.int .u64 v)) := ⟨_, Eq.trans rfl rfl⟩
theorem shlY (t : TypeId) (a : Int) : ∃ v, binOp PP .shl t (.p (.int .u64 a)) (.p (.int .u64 17)) = some (.p (.int .u64 v)) := ⟨_, Eq.trans rfl rfl⟩
theorem xorX (t : TypeId) (a b : Int) : ∃ v, binOp PP .xor t (.p (.int .u64 a)) (.p (.int .u64 b)) = some (.p (.int .u64 v)) := ⟨_, Eq.trans rfl rfl⟩
theorem andX (t : TypeId) (a : Int) {b : Nat} (hb : b < 18446744073709551616) : ∃ m : Nat, binOp PP .and t (.p (.int .u64 a)) (.p (.int .u64 (b : Int))) = some (.p (.int .u64 (m : Int))) ∧ m ≤ b := by
  have e : binOp PP .and t (.p (.int .u64 a)) (.p (.int .u64 (b : Int))) = some (.p (.int .u64 (IntKind.wrap .u64 (BitVec.ofInt 64 a &&& BitVec.ofInt 64 (b : Int)).toNat))) := Eq.trans rfl rfl
  have h : (BitVec.ofInt 64 a &&& BitVec.ofInt 64 (b : Int)).toNat ≤ b := by
    rw [BitVec.toNat_and]
    refine Nat.le_trans Nat.and_le_right ?_
    rw [BitVec.toNat_ofInt]
    omega
  exact ⟨_, by rw [e, wrapU (by omega) (by omega)], h⟩
theorem nx_ok (hr : r < σ.length) (hlo : lo ≤ r) (A : List E) (k : Int) : ∃ k', CC lo 148 [.ptr σ.length 0] (QU σ r A k) = some (.p (.int .u64 k'), QU σ r A k') := by
  obtain ⟨v1, h1⟩ := shlX 185 k
  obtain ⟨v2, h2⟩ := xorX 185 k v1
  obtain ⟨v3, h3⟩ := shrX 185 v2
  obtain ⟨v4, h4⟩ := xorX 185 v2 v3
  obtain ⟨v5, h5⟩ := shlY 185 v4
  obtain ⟨v6, h6⟩ := xorX 185 v4 v5
  refine ⟨v6, F148_call ?_⟩
  have e3 : ∀ s off, nilCheckV (.ptr s off) = some (.ptr s off) := fun _ _ => rfl
  rw [F148_eq]
  simp only [e3, gG, QU_load hr, h1, h2, h3, h4, h5, h6, QU_store hr hlo]
theorem bp_J0 (hr : r < σ.length) (hlo : lo ≤ r) (hn : n ≤ 100000) {a idx o : Nat} (h1 : idx < n) (h2 : a + o < n) {A : List E} (hA : A.length = n) (k : Int) (x8 x9 x10 x28 x29 x30 x31 x32 x33 x34 x35 x38 x39 x40 x41 x42 x43 x44 x45 x46 x47 x48 : DV) :
    f156_J0 guardT lo (V r n) (N a) x8 x9 x10 (N idx) (N o) x28 x29 x30 x31 x32 x33 x34 x35 x38 x39 x40 x41 x42 x43 x44 x45 x46 x47 x48 (QU σ r A k) = f156_L0 guardT lo (V r n) (N a) x8 x9 x10 (N (idx + 1)) (QU σ r (swp A idx (a + o)) k) := by
  have hr' : r < (σ ++ [Row.mix [.p (.int .u64 k)]]).length := by simp; omega
  have h3 : (A.set idx (ge A (a + o))).length = n := by rw [set_len]; exact hA
  rw [f156_J0_eq guardT]
  simp (disch := omega) only [V, N, QU, addN, idxL, ldW, stW, add1, gG, swp]
theorem bp_L0 (hr : r < σ.length) (hlo : lo ≤ r) (hn : n ≤ 100000) {a b m : Nat} (hab : a + 12 < b) (hb : b ≤ n) (hm : m ≤ 2 * (b - a)) (hm1 : 1 ≤ m) : ∀ (d idx : Nat) (A : List E) (k : Int), a + (b - a) / 4 * 2 + 2 - idx = d → a ≤ idx → A.length = n →
    ∃ B k', RP a b A B ∧ f156_L0 guardT lo (V r n) (N a) (N (b - a)) (.ptr σ.length 0) (U m) (N idx) (QU σ r A k) = some (.tuple [], QU σ r B k')
  | 0, idx, A, k, hd, hi, hA => by
    refine ⟨A, k, RP.refl _ _ _, ?_⟩
    rw [f156_L0_eq guardT rfl]
    simp (disch := omega) only [V, N, quo4, mulB, addN, add1, b_leq, leF, gG]
  | d + 1, idx, A, k, hd, hi, hA => by
    obtain ⟨k1, e1⟩ := nx_ok hr hlo A k
    obtain ⟨o, e2, h2⟩ := andX 165 k1 (b := m - 1) (by omega)
    have e3 : binOp PP .sub 165 (.p (.int .u64 (m : Int))) (.p (.int .u64 1)) = some (.p (.int .u64 ((m - 1 : Nat) : Int))) := by
      have e4 : binOp PP .sub 165 (.p (.int .u64 (m : Int))) (.p (.int .u64 1)) = some (.p (.int .u64 (IntKind.wrap .u64 ((m : Int) - 1)))) := Eq.trans rfl rfl
      rw [e4, wrapU (by omega) (by omega)]
      congr 3
      omega
    by_cases h : b - a ≤ o
    · obtain ⟨B, k', g1, g2⟩ := bp_L0 hr hlo hn hab hb hm hm1 d (idx + 1) (swp A idx (a + (o - (b - a)))) k1 (by omega) (by omega) (by rw [swp_len]; exact hA)
      refine ⟨B, k', (RP.swap (a := a) (b := b) (i := idx) (j := a + (o - (b - a))) ⟨hi, by omega⟩ ⟨by omega, by omega⟩ (by omega)).trans g1, ?_⟩
      rw [f156_L0_eq guardT rfl]
      simp (disch := omega) only [V, N, quo4, mulB, addN, add1, b_leq, leT, gG, plainFn_fn, List.append_nil, e1, U, e3, e2, cv_ui, b_geq, geT, subN]
      exact (bp_J0 hr hlo hn (by omega) (by omega) hA k1 _ _ _ _ _ _ _ _ _ _ _ _ _ _ _ _ _ _ _ _ _ _).trans g2
    · obtain ⟨B, k', g1, g2⟩ := bp_L0 hr hlo hn hab hb hm hm1 d (idx + 1) (swp A idx (a + o)) k1 (by omega) (by omega) (by rw [swp_len]; exact hA)
      refine ⟨B, k', (RP.swap (a := a) (b := b) (i := idx) (j := a + o) ⟨hi, by omega⟩ ⟨by omega, by omega⟩ (by omega)).trans g1, ?_⟩
      rw [f156_L0_eq guardT rfl]
      simp (disch := omega) only [V, N, quo4, mulB, addN, add1, b_leq, leT, gG, plainFn_fn, List.append_nil, e1, U, e3, e2, cv_ui, b_geq, geF]
      exact (bp_J0 hr hlo hn (by omega) (by omega) hA k1 _ _ _ _ _ _ _ _ _ _ _ _ _ _ _ _ _ _ _ _ _ _).trans g2
theorem zX : zeroOf PP 185 = some [.p (.int .u64 0)] := Eq.trans (by kernel_rfl) rfl
theorem bp_ok (hr : r < σ.length) (hlo : lo ≤ r) (hn : n ≤ 100000) {a b : Nat} (hab : a + 12 < b) (hb : b ≤ n) {A : List E} (hA : A.length = n) (y : DV) :
    ∃ B k', RP a b A B ∧ CC lo 156 [V r n, N a, N b, y] (W σ r A) = some (.tuple [], QU σ r B k') := by
  obtain ⟨m, e1, h1, h2⟩ := np_ok (n := b - a) (by omega)
  have hm : max (b - a) 1 = b - a := by omega
  rw [hm] at h1
  obtain ⟨B, k', g1, g2⟩ := bp_L0 hr hlo hn hab hb h1 h2 _ (a + (b - a) / 4 * 2 - 1) A ((b - a : Nat) : Int) rfl (by omega) hA
  refine ⟨B, k', g1, F156_call ?_⟩
  have hw : (W σ r A) ++ [Row.mix [.p (.int .u64 0)]] = QU σ r A 0 := W_snoc hr A _
  have hl : List.length (W σ r A) = σ.length := W_len _ _ _
  simp only [N, U] at e1
  rw [F156_eq]
  simp (disch := omega) only [V, N, subN, b_geq, geT, gG, cv_ix, zX, hw, hl, QU_store, pureFn_fn, List.append_nil, e1, quo4, mulB, addN, sub1]
  exact g2
end
end Go.D.StT
end
/- pdqsort over elements of type 69: it sorts. -/
section
set_option linter.unusedVariables false
set_option linter.unusedSimpArgs false
namespace Go.D.StT
open Go.D.Srt
abbrev I (x : Int) : DV := .p (.int .i64 x)
abbrev Bo (b : Bool) : DV := .p (.bool b)
def Goal (cmp : E → E → Int) (r a b : Nat) (A : List E) (σ : Store) (res : Option (DV × Store)) : Prop :=
  ∃ B σ', res = some (.tuple [], W σ' r B) ∧ RP a b A B ∧ Sd (ltc cmp) a b B ∧ ∃ e, σ' = σ ++ e
def Low (cmp : E → E → Int) (a b : Nat) (A : List E) : Prop := 0 < a → ∀ p, a ≤ p → p < b → ltc cmp (ge A p) (ge A (a - 1)) = false
theorem Goal.mono {cmp : E → E → Int} {r a b : Nat} {A A0 : List E} {σ σ0 : Store} {res : Option (DV × Store)} (h : Goal cmp r a b A0 σ0 res) (h1 : RP a b A A0) (h2 : ∃ e, σ0 = σ ++ e) : Goal cmp r a b A σ res := by
  obtain ⟨B, σ', e1, e2, e3, x, e4⟩ := h
  obtain ⟨y, rfl⟩ := h2
  exact ⟨B, σ', e1, h1.trans e2, e3, y ++ x, by rw [e4, List.append_assoc]⟩
theorem Low.perm {cmp : E → E → Int} {a b : Nat} {A B : List E} (h : Low cmp a b A) (h1 : RP a b A B) : Low cmp a b B := by
  intro h0 p g1 g2
  rw [h1.out (a - 1) (by omega)]
  exact h1.all (fun x => ltc cmp x (ge A (a - 1)) = false) (h h0) p g1 g2
section
variable {cf : FuncId} {cmp : E → E → Int} (hc : ∀ (x y : E) (σ : Store), pureV CC cf [val x, val y] σ = some (.p (.int .i64 (cmp x y)))) (H : Ord (ltc cmp))
variable {r n lo : Nat}
def IH (cf : FuncId) (cmp : E → E → Int) (r n lo m : Nat) : Prop := ∀ (a b : Nat) (A : List E) (lim : Int) (wb wp : Bool) (σ : Store), b - a < m → a ≤ b → b ≤ n → A.length = n → Low cmp a b A → r < σ.length →
  Goal cmp r a b A σ (f145_L0 guardT lo (V r n) (N a) (N b) (I lim) (.fn cf []) (Bo wb) (Bo wp) (W σ r A))
theorem subI (t : TypeId) (a b : Int) : binOp PP .sub t (.p (.int .i64 a)) (.p (.int .i64 b)) = some (.p (.int .i64 (IntKind.wrap .i64 (a - b)))) := Eq.trans rfl rfl
theorem quo8 {l : Nat} (h : l ≤ 1000000) : binOp PP .quo 3 (.p (.int .i64 (l : Nat))) (.p (.int .i64 8)) = some (.p (.int .i64 ((l / 8 : Nat) : Int))) := by
  have e3 : ((l : Nat) : Int).tdiv 8 = ((l / 8 : Nat) : Int) := by rw [Int.tdiv_eq_ediv_of_nonneg (by omega)]; omega
  have e4 : binOp PP .quo 3 (.p (.int .i64 ((l : Nat) : Int))) (.p (.int .i64 8)) = some (.p (.int .i64 (IntKind.wrap .i64 (((l : Nat) : Int).tdiv 8)))) := Eq.trans rfl rfl
  rw [e4, e3, wrap_ok (by omega) (by omega)]
include hc H in
theorem pq_part (hlo : lo ≤ r) (hn : n ≤ 100000) {a b p : Nat} (ih : IH cf cmp r n lo (b - a)) (hab : a + 12 < b) (hb : b ≤ n) (hp1 : a ≤ p) (hp2 : p < b) {A : List E} (hA : A.length = n) (hL : Low cmp a b A) (lim : Int) (y : DV) {σ : Store} (hr : r < σ.length) :
    Goal cmp r a b A σ ((plainFn CC lo (DV.fn 161 []) [V r n, N a, N b, N p, .fn cf []] (W σ r A)).bind fun r111_24 =>
     (extractV r111_24.1 0).bind fun x112 =>
     (extractV r111_24.1 1).bind fun x113 =>
     (binOp PP .sub 3 x112 (N a)).bind fun x117 =>
     (binOp PP .sub 3 (N b) x112).bind fun x120 =>
     (binOp PP .quo 3 (N (b - a)) (DV.p (PV.int IntKind.i64 (8)))).bind fun x122 =>
     (binOp PP .lss 3 x117 x120).bind fun x125 =>
     condK x125
     (
     (binOp PP .geq 3 x117 x122).bind fun x128 =>
     (plainFn CC lo (DV.fn 145 []) [V r n, N a, x112, I lim, .fn cf []] r111_24.2).bind fun r134_25 =>
     (binOp PP .add 3 x112 (DV.p (PV.int IntKind.i64 (1)))).bind fun x136 =>
     f145_L0 guardT lo (V r n) x136 (N b) (I lim) (.fn cf []) x128 x113 r134_25.2
     )
     (
     (binOp PP .geq 3 x120 x122).bind fun x139 =>
     (binOp PP .add 3 x112 (DV.p (PV.int IntKind.i64 (1)))).bind fun x142 =>
     (plainFn CC lo (DV.fn 145 []) [V r n, x142, N b, I lim, .fn cf []] r111_24.2).bind fun r146_26 =>
     f145_L0 guardT lo (V r n) (N a) x112 (I lim) (.fn cf []) x139 x113 r146_26.2
     )) := by
  obtain ⟨f, e1⟩ := pa_ok hc hr hlo hn (show a < b by omega) hb (show p < n by omega) A hA
  have r1 : RP a b A (swp A a p) := RP.swap ⟨by omega, by omega⟩ ⟨hp1, hp2⟩ (by omega)
  have hm := prt_mid H (a := a) (b := b) (A := swp A a p) (by omega) (by rw [swp_len]; omega)
  have hm : a ≤ (prt (uA cmp) (vA cmp) a (b - a + 1) (a + 1) (b - 1) (swp A a p)).2.1 ∧ (prt (uA cmp) (vA cmp) a (b - a + 1) (a + 1) (b - 1) (swp A a p)).2.1 < b ∧ RP a b (swp A a p) (swp (prt (uA cmp) (vA cmp) a (b - a + 1) (a + 1) (b - 1) (swp A a p)).2.2 (prt (uA cmp) (vA cmp) a (b - a + 1) (a + 1) (b - 1) (swp A a p)).2.1 a) ∧ Mid (ltc cmp) a b (prt (uA cmp) (vA cmp) a (b - a + 1) (a + 1) (b - 1) (swp A a p)).2.1 (swp (prt (uA cmp) (vA cmp) a (b - a + 1) (a + 1) (b - 1) (swp A a p)).2.2 (prt (uA cmp) (vA cmp) a (b - a + 1) (a + 1) (b - 1) (swp A a p)).2.1 a) := hm
  generalize (swp (prt (uA cmp) (vA cmp) a (b - a + 1) (a + 1) (b - 1) (swp A a p)).2.2 (prt (uA cmp) (vA cmp) a (b - a + 1) (a + 1) (b - 1) (swp A a p)).2.1 a) = A1 at *
  generalize (prt (uA cmp) (vA cmp) a (b - a + 1) (a + 1) (b - 1) (swp A a p)).2.1 = m at *
  obtain ⟨m1, m2, m3, m4⟩ := hm
  have rA : RP a b A A1 := r1.trans m3
  have hL1 := hL.perm rA
  have hA1 : A1.length = n := rA.len.trans hA
  simp only [plainFn_fn, List.append_nil, e1, gG, ex2_0, ex2_1]
  by_cases hlt : m - a < b - m
  · -- left first
    have hLl : Low cmp a m A1 := fun h0 p g1 g2 => hL1 h0 p g1 (by omega)
    obtain ⟨B, σ1, g1, g2, g3, x, rfl⟩ := ih a m A1 lim true true σ (by omega) m1 (by omega) hA1 hLl hr
    have c1 : CC lo 145 [V r n, N a, N m, I lim, .fn cf []] (W σ r A1) = some (.tuple [], W (σ ++ x) r B) := F145_call (by rw [F145_eq]; exact g1)
    have hLr : Low cmp (m + 1) b B := fun h0 p k1 k2 => by
      rw [g2.out p (by omega), g2.out (m + 1 - 1) (by omega)]
      exact m4.2 p (by omega) k2
    obtain ⟨C, σ2, q1, q2, q3, z, rfl⟩ := ih (m + 1) b B lim (decide (((m - a : Nat) : Int) ≥ (((b - a) / 8 : Nat) : Int))) f (σ ++ x) (by omega) (by omega) hb (g2.len.trans hA1) hLr (by rw [List.length_append]; omega)
    have gl := glue H (a := a) (b := b) (m := m) ⟨m1, m2⟩ m4 g2 g3 q2 q3
    refine ⟨C, _, ?_, rA.trans gl.1, gl.2, x ++ z, List.append_assoc _ _ _⟩
    simp only [V, N, I] at c1
    simp (disch := omega) only [V, N, I, subN, quo8, b_lss, ltT, gG, b_geq]
    rw [c1]
    simp (disch := omega) only [gG, add1]
    exact q1
  · have hLr : Low cmp (m + 1) b A1 := fun h0 p k1 k2 => m4.2 p (by omega) k2
    obtain ⟨B, σ1, g1, g2, g3, x, rfl⟩ := ih (m + 1) b A1 lim true true σ (by omega) (by omega) hb hA1 hLr hr
    have c1 : CC lo 145 [V r n, N (m + 1), N b, I lim, .fn cf []] (W σ r A1) = some (.tuple [], W (σ ++ x) r B) := F145_call (by rw [F145_eq]; exact g1)
    have hLl : Low cmp a m B := fun h0 p k1 k2 => by
      rw [g2.out p (by omega), g2.out (a - 1) (by omega)]
      exact hL1 h0 p k1 (by omega)
    obtain ⟨C, σ2, q1, q2, q3, z, rfl⟩ := ih a m B lim (decide (((b - m : Nat) : Int) ≥ (((b - a) / 8 : Nat) : Int))) f (σ ++ x) (by omega) m1 (by omega) (g2.len.trans hA1) hLl (by rw [List.length_append]; omega)
    have gl := glue' H (a := a) (b := b) (m := m) ⟨m1, m2⟩ m4 g2 g3 q2 q3
    refine ⟨C, _, ?_, rA.trans gl.1, gl.2, x ++ z, List.append_assoc _ _ _⟩
    simp only [V, N, I] at c1
    simp (disch := omega) only [V, N, I, subN, quo8, b_lss, ltF, gG, b_geq, add1]
    rw [c1]
    simp (disch := omega) only [gG]
    exact q1
include hc H in
theorem pq_J2 (hlo : lo ≤ r) (hn : n ≤ 100000) {a b p : Nat} (ih : IH cf cmp r n lo (b - a)) (hab : a + 12 < b) (hb : b ≤ n) (hp1 : a ≤ p) (hp2 : p < b) {A : List E} (hA : A.length = n) (hL : Low cmp a b A) (lim : Int) (wb wp : Bool) {σ : Store} (hr : r < σ.length) (x14 x21 x22 x23 x24 x25 x31 x32 x38 x39 x40 x41 x42 x43 x44 x45 x46 x47 x48 x49 x50 x51 x52 x53 x54 x55 x56 x57 x58 x59 x60 x61 x62 x63 x64 x65 x66 x67 x68 x69 x70 x71 x72 x73 x74 x75 x76 x77 x78 x79 x80 : DV) :
    Goal cmp r a b A σ (f145_J2 guardT lo (V r n) (N a) (N b) (I lim) (.fn cf []) (Bo wb) (Bo wp) (N (b - a)) (N p) x14 x21 x22 x23 x24 x25 x31 x32 x38 x39 x40 x41 x42 x43 x44 x45 x46 x47 x48 x49 x50 x51 x52 x53 x54 x55 x56 x57 x58 x59 x60 x61 x62 x63 x64 x65 x66 x67 x68 x69 x70 x71 x72 x73 x74 x75 x76 x77 x78 x79 x80 (W σ r A)) := by
  have key := pq_part hc H hlo hn ih hab hb hp1 hp2 hA hL lim x14 hr
  rw [f145_J2_eq guardT]
  by_cases h0 : 0 < a
  · by_cases h1 : cmp (ge A (a - 1)) (ge A p) < 0
    · simp (disch := omega) only [V, N, I, Bo, b_gtr, gtT, gG, sub1, idxL, ldW, pureFn_fn, List.append_nil, hc, b_lss, ltT]
      exact key
    · have e1 := pe_ok hc hr hlo hn (show a < b by omega) hb (show p < n by omega) A hA
      have r1 : RP a b A (swp A a p) := RP.swap ⟨by omega, by omega⟩ ⟨hp1, hp2⟩ (by omega)
      have hL1 := hL.perm r1
      have g := fun k => ge_swp (A := A) (i := a) (j := p) (by omega) (by omega) k
      have hpv : ltc cmp (ge (swp A a p) (a - 1)) (ge (swp A a p) a) = false := by
        have e2 : ge (swp A a p) a = ge A p := by
          rw [g]
          by_cases e : a = p
          · rw [if_pos e, e]
          · rw [if_neg e, if_pos rfl]
        rw [e2, r1.out (a - 1) (by omega)]
        exact decide_eq_false h1
      have hm := prtE_ok H (a := a) (b := b) (A := swp A a p) (by omega) (by rw [swp_len]; omega) (hL1 h0) h0 hpv
      have hm : a < (prt (uE cmp) (vE cmp) a (b - a + 1) (a + 1) (b - 1) (swp A a p)).1 ∧ (prt (uE cmp) (vE cmp) a (b - a + 1) (a + 1) (b - 1) (swp A a p)).1 ≤ b ∧ RP a b (swp A a p) (prt (uE cmp) (vE cmp) a (b - a + 1) (a + 1) (b - 1) (swp A a p)).2.2 ∧ (∀ q, (prt (uE cmp) (vE cmp) a (b - a + 1) (a + 1) (b - 1) (swp A a p)).1 ≤ q → q < b → ltc cmp (ge (prt (uE cmp) (vE cmp) a (b - a + 1) (a + 1) (b - 1) (swp A a p)).2.2 q) (ge (prt (uE cmp) (vE cmp) a (b - a + 1) (a + 1) (b - 1) (swp A a p)).2.2 ((prt (uE cmp) (vE cmp) a (b - a + 1) (a + 1) (b - 1) (swp A a p)).1 - 1)) = false) ∧ ∀ C, RP (prt (uE cmp) (vE cmp) a (b - a + 1) (a + 1) (b - 1) (swp A a p)).1 b (prt (uE cmp) (vE cmp) a (b - a + 1) (a + 1) (b - 1) (swp A a p)).2.2 C → Sd (ltc cmp) (prt (uE cmp) (vE cmp) a (b - a + 1) (a + 1) (b - 1) (swp A a p)).1 b C → Sd (ltc cmp) a b C := hm
      simp only [enE] at e1
      generalize (prt (uE cmp) (vE cmp) a (b - a + 1) (a + 1) (b - 1) (swp A a p)).2.2 = A1 at *
      generalize (prt (uE cmp) (vE cmp) a (b - a + 1) (a + 1) (b - 1) (swp A a p)).1 = m at *
      obtain ⟨m1, m2, m3, m4, m5⟩ := hm
      obtain ⟨C, σ1, q1, q2, q3, z, rfl⟩ := ih m b A1 lim wb wp σ (by omega) m2 hb ((r1.trans m3).len.trans hA) (fun _ q g1 g2 => m4 q g1 g2) hr
      refine ⟨C, _, ?_, (r1.trans m3).trans (q2.mono (by omega) (Nat.le_refl _)), m5 C q2 q3, z, rfl⟩
      simp only [V, N, I, Bo] at e1
      simp (disch := omega) only [V, N, I, Bo, b_gtr, gtT, gG, sub1, idxL, ldW, pureFn_fn, List.append_nil, hc, b_lss, ltF, plainFn_fn]
      rw [e1]
      simp only [gG]
      exact q1
  · simp (disch := omega) only [V, N, I, Bo, b_gtr, gtF, gG]
    exact key
include hc H in
theorem pq_J1 (hlo : lo ≤ r) (hn : n ≤ 100000) {a b p : Nat} (ih : IH cf cmp r n lo (b - a)) (hab : a + 12 < b) (hb : b ≤ n) (hp1 : a ≤ p) (hp2 : p < b) {A : List E} (hA : A.length = n) (hL : Low cmp a b A) (lim h : Int) (wb wp : Bool) {σ : Store} (hr : r < σ.length) (x21 x22 x23 x24 x25 x31 x32 x38 x39 x40 x41 x42 x43 x44 x45 x46 x47 x48 x49 x50 x51 x52 x53 x54 x55 x56 x57 x58 x59 x60 x61 x62 x63 x64 x65 x66 x67 : DV) :
    Goal cmp r a b A σ (f145_J1 guardT lo (V r n) (N a) (N b) (I lim) (.fn cf []) (Bo wb) (Bo wp) (N (b - a)) (N p) (I h) x21 x22 x23 x24 x25 x31 x32 x38 x39 x40 x41 x42 x43 x44 x45 x46 x47 x48 x49 x50 x51 x52 x53 x54 x55 x56 x57 x58 x59 x60 x61 x62 x63 x64 x65 x66 x67 (W σ r A)) := by
  have e1 := pi_ok hc hr hlo hn hb (show a < b by omega) A hA
  have h1 := pins_ok H (a := a) (b := b) 5 (a + 1) A (Nat.le_refl _) (by omega) (by omega) hL (fun p q g1 g2 g3 => by omega)
  rw [f145_J1_eq guardT]
  cases wb with
  | false => simp only [Bo, gG]; exact pq_J2 hc H hlo hn ih hab hb hp1 hp2 hA hL lim false wp hr (I h) _ _ _ _ _ _ _ _ _ _ _ _ _ _ _ _ _ _ _ _ _ _ _ _ _ _ _ _ _ _ _ _ _ _ _ _ _ _ _ _ _ _ _ _ _ _ _ _ _ _
  | true =>
    cases wp with
    | false => simp only [Bo, gG]; exact pq_J2 hc H hlo hn ih hab hb hp1 hp2 hA hL lim true false hr (I h) _ _ _ _ _ _ _ _ _ _ _ _ _ _ _ _ _ _ _ _ _ _ _ _ _ _ _ _ _ _ _ _ _ _ _ _ _ _ _ _ _ _ _ _ _ _ _ _ _ _
    | true =>
      by_cases hh : h = 1
      · simp only [Bo, gG, I, b_eql, eqT hh, plainFn_fn, List.append_nil]
        rw [e1]
        simp only [gG]
        cases hs : (pins (ltc cmp) a b 5 (a + 1) A).1 with
        | true =>
          simp only [gG]
          exact ⟨_, σ, rfl, h1.1, h1.2 hs, [], (List.append_nil _).symm⟩
        | false =>
          simp only [gG]
          exact Goal.mono (pq_J2 hc H hlo hn ih hab hb hp1 hp2 (h1.1.len.trans hA) (hL.perm h1.1) lim true true hr (I h) _ _ _ _ _ _ _ _ _ _ _ _ _ _ _ _ _ _ _ _ _ _ _ _ _ _ _ _ _ _ _ _ _ _ _ _ _ _ _ _ _ _ _ _ _ _ _ _ _ _) h1.1 ⟨[], (List.append_nil _).symm⟩
      · simp only [Bo, gG, I, b_eql, eqF hh]
        exact pq_J2 hc H hlo hn ih hab hb hp1 hp2 hA hL lim true true hr (I h) _ _ _ _ _ _ _ _ _ _ _ _ _ _ _ _ _ _ _ _ _ _ _ _ _ _ _ _ _ _ _ _ _ _ _ _ _ _ _ _ _ _ _ _ _ _ _ _ _ _
include hc H in
theorem pq_J0 (hlo : lo ≤ r) (hn : n ≤ 100000) {a b : Nat} (ih : IH cf cmp r n lo (b - a)) (hab : a + 12 < b) (hb : b ≤ n) {A : List E} (hA : A.length = n) (hL : Low cmp a b A) (lim : Int) (wb wp : Bool) {σ : Store} (hr : r < σ.length) (x21 x22 x23 x24 x25 x31 x32 x38 x39 x40 x41 x42 x43 x44 x45 x46 : DV) :
    Goal cmp r a b A σ (f145_J0 guardT lo (V r n) (N a) (N b) (I lim) (.fn cf []) (Bo wb) (Bo wp) (N (b - a)) x21 x22 x23 x24 x25 x31 x32 x38 x39 x40 x41 x42 x43 x44 x45 x46 (W σ r A)) := by
  obtain ⟨p, h, k, e1, p1, p2⟩ := cp_ok hc hr hlo hn hab hb hA
  have hr1 : r < (σ ++ [Row.mix [.p (.int .i64 k)]]).length := by rw [List.length_append]; omega
  rw [f145_J0_eq guardT]
  simp only [plainFn_fn, List.append_nil]
  rw [e1]
  simp only [gG, ex2_0, ex2_1, b_eql]
  by_cases hh : h = 2
  · obtain ⟨B, g1, g2⟩ := rv_ok hr1 hlo hn (show a < b by omega) hb A hA (.fn cf [])
    simp only [V, N] at g2
    simp only [Q, eqT hh, gG, V, N]
    rw [g2]
    simp (disch := omega) only [gG, sub1, subN]
    exact Goal.mono (pq_J1 hc H hlo hn ih hab hb (show a ≤ b - 1 - (p - a) by omega) (by omega) (g1.len.trans hA) (hL.perm g1) lim 1 wb wp hr1 _ _ _ _ _ _ _ _ _ _ _ _ _ _ _ _ _ _ _ _ _ _ _ _ _ _ _ _ _ _ _ _ _ _ _ _ _) g1 ⟨_, rfl⟩
  · simp only [Q, eqF hh, gG]
    exact Goal.mono (pq_J1 hc H hlo hn ih hab hb p1 p2 hA hL lim h wb wp hr1 _ _ _ _ _ _ _ _ _ _ _ _ _ _ _ _ _ _ _ _ _ _ _ _ _ _ _ _ _ _ _ _ _ _ _ _ _) (RP.refl _ _ _) ⟨_, rfl⟩
include hc H in
theorem pq_all (hlo : lo ≤ r) (hn : n ≤ 100000) : ∀ m, IH cf cmp r n lo m
  | 0 => fun a b A lim wb wp σ hm => by omega
  | m + 1 => by
    intro a b A lim wb wp σ hm hab hb hA hL hr
    have ih : IH cf cmp r n lo (b - a) := fun a' b' A' lim' wb' wp' σ' h => pq_all hlo hn m a' b' A' lim' wb' wp' σ' (by omega)
    rw [f145_L0_eq guardT rfl]
    by_cases h12 : b - a ≤ 12
    · have e1 := ins_ok hc hr hlo hn hb (show a ≤ n by omega) A hA
      simp only [V, N] at e1
      simp (disch := omega) only [V, N, I, subN, b_leq, leT, gG, plainFn_fn, List.append_nil]
      rw [e1]
      simp only [gG]
      by_cases he : a = b
      · subst he
        refine ⟨_, σ, rfl, ?_, fun i j h1 h2 h3 => by omega, [], (List.append_nil _).symm⟩
        rw [show a - (a + 1) = 0 by omega]
        exact RP.refl _ _ _
      · have h1 := insOut_ok H (a := a) (b := b) (b - (a + 1)) (a + 1) A (by omega) (by omega) (by omega) (fun p q g1 g2 g3 => by omega)
        exact ⟨_, σ, rfl, h1.1, h1.2, [], (List.append_nil _).symm⟩
    · by_cases h0 : lim = 0
      · have e1 := hs_ok hc hr hlo hn (show a < b by omega) hb A hA
        simp only [V, N] at e1
        simp (disch := omega) only [V, N, I, subN, b_leq, leF, b_eql, eqT, gG, plainFn_fn, List.append_nil]
        rw [e1]
        simp only [gG]
        have h1 := hpA_ok H (f := a) (n := b - a) ((b - a - 1) / 2) A (by omega) (by omega) (fun i c g1 g2 g3 => by omega)
        have h2 := hpB_ok H (f := a) (n := b - a) (b - a) _ (Nat.le_refl _) (by rw [h1.1.len]; omega) h1.2 (fun p q g1 g2 g3 => by omega) (fun p q g1 g2 g3 g4 => by omega)
        rw [show a + (b - a) = b by omega] at h1 h2
        exact ⟨_, σ, rfl, h1.1.trans h2.1, h2.2, [], (List.append_nil _).symm⟩
      · cases wb with
        | true =>
          simp (disch := omega) only [V, N, I, Bo, subN, b_leq, leF, b_eql, eqF h0, gG]
          exact pq_J0 hc H hlo hn ih (by omega) hb hA hL lim true wp hr _ _ _ _ _ _ _ _ _ _ _ _ _ _ _ _
        | false =>
          obtain ⟨B, k, g1, g2⟩ := bp_ok hr hlo hn (show a + 12 < b by omega) hb hA (.fn cf [])
          have hr1 : r < (σ ++ [Row.mix [.p (.int .u64 k)]]).length := by rw [List.length_append]; omega
          simp only [V, N, QU] at g2
          simp (disch := omega) only [V, N, I, Bo, subN, b_leq, leF, b_eql, eqF h0, gG, plainFn_fn, List.append_nil]
          rw [g2]
          simp only [gG, subI]
          exact Goal.mono (pq_J0 hc H hlo hn ih (by omega) hb (g1.len.trans hA) (hL.perm g1) _ false wp hr1 _ _ _ _ _ _ _ _ _ _ _ _ _ _ _ _) g1 ⟨_, rfl⟩
include hc H in
theorem sort_ok (hlo : lo ≤ r) {A : List E} (hn : A.length ≤ 100000) {σ : Store} (h : σ[r]? = some (.mix (cels A))) :
    ∃ B e, CC lo 124 [.rsl r 3 0 A.length, .fn cf []] σ = some (.tuple [], W (σ ++ e) r B) ∧ B.Perm A ∧ Sd (ltc cmp) 0 A.length B := by
  have hr := get_lt h
  obtain ⟨b, e1, h2, h3⟩ := bl_ok (n := A.length) (by omega)
  obtain ⟨B, σ1, g1, g2, g3, e, rfl⟩ := pq_all hc H hlo hn (A.length + 1) 0 A.length A b true true σ (by omega) (Nat.zero_le _) (Nat.le_refl _) rfl (fun h0 => by omega) hr
  rw [W_eq h] at g1
  refine ⟨B, e, F124_call ?_, g2.perm, g3⟩
  have c1 : CC lo 145 [V r A.length, N 0, N A.length, I b, .fn cf []] σ = some (.tuple [], W (σ ++ e) r B) := F145_call (by rw [F145_eq]; exact g1)
  have hl : len PP 23 (.rsl r 3 0 A.length) σ = some (N A.length) := by simp [len, uL]
  simp only [V, N, I, U] at c1 e1
  rw [F124_eq]
  simp (disch := omega) only [V, N, I, hl, gG, cv_iu, pureFn_fn, plainFn_fn, List.append_nil, e1]
  have c2 : CC lo 145 [.rsl r 3 0 A.length, .p (.int .i64 0), .p (.int .i64 (A.length : Nat)), .p (.int .i64 (b : Nat)), .fn cf []] σ = some (.tuple [], W (σ ++ e) r B) := c1
  rw [c2]
  simp only [gG]
end
end Go.D.StT
end
/- Chapter 22: steps sorted. -/
section
set_option linter.unusedVariables false
set_option linter.unusedSimpArgs false
namespace Go.D.StT
open Go.D.Srt
theorem ordE_lt (x y : Edg) : ordE x y < 0 ↔ x.f < y.f ∨ (x.f = y.f ∧ (x.t < y.t ∨ (x.t = y.t ∧ x.a < y.a))) := by
  have h1 : ∀ c1 c2 c3 : Int, orL [c1, c2, c3] < 0 ↔ c1 < 0 ∨ (c1 = 0 ∧ (c2 < 0 ∨ (c2 = 0 ∧ c3 < 0))) := fun c1 c2 c3 => by
    simp only [orL]
    repeat' split
    all_goals omega
  have h2 : ∀ u v : Int, cmpI u v < 0 ↔ u < v := fun u v => by unfold cmpI; split <;> (try split) <;> omega
  have h3 : ∀ u v : Int, cmpI u v = 0 ↔ u = v := fun u v => by unfold cmpI; split <;> (try split) <;> omega
  unfold ordE
  rw [h1, h2, h2, h2, h3, h3]
theorem ltc_iff (x y : Edg) : ltc ordE x y = true ↔ ordE x y < 0 := by unfold ltc; rw [decide_eq_true_iff]
theorem ltc_false (x y : Edg) : ltc ordE x y = false ↔ ¬ ordE x y < 0 := by rw [← ltc_iff]; cases ltc ordE x y <;> simp
theorem ordO : Ord (ltc ordE) where
  asym x y h := by
    rw [ltc_iff, ordE_lt] at h
    rw [ltc_false, ordE_lt]
    omega
  trans x y z h1 h2 := by
    rw [ltc_false, ordE_lt] at *
    omega
theorem ord_anti {x y : Edg} (h1 : ¬ ordE x y < 0) (h2 : ¬ ordE y x < 0) : x = y := by
  obtain ⟨a, b, c⟩ := x
  obtain ⟨a', b', c'⟩ := y
  rw [ordE_lt] at *
  simp only at *
  have e1 : a = a' := by omega
  have e2 : b = b' := by omega
  have e3 : c = c' := by omega
  rw [e1, e2, e3]
theorem ord_irr (x : Edg) : ¬ ordE x x < 0 := by rw [ordE_lt]; omega
theorem cels_eq (A : List Edg) : cels A = (eEdgs A).map DV.p := by
  induction A with
  | nil => rfl
  | cons a A ih =>
    have e1 : cels (a :: A) = cel a ++ cels A := rfl
    have e2 : eEdgs (a :: A) = eEdg a ++ eEdgs A := rfl
    rw [e1, e2, List.map_append, ih]; rfl
theorem ge_at {A : List Edg} {k : Nat} (hk : k < A.length) : ge A k = A[k] := by unfold ge; rw [List.getD_eq_getElem?_getD, List.getElem?_eq_getElem hk]; rfl
theorem sd_pair {B : List Edg} (h : Sd (ltc ordE) 0 B.length B) : B.Pairwise fun x y => ¬ ordE y x < 0 := by
  rw [List.pairwise_iff_getElem]
  intro i j hi hj hij
  have h1 := h i j (Nat.zero_le _) hij hj
  rw [ltc_false, ge_at hi, ge_at hj] at h1
  exact h1
theorem eqE' (a b c a' b' c' : Int) : binOp PP .eql 69 (.agg (edgD ⟨a, b, c⟩)) (.agg (edgD ⟨a', b', c'⟩)) = ((match some (a == a') with | some true => (match some (b == b') with | some true => (match some (c == c') with | some true => some true | r => r) | r => r) | r => r) : Option Bool).map fun b => .p (.bool b) := by kernel_rfl
theorem eqE_ne {x y : Edg} (h : x ≠ y) : binOp PP .eql 69 (.agg (edgD x)) (.agg (edgD y)) = some (.p (.bool false)) := by
  obtain ⟨a, b, c⟩ := x
  obtain ⟨a', b', c'⟩ := y
  rw [eqE']
  by_cases h1 : a = a'
  · by_cases h2 : b = b'
    · by_cases h3 : c = c'
      · subst h1; subst h2; subst h3; exact absurd rfl h
      · simp [h1, h2, h3]
    · simp [h1, h2]
  · simp [h1]
theorem idx23r {r n i : Nat} (h : i < n) : indexAddr PP 23 (.rsl r 3 0 n) (.p (.int .i64 (i : Nat))) = some (.ptr r (i * 3)) := idxL h
theorem len23r (r n : Nat) (σ : Store) : len PP 23 (.rsl r 3 0 n) σ = some (.p (.int .i64 (n : Nat))) := by simp [len, u23]
theorem len23_nil (σ : Store) : len PP 23 (.p .nilsl) σ = some (.p (.int .i64 0)) := by simp [len, u23]
section
variable {σ : Store} {r : Nat} {A : List Edg} (h : σ[r]? = some (.mix (cels A))) (hnd : ∀ i, i + 1 < A.length → ge A (i + 1) ≠ ge A i) (hn : A.length ≤ 100000)
include h hnd hn
theorem cmp_L0 : ∀ (d i : Nat), A.length - i = d → 1 ≤ i → f125_L0 guardT 0 (.rsl r 3 0 A.length) (N i) σ = some (.rsl r 3 0 A.length, σ)
  | 0, i, hd, hi => by
    rw [f125_L0_eq guardT rfl]
    simp (disch := omega) only [N, len23r, b_lss, ltF, gG]
  | d + 1, i, hd, hi => by
    have ih := cmp_L0 d (i + 1) (by omega) (by omega)
    have hle := hnd (i - 1) (by omega)
    rw [show i - 1 + 1 = i by omega] at hle
    have hr := get_lt h
    have hld : ∀ k, k < A.length → load PP 69 (.ptr r (k * 3)) σ = some (.agg (edgD (ge A k))) := fun k hk => by
      have := ldW (A := A) hr hk
      rwa [W_eq h] at this
    rw [← ih, f125_L0_eq guardT rfl]
    simp (disch := omega) only [N, len23r, b_lss, ltT, gG, idx23r, hld, sub1, eqE_ne hle, add1]
end
theorem S125 {σ : Store} {r : Nat} {A : List Edg} (h : σ[r]? = some (.mix (cels A))) (hnd : ∀ i, i + 1 < A.length → ge A (i + 1) ≠ ge A i) (hn : A.length ≤ 100000) : CC 0 125 [.rsl r 3 0 A.length] σ = some (.rsl r 3 0 A.length, σ) := by
  refine F125_call ?_
  rw [F125_eq]
  by_cases h1 : A.length < 2
  · simp (disch := omega) only [len23r, b_lss, ltT, gG]
  · simp (disch := omega) only [len23r, b_lss, ltF, gG]
    exact cmp_L0 h hnd hn _ 1 rfl (Nat.le_refl 1)
theorem S124n (σ : Store) : CC 0 124 [.p .nilsl, .fn 119 []] σ = some (.tuple [], σ) := by
  obtain ⟨b, e1, h2, h3⟩ := bl_ok (n := 0) (by omega)
  have c0 : CC 0 154 [.p .nilsl, .p (.int .i64 0), .p (.int .i64 ((0 : Nat) : Int)), .fn 119 []] σ = some (.tuple [], σ) := by
    refine F154_call ?_
    have a1 : binOp PP .add 3 (.p (.int .i64 0)) (.p (.int .i64 1)) = some (.p (.int .i64 ((1 : Nat) : Int))) := add1 (a := 0) (by omega)
    rw [F154_eq]
    simp only [a1, gG]
    rw [f154_L0_eq guardT rfl]
    simp (disch := omega) only [b_lss, ltF, gG]
  have c1 : CC 0 145 [.p .nilsl, .p (.int .i64 0), .p (.int .i64 ((0 : Nat) : Int)), I b, .fn 119 []] σ = some (.tuple [], σ) := by
    refine F145_call ?_
    have a2 : binOp PP .sub 3 (.p (.int .i64 ((0 : Nat) : Int))) (.p (.int .i64 0)) = some (.p (.int .i64 ((0 - 0 : Nat) : Int))) := subN (a := 0) (b := 0) (Nat.le_refl 0) (by omega)
    rw [F145_eq, f145_L0_eq guardT rfl]
    simp (disch := omega) only [a2, b_leq, leT, gG, plainFn_fn, List.append_nil, c0]
  have hl : len PP 23 (.p .nilsl) σ = some (.p (.int .i64 ((0 : Nat) : Int))) := by simp [len, u23]
  refine F124_call ?_
  simp only [I, U] at c1 e1
  rw [F124_eq]
  simp (disch := omega) only [hl, gG, cv_iu, pureFn_fn, plainFn_fn, List.append_nil, e1, c1]
open Go.D.StS (RowG KeepBut rowR) in
theorem S115 {σ : Store} {B : Nat} {es : List Edg} {x : DV} (hx : RowG σ B 3 es.length (eEdgs es) x) (hnd : es.Nodup) (hn : es.length ≤ 100000) :
    ∃ E' σ', CC 0 115 [x] σ = some (x, σ') ∧ E'.Perm es ∧ E'.Pairwise (fun a b => ordE a b < 0) ∧ KeepBut x σ σ' ∧ RowG σ' B 3 E'.length (eEdgs E') x ∧ σ.length ≤ σ'.length := by
  rcases hx.2 with ⟨e, rfl⟩ | ⟨h0, r, rfl, e2, e3⟩
  · have : es = [] := List.length_eq_zero_iff.1 e
    subst this
    refine ⟨[], σ, F115_call ?_, List.Perm.refl _, List.Pairwise.nil, fun j row _ h => h, hx, Nat.le_refl _⟩
    have h125 : CC 0 125 [.p .nilsl] σ = some (.p .nilsl, σ) := by
      refine F125_call ?_
      rw [F125_eq]
      simp (disch := omega) only [len23_nil, b_lss, ltT, gG]
    rw [F115_eq]
    simp only [plainFn_fn, List.append_nil, List.cons_append, List.nil_append, S124n, h125, gG]
  · rw [← cels_eq] at e2
    obtain ⟨E', e, s1, s2, s3⟩ := sort_ok (lo := 0) (cf := 119) (cmp := ordE) S119 ordO (Nat.zero_le _) hn e2
    have hl : E'.length = es.length := s2.length_eq
    have hr := get_lt e2
    have gr : (W (σ ++ e) r E')[r]? = some (.mix (cels E')) := W_get (by rw [List.length_append]; omega) E'
    have hnd' : E'.Nodup := s2.nodup_iff.2 hnd
    have hle := sd_pair (B := E') (by rw [hl]; exact s3)
    have hp : E'.Pairwise (fun a b => ordE a b < 0) := by
      rw [List.nodup_iff_pairwise_ne] at hnd'
      exact hle.imp₂ (fun x y h1 h2 => by
        by_cases hlt : ordE x y < 0
        · exact hlt
        · exact absurd (ord_anti hlt h1) h2) hnd'
    have h125 := S125 gr (fun i hi => by
      rw [ge_at hi, ge_at (by omega)]
      intro e
      have := List.pairwise_iff_getElem.1 hp i (i + 1) (by omega) hi (by omega)
      rw [e] at this
      exact ord_irr _ this) (by omega)
    rw [hl] at h125
    refine ⟨E', W (σ ++ e) r E', F115_call ?_, s2, hp, ?_, ⟨by rw [edgs_length], .inr ⟨by omega, r, by rw [hl], by rw [← cels_eq]; exact gr, e3⟩⟩, by rw [W_len, List.length_append]; omega⟩
    · rw [F115_eq]
      simp only [plainFn_fn, List.append_nil, List.cons_append, List.nil_append, s1, h125, gG]
    · intro j row hj g
      have hne : j ≠ r := hj r rfl
      exact get_set_ne (by rw [List.getElem?_append_left (get_lt g)]; exact g) hne
end Go.D.StT
end
/- Chapter 22: graph as a whole. -/
section
set_option linter.unusedVariables false
set_option linter.unusedSimpArgs false
namespace Go.D.StS
open Go.D.Srt
theorem load95 (x : DV) (σ : Store) : load PP 95 x σ = (loadN σ 6 x).map .agg := Eq.trans (by kernel_rfl) rfl
theorem s95 : size? PP 95 = some 6 := Eq.trans (by kernel_rfl) rfl
theorem zero95' : zeroOf PP 95 = some [.p (pI 0), .p .nilsl, .p .nilsl, .p .nilsl, .p .nilsl, .p .nilmap] := Eq.trans (by kernel_rfl) rfl
theorem zero95 : ∃ z, zeroOf PP 95 = some z ∧ z.length = 6 := ⟨_, zero95', rfl⟩
theorem zero134 : zeroOf PP 134 = some [.p .nilsl] := Eq.trans (by kernel_rfl) rfl
theorem bld95 (n : Nat) : build PP 95 [(1, .map n)] = some (.agg [.p (pI 0), .p .nilsl, .p .nilsl, .p .nilsl, .p .nilsl, .map n]) := Eq.trans (by kernel_rfl) rfl
theorem st95 {σ : Store} {t : Nat} {z c : List DV} (h : σ[t]? = some (.mix z)) (hz : z.length = 6) (hc : c.length = 6) (ho : c.all DV.one = true) : store PP 0 95 (.ptr t 0) (.agg c) σ = some (σ.set t (.mix c)) := by
  have e : splice z 0 c = c := by simp [splice, hz, hc]
  simp [store, s95, DV.cells, storeN, hc, h, hz, ho, e]
theorem cellV_ptr (P : Program) (t : TypeId) (r off : Nat) (σ : Store) : cellV P t (.ptr r off) σ = load P t (.ptr r off) σ := rfl
theorem GZ.keepE {σ0 : Store} {ext : List DV} {m : List (E × Int)} {B : List E} {n : DV} {is : List Int} {ix ex : DV} {es E' : List Edg} {bx ax y : DV} {σ σ' : Store} (h : GZ σ0 ext m B n is ix es ex bx ax y σ)
    (hk : KeepBut ex σ σ') (hr : RowG σ' (σ0.length + 5) 3 E'.length (eEdgs E') ex) : GZ σ0 ext m B n is ix E' ex bx ax y σ' :=
  ⟨h.gy.keep h.re hk h.ey, h.gm, Out.keep h.ob h.re hk, Out.keep h.oa h.re hk, h.ap, h.ri.keep hk (fun r hr he => h.ie r he hr), hr, h.iy, h.ey, h.ie⟩
theorem rowG_one {σ : Store} {B sz n : Nat} {cs : List PV} {x : DV} (h : RowG σ B sz n cs x) : x.one = true ∧ x.cells = [x] := by
  rcases h.2 with ⟨_, rfl⟩ | ⟨_, q, rfl, _⟩ <;> exact ⟨rfl, rfl⟩
theorem len23g {σ σ' : Store} {B : Nat} {es : List Edg} {x : DV} (h : RowG σ B 3 es.length (eEdgs es) x) : len PP 23 x σ' = some (.p (.int .i64 (es.length : Nat))) := by
  rcases h.2 with ⟨e, rfl⟩ | ⟨_, q, rfl, _⟩
  · rw [e]; simp [len, u23]
  · simp [len, u23]
theorem set_id {σ : Store} {t : Nat} {row : Row} (h : σ[t]? = some row) : σ.set t row = σ := by
  apply List.ext_getElem?
  intro i
  by_cases hi : i = t
  · subst hi; rw [List.getElem?_set_self (get_lt h), h]
  · rw [List.getElem?_set_ne (by omega)]
structure GR (lo : Nat) (B : List E) (is : List Int) (E' : List Edg) (ix ex bx ax : DV) (σ : Store) : Prop where
  ob : Out σ lo 1 B.length (eInts (B.map Prod.fst)) bx
  oa : Out σ lo 1 B.length (eInts (B.map Prod.snd)) ax
  ri : RowG σ lo 1 is.length (eInts is) ix
  re : RowG σ lo 3 E'.length (eEdgs E') ex
theorem gr_end {σ0 : Store} {ext : List DV} {m : List (E × Int)} {B : List E} {is : List Int} {ix ex : DV} {es : List Edg} {bx ax y : DV} {σ : Store} (h : GZ σ0 ext m B (.p (pI B.length)) is ix es ex bx ax y σ) (hnd : es.Nodup) (hB : B.length ≤ 400) (he : es.length ≤ 2000) :
    ∃ E' σ', f85_L5 guardT 0 (.ptr σ0.length 0) (.ptr (σ0.length + 1) 0) (.ptr (σ0.length + 3) 0) (.ptr (σ0.length + 4) 0) y (N B.length) (N B.length) σ = some (.tuple [.agg [.p (pI B.length), ix, ex, bx, ax, .map (σ0.length + 2)], .p (pI 0)], σ') ∧
      E'.Perm es ∧ E'.Pairwise (fun a b => ordE a b < 0) ∧ GR (σ0.length + 5) B is E' ix ex bx ax σ' ∧ (∀ j, j < σ0.length → σ'[j]? = σ0[j]?) ∧ σ'[σ0.length + 2]? = some (.map (entZ m)) ∧ (∀ j, j < B.length → findZ m (ge B j) = some (j : Int)) ∧ σ0.length + 5 ≤ σ'.length := by
  obtain ⟨E', σ1, p1, p2, p3, p4, p5, p6⟩ := StT.S115 h.re hnd (by omega)
  have h1 := h.keepE p4 p5
  have hot := h.gy.g.ot
  have hot1 := h1.gy.g.ot
  simp only [shift_ptr, shift_pptr, Nat.zero_add, Nat.add_zero, pureFn_fn, List.append_nil, List.singleton_append, List.cons_append, List.nil_append] at hot hot1
  have hst := st23_2 (v := ex) hot1 (rowG_one p5).1 (rowG_one p5).2
  rw [set_id hot1] at hst
  obtain ⟨z, z1, z2⟩ := h1.gy.g.z2
  have hl1 := h1.gy.g.len
  have hone : ([.p (pI B.length), ix, ex, bx, ax, .map (σ0.length + 2)] : List DV).all DV.one = true := by
    simp [(rowG_one p5).1, (rowG_one h1.ri).1, (out_one' h1.ob).1, (out_one' h1.oa).1]
    exact ⟨rfl, rfl⟩
  have hst2 := st95 (c := [.p (pI B.length), ix, ex, bx, ax, .map (σ0.length + 2)]) z1 z2 rfl hone
  have hld : load PP 95 (.ptr (σ0.length + 3) 0) σ1 = some (.agg [.p (pI B.length), ix, ex, bx, ax, .map (σ0.length + 2)]) := by
    rw [load95, loadN_ptr (vs := [.p (pI B.length), ix, ex, bx, ax, .map (σ0.length + 2)]) hot1 rfl (by simp)]; rfl
  have hcv : cellV PP 95 (.ptr (σ0.length + 1) 0) (σ1.set (σ0.length + 1) (.mix [.p (pI B.length), ix, ex, bx, ax, .map (σ0.length + 2)])) = some (.agg [.p (pI B.length), ix, ex, bx, ax, .map (σ0.length + 2)]) := by
    have hg : (σ1.set (σ0.length + 1) (.mix [.p (pI B.length), ix, ex, bx, ax, .map (σ0.length + 2)]))[σ0.length + 1]? = some (.mix [.p (pI B.length), ix, ex, bx, ax, .map (σ0.length + 2)]) := by rw [List.getElem?_set_self (by omega)]
    rw [cellV_ptr, load95, loadN_ptr (vs := [.p (pI B.length), ix, ex, bx, ax, .map (σ0.length + 2)]) hg rfl (by simp)]; rfl
  refine ⟨E', σ1.set (σ0.length + 1) (.mix [.p (pI B.length), ix, ex, bx, ax, .map (σ0.length + 2)]), ?_, p2, p3, ⟨Out.setLow h1.ob (by omega) _, Out.setLow h1.oa (by omega) _, h1.ri.setNe (by omega), h1.re.setNe (by omega)⟩, fun j hj => ?_, get_set_ne h1.gy.g.mp (by omega), h1.gm, by rw [List.length_set]; omega⟩
  · have hE : E'.length ≤ 2000 := by rw [p2.length_eq]; exact he
    rw [f85_L5_eq guardT rfl]
    simp (disch := omega) only [N, b_lss, ltF, gG, fa95_0, fa33_0, fa25_2, shift_ptr, shift_pptr, Nat.zero_add, Nat.add_zero, pureFn_fn, List.append_nil, List.singleton_append, List.cons_append, List.nil_append, load23, load1_ptr (off := 2) hot rfl, plainFn_fn, p1, hst, load134, load1_ptr (off := 0) h1.gy.ay rfl, lenR h1.gy.ry, b_gtr, gtF, load1_ptr (off := 2) hot1 rfl, len23g p5, hld, hst2, hcv]
  · rw [List.getElem?_set_ne (by omega)]
    exact h1.gy.g.low j hj
theorem gr_main {σ0 : Store} {mv : FuncId} {caps : List DV} {y0 : DV} {l : List E} (hy0 : y0.one = true) (hyl : ∀ σ, len PP 134 y0 σ = some (N l.length)) (hx : ∀ k, k < l.length → indexAddr PP 134 y0 (.p (.int .i64 (k : Nat))) = some (.pptr (celsP l) (k * 2)))
    (M : E → OE) (Pn : E → Prop) (K : Nat) (hK : K ≤ 400) (hM : ∀ x, Pn x → ∀ σ : Store, (∀ j, j < σ0.length → σ[j]? = σ0[j]?) → pureV CC mv (val x :: caps) σ = some (.p (eEs (M x)))) (hl : ∀ x, Pn x → (L (M x)).length ≤ 200)
    (I : List E → Prop) (hP : ∀ A, I A → ∀ x ∈ A, Pn x) (hN : ∀ A, I A → A.length ≤ K ∧ A.Nodup) (hI : ∀ A x, I A → x ∈ A → I (addAll A ((L (M x)).map toE))) (hI0 : I (addAll [] l)) (hl12 : l.length ≤ 12) (hasc : Asc l)
    (hcl : ∀ x ∈ groM M K 0 (addAll [] l), ∀ e ∈ L (M x), toE e ∈ groM M K 0 (addAll [] l)) (hsub : ∀ x ∈ l, x ∈ groM M K 0 (addAll [] l))
    (hes : ∀ B : List E, B.Perm (groM M K 0 (addAll [] l)) → Asc B → (rawE M B 0 B).Nodup ∧ (rawE M B 0 B).length ≤ 2000) :
    ∃ B E' ix ex bx ax σ' m, CC 0 85 [.agg [y0, .fn mv caps]] σ0 = some (.tuple [.agg [.p (pI B.length), ix, ex, bx, ax, .map (σ0.length + 2)], .p (pI 0)], σ') ∧
      B.Perm (groM M K 0 (addAll [] l)) ∧ Asc B ∧ E'.Perm (rawE M B 0 B) ∧ E'.Pairwise (fun a b => ordE a b < 0) ∧ GR (σ0.length + 5) B (nums B l) E' ix ex bx ax σ' ∧ (∀ j, j < σ0.length → σ'[j]? = σ0[j]?) ∧
      σ'[σ0.length + 2]? = some (.map (entZ m)) ∧ (∀ j, j < B.length → findZ m (ge B j) = some (j : Int)) ∧ σ0.length + 5 ≤ σ'.length := by
  obtain ⟨z2, hz2, hz2l⟩ := zero95
  -- the store at the beginning
  have g0 : GS σ0 [y0, .fn mv caps] (zer []) [] [.p (pI 0), .p .nilsl, .p .nilsl, .p .nilsl, .p .nilsl]
      (σ0 ++ [Row.mix [y0, .fn mv caps], .mix z2, .map [], .mix [.p (pI 0), .p .nilsl, .p .nilsl, .p .nilsl, .p .nilsl, .map (σ0.length + 2)], .mix [.p .nilsl]]) := by
    refine ⟨fun j hj => by rw [List.getElem?_append_left hj], ?_, ⟨z2, ?_, hz2l⟩, ?_, ?_, rfl, .p .nilsl, ?_, .inl ⟨rfl, rfl⟩⟩ <;>
      (rw [List.getElem?_append_right (by omega)]; simp)
    · rfl
  have hNi := hN _ hI0
  obtain ⟨σ1, a1, a2⟩ := gr_L0 (x24 := y0) hx (by omega) _ 0 [] _ rfl (Nat.zero_le _) g0 (by rw [List.drop_zero]; have := hNi.1; omega)
  rw [List.drop_zero] at a2
  obtain ⟨σ2, b1, b2, b3⟩ := gr_L1 ⟨y0, rfl⟩ M Pn K hM (fun x hx => Nat.le_trans (hl x hx) (by decide)) (by omega) I hP (fun A hA => (hN A hA).1) hI K 0 _ σ1 rfl (Nat.zero_le _) a2 hI0
  generalize hG : groM M K 0 (addAll [] l) = G at *
  have hGn := hN _ b2
  obtain ⟨B, σ3, y, c1, c2, c3, c4, c5, c6⟩ := gr_sort b1 (by omega)
  have hBl : B.length = G.length := c1.length_eq
  have hBnd : B.Nodup := c1.nodup_iff.2 hGn.2
  have hB : Asc B := by
    have := hBnd
    rw [List.nodup_iff_pairwise_ne] at this
    exact c2.imp₂ (fun x y h1 h2 => by
      by_cases hlt : ltB x y
      · exact hlt
      · exact absurd (ltB_anti hlt h1) h2) this
  have hmem : ∀ x, x ∈ B ↔ x ∈ G := fun x => c1.mem_iff
  obtain ⟨m, bx, ax, σ4, d1, d2, d3, d4, d5, d6⟩ := gr_L3 hBnd (by omega) _ 0 (zer G) (.p .nilsl) (.p .nilsl) σ3 rfl (Nat.zero_le _) ⟨c3, c4, c5⟩ Out.zero Out.zero (Apart.nil _) (fun j hj => by omega)
  have hz : GZ σ0 [y0, .fn mv caps] m B (.p (pI B.length)) (nums B (l.take 0)) (.p .nilsl) [] (.p .nilsl) bx ax y σ4 :=
    ⟨d2, d6, d3, d4, d5, RowG.zero, RowG.zero, fun r h => by simp [rowR] at h, fun r h => by simp [rowR] at h, fun r h => by simp [rowR] at h⟩
  have hnl : (nums B l).length = l.length := by simp [nums]
  obtain ⟨ix, σ5, e1, e2⟩ := gr_L4 hx (fun e he => (hmem e).2 (hsub e he)) hl12 (fun i hi => by
    rw [hnl] at hi
    have hlt := asc_lt hasc (show i < i + 1 by omega) hi
    have k1 := idx_mem ((hmem _).2 (hsub (ge l i) (by rw [ge_at (by omega)]; exact List.getElem_mem _)))
    have k2 := idx_mem ((hmem _).2 (hsub (ge l (i + 1)) (by rw [ge_at hi]; exact List.getElem_mem _)))
    have q : ∀ j, j < l.length → (nums B l).getD j 0 = ((B.idxOf (ge l j) : Nat) : Int) := fun j hj => by
      rw [List.getD_eq_getElem?_getD, List.getElem?_eq_getElem (by rw [hnl]; exact hj), ge_at hj]; simp [nums]
    rw [q i (by omega), q (i + 1) hi]
    by_cases hle : B.idxOf (ge l (i + 1)) ≤ B.idxOf (ge l i)
    · exfalso
      rcases Nat.lt_or_eq_of_le hle with hlt2 | heq
      · have := asc_lt hB hlt2 k1.1
        rw [k1.2, k2.2] at this
        unfold ltB at *; omega
      · have := k1.2
        rw [← heq, k2.2] at this
        rw [this] at hlt
        unfold ltB at hlt; omega
    · omega) _ 0 _ σ4 rfl (Nat.zero_le _) hz
  obtain ⟨ex, σ6, f1, f2⟩ := gr_L5 M (by omega) (fun x hx => hM x (hP _ b2 x ((hmem x).1 hx))) (fun x hx => hl x (hP _ b2 x ((hmem x).1 hx))) (fun x hx e he => (hmem _).2 (hcl x ((hmem x).1 hx) e he)) _ 0 [] (.p .nilsl) σ5 rfl (Nat.zero_le _) (Nat.zero_le _) e2
  rw [List.drop_zero, List.nil_append] at f2
  obtain ⟨hn1, hn2⟩ := hes B c1 hB
  obtain ⟨E', σ', g1, g2, g3, g4, g5, g6, g7, g8⟩ := gr_end f2 hn1 (by omega) hn2
  refine ⟨B, E', ix, ex, bx, ax, σ', m, F85_call ?_, c1, hB, g2, g3, g4, g5, g6, g7, g8⟩
  have hbox : boxV (.agg [y0, .fn mv caps]) = some [y0, .fn mv caps] := by
    have : (DV.fn mv caps).one = true := rfl
    have e : (DV.agg [y0, .fn mv caps]).cells = [y0, .fn mv caps] := rfl
    simp [boxV, e, hy0, this]
  have hst : store PP 0 95 (.ptr (((σ0 ++ [Row.mix [y0, .fn mv caps]]) ++ [Row.mix z2]) ++ [Row.map []]).length 0) (.agg [.p (pI 0), .p .nilsl, .p .nilsl, .p .nilsl, .p .nilsl, .map (σ0.length + 2)]) ((((σ0 ++ [Row.mix [y0, .fn mv caps]]) ++ [Row.mix z2]) ++ [Row.map []]) ++ [Row.mix z2]) =
      some ((((σ0 ++ [Row.mix [y0, .fn mv caps]]) ++ [Row.mix z2]) ++ [Row.map []]) ++ [.mix [.p (pI 0), .p .nilsl, .p .nilsl, .p .nilsl, .p .nilsl, .map (σ0.length + 2)]]) := by
    rw [st95 get_snoc hz2l rfl (by rfl), List.set_append_right _ _ (Nat.le_refl _), Nat.sub_self]
    rfl
  have hl2 : ((σ0 ++ [Row.mix [y0, .fn mv caps]]) ++ [Row.mix z2]).length = σ0.length + 2 := by simp
  rw [F85_eq]
  simp only [hbox, hz2, gG, hl2, bld95]
  rw [hst]
  have hsσ : (((((σ0 ++ [Row.mix [y0, .fn mv caps]]) ++ [Row.mix z2]) ++ [Row.map []]) ++ [.mix [.p (pI 0), .p .nilsl, .p .nilsl, .p .nilsl, .p .nilsl, .map (σ0.length + 2)]]) ++ [Row.mix [.p .nilsl]]) =
    (σ0 ++ [Row.mix [y0, .fn mv caps], .mix z2, .map [], .mix [.p (pI 0), .p .nilsl, .p .nilsl, .p .nilsl, .p .nilsl, .map (σ0.length + 2)], .mix [.p .nilsl]]) := by simp
  have hl3 : (((σ0 ++ [Row.mix [y0, .fn mv caps]]) ++ [Row.mix z2]) ++ [Row.map []]).length = σ0.length + 3 := by simp
  have hl4 : ((((σ0 ++ [Row.mix [y0, .fn mv caps]]) ++ [Row.mix z2]) ++ [Row.map []]) ++ [Row.mix [.p (pI 0), .p .nilsl, .p .nilsl, .p .nilsl, .p .nilsl, .map (σ0.length + 2)]]).length = σ0.length + 4 := by simp
  have hl1 : (σ0 ++ [Row.mix [y0, .fn mv caps]]).length = σ0.length + 1 := by simp
  simp only [gG, zero134, hl3, hl4, hl1, hsσ, fa137_0, shift_ptr, shift_pptr, Nat.zero_add, Nat.add_zero, pureFn_fn, List.append_nil, List.singleton_append, List.cons_append, List.nil_append, load134, load1_ptr (off := 0) g0.ex rfl, hyl]
  have hd := d1
  rw [hyl] at hd
  refine a1.trans (b3.trans (c6.trans (d1.trans ?_)))
  rw [hyl]
  exact e1.trans (f1.trans g1)
end Go.D.StS
end
/- Chapter 22: errors of paths, ticks, and hidden paths. -/
section
set_option linter.unusedVariables false
set_option linter.unusedSimpArgs false
namespace Go.D
theorem gr_all {σ : Store} {g : Gr} (h : σ[0]? = some (.mix (eGr g))) : load PP 25 (.ptr 0 0) σ = some (.agg (eGr g)) := by rw [load25, loadN_ptr (vs := eGr g) h rfl (by simp [eGr])]; rfl
section
variable {g : Gr} {o : OI} {σ : Store} (h0 : σ[0]? = some (.mix (eGr g))) (hl : (L o).length ≤ 1000) (hi : (L g.init).length ≤ 1000) (he : (L g.edges).length ≤ 10000)
include h0 hl hi he
end
end Go.D
end
/- Chapter 22: ticks and hidden paths, in the program and in the reference. -/
section
set_option linter.unusedVariables false
set_option linter.unusedSimpArgs false
namespace Go.D
def InB (x : Ax) (p : List Int) : Prop := ∀ i, i < p.length → 0 ≤ p.getD i 0 ∧ (p.getD i 0).toNat < (L x.b).length
theorem idxi {o : OI} {n : Int} (h0 : 0 ≤ n) (h : n.toNat < (L o).length) : indexAddr PP 22 (.p (eSl o)) (.p (.int .i64 n)) = some (.pptr (eInts (L o)) n.toNat) := by
  have e : n = ((n.toNat : Nat) : Int) := by omega
  rw [e]
  exact idxL (by simpa using h)
section
variable {x : Ax} {o : OI} (hs : XSm x) (hp : (L o).length ≤ 1000) (hin : InB x (L o))
include hs hp hin
end
def oI (l : List Int) : OI := if l = [] then none else some l
theorem L_oI (l : List Int) : L (oI l) = l := by
  unfold oI
  split
  · rename_i h; rw [h]; rfl
  · rfl
end Go.D
end
/- Equations of functions 5, 9, printed by gen.py. -/
section
set_option linter.unusedVariables false
set_option maxRecDepth 10000
namespace Go.D
open Go.Proofs
noncomputable section
variable (G : GuardT) (lo : Nat) {σ : Store} {r : DV × Store}
open _root_.Go.D.Code (fstC sndC)
open _root_.Go.D.Ann (left right)
def c9_0 : Code := bodyOf Tryz.f9
def a9_0 : Ann := (pol 9).ann
def F9 (σ : Store) : RS :=
 codeF G PP (pol 9) CC lo c9_0 a9_0 (zn 118 []) σ (finR PP Tryz.f9.results.toList)
theorem F9_eq (G : GuardT) (lo : Nat) (σ : Store) : F9 G lo σ =
 (pureFn CC (DV.fn 46 []) [] σ).bind fun x16 =>
 (pureFn CC (DV.fn 47 []) [] σ).bind fun x17 =>
 (pureFn CC (DV.fn 12 []) [x16, x17] σ).bind fun x18 =>
 (extractV x18 0).bind fun x19 =>
 (extractV x18 1).bind fun x20 =>
 (zeroOf PP 33).bind fun z1 =>
 (store PP lo 33 (DV.ptr (List.length σ) 0) x19 (σ ++ [Row.mix z1])).bind fun σ1 =>
 (pureFn CC (DV.fn 46 []) [] σ1).bind fun x22 =>
 (pureFn CC (DV.fn 47 []) [] σ1).bind fun x23 =>
 (buildSlice PP none 22 4 [(0, I0), (1, I1), (2, I0), (3, I1)] σ1).bind fun r24_2 =>
 (pureFn CC (DV.fn 15 []) [x22, x23, r24_2.1] r24_2.2).bind fun x25 =>
 (extractV x25 0).bind fun x26 =>
 (extractV x25 1).bind fun x27 =>
 (plainFn CC lo (DV.fn 48 []) [] r24_2.2).bind fun r28_3 =>
 (zeroOf PP 74).bind fun z5 =>
 (store PP lo 74 (DV.ptr (List.length r28_3.2) 0) r28_3.1 (r28_3.2 ++ [Row.mix z5])).bind fun σ4 =>
 (fieldAddr PP 74 (DV.ptr (List.length r28_3.2) 0) 1).bind fun x29 =>
 (load PP 72 x29 σ4).bind fun x30 =>
 (fieldAddr PP 74 (DV.ptr (List.length r28_3.2) 0) 1).bind fun x31 =>
 (load PP 72 x31 σ4).bind fun x32 =>
 (indexAddr PP 72 x32 I0).bind fun x33 =>
 (load PP 26 x33 σ4).bind fun x34 =>
 (sliceOp PP 26 x34 none (some I1) none).bind fun x35 =>
 (indexAddr PP 72 x30 I0).bind fun x36 =>
 (store PP lo 26 x36 x35 σ4).bind fun σ5 =>
 (pureFn CC (DV.fn 46 []) [] σ5).bind fun x38 =>
 (load PP 74 (DV.ptr (List.length r28_3.2) 0) σ5).bind fun x39 =>
 (pureFn CC (DV.fn 39 []) [x38, x39] σ5).bind fun x40 =>
 (extractV x40 0).bind fun x41 =>
 (extractV x40 1).bind fun x42 =>
 (extractV x40 2).bind fun x43 =>
 (pureFn CC (DV.fn 46 []) [] σ5).bind fun x45 =>
 (pureFn CC (DV.fn 49 []) [] σ5).bind fun x46 =>
 (buildSlice PP none 22 2 [(0, I0), (1, I1)] σ5).bind fun r47_6 =>
 (pureFn CC (DV.fn 27 []) [x45, x46, r47_6.1] r47_6.2).bind fun x48 =>
 (extractV x48 0).bind fun x49 =>
 (extractV x48 1).bind fun x50 =>
 (pureFn CC (DV.fn 46 []) [] r47_6.2).bind fun x52 =>
 (pureFn CC (DV.fn 49 []) [] r47_6.2).bind fun x53 =>
 (pureFn CC (DV.fn 25 []) [x52, x53] r47_6.2).bind fun x54 =>
 (extractV x54 0).bind fun x55 =>
 (extractV x54 1).bind fun x56 =>
 (zeroOf PP 33).bind fun z11 =>
 (store PP lo 33 (DV.ptr (List.length r47_6.2) 0) x55 (r47_6.2 ++ [Row.mix z11])).bind fun σ7 =>
 (binOp PP .neq 34 x20 I0).bind fun x58 =>
 G _ x58 false (some (x27, σ7)) σ7 fun x60 σ8 =>
 G _ x58 false ((binOp PP .neq 34 x60 I0).bind fun v => some (v, σ8)) σ8 fun x61 σ9 =>
 (pickV x58 (DV.p (PV.bool true)) x61).bind fun x62 =>
 G _ x62 false (some (x43, σ9)) σ9 fun x64 σ10 =>
 G _ x62 false ((binOp PP .neq 34 x64 (DV.p (PV.int IntKind.i64 (31)))).bind fun v => some (v, σ10)) σ10 fun x65 σ11 =>
 (pickV x62 (DV.p (PV.bool true)) x65).bind fun x66 =>
 G _ x66 false (some (x50, σ11)) σ11 fun x68 σ12 =>
 G _ x66 false ((binOp PP .neq 34 x68 I0).bind fun v => some (v, σ12)) σ12 fun x69 σ13 =>
 (pickV x66 (DV.p (PV.bool true)) x69).bind fun x70 =>
 G _ x70 false (some (x56, σ13)) σ13 fun x72 σ14 =>
 G _ x70 false ((binOp PP .neq 34 x72 I0).bind fun v => some (v, σ14)) σ14 fun x73 σ15 =>
 (pickV x70 (DV.p (PV.bool true)) x73).bind fun x74 =>
 condK x74
 (
 some ((DV.p (PV.bool false)), σ15)
 )
 (
 (load PP 33 (DV.ptr (List.length r47_6.2) 0) σ15).bind fun x76 =>
 (buildSlice PP none 22 3 [(0, I0), (1, (DV.p (PV.int IntKind.i64 (2)))), (2, I1)] σ15).bind fun r77_16 =>
 (pureFn CC (DV.fn 31 []) [x76, r77_16.1] r77_16.2).bind fun x78 =>
 (extractV x78 0).bind fun x79 =>
 (extractV x78 1).bind fun x80 =>
 (fieldAddr PP 33 (DV.ptr (List.length σ) 0) 1).bind fun x81 =>
 (load PP 22 x81 r77_16.2).bind fun x82 =>
 (buildSlice PP none 22 5 [(0, I0), (1, I0), (2, I0), (3, I1), (4, I1)] r77_16.2).bind fun r83_17 =>
 (pureFn CC (DV.fn 34 []) [x82, r83_17.1] r83_17.2).bind fun x84 =>
 G _ x84 true ((fieldAddr PP 33 (DV.ptr (List.length σ) 0) 2).bind fun v => some (v, r83_17.2)) r83_17.2 fun x86 σ18 =>
 G _ x84 true ((load PP 22 x86 σ18).bind fun v => some (v, σ18)) σ18 fun x87 σ19 =>
 G _ x84 true ((buildSlice PP none 22 5 [(0, I0), (1, I1), (2, (DV.p (PV.int IntKind.i64 (2)))), (3, I1), (4, (DV.p (PV.int IntKind.i64 (2))))] σ19).bind fun r => some (r.1, r.2)) σ19 fun x88 σ20 =>
 G _ x84 true ((pureFn CC (DV.fn 34 []) [x87, x88] σ20).bind fun v => some (v, σ20)) σ20 fun x89 σ21 =>
 (pickV x84 x89 (DV.p (PV.bool false))).bind fun x90 =>
 G _ x90 true (some (x26, σ21)) σ21 fun x92 σ22 =>
 G _ x90 true ((buildSlice PP none 22 4 [(0, I0), (1, (DV.p (PV.int IntKind.i64 (3)))), (2, I1), (3, (DV.p (PV.int IntKind.i64 (4))))] σ22).bind fun r => some (r.1, r.2)) σ22 fun x93 σ23 =>
 G _ x90 true ((pureFn CC (DV.fn 34 []) [x92, x93] σ23).bind fun v => some (v, σ23)) σ23 fun x94 σ24 =>
 (pickV x90 x94 (DV.p (PV.bool false))).bind fun x95 =>
 G _ x95 true (some (x41, σ24)) σ24 fun x97 σ25 =>
 G _ x95 true ((binOp PP .eql 3 x97 I0).bind fun v => some (v, σ25)) σ25 fun x98 σ26 =>
 (pickV x95 x98 (DV.p (PV.bool false))).bind fun x99 =>
 G _ x99 true (some (x42, σ26)) σ26 fun x101 σ27 =>
 G _ x99 true ((binOp PP .eql 3 x101 I1).bind fun v => some (v, σ27)) σ27 fun x102 σ28 =>
 (pickV x99 x102 (DV.p (PV.bool false))).bind fun x103 =>
 G _ x103 true (some (x49, σ28)) σ28 fun x105 σ29 =>
 G _ x103 true ((buildSlice PP none 22 4 [(0, I0), (1, (DV.p (PV.int IntKind.i64 (2)))), (2, I1), (3, (DV.p (PV.int IntKind.i64 (3))))] σ29).bind fun r => some (r.1, r.2)) σ29 fun x106 σ30 =>
 G _ x103 true ((pureFn CC (DV.fn 34 []) [x105, x106] σ30).bind fun v => some (v, σ30)) σ30 fun x107 σ31 =>
 (pickV x103 x107 (DV.p (PV.bool false))).bind fun x108 =>
 G _ x108 true (some (x80, σ31)) σ31 fun x110 σ32 =>
 G _ x108 true ((binOp PP .eql 34 x110 I0).bind fun v => some (v, σ32)) σ32 fun x111 σ33 =>
 (pickV x108 x111 (DV.p (PV.bool false))).bind fun x112 =>
 G _ x112 true (some (x79, σ33)) σ33 fun x114 σ34 =>
 G _ x112 true ((buildSlice PP none 22 1 [(0, I0)] σ34).bind fun r => some (r.1, r.2)) σ34 fun x115 σ35 =>
 G _ x112 true ((pureFn CC (DV.fn 34 []) [x114, x115] σ35).bind fun v => some (v, σ35)) σ35 fun x116 σ36 =>
 (pickV x112 x116 (DV.p (PV.bool false))).bind fun x117 =>
 some (x117, σ36)
 ) := by kernel_rfl
theorem F9_call {lo : Nat} (h : F9 guardT lo σ = some r) : CC lo 9 [] σ = some r :=
 callL_run Tryz.func9 (by decide +kernel) rfl (by decide +kernel) h
end
end Go.D
end
/- AuxiliaryHides: what the law answers, if awake answers true. -/
section
set_option linter.unusedVariables false
set_option linter.unusedSimpArgs false
namespace Go.D
section
variable {x : Ax} {o : OI} (hs : XSm x) (hp : (L o).length ≤ 1000) (hin : InB x (L o))
include hs hp hin
end
theorem cellV_ptr (P : Program) (t : TypeId) (r off : Nat) (σ : Store) : cellV P t (.ptr r off) σ = load P t (.ptr r off) σ := rfl
theorem st33 (a b c d e : PV) (a' b' c' d' e' : DV) (m : Row) : store PP 0 33 (.ptr 1 0) (.agg [.p a, .p b, .p c, .p d, .p e]) [m, .mix [a', b', c', d', e']] = some [m, .mix [.p a, .p b, .p c, .p d, .p e]] := Eq.trans (by kernel_rfl) rfl
end Go.D
end
