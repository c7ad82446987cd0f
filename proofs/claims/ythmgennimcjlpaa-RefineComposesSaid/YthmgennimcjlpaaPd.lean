/- Equations of functions 12, 17, printed by gen.py. -/
import Derived.Test.YthmgennimcjlpaaPc
section
set_option linter.unusedVariables false
set_option maxRecDepth 10000
namespace Go.D
open _root_.Go.D.Code (fstC sndC)
open _root_.Go.D.Ann (left right)
noncomputable def c12_0 : Code := bodyOf Go.Proofs.Try.f12
noncomputable def a12_0 : Ann := (pol 12).ann
noncomputable def a12_29 : Ann := right (left (right (right (right (right (right a12_0))))))
noncomputable def a12_30 : Ann := left a12_29
noncomputable def c12_31 : Code := fstC (fstC (sndC (fstC (sndC (sndC (sndC (sndC (sndC c12_0))))))))
noncomputable def c12_34 : Code := sndC (fstC (sndC (fstC (sndC (sndC (sndC (sndC (sndC c12_0))))))))
noncomputable def a12_34 : Ann := left a12_30
noncomputable def a12_39 : Ann := right (right (left a12_34))
noncomputable def a12_40 : Ann := left a12_39
noncomputable def c12_41 : Code := fstC (fstC (sndC (sndC (fstC c12_34))))
noncomputable def a12_48 : Ann := left (right (right (left a12_40)))
noncomputable def a12_56 : Ann := right (left (right (right (left a12_48))))
noncomputable def a12_57 : Ann := left a12_56
noncomputable def c12_58 : Code := fstC (fstC (sndC (fstC (sndC (sndC (fstC (fstC (sndC (sndC c12_41)))))))))
noncomputable def c12_68 : Code := sndC (sndC (sndC (fstC (fstC (sndC (sndC c12_41))))))
noncomputable def a12_68 : Ann := right (right (right (left a12_48)))
noncomputable def c12_69 : Code := sndC (sndC (sndC c12_41))
noncomputable def a12_69 : Ann := right (right (right (left a12_40)))
noncomputable def c12_70 : Code := sndC (sndC (sndC (sndC (sndC (sndC c12_0)))))
noncomputable def a12_70 : Ann := right (right (right (right (right (right a12_0)))))
noncomputable def a12_75 : Ann := right (left (right a12_70))
noncomputable def a12_76 : Ann := left a12_75
noncomputable def c12_77 : Code := fstC (fstC (sndC (fstC (sndC c12_70))))
noncomputable def a12_84 : Ann := left (right (right (left a12_76)))
noncomputable def a12_92 : Ann := right (left (right (right (left a12_84))))
noncomputable def a12_93 : Ann := left a12_92
noncomputable def c12_94 : Code := fstC (fstC (sndC (fstC (sndC (sndC (fstC (fstC (sndC (sndC c12_77)))))))))
noncomputable def c12_114 : Code := sndC (sndC (sndC (fstC (fstC (sndC (sndC c12_77))))))
noncomputable def a12_114 : Ann := right (right (right (left a12_84)))
noncomputable def c12_123 : Code := sndC (sndC (sndC c12_77))
noncomputable def a12_123 : Ann := right (right (right (left a12_76)))
noncomputable def c12_124 : Code := sndC (sndC c12_70)
noncomputable def a12_124 : Ann := right (right a12_70)
noncomputable def f12_R0 (G : GuardT) (lo : Nat) (x0 x1 x2 x3 x4 x5 x6 x7 x8 x9 x21 x22 x23 x24 x26 x27 x28 x29 x30 x31 x33 x34 x35 x36 x37 x38 x39 : DV) (xs : List DV) (σ : Store) (K' : Ex → Store → Option (DV × Store)) : Option (DV × Store) :=
 roundC G PP (pol 12) CC lo c12_31 c12_34 (Ann.left a12_30) [40, 41] [x0, x1, x2, x3, x4, x5, x6, x7, x8, x9, ud, ud, ud, ud, ud, ud, ud, ud, ud, ud, ud, x21, x22, x23, x24, ud, x26, x27, x28, x29, x30, x31, ud, x33, x34, x35, x36, x37, x38, x39, ud, ud, ud, ud, ud, ud, ud, ud, ud, ud, ud, ud, ud, ud, ud, ud, ud, ud, ud, ud, ud, ud, ud, ud, ud, ud, ud, ud, ud, ud, ud, ud, ud, ud, ud, ud, ud, ud, ud, ud, ud, ud, ud, ud, ud, ud, ud, ud, ud, ud, ud, ud, ud, ud, ud, ud, ud, ud, ud, ud, ud, ud, ud, ud, ud, ud, ud, ud, ud, ud, ud, ud, ud, ud, ud, ud, ud, ud, ud, ud, ud, ud, ud, ud, ud, ud, ud, ud, ud, ud, ud, ud, ud, ud, ud, ud, ud, ud, ud, ud, ud, ud, ud, ud, ud, ud, ud, ud, ud, ud, ud, ud, ud, ud, ud, ud, ud, ud, ud, ud] xs σ K'
noncomputable def f12_L0 (G : GuardT) (lo : Nat) (K' : Ex → Store → Option (DV × Store)) (x2 x3 x8 x9 x10 x11 x53 x54 : DV) (σ : Store) : Option (DV × Store) :=
 codeF G PP (pol 12) CC lo (.loop c12_41) a12_40 [ud, ud, x2, x3, ud, ud, ud, ud, x8, x9, x10, x11, ud, ud, ud, ud, ud, ud, ud, ud, ud, ud, ud, ud, ud, ud, ud, ud, ud, ud, ud, ud, ud, ud, ud, ud, ud, ud, ud, ud, ud, ud, ud, ud, ud, ud, ud, ud, ud, ud, ud, ud, ud, x53, x54, ud, ud, ud, ud, ud, ud, ud, ud, ud, ud, ud, ud, ud, ud, ud, ud, ud, ud, ud, ud, ud, ud, ud, ud, ud, ud, ud, ud, ud, ud, ud, ud, ud, ud, ud, ud, ud, ud, ud, ud, ud, ud, ud, ud, ud, ud, ud, ud, ud, ud, ud, ud, ud, ud, ud, ud, ud, ud, ud, ud, ud, ud, ud, ud, ud, ud, ud, ud, ud, ud, ud, ud, ud, ud, ud, ud, ud, ud, ud, ud, ud, ud, ud, ud, ud, ud, ud, ud, ud, ud, ud, ud, ud, ud, ud, ud, ud, ud, ud, ud, ud, ud, ud, ud, ud] σ
 (blockC 2 a12_39 (blockC 1 a12_34 (endC K')))
noncomputable def f12_L1 (G : GuardT) (lo : Nat) (K' : Ex → Store → Option (DV × Store)) (x2 x3 x8 x9 x10 x11 x12 x13 x14 x53 x54 : DV) (σ : Store) : Option (DV × Store) :=
 codeF G PP (pol 12) CC lo (.loop c12_58) a12_57 [ud, ud, x2, x3, ud, ud, ud, ud, x8, x9, x10, x11, x12, x13, x14, ud, ud, ud, ud, ud, ud, ud, ud, ud, ud, ud, ud, ud, ud, ud, ud, ud, ud, ud, ud, ud, ud, ud, ud, ud, ud, ud, ud, ud, ud, ud, ud, ud, ud, ud, ud, ud, ud, x53, x54, ud, ud, ud, ud, ud, ud, ud, ud, ud, ud, ud, ud, ud, ud, ud, ud, ud, ud, ud, ud, ud, ud, ud, ud, ud, ud, ud, ud, ud, ud, ud, ud, ud, ud, ud, ud, ud, ud, ud, ud, ud, ud, ud, ud, ud, ud, ud, ud, ud, ud, ud, ud, ud, ud, ud, ud, ud, ud, ud, ud, ud, ud, ud, ud, ud, ud, ud, ud, ud, ud, ud, ud, ud, ud, ud, ud, ud, ud, ud, ud, ud, ud, ud, ud, ud, ud, ud, ud, ud, ud, ud, ud, ud, ud, ud, ud, ud, ud, ud, ud, ud, ud, ud, ud, ud] σ
 (blockC 4 a12_56 (seqC G PP (pol 12) CC lo c12_68 a12_68 (blockC 3 a12_48 (seqC G PP (pol 12) CC lo c12_69 a12_69 (loopC G PP (pol 12) CC lo c12_41 a12_40 (blockC 2 a12_39 (blockC 1 a12_34 (endC K'))))))))
noncomputable def f12_X0 (G : GuardT) (lo : Nat) (ex : Ex) (x0 x1 x2 x3 x4 x5 x6 x7 x8 x9 x21 x22 x23 x24 x26 x27 x28 x29 x30 x31 x33 x34 x35 x36 x37 x38 x39 : DV) (σ : Store) : Option (DV × Store) :=
 (blockC 0 a12_29 (seqC G PP (pol 12) CC lo c12_70 a12_70 (finR PP Go.Proofs.Try.f12.results.toList))) ex [x0, x1, x2, x3, x4, x5, x6, x7, x8, x9, ud, ud, ud, ud, ud, ud, ud, ud, ud, ud, ud, x21, x22, x23, x24, ud, x26, x27, x28, x29, x30, x31, ud, x33, x34, x35, x36, x37, x38, x39, ud, ud, ud, ud, ud, ud, ud, ud, ud, ud, ud, ud, ud, ud, ud, ud, ud, ud, ud, ud, ud, ud, ud, ud, ud, ud, ud, ud, ud, ud, ud, ud, ud, ud, ud, ud, ud, ud, ud, ud, ud, ud, ud, ud, ud, ud, ud, ud, ud, ud, ud, ud, ud, ud, ud, ud, ud, ud, ud, ud, ud, ud, ud, ud, ud, ud, ud, ud, ud, ud, ud, ud, ud, ud, ud, ud, ud, ud, ud, ud, ud, ud, ud, ud, ud, ud, ud, ud, ud, ud, ud, ud, ud, ud, ud, ud, ud, ud, ud, ud, ud, ud, ud, ud, ud, ud, ud, ud, ud, ud, ud, ud, ud, ud, ud, ud, ud, ud, ud, ud] σ
noncomputable def f12_L2 (G : GuardT) (lo : Nat) (x2 x8 x9 x15 x109 x110 : DV) (σ : Store) : Option (DV × Store) :=
 codeF G PP (pol 12) CC lo (.loop c12_77) a12_76 [ud, ud, x2, ud, ud, ud, ud, ud, x8, x9, ud, ud, ud, ud, ud, x15, ud, ud, ud, ud, ud, ud, ud, ud, ud, ud, ud, ud, ud, ud, ud, ud, ud, ud, ud, ud, ud, ud, ud, ud, ud, ud, ud, ud, ud, ud, ud, ud, ud, ud, ud, ud, ud, ud, ud, ud, ud, ud, ud, ud, ud, ud, ud, ud, ud, ud, ud, ud, ud, ud, ud, ud, ud, ud, ud, ud, ud, ud, ud, ud, ud, ud, ud, ud, ud, ud, ud, ud, ud, ud, ud, ud, ud, ud, ud, ud, ud, ud, ud, ud, ud, ud, ud, ud, ud, ud, ud, ud, ud, x109, x110, ud, ud, ud, ud, ud, ud, ud, ud, ud, ud, ud, ud, ud, ud, ud, ud, ud, ud, ud, ud, ud, ud, ud, ud, ud, ud, ud, ud, ud, ud, ud, ud, ud, ud, ud, ud, ud, ud, ud, ud, ud, ud, ud, ud, ud, ud, ud, ud, ud] σ
 (blockC 6 a12_75 (seqC G PP (pol 12) CC lo c12_124 a12_124 (finR PP Go.Proofs.Try.f12.results.toList)))
noncomputable def f12_L3 (G : GuardT) (lo : Nat) (x2 x8 x9 x15 x16 x17 x109 x110 x116 x117 x118 : DV) (σ : Store) : Option (DV × Store) :=
 codeF G PP (pol 12) CC lo (.loop c12_94) a12_93 [ud, ud, x2, ud, ud, ud, ud, ud, x8, x9, ud, ud, ud, ud, ud, x15, x16, x17, ud, ud, ud, ud, ud, ud, ud, ud, ud, ud, ud, ud, ud, ud, ud, ud, ud, ud, ud, ud, ud, ud, ud, ud, ud, ud, ud, ud, ud, ud, ud, ud, ud, ud, ud, ud, ud, ud, ud, ud, ud, ud, ud, ud, ud, ud, ud, ud, ud, ud, ud, ud, ud, ud, ud, ud, ud, ud, ud, ud, ud, ud, ud, ud, ud, ud, ud, ud, ud, ud, ud, ud, ud, ud, ud, ud, ud, ud, ud, ud, ud, ud, ud, ud, ud, ud, ud, ud, ud, ud, ud, x109, x110, ud, ud, ud, ud, ud, x116, x117, x118, ud, ud, ud, ud, ud, ud, ud, ud, ud, ud, ud, ud, ud, ud, ud, ud, ud, ud, ud, ud, ud, ud, ud, ud, ud, ud, ud, ud, ud, ud, ud, ud, ud, ud, ud, ud, ud, ud, ud, ud, ud] σ
 (blockC 8 a12_92 (seqC G PP (pol 12) CC lo c12_114 a12_114 (blockC 7 a12_84 (seqC G PP (pol 12) CC lo c12_123 a12_123 (loopC G PP (pol 12) CC lo c12_77 a12_76 (blockC 6 a12_75 (seqC G PP (pol 12) CC lo c12_124 a12_124 (finR PP Go.Proofs.Try.f12.results.toList))))))))
def f12_J0_fr (x2 x8 x9 x15 x17 x109 x110 : DV) : Frame := [ud, ud, x2, ud, ud, ud, ud, ud, x8, x9, ud, ud, ud, ud, ud, x15, ud, x17, ud, ud, ud, ud, ud, ud, ud, ud, ud, ud, ud, ud, ud, ud, ud, ud, ud, ud, ud, ud, ud, ud, ud, ud, ud, ud, ud, ud, ud, ud, ud, ud, ud, ud, ud, ud, ud, ud, ud, ud, ud, ud, ud, ud, ud, ud, ud, ud, ud, ud, ud, ud, ud, ud, ud, ud, ud, ud, ud, ud, ud, ud, ud, ud, ud, ud, ud, ud, ud, ud, ud, ud, ud, ud, ud, ud, ud, ud, ud, ud, ud, ud, ud, ud, ud, ud, ud, ud, ud, ud, ud, x109, x110, ud, ud, ud, ud, ud, ud, ud, ud, ud, ud, ud, ud, ud, ud, ud, ud, ud, ud, ud, ud, ud, ud, ud, ud, ud, ud, ud, ud, ud, ud, ud, ud, ud, ud, ud, ud, ud, ud, ud, ud, ud, ud, ud, ud, ud, ud, ud, ud, ud]
noncomputable def f12_J0 (G : GuardT) (lo : Nat) (x2 x8 x9 x15 x17 x109 x110 : DV) (σ : Store) : Option (DV × Store) :=
 (seqC G PP (pol 12) CC lo c12_114 a12_114 (blockC 7 a12_84 (seqC G PP (pol 12) CC lo c12_123 a12_123 (loopC G PP (pol 12) CC lo c12_77 a12_76 (blockC 6 a12_75 (seqC G PP (pol 12) CC lo c12_124 a12_124 (finR PP Go.Proofs.Try.f12.results.toList))))))) .normal (f12_J0_fr x2 x8 x9 x15 x17 x109 x110) σ
noncomputable def F12 (G : GuardT) (lo : Nat) (x0 x1 : DV) (σ : Store) : Option (DV × Store) :=
 codeF G PP (pol 12) CC lo c12_0 a12_0 [x0, x1, ud, ud, ud, ud, ud, ud, ud, ud, ud, ud, ud, ud, ud, ud, ud, ud, ud, ud, ud, ud, ud, ud, ud, ud, ud, ud, ud, ud, ud, ud, ud, ud, ud, ud, ud, ud, ud, ud, ud, ud, ud, ud, ud, ud, ud, ud, ud, ud, ud, ud, ud, ud, ud, ud, ud, ud, ud, ud, ud, ud, ud, ud, ud, ud, ud, ud, ud, ud, ud, ud, ud, ud, ud, ud, ud, ud, ud, ud, ud, ud, ud, ud, ud, ud, ud, ud, ud, ud, ud, ud, ud, ud, ud, ud, ud, ud, ud, ud, ud, ud, ud, ud, ud, ud, ud, ud, ud, ud, ud, ud, ud, ud, ud, ud, ud, ud, ud, ud, ud, ud, ud, ud, ud, ud, ud, ud, ud, ud, ud, ud, ud, ud, ud, ud, ud, ud, ud, ud, ud, ud, ud, ud, ud, ud, ud, ud, ud, ud, ud, ud, ud, ud, ud, ud, ud, ud, ud, ud] σ (finR PP Go.Proofs.Try.f12.results.toList)
theorem f12_R0_eq (G : GuardT) (lo : Nat) (x0 x1 x2 x3 x4 x5 x6 x7 x8 x9 x21 x22 x23 x24 x26 x27 x28 x29 x30 x31 x33 x34 x35 x36 x37 x38 x39 : DV) (x40 x41 : DV) (σ : Store) (K' : Ex → Store → Option (DV × Store)) : f12_R0 G lo x0 x1 x2 x3 x4 x5 x6 x7 x8 x9 x21 x22 x23 x24 x26 x27 x28 x29 x30 x31 x33 x34 x35 x36 x37 x38 x39 [x40, x41] σ K' =
 (load PP 84 x9 σ).bind fun x42 =>
 (fieldAddr PP 27 x2 1).bind fun x44 =>
 (fieldAddr PP 25 x44 0).bind fun x45 =>
 (load PP 3 x45 σ).bind fun x46 =>
 (makeSlice PP false 88 x46 x46 σ).bind fun r47_4 =>
 (indexAddr PP 84 x42 x40).bind fun x48 =>
 (store PP lo 88 x48 r47_4.1 r47_4.2).bind fun σ5 =>
 (load PP 84 x9 σ5).bind fun x49 =>
 (indexAddr PP 84 x49 x40).bind fun x51 =>
 (load PP 88 x51 σ5).bind fun x52 =>
 (len PP 88 x52 σ5).bind fun x53 =>
 f12_L0 G lo K' x2 x3 x8 x9 x40 x41 x53 (DV.p (PV.int IntKind.i64 (0))) σ5 := by kernel_rfl
theorem f12_L0_eq (G : GuardT) (hG : GuardOk G) (lo : Nat) (K' : Ex → Store → Option (DV × Store)) (x2 x3 x8 x9 x10 x11 x53 x54 : DV) (σ : Store) : f12_L0 G lo K' x2 x3 x8 x9 x10 x11 x53 x54 σ =
 (binOp PP .lss 3 x54 x53).bind fun x55 =>
 condK x55
 (
 (load PP 22 x3 σ).bind fun x58 =>
 (len PP 22 x58 σ).bind fun x59 =>
 (binOp PP .sub 3 x59 (DV.p (PV.int IntKind.i64 (1)))).bind fun x60 =>
 (binOp PP .eql 3 x10 x60).bind fun x61 =>
 f12_L1 G lo K' x2 x3 x8 x9 x10 x11 x54 x61 (DV.p (PV.int IntKind.i64 (0))) x53 x54 σ
 )
 (
 K' .normal σ
 ) := (loopF_eq G hG).trans (by kernel_rfl)
theorem f12_L1_eq (G : GuardT) (hG : GuardOk G) (lo : Nat) (K' : Ex → Store → Option (DV × Store)) (x2 x3 x8 x9 x10 x11 x12 x13 x14 x53 x54 : DV) (σ : Store) : f12_L1 G lo K' x2 x3 x8 x9 x10 x11 x12 x13 x14 x53 x54 σ =
 (fieldAddr PP 27 x2 1).bind fun x63 =>
 (fieldAddr PP 25 x63 0).bind fun x64 =>
 (load PP 3 x64 σ).bind fun x65 =>
 (binOp PP .lss 3 x14 x65).bind fun x66 =>
 G _ x66 true (some (x13, σ)) σ fun x68 σ6 =>
 G _ x66 true ((unOp .not x68).bind fun v => some (v, σ6)) σ6 fun x69 σ7 =>
 (pickV x66 x69 (DV.p (PV.bool false))).bind fun x70 =>
 condK x70
 (
 (load PP 82 x8 σ7).bind fun x73 =>
 (pureFn CC (DV.fn 45 []) [x73, x12, x14] σ7).bind fun x76 =>
 G _ x76 true ((load PP 84 x9 σ7).bind fun v => some (v, σ7)) σ7 fun x78 σ8 =>
 G _ x76 true (some (x10, σ8)) σ8 fun x79 σ9 =>
 G _ x76 true ((binOp PP .add 3 x79 (DV.p (PV.int IntKind.i64 (1)))).bind fun v => some (v, σ9)) σ9 fun x80 σ10 =>
 G _ x76 true ((indexAddr PP 84 x78 x80).bind fun v => some (v, σ10)) σ10 fun x81 σ11 =>
 G _ x76 true ((load PP 88 x81 σ11).bind fun v => some (v, σ11)) σ11 fun x82 σ12 =>
 G _ x76 true (some (x14, σ12)) σ12 fun x83 σ13 =>
 G _ x76 true ((indexAddr PP 88 x82 x83).bind fun v => some (v, σ13)) σ13 fun x84 σ14 =>
 G _ x76 true ((load PP 4 x84 σ14).bind fun v => some (v, σ14)) σ14 fun x85 σ15 =>
 (pickV x76 x85 (DV.p (PV.bool false))).bind fun x86 =>
 (binOp PP .add 3 x14 (DV.p (PV.int IntKind.i64 (1)))).bind fun x72 =>
 f12_L1 G lo K' x2 x3 x8 x9 x10 x11 x12 x86 x72 x53 x54 σ15
 )
 (
 (load PP 84 x9 σ7).bind fun x87 =>
 (indexAddr PP 84 x87 x10).bind fun x89 =>
 (load PP 88 x89 σ7).bind fun x90 =>
 G _ x13 true ((fieldAddr PP 27 x2 2).bind fun v => some (v, σ7)) σ7 fun x94 σ16 =>
 G _ x13 true ((load PP 22 x94 σ16).bind fun v => some (v, σ16)) σ16 fun x95 σ17 =>
 G _ x13 true (some (x11, σ17)) σ17 fun x96 σ18 =>
 G _ x13 true ((indexAddr PP 22 x95 x96).bind fun v => some (v, σ18)) σ18 fun x97 σ19 =>
 G _ x13 true ((load PP 3 x97 σ19).bind fun v => some (v, σ19)) σ19 fun x98 σ20 =>
 G _ x13 true ((fieldAddr PP 27 x2 3).bind fun v => some (v, σ20)) σ20 fun x99 σ21 =>
 G _ x13 true ((load PP 22 x99 σ21).bind fun v => some (v, σ21)) σ21 fun x100 σ22 =>
 G _ x13 true (some (x12, σ22)) σ22 fun x101 σ23 =>
 G _ x13 true ((indexAddr PP 22 x100 x101).bind fun v => some (v, σ23)) σ23 fun x102 σ24 =>
 G _ x13 true ((load PP 3 x102 σ24).bind fun v => some (v, σ24)) σ24 fun x103 σ25 =>
 G _ x13 true ((binOp PP .eql 3 x98 x103).bind fun v => some (v, σ25)) σ25 fun x104 σ26 =>
 (pickV x13 x104 (DV.p (PV.bool false))).bind fun x105 =>
 (indexAddr PP 88 x90 x12).bind fun x106 =>
 (store PP lo 4 x106 x105 σ26).bind fun σ27 =>
 (binOp PP .add 3 x54 (DV.p (PV.int IntKind.i64 (1)))).bind fun x107 =>
 f12_L0 G lo K' x2 x3 x8 x9 x10 x11 x53 x107 σ27
 ) := (loopF_eq G hG).trans (by kernel_rfl)
theorem f12_X0_normal (G : GuardT) (lo : Nat) (x0 x1 x2 x3 x4 x5 x6 x7 x8 x9 x21 x22 x23 x24 x26 x27 x28 x29 x30 x31 x33 x34 x35 x36 x37 x38 x39 : DV) (σ : Store) : f12_X0 G lo .normal x0 x1 x2 x3 x4 x5 x6 x7 x8 x9 x21 x22 x23 x24 x26 x27 x28 x29 x30 x31 x33 x34 x35 x36 x37 x38 x39 σ =
 (load PP 22 x3 σ).bind fun x108 =>
 (len PP 22 x108 σ).bind fun x109 =>
 f12_L2 G lo x2 x8 x9 (DV.p PV.nilsl) x109 (DV.p (PV.int IntKind.i64 (0))) σ := by kernel_rfl
theorem f12_L2_eq (G : GuardT) (hG : GuardOk G) (lo : Nat) (x2 x8 x9 x15 x109 x110 : DV) (σ : Store) : f12_L2 G lo x2 x8 x9 x15 x109 x110 σ =
 (binOp PP .lss 3 x110 x109).bind fun x111 =>
 condK x111
 (
 (load PP 84 x9 σ).bind fun x113 =>
 (indexAddr PP 84 x113 x110).bind fun x115 =>
 (load PP 88 x115 σ).bind fun x116 =>
 (len PP 88 x116 σ).bind fun x117 =>
 f12_L3 G lo x2 x8 x9 x15 x110 (DV.p (PV.int IntKind.i64 (-1))) x109 x110 x116 x117 (DV.p (PV.int IntKind.i64 (0))) σ
 )
 (
 some ((DV.tuple [x15, (DV.p (PV.int IntKind.i64 (0)))]), σ)
 ) := (loopF_eq G hG).trans (by kernel_rfl)
theorem f12_L3_gen (G : GuardT) (hG : GuardOk G) (lo : Nat) (N0 : Frame → Store → Option (DV × Store)) (x2 x8 x9 x15 x16 x17 x109 x110 x116 x117 x118 : DV) (σ : Store) : codeF G PP (pol 12) CC lo (.loop c12_94) a12_93 [ud, ud, x2, ud, ud, ud, ud, ud, x8, x9, ud, ud, ud, ud, ud, x15, x16, x17, ud, ud, ud, ud, ud, ud, ud, ud, ud, ud, ud, ud, ud, ud, ud, ud, ud, ud, ud, ud, ud, ud, ud, ud, ud, ud, ud, ud, ud, ud, ud, ud, ud, ud, ud, ud, ud, ud, ud, ud, ud, ud, ud, ud, ud, ud, ud, ud, ud, ud, ud, ud, ud, ud, ud, ud, ud, ud, ud, ud, ud, ud, ud, ud, ud, ud, ud, ud, ud, ud, ud, ud, ud, ud, ud, ud, ud, ud, ud, ud, ud, ud, ud, ud, ud, ud, ud, ud, ud, ud, ud, x109, x110, ud, ud, ud, ud, ud, x116, x117, x118, ud, ud, ud, ud, ud, ud, ud, ud, ud, ud, ud, ud, ud, ud, ud, ud, ud, ud, ud, ud, ud, ud, ud, ud, ud, ud, ud, ud, ud, ud, ud, ud, ud, ud, ud, ud, ud, ud, ud, ud, ud] σ
 (blockC 8 a12_92 (splitC N0 (seqC G PP (pol 12) CC lo c12_114 a12_114 (blockC 7 a12_84 (seqC G PP (pol 12) CC lo c12_123 a12_123 (loopC G PP (pol 12) CC lo c12_77 a12_76 (blockC 6 a12_75 (seqC G PP (pol 12) CC lo c12_124 a12_124 (finR PP Go.Proofs.Try.f12.results.toList))))))))) =
 (binOp PP .lss 3 x118 x117).bind fun x119 =>
 condK x119
 (
 (indexAddr PP 88 x116 x118).bind fun x121 =>
 (load PP 4 x121 σ).bind fun x122 =>
 (binOp PP .eql 3 x16 (DV.p (PV.int IntKind.i64 (0)))).bind fun x124 =>
 G _ x124 true ((fieldAddr PP 27 x2 1).bind fun v => some (v, σ)) σ fun x126 σ28 =>
 G _ x124 true ((fieldAddr PP 25 x126 1).bind fun v => some (v, σ28)) σ28 fun x127 σ29 =>
 G _ x124 true ((load PP 22 x127 σ29).bind fun v => some (v, σ29)) σ29 fun x128 σ30 =>
 G _ x124 true (some (x118, σ30)) σ30 fun x129 σ31 =>
 G _ x124 true ((pureFn CC (DV.fn 46 []) [x128, x129] σ31).bind fun v => some (v, σ31)) σ31 fun x130 σ32 =>
 (pickV x124 x130 (DV.p (PV.bool false))).bind fun x131 =>
 G _ x131 false (some (x16, σ32)) σ32 fun x133 σ33 =>
 G _ x131 false ((binOp PP .gtr 3 x133 (DV.p (PV.int IntKind.i64 (0)))).bind fun v => some (v, σ33)) σ33 fun x134 σ34 =>
 G _ x131 false (some (x134, σ34)) σ34 fun x135 σ35 =>
 G _ x135 true ((load PP 82 x8 σ35).bind fun v => some (v, σ35)) σ35 fun x136 σ36 =>
 G _ x135 true (some (x15, σ36)) σ36 fun x137 σ37 =>
 G _ x135 true (some (x16, σ37)) σ37 fun x138 σ38 =>
 G _ x135 true ((binOp PP .sub 3 x138 (DV.p (PV.int IntKind.i64 (1)))).bind fun v => some (v, σ38)) σ38 fun x139 σ39 =>
 G _ x135 true ((indexAddr PP 22 x137 x139).bind fun v => some (v, σ39)) σ39 fun x140 σ40 =>
 G _ x135 true ((load PP 3 x140 σ40).bind fun v => some (v, σ40)) σ40 fun x141 σ41 =>
 G _ x135 true (some (x118, σ41)) σ41 fun x142 σ42 =>
 G _ x135 true ((pureFn CC (DV.fn 45 []) [x136, x141, x142] σ42).bind fun v => some (v, σ42)) σ42 fun x143 σ43 =>
 G _ x131 false ((pickV x135 x143 (DV.p (PV.bool false))).bind fun v => some (v, σ43)) σ43 fun x144 σ44 =>
 (pickV x131 (DV.p (PV.bool true)) x144).bind fun x145 =>
 G _ x122 true (some (x145, σ44)) σ44 fun x148 σ45 =>
 (pickV x122 x148 (DV.p (PV.bool false))).bind fun x149 =>
 condK x149
 (
 N0 (f12_J0_fr x2 x8 x9 x15 x118 x109 x110) σ45
 )
 (
 (binOp PP .add 3 x118 (DV.p (PV.int IntKind.i64 (1)))).bind fun x151 =>
 codeF G PP (pol 12) CC lo (.loop c12_94) a12_93 [ud, ud, x2, ud, ud, ud, ud, ud, x8, x9, ud, ud, ud, ud, ud, x15, x16, x17, ud, ud, ud, ud, ud, ud, ud, ud, ud, ud, ud, ud, ud, ud, ud, ud, ud, ud, ud, ud, ud, ud, ud, ud, ud, ud, ud, ud, ud, ud, ud, ud, ud, ud, ud, ud, ud, ud, ud, ud, ud, ud, ud, ud, ud, ud, ud, ud, ud, ud, ud, ud, ud, ud, ud, ud, ud, ud, ud, ud, ud, ud, ud, ud, ud, ud, ud, ud, ud, ud, ud, ud, ud, ud, ud, ud, ud, ud, ud, ud, ud, ud, ud, ud, ud, ud, ud, ud, ud, ud, ud, x109, x110, ud, ud, ud, ud, ud, x116, x117, x151, ud, ud, ud, ud, ud, ud, ud, ud, ud, ud, ud, ud, ud, ud, ud, ud, ud, ud, ud, ud, ud, ud, ud, ud, ud, ud, ud, ud, ud, ud, ud, ud, ud, ud, ud, ud, ud, ud, ud, ud, ud] σ45 (blockC 8 a12_92 (splitC N0 (seqC G PP (pol 12) CC lo c12_114 a12_114 (blockC 7 a12_84 (seqC G PP (pol 12) CC lo c12_123 a12_123 (loopC G PP (pol 12) CC lo c12_77 a12_76 (blockC 6 a12_75 (seqC G PP (pol 12) CC lo c12_124 a12_124 (finR PP Go.Proofs.Try.f12.results.toList)))))))))
 )
 )
 (
 N0 (f12_J0_fr x2 x8 x9 x15 x17 x109 x110) σ
 ) := (loopF_eq G hG).trans (by kernel_rfl)
theorem f12_L3_eq (G : GuardT) (hG : GuardOk G) (lo : Nat) (x2 x8 x9 x15 x16 x17 x109 x110 x116 x117 x118 : DV) (σ : Store) : f12_L3 G lo x2 x8 x9 x15 x16 x17 x109 x110 x116 x117 x118 σ =
 (binOp PP .lss 3 x118 x117).bind fun x119 =>
 condK x119
 (
 (indexAddr PP 88 x116 x118).bind fun x121 =>
 (load PP 4 x121 σ).bind fun x122 =>
 (binOp PP .eql 3 x16 (DV.p (PV.int IntKind.i64 (0)))).bind fun x124 =>
 G _ x124 true ((fieldAddr PP 27 x2 1).bind fun v => some (v, σ)) σ fun x126 σ28 =>
 G _ x124 true ((fieldAddr PP 25 x126 1).bind fun v => some (v, σ28)) σ28 fun x127 σ29 =>
 G _ x124 true ((load PP 22 x127 σ29).bind fun v => some (v, σ29)) σ29 fun x128 σ30 =>
 G _ x124 true (some (x118, σ30)) σ30 fun x129 σ31 =>
 G _ x124 true ((pureFn CC (DV.fn 46 []) [x128, x129] σ31).bind fun v => some (v, σ31)) σ31 fun x130 σ32 =>
 (pickV x124 x130 (DV.p (PV.bool false))).bind fun x131 =>
 G _ x131 false (some (x16, σ32)) σ32 fun x133 σ33 =>
 G _ x131 false ((binOp PP .gtr 3 x133 (DV.p (PV.int IntKind.i64 (0)))).bind fun v => some (v, σ33)) σ33 fun x134 σ34 =>
 G _ x131 false (some (x134, σ34)) σ34 fun x135 σ35 =>
 G _ x135 true ((load PP 82 x8 σ35).bind fun v => some (v, σ35)) σ35 fun x136 σ36 =>
 G _ x135 true (some (x15, σ36)) σ36 fun x137 σ37 =>
 G _ x135 true (some (x16, σ37)) σ37 fun x138 σ38 =>
 G _ x135 true ((binOp PP .sub 3 x138 (DV.p (PV.int IntKind.i64 (1)))).bind fun v => some (v, σ38)) σ38 fun x139 σ39 =>
 G _ x135 true ((indexAddr PP 22 x137 x139).bind fun v => some (v, σ39)) σ39 fun x140 σ40 =>
 G _ x135 true ((load PP 3 x140 σ40).bind fun v => some (v, σ40)) σ40 fun x141 σ41 =>
 G _ x135 true (some (x118, σ41)) σ41 fun x142 σ42 =>
 G _ x135 true ((pureFn CC (DV.fn 45 []) [x136, x141, x142] σ42).bind fun v => some (v, σ42)) σ42 fun x143 σ43 =>
 G _ x131 false ((pickV x135 x143 (DV.p (PV.bool false))).bind fun v => some (v, σ43)) σ43 fun x144 σ44 =>
 (pickV x131 (DV.p (PV.bool true)) x144).bind fun x145 =>
 G _ x122 true (some (x145, σ44)) σ44 fun x148 σ45 =>
 (pickV x122 x148 (DV.p (PV.bool false))).bind fun x149 =>
 condK x149
 (
 f12_J0 G lo x2 x8 x9 x15 x118 x109 x110 σ45
 )
 (
 (binOp PP .add 3 x118 (DV.p (PV.int IntKind.i64 (1)))).bind fun x151 =>
 f12_L3 G lo x2 x8 x9 x15 x16 x17 x109 x110 x116 x117 x151 σ45
 )
 )
 (
 f12_J0 G lo x2 x8 x9 x15 x17 x109 x110 σ
 ) := by
 have h := f12_L3_gen (N0 := (seqC G PP (pol 12) CC lo c12_114 a12_114 (blockC 7 a12_84 (seqC G PP (pol 12) CC lo c12_123 a12_123 (loopC G PP (pol 12) CC lo c12_77 a12_76 (blockC 6 a12_75 (seqC G PP (pol 12) CC lo c12_124 a12_124 (finR PP Go.Proofs.Try.f12.results.toList))))))) .normal) G hG lo x2 x8 x9 x15 x16 x17 x109 x110 x116 x117 x118 σ
 simp only [splitC_eta] at h
 exact h
theorem f12_J0_eq (G : GuardT) (lo : Nat) (x2 x8 x9 x15 x17 x109 x110 : DV) (σ : Store) : f12_J0 G lo x2 x8 x9 x15 x17 x109 x110 σ =
 (binOp PP .lss 3 x17 (DV.p (PV.int IntKind.i64 (0)))).bind fun x153 =>
 condK x153
 (
 some ((DV.tuple [(DV.p PV.nilsl), (DV.p (PV.int IntKind.i64 (25)))]), σ)
 )
 (
 (buildSlice PP none 22 1 [(0, x17)] σ).bind fun r156_46 =>
 (append PP lo false 22 22 x15 r156_46.1 r156_46.2).bind fun r157_47 =>
 (binOp PP .add 3 x110 (DV.p (PV.int IntKind.i64 (1)))).bind fun x158 =>
 f12_L2 G lo x2 x8 x9 r157_47.1 x109 x158 r157_47.2
 ) := by kernel_rfl
theorem F12_eq (G : GuardT) (lo : Nat) (x0 x1 : DV) (σ : Store) : F12 G lo x0 x1 σ =
 (boxV x0).bind fun z2 =>
 (boxV x1).bind fun z3 =>
 (load PP 27 (DV.ptr (List.length σ) 0) ((σ ++ [Row.mix z2]) ++ [Row.mix z3])).bind fun x21 =>
 (pureFn CC (DV.fn 41 []) [x21] ((σ ++ [Row.mix z2]) ++ [Row.mix z3])).bind fun x22 =>
 (binOp PP .neq 30 x22 (DV.p (PV.int IntKind.i64 (0)))).bind fun x24 =>
 condK x24
 (
 some ((DV.tuple [(DV.p PV.nilsl), x22]), ((σ ++ [Row.mix z2]) ++ [Row.mix z3]))
 )
 (
 (fieldAddr PP 27 (DV.ptr (List.length σ) 0) 0).bind fun x26 =>
 (load PP 25 x26 ((σ ++ [Row.mix z2]) ++ [Row.mix z3])).bind fun x27 =>
 (load PP 22 (DV.ptr (List.length (σ ++ [Row.mix z2])) 0) ((σ ++ [Row.mix z2]) ++ [Row.mix z3])).bind fun x28 =>
 (pureFn CC (DV.fn 42 []) [x27, x28] ((σ ++ [Row.mix z2]) ++ [Row.mix z3])).bind fun x29 =>
 (binOp PP .neq 30 x29 (DV.p (PV.int IntKind.i64 (0)))).bind fun x31 =>
 condK x31
 (
 some ((DV.tuple [(DV.p PV.nilsl), x29]), ((σ ++ [Row.mix z2]) ++ [Row.mix z3]))
 )
 (
 (load PP 27 (DV.ptr (List.length σ) 0) ((σ ++ [Row.mix z2]) ++ [Row.mix z3])).bind fun x33 =>
 (pureFn CC (DV.fn 43 []) [x33] ((σ ++ [Row.mix z2]) ++ [Row.mix z3])).bind fun x34 =>
 (zeroOf PP 82).bind fun z8 =>
 (store PP lo 82 (DV.ptr (List.length ((σ ++ [Row.mix z2]) ++ [Row.mix z3])) 0) x34 (((σ ++ [Row.mix z2]) ++ [Row.mix z3]) ++ [Row.mix z8])).bind fun σ1 =>
 (load PP 22 (DV.ptr (List.length (σ ++ [Row.mix z2])) 0) σ1).bind fun x35 =>
 (len PP 22 x35 σ1).bind fun x36 =>
 (makeSlice PP true 84 x36 x36 σ1).bind fun r37_2 =>
 (zeroOf PP 84).bind fun z9 =>
 (store PP lo 84 (DV.ptr (List.length r37_2.2) 0) r37_2.1 (r37_2.2 ++ [Row.mix z9])).bind fun σ3 =>
 (load PP 22 (DV.ptr (List.length (σ ++ [Row.mix z2])) 0) σ3).bind fun x38 =>
 (pureFn CC (DV.fn 44 []) [x38] σ3).bind fun x39 =>
 rangeK (pol 12) x39 2 true true (fun xs ρ K' => f12_R0 G lo x0 x1 (DV.ptr (List.length σ) 0) (DV.ptr (List.length (σ ++ [Row.mix z2])) 0) (DV.p PV.nilsl) (DV.p (PV.int IntKind.i64 (0))) x22 x29 (DV.ptr (List.length ((σ ++ [Row.mix z2]) ++ [Row.mix z3])) 0) (DV.ptr (List.length r37_2.2) 0) x21 x22 x22 x24 x26 x27 x28 x29 x29 x31 x33 x34 x35 x36 r37_2.1 x38 x39 xs ρ K') σ3 fun ex ρ => f12_X0 G lo ex x0 x1 (DV.ptr (List.length σ) 0) (DV.ptr (List.length (σ ++ [Row.mix z2])) 0) (DV.p PV.nilsl) (DV.p (PV.int IntKind.i64 (0))) x22 x29 (DV.ptr (List.length ((σ ++ [Row.mix z2]) ++ [Row.mix z3])) 0) (DV.ptr (List.length r37_2.2) 0) x21 x22 x22 x24 x26 x27 x28 x29 x29 x31 x33 x34 x35 x36 r37_2.1 x38 x39 ρ
 )
 ) := by kernel_rfl
theorem F12_call {lo : Nat} {x0 x1 : DV} {σ : Store} {r : DV × Store} (h : F12 guardT lo x0 x1 σ = some r) : CC lo 12 [x0, x1] σ = some r :=
 callL_run Go.Proofs.Try.func12 (by decide +kernel) rfl (by decide +kernel) h
noncomputable def c17_0 : Code := bodyOf Go.Proofs.Try.f17
noncomputable def a17_0 : Ann := (pol 17).ann
noncomputable def a17_7 : Ann := right (left (right (right a17_0)))
noncomputable def a17_8 : Ann := left a17_7
noncomputable def c17_9 : Code := fstC (fstC (sndC (fstC (sndC (sndC c17_0)))))
noncomputable def a17_16 : Ann := left (right (left a17_8))
noncomputable def a17_21 : Ann := right (right (left a17_16))
noncomputable def a17_22 : Ann := left a17_21
noncomputable def c17_23 : Code := fstC (fstC (sndC (sndC (fstC (fstC (sndC c17_9))))))
noncomputable def a17_30 : Ann := left (right (left a17_22))
noncomputable def a17_36 : Ann := right (left (right (left a17_30)))
noncomputable def a17_37 : Ann := left a17_36
noncomputable def c17_38 : Code := fstC (fstC (sndC (fstC (sndC (fstC (fstC (sndC c17_23)))))))
noncomputable def c17_48 : Code := sndC (sndC (fstC (fstC (sndC c17_23))))
noncomputable def a17_48 : Ann := right (right (left a17_30))
noncomputable def c17_49 : Code := sndC (sndC c17_23)
noncomputable def a17_49 : Ann := right (right (left a17_22))
noncomputable def c17_50 : Code := sndC (sndC c17_9)
noncomputable def a17_50 : Ann := right (right (left a17_8))
noncomputable def c17_51 : Code := sndC (sndC (sndC c17_0))
noncomputable def a17_51 : Ann := right (right (right a17_0))
noncomputable def a17_56 : Ann := right (left (right a17_51))
noncomputable def a17_57 : Ann := left a17_56
noncomputable def c17_58 : Code := fstC (fstC (sndC (fstC (sndC c17_51))))
noncomputable def a17_65 : Ann := left (right (left a17_57))
noncomputable def a17_71 : Ann := right (left (right (left a17_65)))
noncomputable def a17_72 : Ann := left a17_71
noncomputable def c17_73 : Code := fstC (fstC (sndC (fstC (sndC (fstC (fstC (sndC c17_58)))))))
noncomputable def a17_80 : Ann := left (right (left a17_72))
noncomputable def c17_86 : Code := sndC (sndC c17_73)
noncomputable def a17_86 : Ann := right (right (left a17_72))
noncomputable def c17_87 : Code := sndC (sndC (fstC (fstC (sndC c17_58))))
noncomputable def a17_87 : Ann := right (right (left a17_65))
noncomputable def c17_96 : Code := sndC (sndC c17_58)
noncomputable def a17_96 : Ann := right (right (left a17_57))
noncomputable def c17_97 : Code := sndC (sndC c17_51)
noncomputable def a17_97 : Ann := right (right a17_51)
noncomputable def f17_L0 (G : GuardT) (lo : Nat) (x1 x2 x6 x7 : DV) (σ : Store) : Option (DV × Store) :=
 codeF G PP (pol 17) CC lo (.loop c17_9) a17_8 [ud, x1, x2, ud, ud, ud, x6, x7, ud, ud, ud, ud, ud, ud, ud, ud, ud, ud, ud, ud, ud, ud, ud, ud, ud, ud, ud, ud, ud, ud, ud, ud, ud, ud, ud, ud, ud, ud, ud, ud, ud, ud, ud, ud, ud, ud, ud, ud, ud, ud, ud, ud, ud, ud, ud, ud, ud, ud, ud, ud, ud, ud, ud, ud, ud, ud, ud, ud, ud, ud, ud, ud, ud, ud, ud, ud, ud, ud, ud, ud, ud, ud, ud, ud, ud, ud, ud, ud, ud, ud, ud, ud, ud, ud, ud, ud, ud, ud, ud, ud, ud, ud, ud, ud, ud, ud, ud, ud, ud, ud, ud, ud, ud, ud, ud, ud, ud, ud, ud, ud, ud, ud, ud, ud, ud, ud, ud, ud, ud, ud, ud, ud, ud, ud, ud, ud, ud, ud, ud, ud, ud, ud, ud, ud, ud, ud, ud, ud] σ
 (blockC 0 a17_7 (seqC G PP (pol 17) CC lo c17_51 a17_51 (finR PP Go.Proofs.Try.f17.results.toList)))
noncomputable def f17_L1 (G : GuardT) (lo : Nat) (x1 x2 x6 x7 x8 : DV) (σ : Store) : Option (DV × Store) :=
 codeF G PP (pol 17) CC lo (.loop c17_23) a17_22 [ud, x1, x2, ud, ud, ud, x6, x7, x8, ud, ud, ud, ud, ud, ud, ud, ud, ud, ud, ud, ud, ud, ud, ud, ud, ud, ud, ud, ud, ud, ud, ud, ud, ud, ud, ud, ud, ud, ud, ud, ud, ud, ud, ud, ud, ud, ud, ud, ud, ud, ud, ud, ud, ud, ud, ud, ud, ud, ud, ud, ud, ud, ud, ud, ud, ud, ud, ud, ud, ud, ud, ud, ud, ud, ud, ud, ud, ud, ud, ud, ud, ud, ud, ud, ud, ud, ud, ud, ud, ud, ud, ud, ud, ud, ud, ud, ud, ud, ud, ud, ud, ud, ud, ud, ud, ud, ud, ud, ud, ud, ud, ud, ud, ud, ud, ud, ud, ud, ud, ud, ud, ud, ud, ud, ud, ud, ud, ud, ud, ud, ud, ud, ud, ud, ud, ud, ud, ud, ud, ud, ud, ud, ud, ud, ud, ud, ud, ud] σ
 (blockC 2 a17_21 (blockC 1 a17_16 (seqC G PP (pol 17) CC lo c17_50 a17_50 (loopC G PP (pol 17) CC lo c17_9 a17_8 (blockC 0 a17_7 (seqC G PP (pol 17) CC lo c17_51 a17_51 (finR PP Go.Proofs.Try.f17.results.toList)))))))
noncomputable def f17_L2 (G : GuardT) (lo : Nat) (x1 x2 x6 x7 x8 x9 x10 : DV) (σ : Store) : Option (DV × Store) :=
 codeF G PP (pol 17) CC lo (.loop c17_38) a17_37 [ud, x1, x2, ud, ud, ud, x6, x7, x8, x9, x10, ud, ud, ud, ud, ud, ud, ud, ud, ud, ud, ud, ud, ud, ud, ud, ud, ud, ud, ud, ud, ud, ud, ud, ud, ud, ud, ud, ud, ud, ud, ud, ud, ud, ud, ud, ud, ud, ud, ud, ud, ud, ud, ud, ud, ud, ud, ud, ud, ud, ud, ud, ud, ud, ud, ud, ud, ud, ud, ud, ud, ud, ud, ud, ud, ud, ud, ud, ud, ud, ud, ud, ud, ud, ud, ud, ud, ud, ud, ud, ud, ud, ud, ud, ud, ud, ud, ud, ud, ud, ud, ud, ud, ud, ud, ud, ud, ud, ud, ud, ud, ud, ud, ud, ud, ud, ud, ud, ud, ud, ud, ud, ud, ud, ud, ud, ud, ud, ud, ud, ud, ud, ud, ud, ud, ud, ud, ud, ud, ud, ud, ud, ud, ud, ud, ud, ud, ud] σ
 (blockC 4 a17_36 (seqC G PP (pol 17) CC lo c17_48 a17_48 (blockC 3 a17_30 (seqC G PP (pol 17) CC lo c17_49 a17_49 (loopC G PP (pol 17) CC lo c17_23 a17_22 (blockC 2 a17_21 (blockC 1 a17_16 (seqC G PP (pol 17) CC lo c17_50 a17_50 (loopC G PP (pol 17) CC lo c17_9 a17_8 (blockC 0 a17_7 (seqC G PP (pol 17) CC lo c17_51 a17_51 (finR PP Go.Proofs.Try.f17.results.toList))))))))))))
noncomputable def f17_L3 (G : GuardT) (lo : Nat) (x1 x2 x6 x11 x12 : DV) (σ : Store) : Option (DV × Store) :=
 codeF G PP (pol 17) CC lo (.loop c17_58) a17_57 [ud, x1, x2, ud, ud, ud, x6, ud, ud, ud, ud, x11, x12, ud, ud, ud, ud, ud, ud, ud, ud, ud, ud, ud, ud, ud, ud, ud, ud, ud, ud, ud, ud, ud, ud, ud, ud, ud, ud, ud, ud, ud, ud, ud, ud, ud, ud, ud, ud, ud, ud, ud, ud, ud, ud, ud, ud, ud, ud, ud, ud, ud, ud, ud, ud, ud, ud, ud, ud, ud, ud, ud, ud, ud, ud, ud, ud, ud, ud, ud, ud, ud, ud, ud, ud, ud, ud, ud, ud, ud, ud, ud, ud, ud, ud, ud, ud, ud, ud, ud, ud, ud, ud, ud, ud, ud, ud, ud, ud, ud, ud, ud, ud, ud, ud, ud, ud, ud, ud, ud, ud, ud, ud, ud, ud, ud, ud, ud, ud, ud, ud, ud, ud, ud, ud, ud, ud, ud, ud, ud, ud, ud, ud, ud, ud, ud, ud, ud] σ
 (blockC 6 a17_56 (seqC G PP (pol 17) CC lo c17_97 a17_97 (finR PP Go.Proofs.Try.f17.results.toList)))
noncomputable def f17_L4 (G : GuardT) (lo : Nat) (x1 x2 x6 x11 x12 x13 x14 : DV) (σ : Store) : Option (DV × Store) :=
 codeF G PP (pol 17) CC lo (.loop c17_73) a17_72 [ud, x1, x2, ud, ud, ud, x6, ud, ud, ud, ud, x11, x12, x13, x14, ud, ud, ud, ud, ud, ud, ud, ud, ud, ud, ud, ud, ud, ud, ud, ud, ud, ud, ud, ud, ud, ud, ud, ud, ud, ud, ud, ud, ud, ud, ud, ud, ud, ud, ud, ud, ud, ud, ud, ud, ud, ud, ud, ud, ud, ud, ud, ud, ud, ud, ud, ud, ud, ud, ud, ud, ud, ud, ud, ud, ud, ud, ud, ud, ud, ud, ud, ud, ud, ud, ud, ud, ud, ud, ud, ud, ud, ud, ud, ud, ud, ud, ud, ud, ud, ud, ud, ud, ud, ud, ud, ud, ud, ud, ud, ud, ud, ud, ud, ud, ud, ud, ud, ud, ud, ud, ud, ud, ud, ud, ud, ud, ud, ud, ud, ud, ud, ud, ud, ud, ud, ud, ud, ud, ud, ud, ud, ud, ud, ud, ud, ud, ud] σ
 (blockC 8 a17_71 (seqC G PP (pol 17) CC lo c17_87 a17_87 (blockC 7 a17_65 (seqC G PP (pol 17) CC lo c17_96 a17_96 (loopC G PP (pol 17) CC lo c17_58 a17_57 (blockC 6 a17_56 (seqC G PP (pol 17) CC lo c17_97 a17_97 (finR PP Go.Proofs.Try.f17.results.toList))))))))
def f17_J0_fr (x1 x2 x6 x11 x12 x13 x14 x103 x104 x107 x108 x109 x110 x111 x112 x113 x114 x115 x116 x117 x118 x119 x120 x121 x122 x123 x124 x125 x126 x127 x128 x129 x130 x131 x132 x133 x134 x135 x136 x137 x138 x139 x140 : DV) : Frame := [ud, x1, x2, ud, ud, ud, x6, ud, ud, ud, ud, x11, x12, x13, x14, ud, ud, ud, ud, ud, ud, ud, ud, ud, ud, ud, ud, ud, ud, ud, ud, ud, ud, ud, ud, ud, ud, ud, ud, ud, ud, ud, ud, ud, ud, ud, ud, ud, ud, ud, ud, ud, ud, ud, ud, ud, ud, ud, ud, ud, ud, ud, ud, ud, ud, ud, ud, ud, ud, ud, ud, ud, ud, ud, ud, ud, ud, ud, ud, ud, ud, ud, ud, ud, ud, ud, ud, ud, ud, ud, ud, ud, ud, ud, ud, ud, ud, ud, ud, ud, ud, ud, ud, x103, x104, ud, ud, x107, x108, x109, x110, x111, x112, x113, x114, x115, x116, x117, x118, x119, x120, x121, x122, x123, x124, x125, x126, x127, x128, x129, x130, x131, x132, x133, x134, x135, x136, x137, x138, x139, x140, ud, ud, ud, ud, ud, ud, ud]
noncomputable def f17_J0 (G : GuardT) (lo : Nat) (x1 x2 x6 x11 x12 x13 x14 x103 x104 x107 x108 x109 x110 x111 x112 x113 x114 x115 x116 x117 x118 x119 x120 x121 x122 x123 x124 x125 x126 x127 x128 x129 x130 x131 x132 x133 x134 x135 x136 x137 x138 x139 x140 : DV) (σ : Store) : Option (DV × Store) :=
 (blockC 9 a17_80 (seqC G PP (pol 17) CC lo c17_86 a17_86 (loopC G PP (pol 17) CC lo c17_73 a17_72 (blockC 8 a17_71 (seqC G PP (pol 17) CC lo c17_87 a17_87 (blockC 7 a17_65 (seqC G PP (pol 17) CC lo c17_96 a17_96 (loopC G PP (pol 17) CC lo c17_58 a17_57 (blockC 6 a17_56 (seqC G PP (pol 17) CC lo c17_97 a17_97 (finR PP Go.Proofs.Try.f17.results.toList))))))))))) .normal (f17_J0_fr x1 x2 x6 x11 x12 x13 x14 x103 x104 x107 x108 x109 x110 x111 x112 x113 x114 x115 x116 x117 x118 x119 x120 x121 x122 x123 x124 x125 x126 x127 x128 x129 x130 x131 x132 x133 x134 x135 x136 x137 x138 x139 x140) σ
noncomputable def F17 (G : GuardT) (lo : Nat) (x0 x1 : DV) (σ : Store) : Option (DV × Store) :=
 codeF G PP (pol 17) CC lo c17_0 a17_0 [x0, x1, ud, ud, ud, ud, ud, ud, ud, ud, ud, ud, ud, ud, ud, ud, ud, ud, ud, ud, ud, ud, ud, ud, ud, ud, ud, ud, ud, ud, ud, ud, ud, ud, ud, ud, ud, ud, ud, ud, ud, ud, ud, ud, ud, ud, ud, ud, ud, ud, ud, ud, ud, ud, ud, ud, ud, ud, ud, ud, ud, ud, ud, ud, ud, ud, ud, ud, ud, ud, ud, ud, ud, ud, ud, ud, ud, ud, ud, ud, ud, ud, ud, ud, ud, ud, ud, ud, ud, ud, ud, ud, ud, ud, ud, ud, ud, ud, ud, ud, ud, ud, ud, ud, ud, ud, ud, ud, ud, ud, ud, ud, ud, ud, ud, ud, ud, ud, ud, ud, ud, ud, ud, ud, ud, ud, ud, ud, ud, ud, ud, ud, ud, ud, ud, ud, ud, ud, ud, ud, ud, ud, ud, ud, ud, ud, ud, ud] σ (finR PP Go.Proofs.Try.f17.results.toList)
theorem f17_L0_eq (G : GuardT) (hG : GuardOk G) (lo : Nat) (x1 x2 x6 x7 : DV) (σ : Store) : f17_L0 G lo x1 x2 x6 x7 σ =
 (binOp PP .geq 3 x7 (DV.p (PV.int IntKind.i64 (0)))).bind fun x22 =>
 condK x22
 (
 (fieldAddr PP 27 x2 1).bind fun x27 =>
 (fieldAddr PP 25 x27 0).bind fun x28 =>
 (load PP 3 x28 σ).bind fun x29 =>
 (makeSlice PP false 88 x29 x29 σ).bind fun r30_2 =>
 (indexAddr PP 84 x6 x7).bind fun x31 =>
 (store PP lo 88 x31 r30_2.1 r30_2.2).bind fun σ3 =>
 f17_L1 G lo x1 x2 x6 x7 (DV.p (PV.int IntKind.i64 (0))) σ3
 )
 (
 f17_L3 G lo x1 x2 x6 (DV.p PV.nilsl) (DV.p (PV.int IntKind.i64 (0))) σ
 ) := (loopF_eq G hG).trans (by kernel_rfl)
theorem f17_L1_eq (G : GuardT) (hG : GuardOk G) (lo : Nat) (x1 x2 x6 x7 x8 : DV) (σ : Store) : f17_L1 G lo x1 x2 x6 x7 x8 σ =
 (fieldAddr PP 27 x2 1).bind fun x33 =>
 (fieldAddr PP 25 x33 0).bind fun x34 =>
 (load PP 3 x34 σ).bind fun x35 =>
 (binOp PP .lss 3 x8 x35).bind fun x36 =>
 condK x36
 (
 (len PP 22 x1 σ).bind fun x41 =>
 (binOp PP .sub 3 x41 (DV.p (PV.int IntKind.i64 (1)))).bind fun x42 =>
 (binOp PP .eql 3 x7 x42).bind fun x43 =>
 f17_L2 G lo x1 x2 x6 x7 x8 x43 (DV.p (PV.int IntKind.i64 (0))) σ
 )
 (
 (binOp PP .sub 3 x7 (DV.p (PV.int IntKind.i64 (1)))).bind fun x24 =>
 f17_L0 G lo x1 x2 x6 x24 σ
 ) := (loopF_eq G hG).trans (by kernel_rfl)
theorem f17_L2_eq (G : GuardT) (hG : GuardOk G) (lo : Nat) (x1 x2 x6 x7 x8 x9 x10 : DV) (σ : Store) : f17_L2 G lo x1 x2 x6 x7 x8 x9 x10 σ =
 (fieldAddr PP 27 x2 1).bind fun x45 =>
 (fieldAddr PP 25 x45 0).bind fun x46 =>
 (load PP 3 x46 σ).bind fun x47 =>
 (binOp PP .lss 3 x10 x47).bind fun x48 =>
 G _ x48 true (some (x9, σ)) σ fun x50 σ4 =>
 G _ x48 true ((unOp .not x50).bind fun v => some (v, σ4)) σ4 fun x51 σ5 =>
 (pickV x48 x51 (DV.p (PV.bool false))).bind fun x52 =>
 condK x52
 (
 (binOp PP .add 3 x7 (DV.p (PV.int IntKind.i64 (1)))).bind fun x57 =>
 (indexAddr PP 84 x6 x57).bind fun x58 =>
 (load PP 88 x58 σ5).bind fun x59 =>
 (indexAddr PP 88 x59 x10).bind fun x61 =>
 (load PP 4 x61 σ5).bind fun x62 =>
 G _ x62 true ((fieldAddr PP 27 x2 1).bind fun v => some (v, σ5)) σ5 fun x64 σ6 =>
 G _ x62 true ((load PP 25 x64 σ6).bind fun v => some (v, σ6)) σ6 fun x65 σ7 =>
 G _ x62 true (some (x8, σ7)) σ7 fun x66 σ8 =>
 G _ x62 true (some (x10, σ8)) σ8 fun x67 σ9 =>
 G _ x62 true ((pureFn CC (DV.fn 50 []) [x65, x66, x67] σ9).bind fun v => some (v, σ9)) σ9 fun x68 σ10 =>
 (pickV x62 x68 (DV.p (PV.bool false))).bind fun x69 =>
 (binOp PP .add 3 x10 (DV.p (PV.int IntKind.i64 (1)))).bind fun x54 =>
 f17_L2 G lo x1 x2 x6 x7 x8 x69 x54 σ10
 )
 (
 (indexAddr PP 84 x6 x7).bind fun x72 =>
 (load PP 88 x72 σ5).bind fun x73 =>
 G _ x9 true ((fieldAddr PP 27 x2 2).bind fun v => some (v, σ5)) σ5 fun x77 σ11 =>
 G _ x9 true ((load PP 22 x77 σ11).bind fun v => some (v, σ11)) σ11 fun x78 σ12 =>
 G _ x9 true (some (x1, σ12)) σ12 fun x79 σ13 =>
 G _ x9 true (some (x7, σ13)) σ13 fun x80 σ14 =>
 G _ x9 true ((indexAddr PP 22 x79 x80).bind fun v => some (v, σ14)) σ14 fun x81 σ15 =>
 G _ x9 true ((load PP 3 x81 σ15).bind fun v => some (v, σ15)) σ15 fun x82 σ16 =>
 G _ x9 true ((indexAddr PP 22 x78 x82).bind fun v => some (v, σ16)) σ16 fun x83 σ17 =>
 G _ x9 true ((load PP 3 x83 σ17).bind fun v => some (v, σ17)) σ17 fun x84 σ18 =>
 G _ x9 true ((fieldAddr PP 27 x2 3).bind fun v => some (v, σ18)) σ18 fun x85 σ19 =>
 G _ x9 true ((load PP 22 x85 σ19).bind fun v => some (v, σ19)) σ19 fun x86 σ20 =>
 G _ x9 true (some (x8, σ20)) σ20 fun x87 σ21 =>
 G _ x9 true ((indexAddr PP 22 x86 x87).bind fun v => some (v, σ21)) σ21 fun x88 σ22 =>
 G _ x9 true ((load PP 3 x88 σ22).bind fun v => some (v, σ22)) σ22 fun x89 σ23 =>
 G _ x9 true ((binOp PP .eql 3 x84 x89).bind fun v => some (v, σ23)) σ23 fun x90 σ24 =>
 (pickV x9 x90 (DV.p (PV.bool false))).bind fun x91 =>
 (indexAddr PP 88 x73 x8).bind fun x92 =>
 (store PP lo 4 x92 x91 σ24).bind fun σ25 =>
 (binOp PP .add 3 x8 (DV.p (PV.int IntKind.i64 (1)))).bind fun x38 =>
 f17_L1 G lo x1 x2 x6 x7 x38 σ25
 ) := (loopF_eq G hG).trans (by kernel_rfl)
theorem f17_L3_eq (G : GuardT) (hG : GuardOk G) (lo : Nat) (x1 x2 x6 x11 x12 : DV) (σ : Store) : f17_L3 G lo x1 x2 x6 x11 x12 σ =
 (len PP 22 x1 σ).bind fun x95 =>
 (binOp PP .lss 3 x12 x95).bind fun x96 =>
 condK x96
 (
 (fieldAddr PP 27 x2 1).bind fun x99 =>
 (fieldAddr PP 25 x99 0).bind fun x100 =>
 (load PP 3 x100 σ).bind fun x101 =>
 (binOp PP .sub 3 x101 (DV.p (PV.int IntKind.i64 (1)))).bind fun x102 =>
 f17_L4 G lo x1 x2 x6 x11 x12 (DV.p (PV.int IntKind.i64 (-1))) x102 σ
 )
 (
 some ((DV.tuple [x11, (DV.p (PV.bool true))]), σ)
 ) := (loopF_eq G hG).trans (by kernel_rfl)
theorem f17_L4_eq (G : GuardT) (hG : GuardOk G) (lo : Nat) (x1 x2 x6 x11 x12 x13 x14 : DV) (σ : Store) : f17_L4 G lo x1 x2 x6 x11 x12 x13 x14 σ =
 (binOp PP .geq 3 x14 (DV.p (PV.int IntKind.i64 (0)))).bind fun x104 =>
 condK x104
 (
 (indexAddr PP 84 x6 x12).bind fun x109 =>
 (load PP 88 x109 σ).bind fun x110 =>
 (indexAddr PP 88 x110 x14).bind fun x112 =>
 (load PP 4 x112 σ).bind fun x113 =>
 G _ x113 true (some (x12, σ)) σ fun x115 σ26 =>
 G _ x113 true ((binOp PP .eql 3 x115 (DV.p (PV.int IntKind.i64 (0)))).bind fun v => some (v, σ26)) σ26 fun x116 σ27 =>
 G _ x113 true (some (x116, σ27)) σ27 fun x117 σ28 =>
 G _ x117 true ((fieldAddr PP 27 x2 1).bind fun v => some (v, σ28)) σ28 fun x118 σ29 =>
 G _ x117 true ((fieldAddr PP 25 x118 1).bind fun v => some (v, σ29)) σ29 fun x119 σ30 =>
 G _ x117 true ((load PP 22 x119 σ30).bind fun v => some (v, σ30)) σ30 fun x120 σ31 =>
 G _ x117 true (some (x14, σ31)) σ31 fun x121 σ32 =>
 G _ x117 true ((pureFn CC (DV.fn 49 []) [x120, x121] σ32).bind fun v => some (v, σ32)) σ32 fun x122 σ33 =>
 G _ x113 true ((pickV x117 x122 (DV.p (PV.bool false))).bind fun v => some (v, σ33)) σ33 fun x123 σ34 =>
 G _ x113 true (some (x123, σ34)) σ34 fun x124 σ35 =>
 G _ x124 false (some (x12, σ35)) σ35 fun x125 σ36 =>
 G _ x124 false ((binOp PP .gtr 3 x125 (DV.p (PV.int IntKind.i64 (0)))).bind fun v => some (v, σ36)) σ36 fun x126 σ37 =>
 G _ x124 false (some (x126, σ37)) σ37 fun x127 σ38 =>
 G _ x127 true ((fieldAddr PP 27 x2 1).bind fun v => some (v, σ38)) σ38 fun x128 σ39 =>
 G _ x127 true ((load PP 25 x128 σ39).bind fun v => some (v, σ39)) σ39 fun x129 σ40 =>
 G _ x127 true (some (x11, σ40)) σ40 fun x130 σ41 =>
 G _ x127 true (some (x12, σ41)) σ41 fun x131 σ42 =>
 G _ x127 true ((binOp PP .sub 3 x131 (DV.p (PV.int IntKind.i64 (1)))).bind fun v => some (v, σ42)) σ42 fun x132 σ43 =>
 G _ x127 true ((indexAddr PP 22 x130 x132).bind fun v => some (v, σ43)) σ43 fun x133 σ44 =>
 G _ x127 true ((load PP 3 x133 σ44).bind fun v => some (v, σ44)) σ44 fun x134 σ45 =>
 G _ x127 true (some (x14, σ45)) σ45 fun x135 σ46 =>
 G _ x127 true ((pureFn CC (DV.fn 50 []) [x129, x134, x135] σ46).bind fun v => some (v, σ46)) σ46 fun x136 σ47 =>
 G _ x124 false ((pickV x127 x136 (DV.p (PV.bool false))).bind fun v => some (v, σ47)) σ47 fun x137 σ48 =>
 G _ x113 true ((pickV x124 (DV.p (PV.bool true)) x137).bind fun v => some (v, σ48)) σ48 fun x138 σ49 =>
 (pickV x113 x138 (DV.p (PV.bool false))).bind fun x139 =>
 condK x139
 (
 f17_J0 G lo x1 x2 x6 x11 x12 x14 x14 x14 x104 x6 x12 x109 x110 x14 x112 x113 x113 x115 x116 x117 x118 x119 x120 x121 x122 x123 x124 x125 x126 x127 x128 x129 x130 x131 x132 x133 x134 x135 x136 x137 x138 x139 x14 σ49
 )
 (
 f17_J0 G lo x1 x2 x6 x11 x12 x13 x14 x14 x104 x6 x12 x109 x110 x14 x112 x113 x113 x115 x116 x117 x118 x119 x120 x121 x122 x123 x124 x125 x126 x127 x128 x129 x130 x131 x132 x133 x134 x135 x136 x137 x138 x139 ud σ49
 )
 )
 (
 (binOp PP .lss 3 x13 (DV.p (PV.int IntKind.i64 (0)))).bind fun x142 =>
 condK x142
 (
 some ((DV.tuple [(DV.p PV.nilsl), (DV.p (PV.bool false))]), σ)
 )
 (
 (buildSlice PP none 22 1 [(0, x13)] σ).bind fun r145_50 =>
 (append PP lo false 22 22 x11 r145_50.1 r145_50.2).bind fun r146_51 =>
 (binOp PP .add 3 x12 (DV.p (PV.int IntKind.i64 (1)))).bind fun x98 =>
 f17_L3 G lo x1 x2 x6 r146_51.1 x98 r146_51.2
 )
 ) := (loopF_eq G hG).trans (by kernel_rfl)
theorem f17_J0_eq (G : GuardT) (lo : Nat) (x1 x2 x6 x11 x12 x13 x14 x103 x104 x107 x108 x109 x110 x111 x112 x113 x114 x115 x116 x117 x118 x119 x120 x121 x122 x123 x124 x125 x126 x127 x128 x129 x130 x131 x132 x133 x134 x135 x136 x137 x138 x139 x140 : DV) (σ : Store) : f17_J0 G lo x1 x2 x6 x11 x12 x13 x14 x103 x104 x107 x108 x109 x110 x111 x112 x113 x114 x115 x116 x117 x118 x119 x120 x121 x122 x123 x124 x125 x126 x127 x128 x129 x130 x131 x132 x133 x134 x135 x136 x137 x138 x139 x140 σ =
 (binOp PP .sub 3 x14 (DV.p (PV.int IntKind.i64 (1)))).bind fun x106 =>
 f17_L4 G lo x1 x2 x6 x11 x12 x13 x106 σ := by kernel_rfl
theorem F17_eq (G : GuardT) (lo : Nat) (x0 x1 : DV) (σ : Store) : F17 G lo x0 x1 σ =
 (boxV x0).bind fun z2 =>
 (len PP 22 x1 (σ ++ [Row.mix z2])).bind fun x16 =>
 (makeSlice PP true 84 x16 x16 (σ ++ [Row.mix z2])).bind fun r17_1 =>
 (len PP 22 x1 r17_1.2).bind fun x19 =>
 (binOp PP .sub 3 x19 (DV.p (PV.int IntKind.i64 (1)))).bind fun x20 =>
 f17_L0 G lo x1 (DV.ptr (List.length σ) 0) r17_1.1 x20 r17_1.2 := by kernel_rfl
theorem F17_call {lo : Nat} {x0 x1 : DV} {σ : Store} {r : DV × Store} (h : F17 guardT lo x0 x1 σ = some r) : CC lo 17 [x0, x1] σ = some r :=
 callL_run Go.Proofs.Try.func17 (by decide +kernel) rfl (by decide +kernel) h
end Go.D
end
/- Equations of functions 10, printed by gen.py. -/
section
set_option linter.unusedVariables false
set_option maxRecDepth 10000
namespace Go.D
open _root_.Go.D.Code (fstC sndC)
open _root_.Go.D.Ann (left right)
noncomputable def c10_0 : Code := bodyOf Go.Proofs.Try.f10
noncomputable def a10_0 : Ann := (pol 10).ann
noncomputable def F10 (G : GuardT) (lo : Nat) (σ : Store) : Option (DV × Store) :=
 codeF G PP (pol 10) CC lo c10_0 a10_0 [ud, ud, ud, ud, ud, ud, ud, ud, ud, ud, ud, ud, ud, ud, ud, ud, ud, ud, ud, ud, ud, ud, ud, ud, ud, ud, ud, ud, ud, ud, ud, ud, ud, ud, ud, ud, ud, ud, ud, ud, ud, ud, ud, ud, ud, ud, ud, ud, ud, ud, ud, ud, ud, ud, ud, ud, ud, ud, ud, ud, ud, ud, ud, ud, ud, ud, ud, ud, ud, ud, ud, ud, ud, ud, ud, ud, ud, ud, ud, ud, ud, ud, ud, ud, ud, ud, ud, ud, ud, ud, ud, ud, ud, ud, ud, ud, ud, ud, ud, ud] σ (finR PP Go.Proofs.Try.f10.results.toList)
theorem F10_eq (G : GuardT) (lo : Nat) (σ : Store) : F10 G lo σ =
 (pureFn CC (DV.fn 38 []) [] σ).bind fun x12 =>
 (buildSlice PP none 22 3 [(0, (DV.p (PV.int IntKind.i64 (0)))), (1, (DV.p (PV.int IntKind.i64 (0)))), (2, (DV.p (PV.int IntKind.i64 (1))))] σ).bind fun r13_1 =>
 (pureFn CC (DV.fn 23 []) [x12, r13_1.1] r13_1.2).bind fun x14 =>
 (extractV x14 0).bind fun x15 =>
 (extractV x14 1).bind fun x16 =>
 (zeroOf PP 47).bind fun z1 =>
 (store PP lo 47 (DV.ptr (List.length r13_1.2) 0) x15 (r13_1.2 ++ [Row.mix z1])).bind fun σ2 =>
 (pureFn CC (DV.fn 38 []) [] σ2).bind fun x18 =>
 (buildSlice PP none 22 3 [(0, (DV.p (PV.int IntKind.i64 (0)))), (1, (DV.p (PV.int IntKind.i64 (1)))), (2, (DV.p (PV.int IntKind.i64 (1))))] σ2).bind fun r19_3 =>
 (pureFn CC (DV.fn 23 []) [x18, r19_3.1] r19_3.2).bind fun x20 =>
 (extractV x20 0).bind fun x21 =>
 (extractV x20 1).bind fun x22 =>
 (zeroOf PP 47).bind fun z3 =>
 (store PP lo 47 (DV.ptr (List.length r19_3.2) 0) x21 (r19_3.2 ++ [Row.mix z3])).bind fun σ4 =>
 (pureFn CC (DV.fn 38 []) [] σ4).bind fun x24 =>
 (pureFn CC (DV.fn 24 []) [x24] σ4).bind fun x25 =>
 (extractV x25 0).bind fun x26 =>
 (extractV x25 1).bind fun x27 =>
 (pureFn CC (DV.fn 39 []) [] σ4).bind fun x29 =>
 (pureFn CC (DV.fn 29 []) [x29] σ4).bind fun x30 =>
 (extractV x30 0).bind fun x31 =>
 (extractV x30 1).bind fun x32 =>
 (pureFn CC (DV.fn 38 []) [] σ4).bind fun x34 =>
 (buildSlice PP none 22 3 [(0, (DV.p (PV.int IntKind.i64 (0)))), (1, (DV.p (PV.int IntKind.i64 (1)))), (2, (DV.p (PV.int IntKind.i64 (2))))] σ4).bind fun r35_5 =>
 (pureFn CC (DV.fn 12 []) [x34, r35_5.1] r35_5.2).bind fun x36 =>
 (extractV x36 0).bind fun x37 =>
 (extractV x36 1).bind fun x38 =>
 (binOp PP .neq 30 x16 (DV.p (PV.int IntKind.i64 (0)))).bind fun x40 =>
 G _ x40 false (some (x22, r35_5.2)) r35_5.2 fun x42 σ6 =>
 G _ x40 false ((binOp PP .neq 30 x42 (DV.p (PV.int IntKind.i64 (31)))).bind fun v => some (v, σ6)) σ6 fun x43 σ7 =>
 (pickV x40 (DV.p (PV.bool true)) x43).bind fun x44 =>
 G _ x44 false (some (x27, σ7)) σ7 fun x46 σ8 =>
 G _ x44 false ((binOp PP .neq 30 x46 (DV.p (PV.int IntKind.i64 (0)))).bind fun v => some (v, σ8)) σ8 fun x47 σ9 =>
 (pickV x44 (DV.p (PV.bool true)) x47).bind fun x48 =>
 G _ x48 false (some (x32, σ9)) σ9 fun x50 σ10 =>
 G _ x48 false ((binOp PP .neq 30 x50 (DV.p (PV.int IntKind.i64 (0)))).bind fun v => some (v, σ10)) σ10 fun x51 σ11 =>
 (pickV x48 (DV.p (PV.bool true)) x51).bind fun x52 =>
 G _ x52 false (some (x38, σ11)) σ11 fun x54 σ12 =>
 G _ x52 false ((binOp PP .neq 30 x54 (DV.p (PV.int IntKind.i64 (0)))).bind fun v => some (v, σ12)) σ12 fun x55 σ13 =>
 (pickV x52 (DV.p (PV.bool true)) x55).bind fun x56 =>
 G _ x56 false (some (x31, σ13)) σ13 fun x58 σ14 =>
 G _ x56 false ((len PP 61 x58 σ14).bind fun v => some (v, σ14)) σ14 fun x59 σ15 =>
 G _ x56 false ((binOp PP .neq 3 x59 (DV.p (PV.int IntKind.i64 (6)))).bind fun v => some (v, σ15)) σ15 fun x60 σ16 =>
 (pickV x56 (DV.p (PV.bool true)) x60).bind fun x61 =>
 condK x61
 (
 some ((DV.p (PV.bool false)), σ16)
 )
 (
 (load PP 47 (DV.ptr (List.length r19_3.2) 0) σ16).bind fun x62 =>
 (buildSlice PP none 22 2 [(0, (DV.p (PV.int IntKind.i64 (0)))), (1, (DV.p (PV.int IntKind.i64 (1))))] σ16).bind fun r63_17 =>
 (build PP 47 [(0, (DV.p (PV.int IntKind.i64 (0)))), (1, (DV.p (PV.int IntKind.i64 (1)))), (2, r63_17.1)]).bind fun x64 =>
 (pureFn CC (DV.fn 40 []) [x62, x64] r63_17.2).bind fun x65 =>
 G _ x65 true (some (x26, r63_17.2)) r63_17.2 fun x67 σ18 =>
 G _ x65 true ((buildSlice PP none 22 2 [(0, (DV.p (PV.int IntKind.i64 (0)))), (1, (DV.p (PV.int IntKind.i64 (0))))] σ18).bind fun r => some (r.1, r.2)) σ18 fun x68 σ19 =>
 G _ x65 true ((buildSlice PP none 22 2 [(0, (DV.p (PV.int IntKind.i64 (1)))), (1, (DV.p (PV.int IntKind.i64 (0))))] σ19).bind fun r => some (r.1, r.2)) σ19 fun x69 σ20 =>
 G _ x65 true ((buildSlice PP none 22 2 [(0, (DV.p (PV.int IntKind.i64 (2)))), (1, (DV.p (PV.int IntKind.i64 (1))))] σ20).bind fun r => some (r.1, r.2)) σ20 fun x70 σ21 =>
 G _ x65 true ((buildSlice PP none 51 3 [(0, x68), (1, x69), (2, x70)] σ21).bind fun r => some (r.1, r.2)) σ21 fun x71 σ22 =>
 G _ x65 true ((pureFn CC (DV.fn 27 []) [x67, x71] σ22).bind fun v => some (v, σ22)) σ22 fun x72 σ23 =>
 (pickV x65 x72 (DV.p (PV.bool false))).bind fun x73 =>
 G _ x73 true (some (x31, σ23)) σ23 fun x75 σ24 =>
 G _ x73 true ((indexAddr PP 61 x75 (DV.p (PV.int IntKind.i64 (0)))).bind fun v => some (v, σ24)) σ24 fun x76 σ25 =>
 G _ x73 true ((fieldAddr PP 77 x76 2).bind fun v => some (v, σ25)) σ25 fun x77 σ26 =>
 G _ x73 true ((load PP 3 x77 σ26).bind fun v => some (v, σ26)) σ26 fun x78 σ27 =>
 G _ x73 true ((binOp PP .eql 3 x78 (DV.p (PV.int IntKind.i64 (3)))).bind fun v => some (v, σ27)) σ27 fun x79 σ28 =>
 (pickV x73 x79 (DV.p (PV.bool false))).bind fun x80 =>
 G _ x80 true (some (x31, σ28)) σ28 fun x82 σ29 =>
 G _ x80 true ((indexAddr PP 61 x82 (DV.p (PV.int IntKind.i64 (2)))).bind fun v => some (v, σ29)) σ29 fun x83 σ30 =>
 G _ x80 true ((fieldAddr PP 77 x83 2).bind fun v => some (v, σ30)) σ30 fun x84 σ31 =>
 G _ x80 true ((load PP 3 x84 σ31).bind fun v => some (v, σ31)) σ31 fun x85 σ32 =>
 G _ x80 true ((binOp PP .eql 3 x85 (DV.p (PV.int IntKind.i64 (2)))).bind fun v => some (v, σ32)) σ32 fun x86 σ33 =>
 (pickV x80 x86 (DV.p (PV.bool false))).bind fun x87 =>
 G _ x87 true (some (x31, σ33)) σ33 fun x89 σ34 =>
 G _ x87 true ((indexAddr PP 61 x89 (DV.p (PV.int IntKind.i64 (5)))).bind fun v => some (v, σ34)) σ34 fun x90 σ35 =>
 G _ x87 true ((fieldAddr PP 77 x90 2).bind fun v => some (v, σ35)) σ35 fun x91 σ36 =>
 G _ x87 true ((load PP 3 x91 σ36).bind fun v => some (v, σ36)) σ36 fun x92 σ37 =>
 G _ x87 true ((binOp PP .eql 3 x92 (DV.p (PV.int IntKind.i64 (1)))).bind fun v => some (v, σ37)) σ37 fun x93 σ38 =>
 (pickV x87 x93 (DV.p (PV.bool false))).bind fun x94 =>
 G _ x94 true (some (x37, σ38)) σ38 fun x96 σ39 =>
 G _ x94 true ((buildSlice PP none 22 3 [(0, (DV.p (PV.int IntKind.i64 (0)))), (1, (DV.p (PV.int IntKind.i64 (0)))), (2, (DV.p (PV.int IntKind.i64 (1))))] σ39).bind fun r => some (r.1, r.2)) σ39 fun x97 σ40 =>
 G _ x94 true ((pureFn CC (DV.fn 18 []) [x96, x97] σ40).bind fun v => some (v, σ40)) σ40 fun x98 σ41 =>
 (pickV x94 x98 (DV.p (PV.bool false))).bind fun x99 =>
 some (x99, σ41)
 ) := by kernel_rfl
theorem F10_call {lo : Nat} {σ : Store} {r : DV × Store} (h : F10 guardT lo σ = some r) : CC lo 10 [] σ = some r :=
 callL_run Go.Proofs.Try.func10 (by decide +kernel) rfl (by decide +kernel) h
end Go.D
end
/- What the small functions answer. -/
section
set_option linter.unusedVariables false
set_option linter.unusedSimpArgs false
namespace Go.D

def inR (n a b : Int) : Bool := decide (n ≥ a) && decide (n ≤ b)

theorem S53 (n a b : Int) (σ : Store) : pureV CC 53 [.p (pI n), .p (pI a), .p (pI b)] σ = some (.p (.bool (inR n a b))) := by
  refine pureV_free rfl rfl (F53_call (r := (.p (.bool (inR n a b)), [])) ?_) rfl
  rw [F53_eq]
  simp only [b_geq, b_leq, obind, inR]
  by_cases h : n ≥ a <;> simp [h, guard_tt, guard_ft, b_leq, pickV_true, pickV_false]

theorem S22 (n a b : Int) (σ : Store) : pureV CC 22 [.p (pI n), .p (pI a), .p (pI b)] σ = some (.p (.bool (inR n a b))) := by
  refine pureV_free rfl rfl (F22_call (r := (.p (.bool (inR n a b)), [])) ?_) rfl
  rw [F22_eq]
  simp only [b_geq, b_leq, obind, inR]
  by_cases h : n ≥ a <;> simp [h, guard_tt, guard_ft, b_leq, pickV_true, pickV_false]

theorem S56 (b : Bool) (e : Int) (σ : Store) : pureV CC 56 [.p (.bool b), .p (pI e)] σ = some (.p (pI (if b then 0 else e))) := by
  refine pureV_free rfl rfl (F56_call (r := (.p (pI (if b then 0 else e)), [])) ?_) rfl
  rw [F56_eq]
  cases b <;> rfl

theorem S87 (n : Int) (σ : Store) : pureV CC 87 [.p (pI n)] σ = some (.p (.bool false)) := by
  refine pureV_free rfl rfl (F87_call (r := (.p (.bool false), [])) ?_) rfl
  rw [F87_eq]
  simp [b_neq]

def cmpI (a b : Int) : Int := if a < b then -1 else if a > b then 1 else 0

theorem S68 (a b : Int) (σ : Store) : pureV CC 68 [.p (pI a), .p (pI b)] σ = some (.p (pI (cmpI a b))) := by
  refine pureV_free rfl rfl (F68_call (r := (.p (pI (cmpI a b)), [])) ?_) rfl
  rw [F68_eq]
  simp only [pureFn_fn, List.append_nil, S87, obind, condK_false, b_lss, b_gtr, cmpI]
  by_cases h : a < b
  · simp [h, condK_true, condK_if]
  · by_cases h2 : a > b <;> simp [h, h2, condK_true, condK_if]

theorem S88 (b : Bool) (σ : Store) : pureV CC 88 [.p (.bool b)] σ = some (.p (pI (if b then 1 else 0))) := by
  refine pureV_free rfl rfl (F88_call (r := (.p (pI (if b then 1 else 0)), [])) ?_) rfl
  rw [F88_eq]
  cases b <;> rfl

theorem S75 (n : Int) (σ : Store) : pureV CC 75 [.p (pI n)] σ = some (.p (.bool (!inR n 0 10000))) := by
  refine pureV_free rfl rfl (F75_call (r := (.p (.bool (!inR n 0 10000)), [])) ?_) rfl
  rw [F75_eq]
  simp only [pureFn_fn, List.append_nil, S53, obind, not_bool]

/-! ### First index -/
def idxFrom {α : Type} (q : α → Bool) : List α → Nat → Int
  | [], _ => -1
  | a :: l, i => if q a then (i : Int) else idxFrom q l (i + 1)

theorem idxFrom_ge {α : Type} (q : α → Bool) : ∀ (l : List α) (i : Nat), decide (idxFrom q l i ≥ 0) = l.any q
  | [], i => rfl
  | a :: l, i => by
    unfold idxFrom
    cases h : q a with
    | true => simp [h]
    | false => simp only [Bool.false_eq_true, if_false, idxFrom_ge q l, List.any_cons, h, Bool.false_or]

theorem drop_cons {α : Type} {l : List α} {i : Nat} (h : i < l.length) : l.drop i = l[i] :: l.drop (i + 1) := List.drop_eq_getElem_cons h

theorem L83 {o : Option (List Int)} {f : FuncId} {caps : List DV} {σ : Store} {lo : Nat} {q : Int → Bool} (hl : (L o).length ≤ 1000) (hq : ∀ v, pureV CC f (.p (pI v) :: caps) σ = some (.p (.bool (q v)))) :
    ∀ (k i : Nat), (L o).length - i = k → i ≤ (L o).length → f83_L0 guardT lo (.p (eSl o)) (.fn f caps) (.p (pI ((L o).length : Nat))) (.p (pI (i : Nat))) σ = some (.p (pI (idxFrom q ((L o).drop i) i)), σ)
  | 0, i, hk, hi => by
    have : i = (L o).length := by omega
    rw [f83_L0_eq guardT rfl]
    subst this
    simp [b_lss, condK_false, idxFrom]
  | k + 1, i, hk, hi => by
    have h : i < (L o).length := by omega
    have h' : (i : Int) < ((L o).length : Nat) := by omega
    rw [f83_L0_eq guardT rfl]
    simp only [b_lss, obind, h', decide_true, condK_true, idx22 h, load3, load1_ints h, pureFn_fn, List.singleton_append, hq]
    rw [drop_cons h]
    cases hqv : q (L o)[i] with
    | true => simp [condK_true, idxFrom, hqv]
    | false =>
      simp only [condK_false, b_add, obind, wrap_succ (show i ≤ 1000000 by omega), idxFrom, hqv, Bool.false_eq_true, if_false]
      exact L83 hl hq k (i + 1) (by omega) (by omega)

theorem fn_view (f : FuncId) (caps : List DV) : view (.fn f caps) = .fn f caps := rfl
theorem sl_view (o : Option (List Int)) : view (.p (eSl o)) = .p (eSl o) := by simp [view, viewCell, loosen_sl]
theorem es_view (o : Option (List Edg)) : view (.p (eEs o)) = .p (eEs o) := by simp [view, viewCell, loosen_es]

/-- The stores at which a closure is called. -/
abbrev AtSt (caps : List DV) (σ σ0 : Store) : Prop := (σ0 = [] ∧ caps.all rowFree1 = true) ∨ σ0 = σ

theorem S83 {o : Option (List Int)} {f : FuncId} {caps : List DV} {σ : Store} {q : Int → Bool} (hl : (L o).length ≤ 1000) (hq : ∀ σ0, AtSt caps σ σ0 → ∀ v, pureV CC f (.p (pI v) :: caps) σ0 = some (.p (.bool (q v)))) :
    pureV CC 83 [.p (eSl o), .fn f caps] σ = some (.p (pI (idxFrom q (L o) 0))) := by
  refine pureV_any (by simp [sl_view, fn_view]) fun lo σ0 hs => ⟨_, σ0, F83_call (r := (.p (pI (idxFrom q (L o) 0)), σ0)) ?_, rfl⟩
  have hat : AtSt caps σ σ0 := by
    rcases hs with ⟨h1, _, h3⟩ | ⟨h1, _, _⟩
    · exact .inl ⟨h1, by simpa [rowFree] using (by simpa [rowFree] using h3 : _ ∧ _).2⟩
    · exact .inr h1
  rw [F83_eq]
  simp only [len22, obind]
  have := L83 (lo := lo) hl (hq σ0 hat) _ 0 rfl (Nat.zero_le _)
  simpa using this

theorem S51 {o : Option (List Int)} {f : FuncId} {caps : List DV} {σ : Store} {q : Int → Bool} (hl : (L o).length ≤ 1000) (hq : ∀ σ0, AtSt caps σ σ0 → ∀ v, pureV CC f (.p (pI v) :: caps) σ0 = some (.p (.bool (q v)))) :
    pureV CC 51 [.p (eSl o), .fn f caps] σ = some (.p (.bool ((L o).any q))) := by
  refine pureV_any (by simp [sl_view, fn_view]) fun lo σ0 hs => ⟨_, σ0, F51_call (r := (.p (.bool ((L o).any q)), σ0)) ?_, rfl⟩
  have hat : ∀ σ1, AtSt caps σ0 σ1 → AtSt caps σ σ1 := by
    intro σ1 h
    rcases hs with ⟨h1, _, h3⟩ | ⟨h1, _, _⟩
    · rcases h with h | h
      · exact .inl h
      · exact .inl ⟨h.trans h1, by simpa [rowFree] using (by simpa [rowFree] using h3 : _ ∧ _).2⟩
    · rw [← h1]; exact h
  rw [F51_eq]
  simp only [pureFn_fn, List.append_nil, S83 hl fun σ1 h => hq σ1 (hat σ1 h), obind, b_geq, idxFrom_ge]

end Go.D
end
/- What the functions on graphs answer. -/
section
set_option linter.unusedVariables false
set_option linter.unusedSimpArgs false
namespace Go.D

theorem load1_getD {l : List Int} {i : Nat} (h : i < l.length) (σ : Store) : load1 (.pptr (eInts l) i) σ = some (.p (pI (l.getD i 0))) := by
  rw [load1_ints h, List.getD_eq_getElem?_getD, List.getElem?_eq_getElem h]; rfl
theorem wrap_pred {i : Nat} (h : 0 < i) (h2 : i ≤ 1000000) : IntKind.wrap .i64 ((i : Int) - 1) = ((i - 1 : Nat) : Int) := by
  rw [wrap_ok] <;> omega

/-! ### Is a number in a list? -/
theorem L81 {o : Option (List Int)} {v : Int} {σ : Store} {lo : Nat} (hl : (L o).length ≤ 1000) :
    ∀ (k i : Nat), (L o).length - i = k → i ≤ (L o).length → f81_L0 guardT lo (.p (eSl o)) (.p (pI v)) (.p (pI ((L o).length : Nat))) (.p (pI (i : Nat))) σ = some (.p (pI (idxFrom (fun a => decide (v = a)) ((L o).drop i) i)), σ)
  | 0, i, hk, hi => by
    have : i = (L o).length := by omega
    rw [f81_L0_eq guardT rfl]
    subst this
    simp [b_lss, condK_false, idxFrom]
  | k + 1, i, hk, hi => by
    have h : i < (L o).length := by omega
    have h' : (i : Int) < ((L o).length : Nat) := by omega
    rw [f81_L0_eq guardT rfl]
    simp only [b_lss, obind, h', decide_true, condK_true, idx22 h, load3, load1_ints h, b_eql]
    rw [drop_cons h]
    by_cases hqv : v = (L o)[i]
    · simp [condK_true, idxFrom, hqv]
    · simp only [hqv, decide_false, condK_false, b_add, obind, wrap_succ (show i ≤ 1000000 by omega), idxFrom, Bool.false_eq_true, if_false]
      exact L81 hl k (i + 1) (by omega) (by omega)

theorem S81 {o : Option (List Int)} {v : Int} {σ : Store} (hl : (L o).length ≤ 1000) : pureV CC 81 [.p (eSl o), .p (pI v)] σ = some (.p (pI (idxFrom (fun a => decide (v = a)) (L o) 0))) := by
  refine pureV_free (by simp [sl_view]; rfl) rfl (F81_call (r := (.p (pI (idxFrom (fun a => decide (v = a)) (L o) 0)), [])) ?_) rfl
  rw [F81_eq]
  simp only [len22, obind]
  have := L81 (lo := 0) (σ := []) (v := v) hl _ 0 rfl (Nat.zero_le _)
  simpa using this

def hasI (l : List Int) (v : Int) : Bool := l.any fun a => decide (v = a)

theorem S46 {o : Option (List Int)} {v : Int} {σ : Store} (hl : (L o).length ≤ 1000) : pureV CC 46 [.p (eSl o), .p (pI v)] σ = some (.p (.bool (hasI (L o) v))) := by
  refine pureV_free (by simp [sl_view]; rfl) rfl (F46_call (r := (.p (.bool (hasI (L o) v)), [])) ?_) rfl
  rw [F46_eq]
  simp only [pureFn_fn, List.append_nil, S81 hl, obind, b_geq, idxFrom_ge, hasI]

theorem L49 {o : Option (List Int)} {v : Int} {σ : Store} {lo : Nat} (hl : (L o).length ≤ 1000) :
    ∀ (k i : Nat), (L o).length - i = k → i ≤ (L o).length → f49_L0 guardT lo (.p (eSl o)) (.p (pI v)) (.p (pI (i : Nat))) σ = some (.p (.bool (hasI ((L o).drop i) v)), σ)
  | 0, i, hk, hi => by
    have : i = (L o).length := by omega
    rw [f49_L0_eq guardT rfl]
    subst this
    simp [len22, b_lss, condK_false, hasI]
  | k + 1, i, hk, hi => by
    have h : i < (L o).length := by omega
    have h' : (i : Int) < ((L o).length : Nat) := by omega
    rw [f49_L0_eq guardT rfl]
    simp only [len22, b_lss, obind, h', decide_true, condK_true, idx22 h, load3, load1_ints h, b_eql]
    rw [drop_cons h]
    by_cases hqv : (L o)[i] = v
    · simp [condK_true, hasI, hqv]
    · have hqv' : ¬ v = (L o)[i] := fun e => hqv e.symm
      simp only [hqv, decide_false, condK_false, b_add, obind, wrap_succ (show i ≤ 1000000 by omega), hasI, List.any_cons, hqv', Bool.false_or]
      exact L49 hl k (i + 1) (by omega) (by omega)

theorem S49 {o : Option (List Int)} {v : Int} {σ : Store} (hl : (L o).length ≤ 1000) : pureV CC 49 [.p (eSl o), .p (pI v)] σ = some (.p (.bool (hasI (L o) v))) := by
  refine pureV_free (by simp [sl_view]; rfl) rfl (F49_call (r := (.p (.bool (hasI (L o) v)), [])) ?_) rfl
  rw [F49_eq]
  have := L49 (lo := 0) (σ := []) (v := v) hl _ 0 rfl (Nat.zero_le _)
  simpa using this

/-! ### Steps compared -/
def edgD (e : Edg) : List DV := [.p (pI e.f), .p (pI e.t), .p (pI e.a)]
def orL : List Int → Int
  | [] => 0
  | a :: l => if a = 0 then orL l else a
def ordE (a b : Edg) : Int := orL [cmpI a.f b.f, cmpI a.t b.t, cmpI a.a b.a]

theorem pureV_view {call : CallF} {f : FuncId} {args args' : List DV} {σ : Store} (h : args.map view = args') (h2 : args'.map view = args') : pureV call f args σ = pureV call f args' σ := by
  unfold pureV
  rw [h, h2]

theorem L67 {o : Option (List Int)} {σ : Store} {lo : Nat} (hl : (L o).length ≤ 1000) :
    ∀ (k i : Nat), (L o).length - i = k → i ≤ (L o).length → f67_L0 guardT lo (.p (pI 0)) (.p (eSl o)) (.p (pI ((L o).length : Nat))) (.p (pI (i : Nat))) σ = some (.p (pI (orL ((L o).drop i))), σ)
  | 0, i, hk, hi => by
    have : i = (L o).length := by omega
    rw [f67_L0_eq guardT rfl]
    subst this
    simp [b_lss, condK_false, orL]
  | k + 1, i, hk, hi => by
    have h : i < (L o).length := by omega
    have h' : (i : Int) < ((L o).length : Nat) := by omega
    rw [f67_L0_eq guardT rfl]
    simp only [b_lss, obind, h', decide_true, condK_true, idx22 h, load3, load1_ints h, b_neq]
    rw [drop_cons h]
    by_cases hqv : (L o)[i] = 0
    · simp only [hqv, decide_true, Bool.not_true, condK_false, b_add, obind, wrap_succ (show i ≤ 1000000 by omega), orL, if_true]
      exact L67 hl k (i + 1) (by omega) (by omega)
    · simp [condK_true, orL, hqv]

theorem S67 {o : Option (List Int)} {σ : Store} (hl : (L o).length ≤ 1000) : pureV CC 67 [.p (eSl o)] σ = some (.p (pI (orL (L o)))) := by
  refine pureV_free (by simp [sl_view]) rfl (F67_call (r := (.p (pI (orL (L o))), [])) ?_) rfl
  rw [F67_eq]
  simp only [len22, obind]
  have := L67 (lo := 0) (σ := []) hl _ 0 rfl (Nat.zero_le _)
  simpa using this

theorem box_edg (e : Edg) : boxV (.agg (edgD e)) = some (edgD e) := rfl
theorem bs22_3 (x y z : Int) (σ : Store) : buildSlice PP none 22 3 [(0, .p (pI x)), (1, .p (pI y)), (2, .p (pI z))] σ = some (.p (.sl true 3 (eInts [x, y, z])), σ) := Eq.trans (by kernel_rfl) rfl
theorem sl3_view (x y z : Int) : view (.p (.sl true 3 (eInts [x, y, z]))) = .p (eSl (some [x, y, z])) := rfl

theorem get_snoc {σ : Store} {r : Row} : (σ ++ [r])[σ.length]? = some r := by simp
theorem get_old {σ : Store} {r : Row} {i : Nat} {x : Row} (h : σ[i]? = some x) : (σ ++ [r])[i]? = some x := by
  rw [List.getElem?_append_left (List.getElem?_eq_some_iff.1 h).1]; exact h

theorem S91 (a b : Edg) (σ : Store) : pureV CC 91 [.agg (edgD a), .agg (edgD b)] σ = some (.p (pI (ordE a b))) := by
  refine pureV_free rfl rfl (F91_call (r := (.p (pI (ordE a b)), [.mix (edgD a), .mix (edgD b)])) ?_) rfl
  rw [F91_eq]
  have g0 : ([Row.mix (edgD a), Row.mix (edgD b)] : Store)[0]? = some (.mix (edgD a)) := rfl
  have g1 : ([Row.mix (edgD a), Row.mix (edgD b)] : Store)[1]? = some (.mix (edgD b)) := rfl
  simp only [box_edg, obind, List.length_nil, List.nil_append, List.length_cons, List.cons_append, fa100_0, fa100_1, fa100_2, shift_ptr, load3, Nat.zero_add,
    load1_ptr (off := 0) g0 rfl, load1_ptr (off := 1) g0 rfl, load1_ptr (off := 2) g0 rfl, load1_ptr (off := 0) g1 rfl, load1_ptr (off := 1) g1 rfl, load1_ptr (off := 2) g1 rfl, pureFn_fn, List.append_nil, S68, bs22_3]
  rw [pureV_view (args' := [.p (eSl (some [cmpI a.f b.f, cmpI a.t b.t, cmpI a.a b.a]))]) (by simp [sl3_view]) (by simp [sl_view]), S67 (by simp)]
  rfl

theorem S82 (e : Edg) (σ : Store) : pureV CC 82 [.agg (edgD e)] σ = some (.p (eSl (some [e.f, e.t, e.a]))) := by
  refine pureV_free rfl rfl (F82_call (r := (.p (.sl true 3 (eInts [e.f, e.t, e.a])), [.mix (edgD e)])) ?_) rfl
  rw [F82_eq]
  have g0 : ([Row.mix (edgD e)] : Store)[0]? = some (.mix (edgD e)) := rfl
  simp only [box_edg, obind, List.length_nil, List.nil_append, fa100_0, fa100_1, fa100_2, shift_ptr, load3, Nat.zero_add,
    load1_ptr (off := 0) g0 rfl, load1_ptr (off := 1) g0 rfl, load1_ptr (off := 2) g0 rfl, bs22_3]

def firstI : List Int → List Int → Int
  | a :: xs, b :: ys => if a = b then firstI xs ys else if a < b then -1 else 1
  | xs, ys => (if xs.length > ys.length then 1 else 0) - (if xs.length < ys.length then 1 else 0)

theorem firstI_nil (xs ys : List Int) (h : xs = [] ∨ ys = []) : firstI xs ys = (if xs.length > ys.length then 1 else 0) - (if xs.length < ys.length then 1 else 0) := by
  rcases h with rfl | rfl
  · unfold firstI; rfl
  · cases xs <;> rfl

theorem L70 {a b : Option (List Int)} {σ : Store} {lo : Nat} (ha : (L a).length ≤ 1000) (hb : (L b).length ≤ 1000) :
    ∀ (k i : Nat), (L a).length - i = k → i ≤ (L a).length → i ≤ (L b).length → f70_L0 guardT lo (.p (eSl a)) (.p (eSl b)) (.p (pI (i : Nat))) σ = some (.p (pI (firstI ((L a).drop i) ((L b).drop i))), σ) := by
  have fin : ∀ (i : Nat), i ≤ (L a).length → i ≤ (L b).length → ((L a).length ≤ i ∨ (L b).length ≤ i) → (
      (len PP 22 (.p (eSl a)) σ).bind fun x40 =>
      (len PP 22 (.p (eSl b)) σ).bind fun x42 =>
      (binOp PP .gtr 3 x40 x42).bind fun x43 =>
      (pureFn CC (DV.fn 88 []) [x43] σ).bind fun x44 =>
      (len PP 22 (.p (eSl a)) σ).bind fun x46 =>
      (len PP 22 (.p (eSl b)) σ).bind fun x48 =>
      (binOp PP .lss 3 x46 x48).bind fun x49 =>
      (pureFn CC (DV.fn 88 []) [x49] σ).bind fun x50 =>
      (binOp PP .sub 3 x44 x50).bind fun x51 =>
      some (x51, σ)) = some (.p (pI (firstI ((L a).drop i) ((L b).drop i))), σ) := by
    intro i h1 h2 h
    rw [firstI_nil _ _ (h.imp (fun h => List.drop_eq_nil_of_le h) fun h => List.drop_eq_nil_of_le h)]
    simp only [len22, obind, b_gtr, b_lss, pureFn_fn, List.append_nil, S88, b_sub, List.length_drop, decide_eq_true_eq]
    have e1 : ((((L a).length : Nat) : Int) > ((L b).length : Nat)) ↔ (L a).length - i > (L b).length - i := by omega
    have e2 : ((((L a).length : Nat) : Int) < ((L b).length : Nat)) ↔ (L a).length - i < (L b).length - i := by omega
    simp only [e1, e2]
    rw [wrap_ok]
    · split <;> split <;> simp
    · split <;> split <;> simp
  intro k
  induction k with
  | zero =>
    intro i hk hi hj
    have h' : ¬ (i : Int) < ((L a).length : Nat) := by omega
    rw [f70_L0_eq guardT rfl]
    simp only [len22 a, b_lss, obind, h', decide_false, guard_ft, pickV_false, condK_false]
    have := fin i hi hj (.inl (by omega))
    simpa only [len22 a, b_lss, obind] using this
  | succ k ih =>
    intro i hk hi hj
    have h : i < (L a).length := by omega
    have h' : (i : Int) < ((L a).length : Nat) := by omega
    rw [f70_L0_eq guardT rfl]
    simp only [len22 a, b_lss, obind, h', decide_true, guard_tt, len22 b, pickV_true]
    by_cases hb2 : i < (L b).length
    · have hb' : (i : Int) < ((L b).length : Nat) := by omega
      simp only [hb', decide_true, condK_true, idx22 h, idx22 hb2, load3, load1_ints h, load1_ints hb2, obind, b_neq]
      rw [drop_cons h, drop_cons hb2]
      by_cases e : (L a)[i] = (L b)[i]
      · simp only [e, decide_true, Bool.not_true, condK_false, b_add, obind, wrap_succ (show i ≤ 1000000 by omega), firstI, if_true]
        exact ih (i + 1) (by omega) (by omega) (by omega)
      · simp only [e, decide_false, Bool.not_false, condK_true, pureFn_fn, List.append_nil, b_lss, S88, obind, b_mul, b_sub, firstI, if_false, decide_eq_true_eq]
        by_cases e2 : (L a)[i] < (L b)[i]
        · simp [e2, wrap_ok]
        · simp [e2, wrap_ok]
    · have hb' : ¬ (i : Int) < ((L b).length : Nat) := by omega
      simp only [hb', decide_false, condK_false]
      have := fin i hi hj (.inr (by omega))
      simpa only [len22 a, len22 b, b_lss, obind] using this

theorem S70 {a b : Option (List Int)} {σ : Store} (ha : (L a).length ≤ 1000) (hb : (L b).length ≤ 1000) : pureV CC 70 [.p (eSl a), .p (eSl b)] σ = some (.p (pI (firstI (L a) (L b)))) := by
  refine pureV_free (by simp [sl_view]) rfl (F70_call (r := (.p (pI (firstI (L a) (L b))), [])) ?_) rfl
  rw [F70_eq]
  have := L70 (lo := 0) (σ := []) ha hb _ 0 rfl (Nat.zero_le _) (Nat.zero_le _)
  simpa using this

end Go.D
end
/- What the functions on graphs answer: right graphs, errors of pairs. -/
section
set_option linter.unusedVariables false
set_option linter.unusedSimpArgs false
namespace Go.D

theorem load100_D {l : List Edg} {i : Nat} (h : i < l.length) (σ : Store) : (loadN σ 3 (.pptr (eEdgs l) (i * 3))).map DV.agg = some (.agg (edgD (l.getD i default))) := by
  rw [load100_edgs h, List.getD_eq_getElem?_getD, List.getElem?_eq_getElem h]; rfl

/-! ### First index among steps -/
theorem L64 {o : Option (List Edg)} {f : FuncId} {caps : List DV} {σ : Store} {lo : Nat} {q : Edg → Bool} (hl : (L o).length ≤ 10000) (hq : ∀ e, pureV CC f (.agg (edgD e) :: caps) σ = some (.p (.bool (q e)))) :
    ∀ (k i : Nat), (L o).length - i = k → i ≤ (L o).length → f64_L0 guardT lo (.p (eEs o)) (.fn f caps) (.p (pI ((L o).length : Nat))) (.p (pI (i : Nat))) σ = some (.p (pI (idxFrom q ((L o).drop i) i)), σ)
  | 0, i, hk, hi => by
    have : i = (L o).length := by omega
    rw [f64_L0_eq guardT rfl]
    subst this
    simp [b_lss, condK_false, idxFrom]
  | k + 1, i, hk, hi => by
    have h : i < (L o).length := by omega
    have h' : (i : Int) < ((L o).length : Nat) := by omega
    rw [f64_L0_eq guardT rfl]
    have e0 : (L o).getD i default = (L o)[i] := by rw [List.getD_eq_getElem?_getD, List.getElem?_eq_getElem h]; rfl
    simp only [b_lss, obind, h', decide_true, condK_true, idx23 h, load100, load100_D h, e0, pureFn_fn, List.singleton_append, hq]
    rw [drop_cons h]
    cases hqv : q (L o)[i] with
    | true => simp [condK_true, idxFrom, hqv]
    | false =>
      simp only [condK_false, b_add, obind, wrap_succ (show i ≤ 1000000 by omega), idxFrom, hqv, Bool.false_eq_true, if_false]
      exact L64 hl hq k (i + 1) (by omega) (by omega)

theorem S64 {o : Option (List Edg)} {f : FuncId} {caps : List DV} {σ : Store} {q : Edg → Bool} (hl : (L o).length ≤ 10000) (hq : ∀ σ0, AtSt caps σ σ0 → ∀ e, pureV CC f (.agg (edgD e) :: caps) σ0 = some (.p (.bool (q e)))) :
    pureV CC 64 [.p (eEs o), .fn f caps] σ = some (.p (pI (idxFrom q (L o) 0))) := by
  refine pureV_any (by simp [es_view, fn_view]) fun lo σ0 hs => ⟨_, σ0, F64_call (r := (.p (pI (idxFrom q (L o) 0)), σ0)) ?_, rfl⟩
  have hat : AtSt caps σ σ0 := by
    rcases hs with ⟨h1, _, h3⟩ | ⟨h1, _, _⟩
    · exact .inl ⟨h1, by simpa [rowFree] using (by simpa [rowFree] using h3 : _ ∧ _).2⟩
    · exact .inr h1
  rw [F64_eq]
  simp only [len23, obind]
  have := L64 (lo := lo) hl (hq σ0 hat) _ 0 rfl (Nat.zero_le _)
  simpa using this

theorem S78 {o : Option (List Edg)} {f : FuncId} {caps : List DV} {σ : Store} {q : Edg → Bool} (hl : (L o).length ≤ 10000) (hq : ∀ σ0, AtSt caps σ σ0 → ∀ e, pureV CC f (.agg (edgD e) :: caps) σ0 = some (.p (.bool (q e)))) :
    pureV CC 78 [.p (eEs o), .fn f caps] σ = some (.p (.bool ((L o).any q))) := by
  refine pureV_any (by simp [es_view, fn_view]) fun lo σ0 hs => ⟨_, σ0, F78_call (r := (.p (.bool ((L o).any q)), σ0)) ?_, rfl⟩
  have hat : ∀ σ1, AtSt caps σ0 σ1 → AtSt caps σ σ1 := by
    intro σ1 h
    rcases hs with ⟨h1, _, h3⟩ | ⟨h1, _, _⟩
    · rcases h with h | h
      · exact .inl h
      · exact .inl ⟨h.trans h1, by simpa [rowFree] using (by simpa [rowFree] using h3 : _ ∧ _).2⟩
    · rw [← h1]; exact h
  rw [F78_eq]
  simp only [pureFn_fn, List.append_nil, S64 hl fun σ1 h => hq σ1 (hat σ1 h), obind, b_geq, idxFrom_ge]

/-! ### Right graphs -/
abbrev pred (n : Int) : Int := IntKind.wrap .i64 (n - 1)

theorem S90 {σ : Store} {r : Nat} {g : Gr} {v : Int} (h : σ[r]? = some (.mix (eGr g))) : pureV CC 90 [.p (pI v), .ptr r 0] σ = some (.p (.bool (inR v 0 (pred g.n)))) := by
  refine pureV_rows rfl rfl (F90_call (r := (.p (.bool (inR v 0 (pred g.n))), σ)) ?_) rfl
  rw [F90_eq]
  simp only [fa25_0, shift_ptr, obind, load3, load1_ptr (off := 0 + 0) h rfl, b_sub, pureFn_fn, List.append_nil, S53]

def okI (n : Int) (l : List Int) (i : Nat) : Bool := inR (l.getD i 0) 0 (pred n) && (decide (i = 0) || decide (l.getD (i - 1) 0 < l.getD i 0))
def okE (n : Int) (l : List Edg) (i : Nat) : Bool := inR (l.getD i default).f 0 (pred n) && (inR (l.getD i default).t 0 (pred n) && (inR (l.getD i default).a 0 11 && (decide (i = 0) || decide (ordE (l.getD (i - 1) default) (l.getD i default) < 0))))
def allFrom (p : Nat → Bool) : Nat → Nat → Bool
  | _, 0 => true
  | i, k + 1 => p i && allFrom p (i + 1) k
def isG (g : Gr) : Bool := inR g.n 0 400 && decide ((L g.edges).length ≤ 2000) && allFrom (okI g.n (L g.init)) 0 (L g.init).length && allFrom (okE g.n (L g.edges)) 0 (L g.edges).length

theorem L76_0 {g : Gr} {σ : Store} {lo : Nat} (hg : σ[0]? = some (.mix (eGr g))) (hl : (L g.init).length ≤ 1000) :
    ∀ (k i : Nat) (b : Bool), (L g.init).length - i = k → i ≤ (L g.init).length → f76_L0 guardT lo (.ptr 0 0) (.fn 90 [.ptr 0 0]) (.p (.bool b)) (.p (eSl g.init)) (.p (pI ((L g.init).length : Nat))) (.p (pI (i : Nat))) σ =
      f76_L1 guardT lo (.ptr 0 0) (.fn 90 [.ptr 0 0]) (.p (.bool (b && allFrom (okI g.n (L g.init)) i k))) (.p (eEs g.edges)) (.p (pI ((L g.edges).length : Nat))) (.p (pI (0 : Nat))) σ
  | 0, i, b, hk, hi => by
    have : ¬ (i : Int) < ((L g.init).length : Nat) := by omega
    rw [f76_L0_eq guardT rfl]
    simp only [b_lss, obind, this, decide_false, condK_false, fa25_2, shift_ptr, load23, load1_ptr (off := 0 + 2) hg rfl, len23, allFrom, Bool.and_true]
    rfl
  | k + 1, i, b, hk, hi => by
    have h : i < (L g.init).length := by omega
    have h' : (i : Int) < ((L g.init).length : Nat) := by omega
    rw [f76_L0_eq guardT rfl]
    simp only [b_lss, obind, h', decide_true, condK_true, idx22 h, load3, load1_getD h]
    have ih := fun b => L76_0 (lo := lo) hg hl k (i + 1) b (by omega) (by omega)
    cases b with
    | false =>
      simp only [guard_ft, guard_sk, pickV_false, obind, b_add, wrap_succ (show i ≤ 1000000 by omega), Bool.false_and]
      rw [ih]
      simp
    | true =>
      simp only [guard_tt, pureFn_fn, List.singleton_append, S90 hg, obind, pickV_true, allFrom, okI]
      cases hst : inR ((L g.init).getD i 0) 0 (pred g.n) with
      | false =>
        simp only [guard_ft, guard_sk, pickV_false, obind, b_add, wrap_succ (show i ≤ 1000000 by omega), Bool.false_and, Bool.and_false]
        rw [ih]
        simp
      | true =>
        simp only [guard_tt, b_eql, obind]
        by_cases h0 : i = 0
        · have hd : decide ((i : Int) = 0) = true := by simp [h0]
          simp only [hd, guard_tf, guard_sk, obind, pickV_true, b_add, wrap_succ (show i ≤ 1000000 by omega)]
          rw [ih]
          simp [h0]
        · have h0' : ¬ (i : Int) = 0 := by omega
          simp only [h0', decide_false, guard_ff, obind, fa25_1, shift_ptr, load22, load1_ptr (off := 0 + 1) hg rfl, b_sub, wrap_pred (show 0 < i by omega) (show i ≤ 1000000 by omega), idx22 (show i - 1 < (L g.init).length by omega), load3, load1_getD (show i - 1 < (L g.init).length by omega), b_lss, pickV_false, pickV_true, b_add, wrap_succ (show i ≤ 1000000 by omega)]
          rw [ih]
          simp [h0]

theorem store_new100 (σ : Store) (e : Edg) (z : List DV) (hz : z.length = 3) : store PP 0 100 (.ptr σ.length 0) (.agg (edgD e)) (σ ++ [.mix z]) = some (σ ++ [.mix (edgD e)]) := by
  have hone : (edgD e).all DV.one = true := rfl
  have hs : splice z 0 (edgD e) = edgD e := by
    match z, hz with
    | [a, b, c], _ => rfl
  simp [store, s100, DV.cells, storeN, hone, edgD, hz]
  exact ⟨⟨rfl, rfl, rfl⟩, by simpa [edgD] using hs⟩

theorem L76_1 {g : Gr} (hl : (L g.edges).length ≤ 10000) :
    ∀ (k i : Nat) (b : Bool) (σ : Store), σ[0]? = some (.mix (eGr g)) → (L g.edges).length - i = k → i ≤ (L g.edges).length → ∃ σ', f76_L1 guardT 0 (.ptr 0 0) (.fn 90 [.ptr 0 0]) (.p (.bool b)) (.p (eEs g.edges)) (.p (pI ((L g.edges).length : Nat))) (.p (pI (i : Nat))) σ =
      some (.p (.bool (b && allFrom (okE g.n (L g.edges)) i k)), σ')
  | 0, i, b, σ, hg, hk, hi => by
    have : ¬ (i : Int) < ((L g.edges).length : Nat) := by omega
    refine ⟨σ, ?_⟩
    rw [f76_L1_eq guardT rfl]
    simp only [b_lss, obind, this, decide_false, condK_false, allFrom, Bool.and_true]
  | k + 1, i, b, σ, hg, hk, hi => by
    have h : i < (L g.edges).length := by omega
    have h' : (i : Int) < ((L g.edges).length : Nat) := by omega
    rw [f76_L1_eq guardT rfl]
    have hg1 : (σ ++ [Row.mix (edgD ((L g.edges).getD i default))])[0]? = some (.mix (eGr g)) := get_old hg
    have hx : (σ ++ [Row.mix (edgD ((L g.edges).getD i default))])[σ.length]? = some (.mix (edgD ((L g.edges).getD i default))) := get_snoc
    have ih := fun b => L76_1 hl k (i + 1) b _ hg1 (by omega) (by omega)
    simp only [b_lss, obind, h', decide_true, condK_true, idx23 h, load100, load100_D h, zero100, store_new100 σ ((L g.edges).getD i default) [.p (pI 0), .p (pI 0), .p (pI 0)] rfl]
    generalize hρ : σ ++ [Row.mix (edgD ((L g.edges).getD i default))] = ρ at *
    have w : IntKind.wrap .i64 ((i : Int) + 1) = ((i + 1 : Nat) : Int) := wrap_succ (by omega)
    cases b with
    | false =>
      simp only [guard_ft, guard_sk, pickV_false, obind, b_add, w, Bool.false_and]
      obtain ⟨σ', h1⟩ := ih false
      exact ⟨σ', by rw [h1]; simp⟩
    | true =>
      simp only [guard_tt, fa100_0, fa100_1, fa100_2, shift_ptr, obind, load3, load1_ptr (off := 0 + 0) hx rfl, pureFn_fn, List.singleton_append, S90 hg1, pickV_true, allFrom, okE]
      cases h1 : inR ((L g.edges).getD i default).f 0 (pred g.n) with
      | false =>
        simp only [guard_ft, guard_sk, pickV_false, obind, b_add, w, Bool.false_and, Bool.and_false]
        obtain ⟨σ', h1⟩ := ih false
        exact ⟨σ', by rw [h1]; simp⟩
      | true =>
        simp only [guard_tt, obind, load1_ptr (off := 0 + 1) hx rfl, pureFn_fn, List.singleton_append, S90 hg1, pickV_true]
        cases h2 : inR ((L g.edges).getD i default).t 0 (pred g.n) with
        | false =>
          simp only [guard_ft, guard_sk, pickV_false, obind, b_add, w, Bool.false_and, Bool.and_false, Bool.true_and]
          obtain ⟨σ', h1⟩ := ih false
          exact ⟨σ', by rw [h1]; simp⟩
        | true =>
          simp only [guard_tt, obind, load1_ptr (off := 0 + 2) hx rfl, pureFn_fn, List.append_nil, S53, pickV_true]
          cases h3 : inR ((L g.edges).getD i default).a 0 11 with
          | false =>
            simp only [guard_ft, guard_sk, pickV_false, obind, b_add, w, Bool.false_and, Bool.and_false, Bool.true_and]
            obtain ⟨σ', h1⟩ := ih false
            exact ⟨σ', by rw [h1]; simp⟩
          | true =>
            simp only [guard_tt, b_eql, obind]
            by_cases h0 : i = 0
            · have hd : decide ((i : Int) = 0) = true := by simp [h0]
              simp only [hd, guard_tf, guard_sk, obind, pickV_true, b_add, w]
              obtain ⟨σ', h1⟩ := ih true
              exact ⟨σ', by rw [h1]; simp [h0]⟩
            · have h0' : ¬ (i : Int) = 0 := by omega
              have hi1 : i - 1 < (L g.edges).length := by omega
              simp only [h0', decide_false, guard_ff, obind, fa25_2, shift_ptr, load23, load1_ptr (off := 0 + 2) hg1 rfl, b_sub, wrap_pred (show 0 < i by omega) (show i ≤ 1000000 by omega), idx23 hi1, load100_D hi1,
                loadN_ptr (off := 0) (n := 3) (vs := edgD ((L g.edges).getD i default)) hx rfl (by simp [edgD]), omap, pureFn_fn, List.append_nil, S91, b_lss, pickV_false, pickV_true, b_add, w]
              obtain ⟨σ', h1⟩ := ih (decide (ordE ((L g.edges).getD (i - 1) default) ((L g.edges).getD i default) < 0))
              exact ⟨σ', by rw [h1]; simp [h0]⟩

theorem box_gr (g : Gr) : boxV (.agg (eGr g)) = some (eGr g) := rfl
theorem gr_view (g : Gr) : view (.agg (eGr g)) = .agg (eGr g) := by simp [view, viewCell, eGr, loosen_sl, loosen_es, loosen]

/-- Of a right graph all is looked at; a wrong one is one. -/
theorem S76 {g : Gr} {σ : Store} (hl : (L g.init).length ≤ 1000) (hl2 : (L g.edges).length ≤ 10000) : pureV CC 76 [.agg (eGr g)] σ = some (.p (.bool (isG g))) := by
  have g0 : ([Row.mix (eGr g)] : Store)[0]? = some (.mix (eGr g)) := rfl
  have key : ∀ b, ∃ σ', f76_L0 guardT 0 (.ptr 0 0) (.fn 90 [.ptr 0 0]) (.p (.bool b)) (.p (eSl g.init)) (.p (pI ((L g.init).length : Nat))) (.p (pI (0 : Nat))) [Row.mix (eGr g)] = some (.p (.bool (b && allFrom (okI g.n (L g.init)) 0 (L g.init).length && allFrom (okE g.n (L g.edges)) 0 (L g.edges).length)), σ') := by
    intro b
    rw [L76_0 g0 hl _ 0 b rfl (Nat.zero_le _)]
    exact L76_1 hl2 _ 0 _ _ g0 rfl (Nat.zero_le _)
  refine pureV_any (by simp [gr_view]) fun lo σ0 hs => ?_
  rcases hs with ⟨rfl, rfl, _⟩ | ⟨_, _, h⟩
  case inr => exact absurd h (by simp [rowFree, rowFree1, eGr])
  have hF : ∃ σ', F76 guardT 0 (.agg (eGr g)) [] = some (.p (.bool (isG g)), σ') := by
    rw [F76_eq]
    simp only [box_gr, obind, List.length_nil, List.nil_append, fa25_0, fa25_1, fa25_2, shift_ptr, load3, load22, load23, load1_ptr (off := 0 + 0) g0 rfl, load1_ptr (off := 0 + 1) g0 rfl, load1_ptr (off := 0 + 2) g0 rfl, pureFn_fn, List.append_nil, S53, len22, len23]
    cases h1 : inR g.n 0 400 with
    | false =>
      simp only [guard_ft, guard_sk, pickV_false, obind, load1_ptr (off := 0 + 1) g0 rfl, len22]
      obtain ⟨σ', h⟩ := key false
      exact ⟨σ', by simpa [isG, h1] using h⟩
    | true =>
      simp only [guard_tt, pickV_true, obind, load1_ptr (off := 0 + 2) g0 rfl, len23, b_leq, load1_ptr (off := 0 + 1) g0 rfl, len22]
      obtain ⟨σ', h⟩ := key (decide (((L g.edges).length : Int) ≤ 2000))
      refine ⟨σ', ?_⟩
      have e : decide (((L g.edges).length : Int) ≤ 2000) = decide ((L g.edges).length ≤ 2000) := by
        simp only [decide_eq_decide]; omega
      rw [e] at h ⊢
      simpa [isG, h1, Bool.and_assoc] using h
  obtain ⟨σ', h⟩ := hF
  exact ⟨_, σ', F76_call h, rfl⟩

end Go.D
end
/- The reference's right graphs; errors of pairs, in the program and in the reference. -/
section
set_option linter.unusedVariables false
set_option linter.unusedSimpArgs false
namespace Go.D

theorem allFrom_iff {p : Nat → Bool} : ∀ (k i : Nat), allFrom p i k = true ↔ ∀ j, i ≤ j → j < i + k → p j = true
  | 0, i => by simp [allFrom]; omega
  | k + 1, i => by
    simp only [allFrom, Bool.and_eq_true, allFrom_iff k (i + 1)]
    constructor
    · rintro ⟨h1, h2⟩ j hj hk
      rcases Nat.eq_or_lt_of_le hj with e | e
      · rw [← e]; exact h1
      · exact h2 j e (by omega)
    · intro h
      exact ⟨h i (Nat.le_refl _) (by omega), fun j hj hk => h j (by omega) (by omega)⟩

theorem ordE_first (a b : Edg) : decide (firstI [a.f, a.t, a.a] [b.f, b.t, b.a] ≥ 0) = !decide (ordE a b < 0) := by
  simp only [firstI, ordE, orL, cmpI, List.length_nil]
  by_cases h1 : a.f < b.f
  · have : ¬ a.f = b.f := by omega
    simp [h1, this]
  · by_cases h2 : a.f > b.f
    · have : ¬ a.f = b.f := by omega
      simp [h1, h2, this]
    · have e1 : a.f = b.f := by omega
      by_cases h3 : a.t < b.t
      · have : ¬ a.t = b.t := by omega
        simp [h3, this, e1]
      · by_cases h4 : a.t > b.t
        · have : ¬ a.t = b.t := by omega
          simp [h3, h4, this, e1]
        · have e2 : a.t = b.t := by omega
          by_cases h5 : a.a < b.a
          · have : ¬ a.a = b.a := by omega
            simp [h5, this, e1, e2]
          · by_cases h6 : a.a > b.a
            · have : ¬ a.a = b.a := by omega
              simp [h5, h6, this, e1, e2]
            · have e3 : a.a = b.a := by omega
              simp [e1, e2, e3]

theorem L48_1 {g : Gr} (hl : (L g.edges).length ≤ 10000) :
    ∀ (k i : Nat) (σ : Store), σ[0]? = some (.mix (eGr g)) → (L g.edges).length - i = k → i ≤ (L g.edges).length → ∃ σ', f48_L1 guardT 0 (.ptr 0 0) (.p (pI (i : Nat))) σ =
      some (.p (.bool (allFrom (okE g.n (L g.edges)) i k)), σ')
  | 0, i, σ, hg, hk, hi => by
    have : ¬ (i : Int) < ((L g.edges).length : Nat) := by omega
    refine ⟨σ, ?_⟩
    rw [f48_L1_eq guardT rfl]
    simp only [fa25_2, shift_ptr, load23, load1_ptr (off := 0 + 2) hg rfl, len23, b_lss, obind, this, decide_false, condK_false, allFrom]
  | k + 1, i, σ, hg, hk, hi => by
    have h : i < (L g.edges).length := by omega
    have h' : (i : Int) < ((L g.edges).length : Nat) := by omega
    rw [f48_L1_eq guardT rfl]
    have hg1 : (σ ++ [Row.mix (edgD ((L g.edges).getD i default))])[0]? = some (.mix (eGr g)) := get_old hg
    have hx : (σ ++ [Row.mix (edgD ((L g.edges).getD i default))])[σ.length]? = some (.mix (edgD ((L g.edges).getD i default))) := get_snoc
    have ih := L48_1 hl k (i + 1) _ hg1 (by omega) (by omega)
    simp only [fa25_2, shift_ptr, load23, load1_ptr (off := 0 + 2) hg rfl, len23, b_lss, obind, h', decide_true, condK_true, idx23 h, load100, load100_D h, zero100, store_new100 σ ((L g.edges).getD i default) [.p (pI 0), .p (pI 0), .p (pI 0)] rfl]
    generalize hρ : σ ++ [Row.mix (edgD ((L g.edges).getD i default))] = ρ at *
    have w : IntKind.wrap .i64 ((i : Int) + 1) = ((i + 1 : Nat) : Int) := wrap_succ (by omega)
    simp only [fa100_0, fa100_1, fa100_2, fa25_0, shift_ptr, obind, load3, load1_ptr (off := 0 + 0) hx rfl, load1_ptr (off := 0 + 0) hg1 rfl, b_sub, pureFn_fn, List.append_nil, S22, not_bool, allFrom, okE]
    cases h1 : inR ((L g.edges).getD i default).f 0 (pred g.n) with
    | false => exact ⟨ρ, by simp only [Bool.not_false, guard_tf, guard_sk, pickV_true, obind, condK_true, Bool.false_and]⟩
    | true =>
      simp only [Bool.not_true, guard_ff, obind, load1_ptr (off := 0 + 1) hx rfl, load1_ptr (off := 0 + 0) hg1 rfl, b_sub, pureFn_fn, List.append_nil, S22, not_bool, pickV_false, shift_ptr, fa25_0, load3]
      cases h2 : inR ((L g.edges).getD i default).t 0 (pred g.n) with
      | false => exact ⟨ρ, by simp only [Bool.not_false, guard_tf, guard_sk, pickV_true, obind, condK_true, Bool.false_and, Bool.and_false]⟩
      | true =>
        simp only [Bool.not_true, guard_ff, obind, load1_ptr (off := 0 + 2) hx rfl, pureFn_fn, List.append_nil, S22, not_bool, pickV_false, shift_ptr, load3]
        cases h3 : inR ((L g.edges).getD i default).a 0 11 with
        | false => exact ⟨ρ, by simp only [Bool.not_false, guard_tf, guard_sk, pickV_true, obind, condK_true, Bool.false_and, Bool.and_false]⟩
        | true =>
          simp only [Bool.not_true, guard_ff, obind, b_gtr, pickV_false]
          by_cases h0 : i = 0
          · have hd : decide ((i : Int) > 0) = false := by simp [h0]
            simp only [hd, guard_ft, guard_sk, pickV_false, obind, condK_false, b_add, w]
            obtain ⟨σ', h4⟩ := ih
            exact ⟨σ', by rw [h4]; simp [h0]⟩
          · have hd : decide ((i : Int) > 0) = true := by simp; omega
            have hi1 : i - 1 < (L g.edges).length := by omega
            simp only [hd, guard_tt, obind, load1_ptr (off := 0 + 2) hg1 rfl, shift_ptr, load23, b_sub, wrap_pred (show 0 < i by omega) (show i ≤ 1000000 by omega), idx23 hi1, load100_D hi1, pureFn_fn, List.append_nil, S82,
              loadN_ptr (off := 0) (n := 3) (vs := edgD ((L g.edges).getD i default)) hx rfl (by simp [edgD]), omap]
            rw [S70 (by simp) (by simp)]
            simp only [obind, b_geq, pickV_true, Option.getD_some, ordE_first]
            cases h5 : decide (ordE ((L g.edges).getD (i - 1) default) ((L g.edges).getD i default) < 0) with
            | false => exact ⟨ρ, by simp only [Bool.not_false, condK_true]; simp [h0]⟩
            | true =>
              simp only [Bool.not_true, condK_false, b_add, obind, w]
              obtain ⟨σ', h4⟩ := ih
              exact ⟨σ', by rw [h4]; simp [h0]⟩

end Go.D
end
/- The reference's right graphs: the end of it. -/
section
set_option linter.unusedVariables false
set_option linter.unusedSimpArgs false
namespace Go.D

theorem L48_0 {g : Gr} {σ : Store} (hg : σ[0]? = some (.mix (eGr g))) (hl : (L g.init).length ≤ 1000) :
    ∀ (k i : Nat), (L g.init).length - i = k → i ≤ (L g.init).length → f48_L0 guardT 0 (.ptr 0 0) (.p (pI (i : Nat))) σ =
      bif allFrom (okI g.n (L g.init)) i k then f48_L1 guardT 0 (.ptr 0 0) (.p (pI (0 : Nat))) σ else some (.p (.bool false), σ)
  | 0, i, hk, hi => by
    have : ¬ (i : Int) < ((L g.init).length : Nat) := by omega
    rw [f48_L0_eq guardT rfl]
    simp only [fa25_1, shift_ptr, load22, load1_ptr (off := 0 + 1) hg rfl, len22, b_lss, obind, this, decide_false, condK_false, allFrom, cond_true]
    rfl
  | k + 1, i, hk, hi => by
    have h : i < (L g.init).length := by omega
    have h' : (i : Int) < ((L g.init).length : Nat) := by omega
    have ih := L48_0 hg hl k (i + 1) (by omega) (by omega)
    rw [f48_L0_eq guardT rfl]
    simp only [fa25_0, fa25_1, shift_ptr, load22, load1_ptr (off := 0 + 1) hg rfl, len22, b_lss, obind, h', decide_true, condK_true, idx22 h, load3, load1_getD h, load1_ptr (off := 0 + 0) hg rfl, b_sub, pureFn_fn, List.append_nil, S22, not_bool, allFrom, okI]
    cases hst : inR ((L g.init).getD i 0) 0 (pred g.n) with
    | false => simp only [Bool.not_false, guard_tf, guard_sk, pickV_true, obind, condK_true, Bool.false_and, cond_false]
    | true =>
      simp only [Bool.not_true, guard_ff, obind, b_gtr]
      by_cases h0 : i = 0
      · have hd : decide ((i : Int) > 0) = false := by simp [h0]
        simp only [hd, guard_ft, guard_sk, obind, pickV_false, condK_false, b_add, wrap_succ (show i ≤ 1000000 by omega)]
        rw [ih]
        simp [h0]
      · have hd : decide ((i : Int) > 0) = true := by simp; omega
        have hi1 : i - 1 < (L g.init).length := by omega
        simp only [hd, guard_tt, obind, fa25_1, shift_ptr, load22, load1_ptr (off := 0 + 1) hg rfl, idx22 h, load3, load1_getD h, b_sub, wrap_pred (show 0 < i by omega) (show i ≤ 1000000 by omega), idx22 hi1, load1_getD hi1, b_leq, pickV_false, pickV_true]
        by_cases hlt : (L g.init).getD (i - 1) 0 < (L g.init).getD i 0
        · have hle : ¬ (L g.init).getD i 0 ≤ (L g.init).getD (i - 1) 0 := by omega
          simp only [hle, hlt, decide_false, decide_true, condK_false, b_add, obind, wrap_succ (show i ≤ 1000000 by omega), Bool.or_true, Bool.true_and]
          exact ih
        · have hle : (L g.init).getD i 0 ≤ (L g.init).getD (i - 1) 0 := by omega
          simp only [hle, hlt, decide_false, decide_true, condK_true, Bool.or_false, h0, Bool.true_and, Bool.false_and, cond_false]

theorem init_le {g : Gr} (hn : inR g.n 0 400 = true) (h : allFrom (okI g.n (L g.init)) 0 (L g.init).length = true) : ((L g.init).length : Int) ≤ g.n := by
  have h1 := (allFrom_iff _ _).1 h
  have hn' : 0 ≤ g.n ∧ g.n ≤ 400 := by simpa [inR] using hn
  have hp : pred g.n = g.n - 1 := wrap_ok (by omega) (by omega)
  have key : ∀ i, i < (L g.init).length → (i : Int) ≤ (L g.init).getD i 0 ∧ (L g.init).getD i 0 ≤ g.n - 1 := by
    intro i
    induction i with
    | zero =>
      intro hi
      have := h1 0 (Nat.le_refl _) (by omega)
      simp only [okI, hp, inR, Bool.and_eq_true, decide_eq_true_eq] at this
      omega
    | succ i ih =>
      intro hi
      have h2 := h1 (i + 1) (by omega) (by omega)
      have h3 := ih (by omega)
      simp only [okI, hp, inR, Bool.and_eq_true, Bool.or_eq_true, decide_eq_true_eq, Nat.add_sub_cancel] at h2
      omega
  rcases Nat.eq_zero_or_pos (L g.init).length with e | e
  · omega
  · have := key ((L g.init).length - 1) (by omega)
    omega

theorem S48 {g : Gr} {σ : Store} (hl : (L g.init).length ≤ 1000) (hl2 : (L g.edges).length ≤ 10000) : pureV CC 48 [.agg (eGr g)] σ = some (.p (.bool (isG g))) := by
  have g0 : ([Row.mix (eGr g)] : Store)[0]? = some (.mix (eGr g)) := rfl
  refine pureV_any (by simp [gr_view]) fun lo σ0 hs => ?_
  rcases hs with ⟨rfl, rfl, _⟩ | ⟨_, _, h⟩
  case inr => exact absurd h (by simp [rowFree, rowFree1, eGr])
  have hF : ∃ σ', F48 guardT 0 (.agg (eGr g)) [] = some (.p (.bool (isG g)), σ') := by
    rw [F48_eq]
    simp only [box_gr, obind, List.length_nil, List.nil_append, fa25_0, fa25_1, fa25_2, shift_ptr, load3, load22, load23, load1_ptr (off := 0 + 0) g0 rfl, pureFn_fn, List.append_nil, S22, not_bool]
    cases h1 : inR g.n 0 400 with
    | false => exact ⟨[Row.mix (eGr g)], by simp only [Bool.not_false, guard_tf, guard_sk, pickV_true, obind, condK_true, isG, h1, Bool.false_and]⟩
    | true =>
      simp only [Bool.not_true, guard_ff, obind, load1_ptr (off := 0 + 1) g0 rfl, load1_ptr (off := 0 + 0) g0 rfl, len22, b_gtr, pickV_false]
      by_cases h2 : ((L g.init).length : Int) > g.n
      · have hf : isG g = false := by
          cases hx : isG g with
          | false => rfl
          | true =>
            simp only [isG, Bool.and_eq_true] at hx
            have := init_le hx.1.1.1 hx.1.2
            omega
        exact ⟨[Row.mix (eGr g)], by simp only [h2, decide_true, guard_tf, guard_sk, pickV_true, obind, condK_true, hf]⟩
      · simp only [h2, decide_false, guard_ff, obind, load1_ptr (off := 0 + 2) g0 rfl, len23, b_gtr, pickV_false]
        by_cases h3 : (L g.edges).length ≤ 2000
        · have h3' : ¬ ((L g.edges).length : Int) > 2000 := by omega
          simp only [h3', decide_false, condK_false]
          obtain ⟨σ', h4⟩ := L48_1 hl2 _ 0 _ g0 rfl (Nat.zero_le _)
          have h5 : f48_L0 guardT 0 (.ptr 0 0) (.p (pI 0)) [Row.mix (eGr g)] = bif allFrom (okI g.n (L g.init)) 0 (L g.init).length then f48_L1 guardT 0 (.ptr 0 0) (.p (pI (0 : Nat))) [Row.mix (eGr g)] else some (.p (.bool false), [Row.mix (eGr g)]) := L48_0 g0 hl _ 0 rfl (Nat.zero_le _)
          rw [h5]
          cases h6 : allFrom (okI g.n (L g.init)) 0 (L g.init).length with
          | false => exact ⟨[Row.mix (eGr g)], by simp [isG, h6]⟩
          | true =>
            rw [cond_true, h4]
            exact ⟨σ', by simp [isG, h1, h3, h6]⟩
        · have h3' : ((L g.edges).length : Int) > 2000 := by omega
          exact ⟨[Row.mix (eGr g)], by simp only [h3', decide_true, condK_true]; simp [isG, h3]⟩
  obtain ⟨σ', h⟩ := hF
  exact ⟨_, σ', F48_call h, rfl⟩

end Go.D
end
/- Errors of pairs, in the program and in the reference. -/
section
set_option linter.unusedVariables false
set_option linter.unusedSimpArgs false
namespace Go.D

structure Small (p : Pair) : Prop where
  li : (L p.lo.init).length ≤ 1000
  le : (L p.lo.edges).length ≤ 10000
  ui : (L p.up.init).length ≤ 1000
  ue : (L p.up.edges).length ≤ 10000
  ll : (L p.ll).length ≤ 1000
  ul : (L p.ul).length ≤ 1000

theorem len122 (o : Option (List Int)) (σ : Store) : len PP 122 (.p (eSl o)) σ = some (.p (.int .i64 ((L o).length : Nat))) := by cases o <;> simp [len, u122, eSl]
theorem idx122 {o : Option (List Int)} {i : Nat} (h : i < (L o).length) : indexAddr PP 122 (.p (eSl o)) (.p (.int .i64 (i : Nat))) = some (.pptr (eInts (L o)) i) := by
  cases o with
  | none => simp at h
  | some l =>
    have h2 : (0 : Int) ≤ (i : Int) ∧ (i : Int) < (l.length : Nat) := by simp at h; omega
    simp [indexAddr, u122, s30, eSl, h2]

theorem L54 {o : Option (List Int)} {σ : Store} {lo : Nat} (hl : (L o).length ≤ 1000) :
    ∀ (k i : Nat), (L o).length - i = k → i ≤ (L o).length → f54_L0 guardT lo (.p (eSl o)) (.p (pI ((L o).length : Nat))) (.p (pI (i : Nat))) σ = some (.p (pI (orL ((L o).drop i))), σ)
  | 0, i, hk, hi => by
    have : i = (L o).length := by omega
    rw [f54_L0_eq guardT rfl]
    subst this
    simp [b_lss, condK_false, orL]
  | k + 1, i, hk, hi => by
    have h : i < (L o).length := by omega
    have h' : (i : Int) < ((L o).length : Nat) := by omega
    rw [f54_L0_eq guardT rfl]
    simp only [b_lss, obind, h', decide_true, condK_true, idx122 h, load30, load1_ints h, b_neq]
    rw [drop_cons h]
    by_cases hqv : (L o)[i] = 0
    · simp only [hqv, decide_true, Bool.not_true, condK_false, b_add, obind, wrap_succ (show i ≤ 1000000 by omega), orL, if_true]
      exact L54 hl k (i + 1) (by omega) (by omega)
    · simp [condK_true, orL, hqv]

theorem S54 {o : Option (List Int)} {σ : Store} (hl : (L o).length ≤ 1000) : pureV CC 54 [.p (eSl o)] σ = some (.p (pI (orL (L o)))) := by
  refine pureV_free (by simp [sl_view]) rfl (F54_call (r := (.p (pI (orL (L o))), [])) ?_) rfl
  rw [F54_eq]
  simp only [len122, obind]
  have := L54 (lo := 0) (σ := []) hl _ 0 rfl (Nat.zero_le _)
  simpa using this

theorem bs122_4 (x y z u : Int) (σ : Store) : buildSlice PP none 122 4 [(0, .p (pI x)), (1, .p (pI y)), (2, .p (pI z)), (3, .p (pI u))] σ = some (.p (.sl true 4 (eInts [x, y, z, u])), σ) := Eq.trans (by kernel_rfl) rfl
theorem bs122_3 (x y z : Int) (σ : Store) : buildSlice PP none 122 3 [(0, .p (pI x)), (1, .p (pI y)), (2, .p (pI z))] σ = some (.p (.sl true 3 (eInts [x, y, z])), σ) := Eq.trans (by kernel_rfl) rfl

theorem S54t {l : List Int} {n : Nat} {σ : Store} (hn : n = l.length) (hl : l.length ≤ 1000) : pureV CC 54 [.p (.sl true n (eInts l))] σ = some (.p (pI (orL l))) := by
  rw [pureV_view (args' := [.p (eSl (some l))]) (by subst hn; simp [view, viewCell, loosen, loosens_ints, eSl]) (by simp [sl_view])]
  exact S54 (o := some l) hl

/-- The error of a pair. -/
def badL (l : List Int) : Bool := l.any fun n => !inR n 0 10000
def e1P (p : Pair) : Int := if isG p.lo && isG p.up then 0 else 5
def e2P (p : Pair) : Int := if decide (p.lo.n ≤ 40) && decide (p.up.n ≤ 40) then 0 else 2
def e3P (p : Pair) : Int := if decide (((L p.ll).length : Int) = p.lo.n) && decide (((L p.ul).length : Int) = p.up.n) then 0 else 6
def e4P (p : Pair) : Int := if !badL (L p.ll) && !badL (L p.ul) then 0 else 3
def errP (p : Pair) : Int := orL [e1P p, e2P p, e3P p, e4P p]

theorem box_pair (p : Pair) : boxV (.agg (ePair p)) = some (ePair p) := rfl
theorem pair_view (p : Pair) : view (.agg (ePair p)) = .agg (ePair p) := by simp [view, viewCell, ePair, loosen_sl, loosen_es, loosen]

section
variable {p : Pair} {σ : Store} {r : Nat} (h : σ[r]? = some (.mix (ePair p)))
include h
theorem pr_lo : loadN σ 3 (.ptr r 0) = some (eGr p.lo) := loadN_ptr h rfl (by simp [ePair])
theorem pr_up : loadN σ 3 (.ptr r 3) = some (eGr p.up) := loadN_ptr h rfl (by simp [ePair])
theorem pr_all : loadN σ 8 (.ptr r 0) = some (ePair p) := loadN_ptr h rfl (by simp [ePair])
theorem pr_0 : load1 (.ptr r 0) σ = some (.p (pI p.lo.n)) := load1_ptr h rfl
theorem pr_1 : load1 (.ptr r 1) σ = some (.p (eSl p.lo.init)) := load1_ptr h rfl
theorem pr_2 : load1 (.ptr r 2) σ = some (.p (eEs p.lo.edges)) := load1_ptr h rfl
theorem pr_3 : load1 (.ptr r 3) σ = some (.p (pI p.up.n)) := load1_ptr h rfl
theorem pr_4 : load1 (.ptr r 4) σ = some (.p (eSl p.up.init)) := load1_ptr h rfl
theorem pr_5 : load1 (.ptr r 5) σ = some (.p (eEs p.up.edges)) := load1_ptr h rfl
theorem pr_6 : load1 (.ptr r 6) σ = some (.p (eSl p.ll)) := load1_ptr h rfl
theorem pr_7 : load1 (.ptr r 7) σ = some (.p (eSl p.ul)) := load1_ptr h rfl
end

theorem S41 {p : Pair} {σ : Store} (hp : Small p) : pureV CC 41 [.agg (ePair p)] σ = some (.p (pI (errP p))) := by
  refine pureV_any (by simp [pair_view]) fun lo σ0 hs => ?_
  rcases hs with ⟨rfl, rfl, _⟩ | ⟨_, _, h⟩
  case inr => exact absurd h (by simp [rowFree, rowFree1, ePair])
  have g0 : ([Row.mix (ePair p)] : Store)[0]? = some (.mix (ePair p)) := rfl
  have hb : ∀ (o : Option (List Int)) (σ : Store), (L o).length ≤ 1000 → pureV CC 51 [.p (eSl o), .fn 75 []] σ = some (.p (.bool (badL (L o)))) := fun o σ hl => S51 hl fun σ0 _ v => S75 v σ0
  have hF : F41 guardT 0 (.agg (ePair p)) [] = some (.p (pI (errP p)), [Row.mix (ePair p)]) := by
    rw [F41_eq]
    simp only [box_pair, obind, List.length_nil, List.nil_append, fa27_0, fa27_1, fa27_2, fa27_3, fa25_0, shift_ptr, Nat.zero_add, Nat.add_zero, load3, load22, load25, pr_lo g0, omap, pureFn_fn, List.append_nil, S76 hp.li hp.le]
    have hfin : ∀ a b c d : Int, (buildSlice PP none 122 4 [(0, .p (pI a)), (1, .p (pI b)), (2, .p (pI c)), (3, .p (pI d))] [Row.mix (ePair p)]).bind (fun r => (pureV CC 54 [r.1] r.2).bind fun x55 => some (x55, r.2)) = some (.p (pI (orL [a, b, c, d])), [Row.mix (ePair p)]) := by
      intro a b c d
      rw [bs122_4]
      rw [obind, S54t (l := [a, b, c, d]) (n := 4) rfl (by simp)]
      rfl
    cases h1 : isG p.lo <;> simp only [guard_tt, guard_ft, guard_sk, obind, pickV_true, pickV_false, fa27_0, fa27_1, fa27_2, fa27_3, fa25_0, shift_ptr, Nat.zero_add, Nat.add_zero, load3, load22, load25, pureFn_fn, List.append_nil, omap, pr_0 g0, pr_3 g0, pr_6 g0, pr_7 g0, pr_up g0, len22, b_leq, b_eql, not_bool, Bool.not_true, Bool.not_false, S56, S76 hp.ui hp.ue, hb _ _ hp.ll, hb _ _ hp.ul] <;>
      cases h2 : decide (p.lo.n ≤ 40) <;> simp only [guard_tt, guard_ft, guard_sk, obind, pickV_true, pickV_false, fa27_0, fa27_1, fa27_2, fa27_3, fa25_0, shift_ptr, Nat.zero_add, Nat.add_zero, load3, load22, load25, pureFn_fn, List.append_nil, omap, pr_0 g0, pr_3 g0, pr_6 g0, pr_7 g0, pr_up g0, len22, b_leq, b_eql, not_bool, Bool.not_true, Bool.not_false, S56, S76 hp.ui hp.ue, hb _ _ hp.ll, hb _ _ hp.ul] <;>
      cases h3 : decide (((L p.ll).length : Int) = p.lo.n) <;> simp only [guard_tt, guard_ft, guard_sk, obind, pickV_true, pickV_false, fa27_0, fa27_1, fa27_2, fa27_3, fa25_0, shift_ptr, Nat.zero_add, Nat.add_zero, load3, load22, load25, pureFn_fn, List.append_nil, omap, pr_0 g0, pr_3 g0, pr_6 g0, pr_7 g0, pr_up g0, len22, b_leq, b_eql, not_bool, Bool.not_true, Bool.not_false, S56, S76 hp.ui hp.ue, hb _ _ hp.ll, hb _ _ hp.ul] <;>
      cases h4 : badL (L p.ll) <;> simp only [guard_tt, guard_ft, guard_sk, obind, pickV_true, pickV_false, fa27_0, fa27_1, fa27_2, fa27_3, fa25_0, shift_ptr, Nat.zero_add, Nat.add_zero, load3, load22, load25, pureFn_fn, List.append_nil, omap, pr_0 g0, pr_3 g0, pr_6 g0, pr_7 g0, pr_up g0, len22, b_leq, b_eql, not_bool, Bool.not_true, Bool.not_false, S56, S76 hp.ui hp.ue, hb _ _ hp.ll, hb _ _ hp.ul, hfin, errP, e1P, e2P, e3P, e4P, h1, h2, h3, h4, Bool.true_and, Bool.false_and]
  exact ⟨_, _, F41_call hF, rfl⟩

end Go.D
end
/- The reference's errors of pairs; errors of paths. -/
section
set_option linter.unusedVariables false
set_option linter.unusedSimpArgs false
namespace Go.D

theorem L15_1 {p : Pair} {σ : Store} (h0 : σ[0]? = some (.mix (ePair p))) (hl : (L p.ul).length ≤ 1000) :
    ∀ (k i : Nat), (L p.ul).length - i = k → i ≤ (L p.ul).length → f15_L1 guardT 0 (.ptr 0 0) (.p (pI (i : Nat))) σ = some (.p (pI (bif badL ((L p.ul).drop i) then 3 else 0)), σ)
  | 0, i, hk, hi => by
    have : i = (L p.ul).length := by omega
    rw [f15_L1_eq guardT rfl]
    subst this
    simp [fa27_3, shift_ptr, load22, pr_7 h0, len22, b_lss, condK_false, badL]
  | k + 1, i, hk, hi => by
    have h : i < (L p.ul).length := by omega
    have h' : (i : Int) < ((L p.ul).length : Nat) := by omega
    rw [f15_L1_eq guardT rfl]
    simp only [fa27_3, shift_ptr, Nat.zero_add, load22, pr_7 h0, len22, b_lss, obind, h', decide_true, condK_true, idx22 h, load3, load1_ints h, pureFn_fn, List.append_nil, S22, not_bool]
    rw [drop_cons h]
    cases hqv : inR (L p.ul)[i] 0 10000 with
    | false => simp only [Bool.not_false, condK_true, badL, List.any_cons, hqv, Bool.true_or, cond_true]
    | true =>
      simp only [Bool.not_true, condK_false, b_add, obind, wrap_succ (show i ≤ 1000000 by omega), badL, List.any_cons, hqv, Bool.false_or]
      exact L15_1 h0 hl k (i + 1) (by omega) (by omega)

theorem L15_0 {p : Pair} {σ : Store} (h0 : σ[0]? = some (.mix (ePair p))) (hl : (L p.ll).length ≤ 1000) :
    ∀ (k i : Nat), (L p.ll).length - i = k → i ≤ (L p.ll).length → f15_L0 guardT 0 (.ptr 0 0) (.p (pI (i : Nat))) σ = bif badL ((L p.ll).drop i) then some (.p (pI 3), σ) else f15_L1 guardT 0 (.ptr 0 0) (.p (pI (0 : Nat))) σ
  | 0, i, hk, hi => by
    have : i = (L p.ll).length := by omega
    rw [f15_L0_eq guardT rfl]
    subst this
    simp [fa27_2, shift_ptr, load22, pr_6 h0, len22, b_lss, condK_false, badL]
  | k + 1, i, hk, hi => by
    have h : i < (L p.ll).length := by omega
    have h' : (i : Int) < ((L p.ll).length : Nat) := by omega
    rw [f15_L0_eq guardT rfl]
    simp only [fa27_2, shift_ptr, Nat.zero_add, load22, pr_6 h0, len22, b_lss, obind, h', decide_true, condK_true, idx22 h, load3, load1_ints h, pureFn_fn, List.append_nil, S22, not_bool]
    rw [drop_cons h]
    cases hqv : inR (L p.ll)[i] 0 10000 with
    | false => simp only [Bool.not_false, condK_true, badL, List.any_cons, hqv, Bool.true_or, cond_true]
    | true =>
      simp only [Bool.not_true, condK_false, b_add, obind, wrap_succ (show i ≤ 1000000 by omega), badL, List.any_cons, hqv, Bool.false_or]
      exact L15_0 h0 hl k (i + 1) (by omega) (by omega)

theorem S15 {p : Pair} {σ : Store} (hp : Small p) : pureV CC 15 [.agg (ePair p)] σ = some (.p (pI (errP p))) := by
  refine pureV_any (by simp [pair_view]) fun lo σ0 hs => ?_
  rcases hs with ⟨rfl, rfl, _⟩ | ⟨_, _, h⟩
  case inr => exact absurd h (by simp [rowFree, rowFree1, ePair])
  have g0 : ([Row.mix (ePair p)] : Store)[0]? = some (.mix (ePair p)) := rfl
  have hF : F15 guardT 0 (.agg (ePair p)) [] = some (.p (pI (errP p)), [Row.mix (ePair p)]) := by
    rw [F15_eq]
    simp only [box_pair, obind, List.length_nil, List.nil_append, fa27_0, fa27_1, fa27_2, fa27_3, fa25_0, shift_ptr, Nat.zero_add, Nat.add_zero, load3, load22, load25, pr_lo g0, omap, pureFn_fn, List.append_nil, S48 hp.li hp.le, not_bool]
    cases h1 : isG p.lo with
    | false => simp only [Bool.not_false, guard_tf, guard_sk, obind, pickV_true, condK_true, errP, e1P, h1, Bool.false_and, orL]; rfl
    | true =>
      simp only [Bool.not_true, guard_ff, obind, pickV_false, pr_up g0, omap, S48 hp.ui hp.ue, not_bool]
      cases h2 : isG p.up with
      | false => simp only [Bool.not_false, condK_true, errP, e1P, h1, h2, Bool.and_false, orL]; rfl
      | true =>
        simp only [Bool.not_true, condK_false, pr_0 g0, obind, b_gtr]
        have he1 : e1P p = 0 := by simp [e1P, h1, h2]
        by_cases h3 : p.lo.n > 40
        · have : ¬ p.lo.n ≤ 40 := by omega
          simp only [h3, decide_true, guard_tf, guard_sk, obind, pickV_true, condK_true]
          simp [errP, he1, e2P, this, orL]
        · have h3' : p.lo.n ≤ 40 := by omega
          simp only [h3, decide_false, guard_ff, obind, pickV_false, shift_ptr, Nat.add_zero, pr_3 g0, b_gtr]
          by_cases h4 : p.up.n > 40
          · have : ¬ p.up.n ≤ 40 := by omega
            simp only [h4, decide_true, condK_true]
            simp [errP, he1, e2P, this, orL]
          · have h4' : p.up.n ≤ 40 := by omega
            have he2 : e2P p = 0 := by simp [e2P, h3', h4']
            simp only [h4, decide_false, condK_false, pr_6 g0, obind, len22, pr_0 g0, b_neq]
            by_cases h5 : ((L p.ll).length : Int) = p.lo.n
            · simp only [h5, decide_true, Bool.not_true, guard_ff, obind, pickV_false, pr_7 g0, len22, shift_ptr, Nat.add_zero, pr_3 g0, b_neq]
              by_cases h6 : ((L p.ul).length : Int) = p.up.n
              · have he3 : e3P p = 0 := by simp [e3P, h5, h6]
                simp only [h6, decide_true, Bool.not_true, condK_false]
                have e := L15_0 g0 hp.ll _ 0 rfl (Nat.zero_le _)
                have e' := L15_1 g0 hp.ul _ 0 rfl (Nat.zero_le _)
                simp only [List.drop_zero] at e e'
                have e2 : f15_L0 guardT 0 (.ptr 0 0) (.p (pI 0)) [Row.mix (ePair p)] = bif badL (L p.ll) then some (.p (pI 3), [Row.mix (ePair p)]) else f15_L1 guardT 0 (.ptr 0 0) (.p (pI (0 : Nat))) [Row.mix (ePair p)] := e
                rw [e2, e']
                cases h7 : badL (L p.ll) <;> cases h8 : badL (L p.ul) <;> simp [errP, he1, he2, he3, e4P, h7, h8, orL]
              · simp only [h6, decide_false, Bool.not_false, condK_true]
                simp [errP, he1, he2, e3P, h6, orL]
            · simp only [h5, decide_false, Bool.not_false, guard_tf, guard_sk, obind, pickV_true, condK_true]
              simp [errP, he1, he2, e3P, h5, orL]
  exact ⟨_, _, F15_call hF, rfl⟩

/-! ### Errors of paths -/
theorem S77 {σ : Store} {r : Nat} {g : Gr} {v : Int} (h : σ[r]? = some (.mix (eGr g))) : pureV CC 77 [.p (pI v), .ptr r 0] σ = some (.p (.bool (!inR v 0 (pred g.n)))) := by
  refine pureV_rows rfl rfl (F77_call (r := (.p (.bool (!inR v 0 (pred g.n))), σ)) ?_) rfl
  rw [F77_eq]
  simp only [fa25_0, shift_ptr, obind, load3, load1_ptr (off := 0 + 0) h rfl, b_sub, pureFn_fn, List.append_nil, S53, not_bool]

def stepB (s t : Int) (e : Edg) : Bool := decide (e.f = s) && decide (e.t = t)
theorem S79 {σ : Store} {r1 r2 : Nat} {s t : Int} {e : Edg} (h1 : σ[r1]? = some (.mix [.p (pI s)])) (h2 : σ[r2]? = some (.mix [.p (pI t)])) : pureV CC 79 [.agg (edgD e), .ptr r1 0, .ptr r2 0] σ = some (.p (.bool (stepB s t e))) := by
  refine pureV_rows rfl rfl (F79_call (r := (.p (.bool (stepB s t e)), σ ++ [.mix (edgD e)])) ?_) rfl
  rw [F79_eq]
  have hx : (σ ++ [Row.mix (edgD e)])[σ.length]? = some (.mix (edgD e)) := get_snoc
  have h1' : (σ ++ [Row.mix (edgD e)])[r1]? = some (.mix [.p (pI s)]) := get_old h1
  have h2' : (σ ++ [Row.mix (edgD e)])[r2]? = some (.mix [.p (pI t)]) := get_old h2
  simp only [box_edg, obind, fa100_0, fa100_1, shift_ptr, load3, load1_ptr (off := 0 + 0) hx rfl, load1_ptr (off := 0) h1' rfl, b_eql, stepB]
  by_cases e1 : e.f = s
  · simp only [e1, decide_true, guard_tt, obind, load1_ptr (off := 0 + 1) hx rfl, load1_ptr (off := 0) h2' rfl, b_eql, pickV_true, Bool.true_and]
  · simp only [e1, decide_false, guard_ft, guard_sk, obind, pickV_false, Bool.false_and]

def follows (g : Gr) (s t : Int) : Bool := decide (s = t) || (L g.edges).any (stepB s t)

theorem L50 {g : Gr} {s t : Int} {σ : Store} {lo : Nat} (h0 : σ[0]? = some (.mix (eGr g))) (hl : (L g.edges).length ≤ 10000) :
    ∀ (k i : Nat), (L g.edges).length - i = k → i ≤ (L g.edges).length → f50_L0 guardT lo (.p (pI s)) (.p (pI t)) (.ptr 0 0) (.p (pI (i : Nat))) σ = some (.p (.bool (((L g.edges).drop i).any (stepB s t))), σ)
  | 0, i, hk, hi => by
    have : i = (L g.edges).length := by omega
    rw [f50_L0_eq guardT rfl]
    subst this
    simp [fa25_2, shift_ptr, load23, load1_ptr (off := 2) h0 rfl, len23, b_lss, condK_false]
  | k + 1, i, hk, hi => by
    have h : i < (L g.edges).length := by omega
    have h' : (i : Int) < ((L g.edges).length : Nat) := by omega
    obtain ⟨g1, g2, g3⟩ := edgs_get (L g.edges) i h
    rw [f50_L0_eq guardT rfl]
    simp only [fa25_2, fa100_0, shift_ptr, shift_pptr, Nat.zero_add, Nat.add_zero, load23, load1_ptr (off := 2) h0 rfl, len23, b_lss, obind, h', decide_true, condK_true, idx23 h, load3, load1_pptr g1, b_eql]
    rw [drop_cons h]
    by_cases e1 : (L g.edges)[i].f = s
    · simp only [e1, decide_true, guard_tt, obind, load1_ptr (off := 2) h0 rfl, idx23 h, fa100_1, shift_pptr, load1_pptr g2, b_eql, pickV_true]
      by_cases e2 : (L g.edges)[i].t = t
      · simp only [e2, decide_true, condK_true, List.any_cons, stepB, e1, Bool.true_and, Bool.true_or]
      · simp only [e2, decide_false, condK_false, b_add, obind, wrap_succ (show i ≤ 1000000 by omega), List.any_cons, stepB, Bool.and_false, Bool.false_or]
        exact L50 h0 hl k (i + 1) (by omega) (by omega)
    · simp only [e1, decide_false, guard_ft, guard_sk, obind, pickV_false, condK_false, b_add, wrap_succ (show i ≤ 1000000 by omega), List.any_cons, stepB, Bool.false_and, Bool.false_or]
      exact L50 h0 hl k (i + 1) (by omega) (by omega)

theorem S50 {g : Gr} {s t : Int} {σ : Store} (hl : (L g.edges).length ≤ 10000) : pureV CC 50 [.agg (eGr g), .p (pI s), .p (pI t)] σ = some (.p (.bool (follows g s t))) := by
  refine pureV_any (by simp [gr_view]; exact ⟨rfl, rfl⟩) fun lo σ0 hs => ?_
  rcases hs with ⟨rfl, rfl, _⟩ | ⟨_, _, h⟩
  case inr => exact absurd h (by simp [rowFree, rowFree1, eGr])
  have g0 : ([Row.mix (eGr g)] : Store)[0]? = some (.mix (eGr g)) := rfl
  have hF : F50 guardT 0 (.agg (eGr g)) (.p (pI s)) (.p (pI t)) [] = some (.p (.bool (follows g s t)), [Row.mix (eGr g)]) := by
    rw [F50_eq]
    simp only [box_gr, obind, List.length_nil, List.nil_append, b_eql, follows]
    by_cases e : s = t
    · simp [e, condK_true]
    · simp only [e, decide_false, condK_false, Bool.false_or]
      have := L50 (s := s) (t := t) (lo := 0) g0 hl _ 0 rfl (Nat.zero_le _)
      simpa using this
  exact ⟨_, _, F50_call hF, rfl⟩

end Go.D
end
/- Errors of paths, in the program and in the reference. -/
section
set_option linter.unusedVariables false
set_option linter.unusedSimpArgs false
namespace Go.D

def badN (g : Gr) (v : Int) : Bool := !inR v 0 (pred g.n)
def okStep (g : Gr) (l : List Int) (i : Nat) : Bool := follows g (l.getD i 0) (l.getD (i + 1) 0)
def rightPath (g : Gr) (l : List Int) : Bool := hasI (L g.init) (l.getD 0 0) && allFrom (okStep g l) 0 (l.length - 1)
def errPath (g : Gr) (l : List Int) : Int :=
  if l.length = 0 then 1 else if l.length > 60 then 2 else bif l.any (badN g) then 3 else bif rightPath g l then 0 else 14

theorem idx22_0 {o : Option (List Int)} (h : 0 < (L o).length) : indexAddr PP 22 (.p (eSl o)) (.p (.int .i64 0)) = some (.pptr (eInts (L o)) 0) := idx22 (i := 0) h
theorem slice22_1 {o : Option (List Int)} (h : 0 < (L o).length) : sliceOp PP 22 (.p (eSl o)) (some (.p (.int .i64 1))) none none = some (.p (eSl (some ((L o).drop 1)))) := by
  cases o with
  | none => simp at h
  | some l =>
    have h1 : (1 : Int) ≤ (l.length : Nat) := by simp at h; omega
    have e : (List.take (l.length - 1) (List.drop 1 (eInts l))) = eInts (l.drop 1) := by
      simp only [eInts, ← List.map_drop]
      rw [List.take_of_length_le (by simp)]
    simp [sliceOp, u22, s3, eSl, bound, h1] at e ⊢
    exact e
theorem loadP_pptr (pl : FPol) (d : Option Tmp) (t : TypeId) (cs : List PV) (off : Nat) (σ : Store) : loadP PP pl d t (.pptr cs off) σ = load PP t (.pptr cs off) σ := by simp [loadP, isPptr]

theorem store3_a (σ : Store) (a b c : Int) : store PP 0 3 (.ptr σ.length 0) (.p (pI a)) ((σ ++ [.mix [.p (pI b)]]) ++ [.mix [.p (pI c)]]) = some ((σ ++ [.mix [.p (pI a)]]) ++ [.mix [.p (pI c)]]) := by
  have h1 : ((σ ++ [Row.mix [.p (pI b)]]) ++ [Row.mix [.p (pI c)]])[σ.length]? = some (.mix [.p (pI b)]) := by simp
  simp only [store, s3, DV.cells, storeN, h1]
  simp [DV.one, splice]
theorem store3_b (σ : Store) (a b c d : Int) : store PP 0 3 (.ptr (σ ++ [Row.mix [.p (pI d)]]).length 0) (.p (pI b)) ((σ ++ [.mix [.p (pI a)]]) ++ [.mix [.p (pI c)]]) = some ((σ ++ [.mix [.p (pI a)]]) ++ [.mix [.p (pI b)]]) := by
  have h1 : ((σ ++ [Row.mix [.p (pI a)]]) ++ [Row.mix [.p (pI c)]])[(σ ++ [Row.mix [.p (pI d)]]).length]? = some (.mix [.p (pI c)]) := by simp
  simp only [store, s3, DV.cells, storeN, h1]
  simp [DV.one, splice]

theorem L42 {g : Gr} {o : Option (List Int)} (hl : (L o).length ≤ 1000) (he : (L g.edges).length ≤ 10000) :
    ∀ (k i : Nat) (b : Bool) (σ : Store), σ[0]? = some (.mix (eGr g)) → (L o).length - 1 - i = k → i ≤ (L o).length - 1 →
      ∃ σ', f42_L0 guardT 0 (.p (eSl o)) (.ptr 0 0) (.p (.bool b)) (.p (pI ((L o).length - 1 : Nat))) (.p (pI (i : Nat))) σ = some (.p (pI (bif b && allFrom (okStep g (L o)) i k then 0 else 14)), σ')
  | 0, i, b, σ, h0, hk, hi => by
    have : ¬ (i : Int) < ((L o).length - 1 : Nat) := by omega
    refine ⟨σ, ?_⟩
    rw [f42_L0_eq guardT rfl]
    simp only [b_lss, obind, this, decide_false, condK_false, pureFn_fn, List.append_nil, S56, allFrom, Bool.and_true]
    cases b <;> rfl
  | k + 1, i, b, σ, h0, hk, hi => by
    have h : i < (L o).length := by omega
    have h1 : i + 1 < (L o).length := by omega
    have h' : (i : Int) < ((L o).length - 1 : Nat) := by omega
    rw [f42_L0_eq guardT rfl]
    have w : IntKind.wrap .i64 ((i : Int) + 1) = ((i + 1 : Nat) : Int) := wrap_succ (by omega)
    have g0 : ((σ ++ [Row.mix [.p (pI ((L o).getD i 0))]]) ++ [Row.mix [.p (pI ((L o).getD (i + 1) 0))]])[0]? = some (.mix (eGr g)) := get_old (get_old h0)
    have g1 : ((σ ++ [Row.mix [.p (pI ((L o).getD i 0))]]) ++ [Row.mix [.p (pI ((L o).getD (i + 1) 0))]])[σ.length]? = some (.mix [.p (pI ((L o).getD i 0))]) := get_old get_snoc
    have g2 : ((σ ++ [Row.mix [.p (pI ((L o).getD i 0))]]) ++ [Row.mix [.p (pI ((L o).getD (i + 1) 0))]])[(σ ++ [Row.mix [DV.p (pI 0)]]).length]? = some (.mix [.p (pI ((L o).getD (i + 1) 0))]) := by simp
    have ih := fun b => L42 hl he k (i + 1) b _ g0 (by omega) (by omega)
    simp only [b_lss, obind, h', decide_true, condK_true, idx22 h, loadP_pptr, load3, load1_getD h, b_add, w, idx22 h1, load1_getD h1, zero3, store3_a, store3_b]
    generalize hρ : (σ ++ [Row.mix [.p (pI ((L o).getD i 0))]]) ++ [Row.mix [.p (pI ((L o).getD (i + 1) 0))]] = ρ at *
    generalize hm : (σ ++ [Row.mix [DV.p (pI 0)]]).length = m at *
    cases b with
    | false =>
      simp only [guard_ft, guard_sk, obind, pickV_false, Bool.false_and]
      obtain ⟨σ', h2⟩ := ih false
      exact ⟨σ', by rw [h2]; simp⟩
    | true =>
      simp only [guard_tt, obind, load1_ptr (off := 0) g1 rfl, load1_ptr (off := 0) g2 rfl, b_eql, allFrom, okStep, follows]
      by_cases e : (L o).getD i 0 = (L o).getD (i + 1) 0
      · simp only [e, decide_true, guard_tf, guard_sk, obind, pickV_true]
        obtain ⟨σ', h2⟩ := ih true
        exact ⟨σ', by rw [h2]; simp⟩
      · simp only [e, decide_false, guard_ff, obind, fa25_2, shift_ptr, Nat.zero_add, load23, load1_ptr (off := 2) g0 rfl, pureFn_fn, List.append_nil]
        rw [S78 (q := stepB ((L o).getD i 0) ((L o).getD (i + 1) 0)) he (by
          rintro σ0 (⟨_, hb⟩ | rfl) e
          · simp [rowFree1] at hb
          · exact S79 g1 g2)]
        simp only [obind, pickV_false, pickV_true]
        obtain ⟨σ', h2⟩ := ih ((L g.edges).any (stepB ((L o).getD i 0) ((L o).getD (i + 1) 0)))
        exact ⟨σ', by rw [h2]; simp⟩

theorem S42 {g : Gr} {o : Option (List Int)} {σ : Store} (hl : (L o).length ≤ 1000) (hi : (L g.init).length ≤ 1000) (he : (L g.edges).length ≤ 10000) : pureV CC 42 [.agg (eGr g), .p (eSl o)] σ = some (.p (pI (errPath g (L o)))) := by
  refine pureV_any (by simp [gr_view, sl_view]) fun lo σ0 hs => ?_
  rcases hs with ⟨rfl, rfl, _⟩ | ⟨_, _, h⟩
  case inr => exact absurd h (by simp [rowFree, rowFree1, eGr])
  have g0 : ([Row.mix (eGr g)] : Store)[0]? = some (.mix (eGr g)) := rfl
  have hbad : pureV CC 51 [.p (eSl o), .fn 77 [.ptr 0 0]] [Row.mix (eGr g)] = some (.p (.bool ((L o).any (badN g)))) := S51 hl (by
    rintro σ0 (⟨_, hb⟩ | rfl) v
    · simp [rowFree1] at hb
    · exact S77 g0)
  have hfin : ∀ a b c : Int, (buildSlice PP none 122 3 [(0, .p (pI a)), (1, .p (pI b)), (2, .p (pI c))] [Row.mix (eGr g)]) = some (.p (.sl true 3 (eInts [a, b, c])), [Row.mix (eGr g)]) := fun a b c => bs122_3 a b c _
  have hF : ∃ σ', F42 guardT 0 (.agg (eGr g)) (.p (eSl o)) [] = some (.p (pI (errPath g (L o))), σ') := by
    rw [F42_eq]
    simp only [box_gr, obind, List.length_nil, List.nil_append, pureFn_fn, List.append_nil, hbad, len22, b_gtr, b_leq, S56, not_bool, hfin]
    rw [S54t (l := [_, _, _]) (n := 3) rfl (by simp)]
    simp only [obind, b_neq]
    by_cases h1 : (L o).length = 0
    · have h1' : ¬ ((L o).length : Int) > 0 := by omega
      refine ⟨[Row.mix (eGr g)], ?_⟩
      simp [h1, orL, condK_true, errPath]
    · have h1' : ((L o).length : Int) > 0 := by omega
      by_cases h2 : (L o).length > 60
      · have h2' : ¬ ((L o).length : Int) ≤ 60 := by omega
        refine ⟨[Row.mix (eGr g)], ?_⟩
        simp only [h1', h2', decide_true, decide_false, if_true, Bool.false_eq_true, if_false, orL]
        simp [condK_true, errPath, h1, h2]
      · have h2' : ((L o).length : Int) ≤ 60 := by omega
        cases h3 : (L o).any (badN g) with
        | true =>
          refine ⟨[Row.mix (eGr g)], ?_⟩
          simp only [h1', h2', decide_true, if_true, Bool.not_true, Bool.false_eq_true, if_false, orL]
          simp [condK_true, errPath, h1, h2, h3]
        | false =>
          have hpos : 0 < (L o).length := by omega
          simp only [h1', h2', decide_true, if_true, Bool.not_false, orL, Bool.not_true, condK_false, fa25_1, shift_ptr, Nat.zero_add, load22, load1_ptr (off := 1) g0 rfl, obind, idx22_0 hpos, load3, load1_getD hpos, S46 hi, slice22_1 hpos, len22]
          have e : ((L (some ((L o).drop 1))).length : Nat) = (L o).length - 1 := by simp
          rw [e]
          obtain ⟨σ', h4⟩ := L42 hl he _ 0 (hasI (L g.init) ((L o).getD 0 0)) _ g0 rfl (Nat.zero_le _)
          refine ⟨σ', ?_⟩
          have h5 : f42_L0 guardT 0 (.p (eSl o)) (.ptr 0 0) (.p (.bool (hasI (L g.init) ((L o).getD 0 0)))) (.p (pI ((L o).length - 1 : Nat))) (.p (pI 0)) [Row.mix (eGr g)] = _ := h4
          rw [h5]
          simp only [errPath, h1, h2, h3, if_false, cond_false, rightPath, Nat.sub_zero]
  obtain ⟨σ', h⟩ := hF
  exact ⟨_, _, F42_call h, rfl⟩

/-! ### The reference's -/
theorem allFrom_shift {p : Nat → Bool} : ∀ (k i : Nat), allFrom p (i + 1) k = allFrom (fun j => p (j + 1)) i k
  | 0, i => rfl
  | k + 1, i => by simp only [allFrom, allFrom_shift k (i + 1)]

theorem L16_1 {p : Pair} {o : Option (List Int)} {σ : Store} (h0 : σ[0]? = some (.mix (ePair p))) (hl : (L o).length ≤ 1000) (he : (L p.lo.edges).length ≤ 10000) :
    ∀ (k i : Nat), (L o).length - i = k → 1 ≤ i → i ≤ (L o).length → f16_L1 guardT 0 (.p (eSl o)) (.ptr 0 0) (.p (pI (i : Nat))) σ = some (.p (pI (bif allFrom (fun j => okStep p.lo (L o) (j - 1)) i k then 0 else 14)), σ)
  | 0, i, hk, h1, hi => by
    have : ¬ (i : Int) < ((L o).length : Nat) := by omega
    rw [f16_L1_eq guardT rfl]
    simp only [len22, b_lss, obind, this, decide_false, condK_false, allFrom, cond_true]
  | k + 1, i, hk, h1, hi => by
    have h : i < (L o).length := by omega
    have h2 : i - 1 < (L o).length := by omega
    have h' : (i : Int) < ((L o).length : Nat) := by omega
    have e : i - 1 + 1 = i := by omega
    rw [f16_L1_eq guardT rfl]
    simp only [len22, b_lss, obind, h', decide_true, condK_true, fa27_0, shift_ptr, Nat.zero_add, load25, pr_lo h0, omap, b_sub, wrap_pred (show 0 < i by omega) (show i ≤ 1000000 by omega), idx22 h2, load3, load1_getD h2, idx22 h, load1_getD h, pureFn_fn, List.append_nil, S50 he, not_bool, allFrom, okStep, e]
    cases hf : follows p.lo ((L o).getD (i - 1) 0) ((L o).getD i 0) with
    | false => simp only [Bool.not_false, condK_true, Bool.false_and, cond_false]
    | true =>
      simp only [Bool.not_true, condK_false, b_add, obind, wrap_succ (show i ≤ 1000000 by omega), Bool.true_and]
      exact L16_1 h0 hl he k (i + 1) (by omega) (by omega) (by omega)

theorem L16_0 {p : Pair} {o : Option (List Int)} {σ : Store} (h0 : σ[0]? = some (.mix (ePair p))) (hl : (L o).length ≤ 1000) (hpos : 0 < (L o).length) (hi : (L p.lo.init).length ≤ 1000) :
    ∀ (k i : Nat), (L o).length - i = k → i ≤ (L o).length → f16_L0 guardT 0 (.p (eSl o)) (.ptr 0 0) (.p (pI (i : Nat))) σ = bif ((L o).drop i).any (badN p.lo) then some (.p (pI 3), σ) else bif hasI (L p.lo.init) ((L o).getD 0 0) then f16_L1 guardT 0 (.p (eSl o)) (.ptr 0 0) (.p (pI (1 : Nat))) σ else some (.p (pI 14), σ)
  | 0, i, hk, hi' => by
    have : ¬ (i : Int) < ((L o).length : Nat) := by omega
    have hd : (L o).drop i = [] := List.drop_eq_nil_of_le (by omega)
    rw [f16_L0_eq guardT rfl, hd]
    simp only [len22, b_lss, obind, this, decide_false, condK_false, fa27_0, fa25_1, shift_ptr, Nat.zero_add, load22, pr_1 h0, idx22_0 hpos, load3, load1_getD hpos, pureFn_fn, List.append_nil, S49 hi, not_bool, List.any_nil, cond_false]
    cases hasI (L p.lo.init) ((L o).getD 0 0) with
    | false => simp only [Bool.not_false, condK_true, cond_false]
    | true => simp only [Bool.not_true, condK_false, cond_true]; rfl
  | k + 1, i, hk, hi' => by
    have h : i < (L o).length := by omega
    have h' : (i : Int) < ((L o).length : Nat) := by omega
    rw [f16_L0_eq guardT rfl]
    simp only [len22, b_lss, obind, h', decide_true, condK_true, idx22 h, load3, load1_ints h, fa27_0, fa25_0, shift_ptr, Nat.zero_add, pr_0 h0, b_sub, pureFn_fn, List.append_nil, S22, not_bool]
    rw [drop_cons h]
    cases hb : inR (L o)[i] 0 (pred p.lo.n) with
    | false => simp only [Bool.not_false, condK_true, List.any_cons, badN, hb, Bool.true_or, cond_true]
    | true =>
      simp only [Bool.not_true, condK_false, b_add, obind, wrap_succ (show i ≤ 1000000 by omega), List.any_cons, badN, hb, Bool.false_or]
      exact L16_0 h0 hl hpos hi k (i + 1) (by omega) (by omega)

theorem S16 {p : Pair} {o : Option (List Int)} {σ : Store} (hl : (L o).length ≤ 1000) (hi : (L p.lo.init).length ≤ 1000) (he : (L p.lo.edges).length ≤ 10000) : pureV CC 16 [.agg (ePair p), .p (eSl o)] σ = some (.p (pI (errPath p.lo (L o)))) := by
  refine pureV_any (by simp [pair_view, sl_view]) fun lo σ0 hs => ?_
  rcases hs with ⟨rfl, rfl, _⟩ | ⟨_, _, h⟩
  case inr => exact absurd h (by simp [rowFree, rowFree1, ePair])
  have g0 : ([Row.mix (ePair p)] : Store)[0]? = some (.mix (ePair p)) := rfl
  have hF : F16 guardT 0 (.agg (ePair p)) (.p (eSl o)) [] = some (.p (pI (errPath p.lo (L o))), [Row.mix (ePair p)]) := by
    rw [F16_eq]
    simp only [box_pair, obind, List.length_nil, List.nil_append, len22, b_eql, b_gtr]
    by_cases h1 : (L o).length = 0
    · have h1' : ((L o).length : Int) = 0 := by omega
      simp [h1', condK_true, errPath, h1]
    · have h1' : ¬ ((L o).length : Int) = 0 := by omega
      simp only [h1', decide_false, condK_false]
      by_cases h2 : (L o).length > 60
      · have h2' : ((L o).length : Int) > 60 := by omega
        simp only [h2', decide_true, condK_true, errPath, h1, h2, if_true, if_false]
      · have h2' : ¬ ((L o).length : Int) > 60 := by omega
        simp only [h2', decide_false, condK_false]
        have hpos : 0 < (L o).length := by omega
        have e : f16_L0 guardT 0 (.p (eSl o)) (.ptr 0 0) (.p (pI 0)) [Row.mix (ePair p)] = _ := L16_0 g0 hl hpos hi _ 0 rfl (Nat.zero_le _)
        rw [e, L16_1 g0 hl he _ 1 rfl (Nat.le_refl _) hpos, allFrom_shift]
        simp only [Nat.add_sub_cancel, List.drop_zero, errPath, h1, h2, if_false, rightPath]
        cases (L o).any (badN p.lo) <;> cases hasI (L p.lo.init) ((L o).getD 0 0) <;> first | rfl | simp only [cond_false, cond_true, Bool.true_and, Bool.false_and]
  exact ⟨_, _, F16_call hF, rfl⟩

end Go.D
end
/- Copies, bounds, equal lists. -/
section
set_option linter.unusedVariables false
set_option linter.unusedSimpArgs false
namespace Go.D

theorem L18 {a b : Option (List Int)} {σ : Store} {lo : Nat} (h0 : L a = L b) (hl : (L a).length ≤ 1000) :
    ∀ (k i : Nat), (L a).length - i = k → i ≤ (L a).length → f18_L0 guardT lo (.p (eSl a)) (.p (eSl b)) (.p (pI (i : Nat))) σ = some (.p (.bool true), σ)
  | 0, i, hk, hi => by
    have : ¬ (i : Int) < ((L a).length : Nat) := by omega
    rw [f18_L0_eq guardT rfl]
    simp only [len22, b_lss, obind, this, decide_false, condK_false]
  | k + 1, i, hk, hi => by
    have h : i < (L a).length := by omega
    have hb : i < (L b).length := by rw [← h0]; exact h
    have h' : (i : Int) < ((L a).length : Nat) := by omega
    rw [f18_L0_eq guardT rfl]
    have e : (L a).getD i 0 = (L b).getD i 0 := by rw [h0]
    simp only [len22, b_lss, obind, h', decide_true, condK_true, idx22 h, idx22 hb, load3, load1_getD h, load1_getD hb, b_neq, e, Bool.not_true, condK_false, b_add, wrap_succ (show i ≤ 1000000 by omega)]
    exact L18 h0 hl k (i + 1) (by omega) (by omega)

theorem S18 {a b : Option (List Int)} {σ : Store} (h0 : L a = L b) (hl : (L a).length ≤ 1000) : pureV CC 18 [.p (eSl a), .p (eSl b)] σ = some (.p (.bool true)) := by
  refine pureV_free (by simp [sl_view]) rfl (F18_call (r := (.p (.bool true), [])) ?_) rfl
  rw [F18_eq]
  have := L18 (lo := 0) (σ := []) h0 hl _ 0 rfl (Nat.zero_le _)
  simp only [len22, obind, b_neq, h0, decide_true, Bool.not_true, condK_false]
  exact this

/-! ### Copies -/
theorem bytes3 : bytes? PP 3 = some 8 := Eq.trans (by kernel_rfl) rfl
theorem bytes100 : bytes? PP 100 = some 24 := Eq.trans (by kernel_rfl) rfl
theorem src22 : srcType PP 22 = true := Eq.trans (by kernel_rfl) rfl
theorem src23 : srcType PP 23 = true := Eq.trans (by kernel_rfl) rfl
theorem bs22_0 (σ : Store) : buildSlice PP none 22 0 [] σ = some (.p (.sl true 0 []), σ) := Eq.trans (by kernel_rfl) rfl
theorem bs23_0 (σ : Store) : buildSlice PP none 23 0 [] σ = some (.p (.sl true 0 []), σ) := Eq.trans (by kernel_rfl) rfl
theorem pures_map (cs : List PV) : pures (cs.map DV.p) = some cs := by
  induction cs with
  | nil => rfl
  | cons a l ih => simp [pures, DV.pure?, ih]

/-- What is appended to an empty literal. -/
theorem app22 {o : Option (List Int)} {lo : Nat} (hl : (L o).length ≤ 1000) (σ : Store) : append PP lo false 22 22 (.p (.sl true 0 [])) (.p (eSl o)) σ = some (if (L o).length = 0 then (.p (.sl true 0 []), σ) else (.osl σ.length 0 1 (L o).length (eInts (L o)), σ ++ [.tok 0])) := by
  have hsrc : source σ 1 (.p (eSl o)) = some ((L o).length, (eInts (L o)).map DV.p) := by
    cases o <;> simp [source, eSl, ints_length, eInts]
  have h1 : (L o).length * 8 ≤ 140737488355328 := by omega
  have h2 : (L o).length ≤ 140737488355328 := by omega
  simp only [append, src22, u22, s3, bytes3, zero3, hsrc, appLit]
  simp [h1, h2, pures_map]
  split <;> rfl
theorem app23 {o : Option (List Edg)} {lo : Nat} (hl : (L o).length ≤ 10000) (σ : Store) : append PP lo false 23 23 (.p (.sl true 0 [])) (.p (eEs o)) σ = some (if (L o).length = 0 then (.p (.sl true 0 []), σ) else (.osl σ.length 0 3 (L o).length (eEdgs (L o)), σ ++ [.tok 0])) := by
  have hsrc : source σ 3 (.p (eEs o)) = some ((L o).length, (eEdgs (L o)).map DV.p) := by
    cases o <;> simp [source, eEs, edgs_length, eEdgs]
  have h1 : (L o).length * 24 ≤ 140737488355328 := by omega
  have h2 : (L o).length ≤ 140737488355328 := by omega
  simp only [append, src23, u23, s100, bytes100, zero100, hsrc, appLit]
  simp [h1, h2, pures_map]
  split <;> rfl

theorem S14 {o : Option (List Int)} {σ : Store} (hl : (L o).length ≤ 1000) : pureV CC 14 [.p (eSl o)] σ = some (.p (eSl (some (L o)))) := by
  refine pureV_any (by simp [sl_view]) fun lo σ0 hs => ?_
  by_cases h : (L o).length = 0
  · refine ⟨.p (.sl true 0 []), σ0, F14_call ?_, ?_⟩
    · rw [F14_eq]
      simp only [bs22_0, obind, app22 hl, h, if_true]
    · have : L o = [] := List.length_eq_zero_iff.1 h
      rw [this]; rfl
  · refine ⟨.osl σ0.length 0 1 (L o).length (eInts (L o)), σ0 ++ [.tok 0], F14_call ?_, ?_⟩
    · rw [F14_eq]
      simp only [bs22_0, obind, app22 hl, h, if_false]
    · simp [thawAll, thawPart, thaw, thaw1, thawP, loosens_ints, eSl]

def ownG (g : Gr) : Gr := ⟨g.n, some (L g.init), some (L g.edges)⟩
def ownP (p : Pair) : Pair := ⟨ownG p.lo, ownG p.up, some (L p.ll), some (L p.ul)⟩

theorem st22_1 (a b c d : DV) (v : PV) (rest : Store) : store PP 0 22 (.ptr 0 1) (.p v) (.mix [a, b, c] :: rest) = some (.mix [a, .p v, c] :: rest) := Eq.trans (by kernel_rfl) rfl
theorem st23_2p (a b c : DV) (v : PV) (rest : Store) : store PP 0 23 (.ptr 0 2) (.p v) (.mix [a, b, c] :: rest) = some (.mix [a, b, .p v] :: rest) := Eq.trans (by kernel_rfl) rfl
theorem st23_2o (a b c : DV) (r ver sz n : Nat) (cs : List PV) (rest : Store) : store PP 0 23 (.ptr 0 2) (.osl r ver sz n cs) (.mix [a, b, c] :: rest) = some (.mix [a, b, .osl r ver sz n cs] :: rest) := Eq.trans (by kernel_rfl) rfl
theorem st25_p (a b c : DV) (x y z : PV) (m : Row) (rest : Store) : store PP 0 25 (.ptr 1 0) (.agg [.p x, .p y, .p z]) (m :: .mix [a, b, c] :: rest) = some (m :: .mix [.p x, .p y, .p z] :: rest) := Eq.trans (by kernel_rfl) rfl
theorem st25_o (a b c : DV) (x y : PV) (r ver sz n : Nat) (cs : List PV) (m : Row) (rest : Store) : store PP 0 25 (.ptr 1 0) (.agg [.p x, .p y, .osl r ver sz n cs]) (m :: .mix [a, b, c] :: rest) = some (m :: .mix [.p x, .p y, .osl r ver sz n cs] :: rest) := Eq.trans (by kernel_rfl) rfl
theorem ld25_0 (a b c : DV) (rest : Store) : loadN (.mix [a, b, c] :: rest) 3 (.ptr 0 0) = some [a, b, c] := Eq.trans (by kernel_rfl) rfl
theorem cv25 (a b c : DV) (m : Row) (rest : Store) : cellV PP 25 (.ptr 1 0) (m :: .mix [a, b, c] :: rest) = some (.agg [a, b, c]) := Eq.trans (by kernel_rfl) rfl

theorem S47 {g : Gr} {σ : Store} (hi : (L g.init).length ≤ 1000) (he : (L g.edges).length ≤ 10000) : pureV CC 47 [.agg (eGr g)] σ = some (.agg (eGr (ownG g))) := by
  refine pureV_any (by simp [gr_view]) fun lo σ0 hs => ?_
  rcases hs with ⟨rfl, rfl, _⟩ | ⟨_, _, h⟩
  case inr => exact absurd h (by simp [rowFree, rowFree1, eGr])
  have g0 : ∀ r, ([Row.mix (eGr g), r] : Store)[0]? = some (.mix (eGr g)) := fun _ => rfl
  by_cases h : (L g.edges).length = 0
  · refine ⟨.agg [.p (pI g.n), .p (eSl (some (L g.init))), .p (.sl true 0 [])], [.mix [.p (pI g.n), .p (eSl (some (L g.init))), .p (.sl true 0 [])], .mix [.p (pI g.n), .p (eSl (some (L g.init))), .p (.sl true 0 [])]], F47_call ?_, ?_⟩
    · rw [F47_eq]
      simp only [box_gr, zero25, obind, List.length_nil, List.nil_append, List.length_cons, List.cons_append, fa25_1, fa25_2, shift_ptr, Nat.zero_add, load22, load23, load25, load1_ptr (off := 1) (g0 _) rfl, load1_ptr (off := 2) (g0 _) rfl, pureFn_fn, List.append_nil, S14 hi, bs23_0, app23 he, h, if_true]
      simp only [eGr, st22_1 _ _ _ (.p .nilsl), obind, st23_2p, ld25_0, omap, st25_p, cv25]
    · have : L g.edges = [] := List.length_eq_zero_iff.1 h
      simp [thawAll, thawPart, mapO, thaw, thaw1, thawP, loosen, loosens, loosen_sl, eGr, ownG, eEs, this, eEdgs]
  · refine ⟨.agg [.p (pI g.n), .p (eSl (some (L g.init))), .osl 2 0 3 (L g.edges).length (eEdgs (L g.edges))], [.mix [.p (pI g.n), .p (eSl (some (L g.init))), .osl 2 0 3 (L g.edges).length (eEdgs (L g.edges))], .mix [.p (pI g.n), .p (eSl (some (L g.init))), .osl 2 0 3 (L g.edges).length (eEdgs (L g.edges))], .tok 0], F47_call ?_, ?_⟩
    · rw [F47_eq]
      simp only [box_gr, zero25, obind, List.length_nil, List.nil_append, List.length_cons, List.cons_append, fa25_1, fa25_2, shift_ptr, Nat.zero_add, load22, load23, load25, load1_ptr (off := 1) (g0 _) rfl, load1_ptr (off := 2) (g0 _) rfl, pureFn_fn, List.append_nil, S14 hi, bs23_0, app23 he, h, if_false]
      simp only [eGr, st22_1 _ _ _ (.p .nilsl), obind, st23_2o, ld25_0, omap, st25_o, cv25]
    · simp [thawAll, thawPart, mapO, thaw, thaw1, thawP, loosen, loosen_sl, eGr, ownG, eEs, loosens_edgs]

theorem bld27 (a b c d e f g h : PV) : build PP 27 [(0, .agg [.p a, .p b, .p c]), (1, .agg [.p d, .p e, .p f]), (2, .p g), (3, .p h)] = some (.agg [.p a, .p b, .p c, .p d, .p e, .p f, .p g, .p h]) := Eq.trans (by kernel_rfl) rfl
theorem st27 (a b c d e f g h : PV) (a' b' c' d' e' f' g' h' : DV) (m : Row) : store PP 0 27 (.ptr 1 0) (.agg [.p a, .p b, .p c, .p d, .p e, .p f, .p g, .p h]) [m, .mix [a', b', c', d', e', f', g', h']] = some [m, .mix [.p a, .p b, .p c, .p d, .p e, .p f, .p g, .p h]] := Eq.trans (by kernel_rfl) rfl
theorem cv27 (a b c d e f g h : DV) (m : Row) : cellV PP 27 (.ptr 1 0) [m, .mix [a, b, c, d, e, f, g, h]] = some (.agg [a, b, c, d, e, f, g, h]) := Eq.trans (by kernel_rfl) rfl

theorem S13 {p : Pair} {σ : Store} (hp : Small p) : pureV CC 13 [.agg (ePair p)] σ = some (.agg (ePair (ownP p))) := by
  refine pureV_any (by simp [pair_view]) fun lo σ0 hs => ?_
  rcases hs with ⟨rfl, rfl, _⟩ | ⟨_, _, h⟩
  case inr => exact absurd h (by simp [rowFree, rowFree1, ePair])
  have g0 : ∀ r, ([Row.mix (ePair p), r] : Store)[0]? = some (.mix (ePair p)) := fun _ => rfl
  refine ⟨.agg (ePair (ownP p)), [.mix (ePair p), .mix (ePair (ownP p))], F13_call ?_, ?_⟩
  · rw [F13_eq]
    simp only [box_pair, zero27, obind, List.length_nil, List.nil_append, List.length_cons, List.cons_append, fa27_0, fa27_1, fa27_2, fa27_3, shift_ptr, Nat.zero_add, load22, load25, pr_lo (g0 _), pr_up (g0 _), pr_6 (g0 _), pr_7 (g0 _), omap, pureFn_fn, List.append_nil, S47 hp.li hp.le, S47 hp.ui hp.ue, S14 hp.ll, S14 hp.ul]
    simp only [eGr, bld27, obind, st27, cv27]
    rfl
  · simp [thawAll, thawPart, mapO, thaw, thaw1, thawP, loosen, loosen_sl, loosen_es, ePair]

/-! ### Bounds -/
def smallG (g : Gr) : Bool := (decide (g.n ≤ 7) || decide (g.n > 40)) && decide ((L g.init).length ≤ 45) && decide ((L g.edges).length ≤ 24)
def fewP (p : Pair) : Bool := smallG p.lo && smallG p.up && decide ((L p.ll).length ≤ 45) && decide ((L p.ul).length ≤ 45)
theorem dec_cast (n m : Nat) : decide ((n : Int) ≤ (m : Int)) = decide (n ≤ m) := by simp

theorem S19 {g : Gr} {σ : Store} : pureV CC 19 [.agg (eGr g)] σ = some (.p (.bool (smallG g))) := by
  refine pureV_any (by simp [gr_view]) fun lo σ0 hs => ?_
  rcases hs with ⟨rfl, rfl, _⟩ | ⟨_, _, h⟩
  case inr => exact absurd h (by simp [rowFree, rowFree1, eGr])
  have g0 : ([Row.mix (eGr g)] : Store)[0]? = some (.mix (eGr g)) := rfl
  have e45 : decide (((L g.init).length : Int) ≤ 45) = decide ((L g.init).length ≤ 45) := dec_cast _ 45
  have e24 : decide (((L g.edges).length : Int) ≤ 24) = decide ((L g.edges).length ≤ 24) := dec_cast _ 24
  have hF : F19 guardT 0 (.agg (eGr g)) [] = some (.p (.bool (smallG g)), [Row.mix (eGr g)]) := by
    rw [F19_eq]
    simp only [box_gr, obind, List.length_nil, List.nil_append, fa25_0, fa25_1, fa25_2, shift_ptr, Nat.zero_add, load3, load1_ptr (off := 0) g0 rfl, b_leq, smallG]
    cases h1 : decide (g.n ≤ 7) <;>
      simp only [guard_tf, guard_ff, guard_sk, obind, pickV_true, pickV_false, load1_ptr (off := 0) g0 rfl, b_gtr, Bool.true_or, Bool.false_or, Bool.true_and]
    · cases h2 : decide (g.n > 40) with
      | false => simp only [guard_ft, guard_sk, obind, pickV_false, Bool.false_and]
      | true =>
        simp only [guard_tt, obind, load22, load1_ptr (off := 1) g0 rfl, len22, b_leq, pickV_true, e45, Bool.true_and]
        cases h3 : decide ((L g.init).length ≤ 45) with
        | false => simp only [guard_ft, guard_sk, obind, pickV_false, Bool.false_and]
        | true => simp only [guard_tt, obind, load23, load1_ptr (off := 2) g0 rfl, len23, b_leq, pickV_true, e24, Bool.true_and]
    · simp only [guard_tt, obind, load22, load1_ptr (off := 1) g0 rfl, len22, b_leq, pickV_true, e45, Bool.true_and]
      cases h3 : decide ((L g.init).length ≤ 45) with
      | false => simp only [guard_ft, guard_sk, obind, pickV_false, Bool.false_and]
      | true => simp only [guard_tt, obind, load23, load1_ptr (off := 2) g0 rfl, len23, b_leq, pickV_true, e24, Bool.true_and]
  exact ⟨_, _, F19_call hF, rfl⟩

theorem S11 {p : Pair} {σ : Store} : pureV CC 11 [.agg (ePair p)] σ = some (.p (.bool (fewP p))) := by
  refine pureV_any (by simp [pair_view]) fun lo σ0 hs => ?_
  rcases hs with ⟨rfl, rfl, _⟩ | ⟨_, _, h⟩
  case inr => exact absurd h (by simp [rowFree, rowFree1, ePair])
  have g0 : ([Row.mix (ePair p)] : Store)[0]? = some (.mix (ePair p)) := rfl
  have e1 : decide (((L p.ll).length : Int) ≤ 45) = decide ((L p.ll).length ≤ 45) := dec_cast _ 45
  have e2 : decide (((L p.ul).length : Int) ≤ 45) = decide ((L p.ul).length ≤ 45) := dec_cast _ 45
  have hF : F11 guardT 0 (.agg (ePair p)) [] = some (.p (.bool (fewP p)), [Row.mix (ePair p)]) := by
    rw [F11_eq]
    simp only [box_pair, obind, List.length_nil, List.nil_append, fa27_0, fa27_1, fa27_2, fa27_3, shift_ptr, Nat.zero_add, load25, pr_lo g0, omap, pureFn_fn, List.append_nil, S19, fewP]
    cases h1 : smallG p.lo with
    | false => simp only [guard_ft, guard_sk, obind, pickV_false, Bool.false_and]
    | true =>
      simp only [guard_tt, obind, pr_up g0, omap, S19, pickV_true, Bool.true_and]
      cases h2 : smallG p.up with
      | false => simp only [guard_ft, guard_sk, obind, pickV_false, Bool.false_and]
      | true =>
        simp only [guard_tt, obind, load22, pr_6 g0, len22, b_leq, pickV_true, e1, Bool.true_and]
        cases h3 : decide ((L p.ll).length ≤ 45) with
        | false => simp only [guard_ft, guard_sk, obind, pickV_false, Bool.false_and]
        | true => simp only [guard_tt, obind, load22, pr_7 g0, len22, b_leq, pickV_true, e2, Bool.true_and]
  exact ⟨_, _, F11_call hF, rfl⟩

end Go.D
end
/- The upper steps as rows of bools, and what they answer. -/
section
set_option linter.unusedVariables false
set_option linter.unusedSimpArgs false
namespace Go.D

theorem zero4 : zeroOf PP 4 = some [.p (.bool false)] := Eq.trans (by kernel_rfl) rfl
theorem zero88 : zeroOf PP 88 = some [.p .nilsl] := Eq.trans (by kernel_rfl) rfl
theorem bytes4 : bytes? PP 4 = some 1 := Eq.trans (by kernel_rfl) rfl
theorem bytes88 : bytes? PP 88 = some 24 := Eq.trans (by kernel_rfl) rfl
theorem src84 : srcType PP 84 = true := Eq.trans (by kernel_rfl) rfl
theorem s84 : size? PP 84 = some 1 := Eq.trans (by kernel_rfl) rfl

theorem dups_one {α : Type} (x : α) : ∀ n, dups [x] n = List.replicate n x
  | 0 => rfl
  | n + 1 => by simp [dups, dups_one x n, List.replicate_succ]
theorem pures_bools (n : Nat) : pures (List.replicate n (.p (.bool false))) = some (eBools (List.replicate n false)) := by
  have := pures_map (eBools (List.replicate n false))
  simpa [eBools] using this

theorem mk88 {n : Nat} (h : n ≤ 1000) (σ : Store) : makeSlice PP false 88 (.p (pI (n : Nat))) (.p (pI (n : Nat))) σ = some (.rsl σ.length 1 0 n, σ ++ [.arr (eBools (List.replicate n false))]) := by
  have h1 : (n : Int) ≤ 140737488355328 := by omega
  simp [makeSlice, u88, s4, bytes4, zero4, h1, newRow, dups_one, pures_bools]
theorem mk84 {n : Nat} (h : n ≤ 1000) (σ : Store) : makeSlice PP true 84 (.p (pI (n : Nat))) (.p (pI (n : Nat))) σ = some (.rsl σ.length 1 0 n, σ ++ [.mix (List.replicate n (.p .nilsl))]) := by
  have h1 : (n : Int) ≤ 140737488355328 := by omega
  have h2 : 24 * (n : Int) ≤ 140737488355328 := by omega
  simp [makeSlice, u84, s88, bytes88, zero88, h1, h2, newRow, dups_one]

theorem bs84_1 (r sz off n : Nat) (σ : Store) : buildSlice PP (some true) 84 1 [(0, .rsl r sz off n)] σ = some (.rsl σ.length 1 0 1, σ ++ [.mix [.rsl r sz off n]]) := Eq.trans (by kernel_rfl) rfl

theorem app84_nil {σ : Store} {q : Nat} {v : DV} (h : σ[q]? = some (.mix [v])) : append PP 0 true 84 84 (.p .nilsl) (.rsl q 1 0 1) σ = some (.rsl σ.length 1 0 1, σ ++ [.mix [v]]) := by
  simp [append, src84, u84, s88, bytes88, zero88, source, loadN, h, appNil]
theorem app84_row {σ : Store} {q R k : Nat} {v : DV} {cs : List DV} (h : σ[q]? = some (.mix [v])) (hR : σ[R]? = some (.mix cs)) (hk : cs.length = k) (hk2 : k ≤ 1000) (hv : v.one = true) :
    append PP 0 true 84 84 (.rsl R 1 0 k) (.rsl q 1 0 1) σ = some (.rsl σ.length 1 0 (k + 1), σ.set R .dead ++ [.mix (cs ++ [v])]) := by
  have h1 : (k + 1) * 24 ≤ 140737488355328 := by omega
  have h2 : k + 1 ≤ 140737488355328 := by omega
  have h3 : ¬ k + 1 ≤ k := by omega
  simp only [append, src84, u84, s88, bytes88, zero88, source, loadN, h]
  simp [appRow, hR, h1, h2, hk, hv]
  intro hh
  omega

theorem st84_8 {σ : Store} {A : List DV} {x v : DV} (h : σ[1]? = some (.mix (A ++ [x]))) (hA : A.length = 8) (hv : v.one = true) (hc : v.cells = [v]) : store PP 0 84 (.ptr 1 8) v σ = some (σ.set 1 (.mix (A ++ [v]))) := by
  have hd : (A ++ [x]).drop 9 = [] := List.drop_eq_nil_of_le (by simp [hA])
  simp [store, s84, hc, storeN, h, hA, hv, splice, hd]

def rowV (n : Nat) (r : Nat) : DV := .rsl r 1 0 n
structure OpenInv (p : Pair) (n : Nat) (σ : Store) (R : Nat) (rs : List Nat) (M : List (List Bool)) : Prop where
  h0 : σ[0]? = some (.mix (ePair p))
  h1 : σ[1]? = some (.mix (ePair p ++ [if rs = [] then .p .nilsl else .rsl R 1 0 rs.length]))
  hR : rs ≠ [] → σ[R]? = some (.mix (rs.map (rowV n))) ∧ 2 ≤ R
  len : M.length = rs.length
  row : ∀ j (h : j < rs.length) (h2 : j < M.length), σ[rs[j]]? = some (.arr (eBools M[j]))
  nodup : rs.Nodup
  ge : ∀ r ∈ rs, 2 ≤ r
  nR : rs ≠ [] → R ∉ rs

theorem get_set_ne {σ : Store} {i j : Nat} {r x : Row} (h : σ[i]? = some x) (hne : i ≠ j) : (σ.set j r)[i]? = some x := by
  rw [List.getElem?_set_ne (Ne.symm hne)]; exact h
theorem get_lt {σ : Store} {i : Nat} {x : Row} (h : σ[i]? = some x) : i < σ.length := (List.getElem?_eq_some_iff.1 h).1

theorem L43_0 {p : Pair} {n : Nat} (hn : p.up.n = (n : Nat)) (hn2 : n ≤ 1000) :
    ∀ (d k : Nat) (σ : Store) (R : Nat) (rs : List Nat), n - k = d → rs.length = k → k ≤ n → OpenInv p n σ R rs (List.replicate k (List.replicate n false)) →
      ∃ σ' R' rs', rs'.length = n ∧ OpenInv p n σ' R' rs' (List.replicate n (List.replicate n false)) ∧
        f43_L0 guardT 0 (.ptr 0 0) (.ptr 1 0) (.p (pI (n : Nat))) (.p (pI (k : Nat))) σ = f43_L1 guardT 0 (.ptr 1 0) (.p (eEs p.up.edges)) (.p (pI ((L p.up.edges).length : Nat))) (.p (pI (0 : Nat))) σ'
  | 0, k, σ, R, rs, hd, hk, hkn, hI => by
    have : k = n := by omega
    subst this
    have hlt : ¬ (k : Int) < (k : Nat) := by omega
    refine ⟨σ, R, rs, hk, hI, ?_⟩
    rw [f43_L0_eq guardT rfl]
    simp only [b_lss, obind, hlt, decide_false, condK_false, fa27_1, fa25_2, shift_ptr, Nat.zero_add, load23, pr_5 hI.h0, len23]
    rfl
  | d + 1, k, σ, R, rs, hd, hk, hkn, hI => by
    have hlt : (k : Int) < (n : Nat) := by omega
    have w : IntKind.wrap .i64 ((k : Int) + 1) = ((k + 1 : Nat) : Int) := wrap_succ (by omega)
    have ha : (σ ++ [Row.arr (eBools (List.replicate n false))])[0]? = some (.mix (ePair p)) := get_old hI.h0
    have l0 := get_lt hI.h0
    have l1 := get_lt hI.h1
    have hmk : ∀ σ, makeSlice PP false 88 (.p (pI p.up.n)) (.p (pI p.up.n)) σ = some (.rsl σ.length 1 0 n, σ ++ [.arr (eBools (List.replicate n false))]) := by rw [hn]; exact mk88 hn2
    have h8 : ∀ (σ' : Store) (x : DV), σ'[1]? = some (.mix (ePair p ++ [x])) → load1 (.ptr 1 8) σ' = some x := fun σ' x h => load1_ptr h (by simp [ePair])
    rw [f43_L0_eq guardT rfl]
    simp only [b_lss, obind, hlt, decide_true, condK_true, nil_ptr, fa118_1, fa27_1, fa25_0, shift_ptr, Nat.zero_add, load84, h8 σ _ hI.h1, load3, pr_3 hI.h0, hmk, bs84_1, b_add, w]
    have hq : ((σ ++ [Row.arr (eBools (List.replicate n false))]) ++ [Row.mix [DV.rsl σ.length 1 0 n]])[(σ ++ [Row.arr (eBools (List.replicate n false))]).length]? = some (.mix [DV.rsl σ.length 1 0 n]) := get_snoc
    by_cases he : rs = []
    · subst he
      have hk0 : k = 0 := by simpa using hk.symm
      subst hk0
      have hs1 : (((σ ++ [Row.arr (eBools (List.replicate n false))]) ++ [Row.mix [DV.rsl σ.length 1 0 n]]) ++ [Row.mix [DV.rsl σ.length 1 0 n]])[1]? = some (.mix (ePair p ++ [.p .nilsl])) := get_old (get_old (get_old (by simpa using hI.h1)))
      simp only [if_true, app84_nil hq, obind, st84_8 hs1 (by simp [ePair]) (v := .rsl ((σ ++ [Row.arr (eBools (List.replicate n false))]) ++ [Row.mix [DV.rsl σ.length 1 0 n]]).length 1 0 1) rfl rfl]
      refine L43_0 hn hn2 d 1 _ ((σ ++ [Row.arr (eBools (List.replicate n false))]) ++ [Row.mix [DV.rsl σ.length 1 0 n]]).length [σ.length] (by omega) rfl (by omega) ⟨?_, ?_, ?_, ?_, ?_, ?_, ?_, ?_⟩
      · exact get_set_ne (get_old (get_old ha)) (by omega)
      · simp
      · intro _
        refine ⟨get_set_ne (by rw [get_snoc]; rfl) (by simp), by simp⟩
      · simp
      · intro j h h2
        have : j = 0 := by simpa using h
        subst this
        exact get_set_ne (get_old (get_old (by simp))) (by simp; omega)
      · simp
      · simp; omega
      · simp
    · obtain ⟨hR, hR2⟩ := hI.hR he
      have lR := get_lt hR
      have hRq : ((σ ++ [Row.arr (eBools (List.replicate n false))]) ++ [Row.mix [DV.rsl σ.length 1 0 n]])[R]? = some (.mix (rs.map (rowV n))) := get_old (get_old hR)
      have hs1 : ((((σ ++ [Row.arr (eBools (List.replicate n false))]) ++ [Row.mix [DV.rsl σ.length 1 0 n]]).set R .dead) ++ [Row.mix (rs.map (rowV n) ++ [DV.rsl σ.length 1 0 n])])[1]? = some (.mix (ePair p ++ [if rs = [] then .p .nilsl else .rsl R 1 0 rs.length])) := get_old (get_set_ne (get_old (get_old hI.h1)) (by omega))
      simp only [he, if_false] at hs1 ⊢
      simp only [app84_row hq hRq (by simp) (show rs.length ≤ 1000 by omega) rfl, obind, st84_8 hs1 (by simp [ePair]) (v := .rsl ((σ ++ [Row.arr (eBools (List.replicate n false))]) ++ [Row.mix [DV.rsl σ.length 1 0 n]]).length 1 0 (rs.length + 1)) rfl rfl]
      have hkeep : ∀ i x d, σ[i]? = some x → i ≠ 1 → i ≠ R → (((((σ ++ [Row.arr (eBools (List.replicate n false))]) ++ [Row.mix [DV.rsl σ.length 1 0 n]]).set R .dead) ++ [Row.mix (rs.map (rowV n) ++ [DV.rsl σ.length 1 0 n])]).set 1 d)[i]? = some x :=
        fun i x d h h1 h2 => get_set_ne (get_old (get_set_ne (get_old (get_old h)) h2)) h1
      refine L43_0 hn hn2 d (k + 1) _ ((σ ++ [Row.arr (eBools (List.replicate n false))]) ++ [Row.mix [DV.rsl σ.length 1 0 n]]).length (rs ++ [σ.length]) (by omega) (by simp [hk]) (by omega) ⟨?_, ?_, ?_, ?_, ?_, ?_, ?_, ?_⟩
      · exact hkeep 0 _ _ hI.h0 (by omega) (by omega)
      · simp
      · intro _
        refine ⟨get_set_ne ?_ (by simp), by simp⟩
        have : (((σ ++ [Row.arr (eBools (List.replicate n false))]) ++ [Row.mix [DV.rsl σ.length 1 0 n]]).set R .dead).length = ((σ ++ [Row.arr (eBools (List.replicate n false))]) ++ [Row.mix [DV.rsl σ.length 1 0 n]]).length := by simp
        rw [← this, get_snoc]
        simp [rowV]
      · simp [hk]
      · intro j h h2
        simp only [List.length_append, List.length_cons, List.length_nil, Nat.zero_add] at h
        rcases Nat.lt_or_ge j rs.length with h3 | h3
        · rw [List.getElem_append_left h3]
          have hr := hI.row j h3 (by simp; omega)
          simp only [List.getElem_replicate] at hr ⊢
          exact hkeep _ _ _ hr (by have := hI.ge _ (List.getElem_mem h3); omega) (fun e => hI.nR he (e ▸ List.getElem_mem h3))
        · have : j = rs.length := by omega
          subst this
          simp only [List.getElem_append_right (Nat.le_refl _), Nat.sub_self, List.getElem_cons_zero, List.getElem_replicate]
          exact get_set_ne (get_old (get_set_ne (get_old (by simp)) (by omega))) (by omega)
      · rw [List.nodup_append]
        refine ⟨hI.nodup, by simp, ?_⟩
        intro a ha' b hb e
        simp at hb
        subst hb; subst e
        obtain ⟨j, hj, e⟩ := List.getElem_of_mem ha'
        have := get_lt (hI.row j hj (by simp; omega))
        omega
      · intro r hr
        simp at hr
        rcases hr with hr | hr
        · exact hI.ge r hr
        · omega
      · intro _ hm
        simp at hm
        obtain ⟨j, hj, e⟩ := List.getElem_of_mem hm
        have := get_lt (hI.row j hj (by simp; omega))
        omega

end Go.D
end
/- open: the upper steps; follows. -/
section
set_option linter.unusedVariables false
set_option linter.unusedSimpArgs false
namespace Go.D

def rowM (n : Nat) (es : List Edg) (u : Nat) : List Bool := (List.range n).map fun (v : Nat) => es.any (stepB (u : Int) (v : Int))
def matM (n : Nat) (es : List Edg) : List (List Bool) := (List.range n).map (rowM n es)
theorem rowM_len (n : Nat) (es : List Edg) (u : Nat) : (rowM n es u).length = n := by simp [rowM]
theorem matM_len (n : Nat) (es : List Edg) : (matM n es).length = n := by simp [matM]
theorem matM_get {n : Nat} {es : List Edg} {u : Nat} (h : u < (matM n es).length) : (matM n es)[u] = rowM n es u := by simp [matM]
theorem matM_nil (n : Nat) : matM n [] = List.replicate n (List.replicate n false) := by
  have h1 : ∀ u, rowM n [] u = List.replicate n false := fun u => by simp [rowM, List.map_const']
  have h2 : rowM n [] = fun _ => List.replicate n false := funext h1
  simp [matM, h2, List.map_const']
theorem rowM_step (n : Nat) (es : List Edg) (e : Edg) (u f t : Nat) (hf : e.f = (f : Nat)) (ht : e.t = (t : Nat)) : rowM n (es ++ [e]) u = if u = f then (rowM n es u).set t true else rowM n es u := by
  apply List.ext_getElem
  · split <;> simp [rowM]
  · intro v h1 h2
    have hv : v < n := by simpa [rowM] using h1
    by_cases e1 : u = f
    · subst e1
      simp only [if_true]
      by_cases e2 : v = t
      · subst e2
        simp [rowM, stepB, hf, ht]
      · have : ¬ (t = v) := fun h => e2 h.symm
        rw [List.getElem_set_ne this]
        have h3 : stepB u v e = false := by simp [stepB, hf, ht]; omega
        simp [rowM, h3]
    · simp only [e1, if_false]
      have h3 : stepB u v e = false := by simp [stepB, hf]; omega
      simp [rowM, h3]

theorem idx84_r {R off n i : Nat} (h : i < n) : indexAddr PP 84 (.rsl R 1 off n) (.p (pI (i : Nat))) = some (.ptr R (off + i)) := by
  have h2 : (0 : Int) ≤ (i : Int) ∧ (i : Int) < (n : Nat) := by omega
  simp [indexAddr, u84, s88, h2, h]
theorem idx88_r {R off n i : Nat} (h : i < n) : indexAddr PP 88 (.rsl R 1 off n) (.p (pI (i : Nat))) = some (.ptr R (off + i)) := by
  have h2 : (0 : Int) ≤ (i : Int) ∧ (i : Int) < (n : Nat) := by omega
  simp [indexAddr, u88, s4, h2, h]
theorem st4 {σ : Store} {r t : Nat} {l : List Bool} {b : Bool} (h : σ[r]? = some (.arr (eBools l))) (ht : t < l.length) : store PP 0 4 (.ptr r t) (.p (.bool b)) σ = some (σ.set r (.arr (eBools (l.set t b)))) := by
  have h1 : t + 1 ≤ (eBools l).length := by rw [bools_length]; omega
  have h2 : splice (eBools l) t [PV.bool b] = eBools (l.set t b) := by
    unfold splice eBools
    rw [List.set_eq_take_append_cons_drop]
    simp [ht]
  simp [store, s4, DV.cells, storeN, h, pures, DV.pure?, h1, h2]

theorem L43_1 {p : Pair} {n : Nat} (hl : (L p.up.edges).length ≤ 10000) (hv : ∀ e ∈ L p.up.edges, 0 ≤ e.f ∧ e.f < n ∧ 0 ≤ e.t ∧ e.t < n) :
    ∀ (k i : Nat) (σ : Store) (R : Nat) (rs : List Nat), (L p.up.edges).length - i = k → i ≤ (L p.up.edges).length → rs.length = n → OpenInv p n σ R rs (matM n ((L p.up.edges).take i)) →
      ∃ σ', OpenInv p n σ' R rs (matM n (L p.up.edges)) ∧ f43_L1 guardT 0 (.ptr 1 0) (.p (eEs p.up.edges)) (.p (pI ((L p.up.edges).length : Nat))) (.p (pI (i : Nat))) σ = some (.ptr 1 0, σ')
  | 0, i, σ, R, rs, hk, hi, hrs, hI => by
    have : ¬ (i : Int) < ((L p.up.edges).length : Nat) := by omega
    refine ⟨σ, ?_, ?_⟩
    · rwa [List.take_of_length_le (by omega)] at hI
    · rw [f43_L1_eq guardT rfl]
      simp only [b_lss, obind, this, decide_false, condK_false]
  | k + 1, i, σ, R, rs, hk, hi, hrs, hI => by
    have h : i < (L p.up.edges).length := by omega
    have h' : (i : Int) < ((L p.up.edges).length : Nat) := by omega
    have w : IntKind.wrap .i64 ((i : Int) + 1) = ((i + 1 : Nat) : Int) := wrap_succ (by omega)
    have egd : (L p.up.edges).getD i default = (L p.up.edges)[i] := by rw [List.getD_eq_getElem?_getD, List.getElem?_eq_getElem h]; rfl
    obtain ⟨hv1, hv2, hv3, hv4⟩ := hv _ (List.getElem_mem h)
    obtain ⟨f, hf⟩ : ∃ f : Nat, (L p.up.edges)[i].f = (f : Nat) := ⟨_, (Int.toNat_of_nonneg hv1).symm⟩
    obtain ⟨t, ht⟩ : ∃ t : Nat, (L p.up.edges)[i].t = (t : Nat) := ⟨_, (Int.toNat_of_nonneg hv3).symm⟩
    have hfn : f < n := by omega
    have htn : t < n := by omega
    have hne : rs ≠ [] := by intro e; rw [e] at hrs; simp at hrs; omega
    obtain ⟨hR, hR2⟩ := hI.hR hne
    have h1 := hI.h1
    simp only [hne, if_false] at h1
    have hfr : f < rs.length := by omega
    have hrow := hI.row f hfr (by rw [matM_len]; exact hfn)
    rw [matM_get] at hrow
    have hr2 := hI.ge _ (List.getElem_mem hfr)
    have hrR : rs[f] ≠ R := fun e => hI.nR hne (e ▸ List.getElem_mem hfr)
    have hx : (σ ++ [Row.mix (edgD (L p.up.edges)[i])])[σ.length]? = some (.mix (edgD (L p.up.edges)[i])) := get_snoc
    have hxf : load1 (.ptr σ.length 0) (σ ++ [Row.mix (edgD (L p.up.edges)[i])]) = some (.p (pI (f : Nat))) := by rw [← hf]; exact load1_ptr hx rfl
    have hxt : load1 (.ptr σ.length 1) (σ ++ [Row.mix (edgD (L p.up.edges)[i])]) = some (.p (pI (t : Nat))) := by rw [← ht]; exact load1_ptr hx rfl
    have h8 : load1 (.ptr 1 8) (σ ++ [Row.mix (edgD (L p.up.edges)[i])]) = some (.rsl R 1 0 rs.length) := load1_ptr (get_old h1) (by simp [ePair])
    have hRf : load1 (.ptr R f) (σ ++ [Row.mix (edgD (L p.up.edges)[i])]) = some (rowV n rs[f]) := load1_ptr (get_old hR) (by simp [hfr])
    have hrowl : (rowM n ((L p.up.edges).take i) f).length = n := rowM_len _ _ _
    have hst := st4 (b := true) (t := t) (get_old (r := Row.mix (edgD (L p.up.edges)[i])) hrow) (by rw [hrowl]; exact htn)
    have l0 := get_lt hI.h0
    have l1 := get_lt hI.h1
    rw [f43_L1_eq guardT rfl]
    simp only [b_lss, obind, h', decide_true, condK_true, idx23 h, load100, load100_D h, egd, zero100, store_new100 σ (L p.up.edges)[i] [.p (pI 0), .p (pI 0), .p (pI 0)] rfl, nil_ptr, fa118_1, fa100_0, fa100_1, shift_ptr, Nat.zero_add, load84, load88, load3, h8, hxf, hxt, idx84_r hfr, hRf]
    simp only [rowV, idx88_r htn, obind, Nat.zero_add, hst, b_add, w]
    have htake : (L p.up.edges).take (i + 1) = (L p.up.edges).take i ++ [(L p.up.edges)[i]] := by rw [List.take_add_one]; simp [h]
    refine L43_1 hl hv k (i + 1) _ R rs (by omega) (by omega) hrs ⟨?_, ?_, ?_, ?_, ?_, hI.nodup, hI.ge, hI.nR⟩
    · exact get_set_ne (get_old hI.h0) (by omega)
    · exact get_set_ne (get_old hI.h1) (by omega)
    · intro _
      exact ⟨get_set_ne (get_old hR) (Ne.symm hrR), hR2⟩
    · rw [matM_len, hrs]
    · intro j hj h2
      rw [matM_get, htake, rowM_step n _ _ j f t hf ht]
      by_cases e : j = f
      · subst e
        simp only [if_true]
        rw [List.getElem?_set_self (by have := get_lt hrow; simp; omega)]
      · simp only [e, if_false]
        have hj2 := hI.row j hj (by rw [matM_len]; omega)
        rw [matM_get] at hj2
        refine get_set_ne (get_old hj2) fun e2 => e ?_
        exact (List.getElem_inj hI.nodup).1 e2

/-! ### What leaves -/
def ePairP (p : Pair) : List PV := [pI p.lo.n, eSl p.lo.init, eEs p.lo.edges, pI p.up.n, eSl p.up.init, eEs p.up.edges, eSl p.ll, eSl p.ul]
def upsV (n : Nat) (M : List (List Bool)) : PV := if M = [] then .nilsl else .sl false M.length (M.map fun r => .sl false n (eBools r))
def graphsV (p : Pair) (n : Nat) : List PV := ePairP p ++ [upsV n (matM n (L p.up.edges))]

theorem thaw_rows {σ : Store} {n d : Nat} : ∀ (rs : List Nat) (M : List (List Bool)), M.length = rs.length → (∀ j (h : j < rs.length) (h2 : j < M.length), σ[rs[j]]? = some (.arr (eBools M[j]))) → (∀ r ∈ M, r.length = n) →
    mapO (thawP 0 σ (d + 1)) (rs.map (rowV n)) = some (M.map fun r => .sl false n (eBools r))
  | [], M, h1, h2, h3 => by
    have : M = [] := List.length_eq_zero_iff.1 h1
    subst this; rfl
  | r :: rs, [], h1, h2, h3 => by simp at h1
  | r :: rs, m :: M, h1, h2, h3 => by
    have hr := h2 0 (by simp) (by simp)
    have hm : m.length = n := h3 m List.mem_cons_self
    have ih := thaw_rows (σ := σ) (n := n) (d := d) rs M (by simpa using h1) (fun j a b => by have := h2 (j + 1) (by simpa using a) (by simpa using b); simpa using this) (fun r hr => h3 r (List.mem_cons_of_mem _ hr))
    simp only [List.getElem_cons_zero] at hr
    have ht : (List.take n (eBools m)) = eBools m := List.take_of_length_le (by rw [bools_length]; omega)
    have hle : n ≤ (eBools m).length := by rw [bools_length]; omega
    have h0 : thawP 0 σ (d + 1) (rowV n r) = some (.sl false n (eBools m)) := by
      simp [thawP, rowV, hr, hle, ht, loosens_bools]
    simp only [List.map_cons, mapO, h0, ih]

theorem S43 {p : Pair} {n : Nat} {σ : Store} (hp : Small p) (hn : p.up.n = (n : Nat)) (hn2 : n ≤ 1000) (hv : ∀ e ∈ L p.up.edges, 0 ≤ e.f ∧ e.f < n ∧ 0 ≤ e.t ∧ e.t < n) : pureV CC 43 [.agg (ePair p)] σ = some (.pptr (graphsV p n) 0) := by
  refine pureV_any (by simp [pair_view]) fun lo σ0 hs => ?_
  rcases hs with ⟨rfl, rfl, _⟩ | ⟨_, _, h⟩
  case inr => exact absurd h (by simp [rowFree, rowFree1, ePair])
  have hb : build PP 118 [(0, .agg (ePair p))] = some (.agg (ePair p ++ [.p .nilsl])) := by
    have : ∀ a b c d e f g h : PV, build PP 118 [(0, .agg [.p a, .p b, .p c, .p d, .p e, .p f, .p g, .p h])] = some (.agg [.p a, .p b, .p c, .p d, .p e, .p f, .p g, .p h, .p .nilsl]) := by intros; kernel_rfl
    exact this ..
  have hbx : boxV (.agg (ePair p ++ [.p .nilsl])) = some (ePair p ++ [.p .nilsl]) := rfl
  have hI0 : OpenInv p n [Row.mix (ePair p), Row.mix (ePair p ++ [.p .nilsl])] 0 [] (List.replicate 0 (List.replicate n false)) :=
    ⟨rfl, rfl, fun h => absurd rfl h, rfl, fun j h => absurd h (by simp), List.nodup_nil, fun r h => absurd h (by simp), fun h => absurd rfl h⟩
  obtain ⟨σ1, R, rs, hrs, hI1, hL0⟩ := L43_0 hn hn2 n 0 _ 0 [] (by omega) rfl (Nat.zero_le _) hI0
  obtain ⟨σ2, hI2, hL1⟩ := L43_1 hp.ue hv _ 0 σ1 R rs rfl (Nat.zero_le _) hrs (by rw [List.take_zero, matM_nil]; exact hI1)
  refine ⟨.ptr 1 0, σ2, F43_call ?_, ?_⟩
  · rw [F43_eq]
    have g0 : ∀ s, (Row.mix (ePair p) :: s : Store)[0]? = some (.mix (ePair p)) := fun _ => rfl
    simp only [box_pair, obind, List.length_nil, List.nil_append, load27, pr_all (g0 _), omap, hb, hbx, List.length_cons, List.cons_append, Nat.zero_add, fa27_1, fa25_0, shift_ptr, load3, pr_3 (g0 _), hn]
    have e : f43_L0 guardT 0 (.ptr 0 0) (.ptr 1 0) (.p (pI (n : Nat))) (.p (pI 0)) [Row.mix (ePair p), Row.mix (ePair p ++ [.p .nilsl])] = _ := hL0
    rw [e, hL1]
  · have hx : thawP 0 σ2 3 (if rs = [] then .p .nilsl else .rsl R 1 0 rs.length) = some (upsV n (matM n (L p.up.edges))) := by
      by_cases he : rs = []
      · have hM : matM n (L p.up.edges) = [] := List.length_eq_zero_iff.1 (by rw [hI2.len, he]; rfl)
        simp [he, thawP, loosen, upsV, hM]
      · obtain ⟨hR, _⟩ := hI2.hR he
        have hM : matM n (L p.up.edges) ≠ [] := fun e => he (List.length_eq_zero_iff.1 (by rw [← hI2.len, e]; rfl))
        have ht := thaw_rows (d := 1) rs _ hI2.len hI2.row (fun r hr => by simp [matM] at hr; obtain ⟨u, _, e⟩ := hr; rw [← e]; exact rowM_len _ _ _)
        have e1 : List.take rs.length (rs.map (rowV n)) = rs.map (rowV n) := List.take_of_length_le (by simp)
        simp [he, thawP, hR, e1, ht, upsV, hM, hI2.len]
    simp only [thawAll, thawPart, thaw, thaw1, hI2.h1, Nat.zero_le, if_true, ePair, List.cons_append, List.nil_append, mapO, hx]
    simp [thawP, loosen, loosen_sl, loosen_es, graphsV, ePairP]

/-! ### follows -/
theorem idx84_p {M : List PV} {i : Nat} {n : Nat} (hi : i < n) : indexAddr PP 84 (.p (.sl false n M)) (.p (pI (i : Nat))) = some (.pptr M i) := by
  have h2 : (0 : Int) ≤ (i : Int) ∧ (i : Int) < (n : Nat) := by omega
  simp [indexAddr, u84, s88, h2, hi]
theorem idx88_p {M : List PV} {i : Nat} {n : Nat} (hi : i < n) : indexAddr PP 88 (.p (.sl false n M)) (.p (pI (i : Nat))) = some (.pptr M i) := by
  have h2 : (0 : Int) ≤ (i : Int) ∧ (i : Int) < (n : Nat) := by omega
  simp [indexAddr, u88, s4, h2, hi]

theorem S45 {p : Pair} {n u v : Nat} {σ : Store} (hu : u < n) (hv : v < n) : pureV CC 45 [.pptr (graphsV p n) 0, .p (pI (u : Nat)), .p (pI (v : Nat))] σ = some (.p (.bool (follows p.up u v))) := by
  refine pureV_free rfl rfl (F45_call (r := (.p (.bool (follows p.up u v)), [])) ?_) rfl
  rw [F45_eq]
  simp only [b_eql, obind, follows]
  by_cases e : u = v
  · subst e
    simp [guard_tf, guard_sk, pickV_true]
  · have e' : ¬ ((u : Int) = (v : Int)) := by omega
    have hM : matM n (L p.up.edges) ≠ [] := fun e => by have := matM_len n (L p.up.edges); rw [e] at this; simp at this; omega
    have h8 : (graphsV p n)[8]? = some (.sl false n ((matM n (L p.up.edges)).map fun r => .sl false n (eBools r))) := by
      simp [graphsV, ePairP, upsV, hM, matM_len]
    have hr : ((matM n (L p.up.edges)).map fun r => PV.sl false n (eBools r))[u]? = some (.sl false n (eBools (rowM n (L p.up.edges) u))) := by
      simp [matM, hu]
    have hc : (eBools (rowM n (L p.up.edges) u))[v]? = some (.bool ((L p.up.edges).any (stepB u v))) := by
      simp [eBools, rowM, hv]
    simp only [e', decide_false, guard_ff, obind, nil_pptr, fa118_1, shift_pptr, Nat.zero_add, load84, load1_pptr h8, idx84_p hu, load88, load1_pptr hr, idx88_p hv, load4, load1_pptr hc, pickV_false, Bool.false_or]

theorem S44 {o : Option (List Int)} {σ : Store} : pureV CC 44 [.p (eSl o)] σ = some (.fn 80 [.pptr [eSl o] 0]) := by
  refine pureV_any (by simp [sl_view]) fun lo σ0 hs => ⟨.fn 80 [.ptr σ0.length 0], σ0 ++ [.mix [.p (eSl o)]], F44_call ?_, ?_⟩
  · rw [F44_eq]
    have : boxV (.p (eSl o)) = some [.p (eSl o)] := rfl
    simp only [this, obind]
  · have hx : (σ0 ++ [Row.mix [.p (eSl o)]])[σ0.length]? = some (.mix [.p (eSl o)]) := get_snoc
    have hlo : lo ≤ σ0.length := by rcases hs with ⟨rfl, rfl, _⟩ | ⟨_, rfl, _⟩ <;> simp_all
    simp [thawAll, thawPart, thaw, mapO, thaw1, hlo, thawP, loosen_sl]

end Go.D
end
/- The upper path of a lower one, as mathematics. -/
section
set_option linter.unusedVariables false
set_option linter.unusedSimpArgs false
namespace Go.D

def labB (p : Pair) (l : List Int) (i u : Nat) : Bool := decide ((L p.ll).getD (l.getD i 0).toNat 0 = (L p.ul).getD u 0)
def anyFrom (q : Nat → Bool) : Nat → Nat → Bool
  | _, 0 => false
  | v, d + 1 => q v || anyFrom q (v + 1) d
/-- From which upper states the rest of the path has an upper one; k steps before the end. -/
def goodK (p : Pair) (l : List Int) (n : Nat) : Nat → Nat → Bool
  | 0 => fun u => labB p l (l.length - 1) u
  | k + 1 => fun u => anyFrom (fun v => follows p.up u v && goodK p l n k v) 0 n && labB p l (l.length - 1 - (k + 1)) u
def goodAt (p : Pair) (l : List Int) (n i : Nat) : Nat → Bool := goodK p l n (l.length - 1 - i)
def rowG (p : Pair) (l : List Int) (n i : Nat) : List Bool := (List.range n).map (goodAt p l n i)
theorem rowG_len (p : Pair) (l : List Int) (n i : Nat) : (rowG p l n i).length = n := by simp [rowG]
theorem rowG_get (p : Pair) (l : List Int) (n i u : Nat) (h : u < n) : (rowG p l n i).getD u false = goodAt p l n i u := by simp [rowG, h]

theorem good_last (p : Pair) (l : List Int) (n : Nat) (u : Nat) : goodAt p l n (l.length - 1) u = labB p l (l.length - 1) u := by
  unfold goodAt
  rw [Nat.sub_self]
  rfl
theorem good_step (p : Pair) (l : List Int) (n i : Nat) (h : i + 1 < l.length) (u : Nat) : goodAt p l n i u = (anyFrom (fun v => follows p.up u v && goodAt p l n (i + 1) v) 0 n && labB p l i u) := by
  unfold goodAt
  have e : l.length - 1 - i = (l.length - 1 - (i + 1)) + 1 := by omega
  rw [e]
  have e2 : l.length - 1 - (l.length - 1 - (i + 1) + 1) = i := by omega
  show (anyFrom _ 0 n && labB p l (l.length - 1 - (l.length - 1 - (i + 1) + 1)) u) = _
  rw [e2]

def fitsB (p : Pair) (i : Nat) (out : List Nat) (u : Nat) : Bool := if i = 0 then hasI (L p.up.init) u else follows p.up (out.getD (i - 1) 0) u
def pickB (p : Pair) (l : List Int) (n i : Nat) (out : List Nat) (u : Nat) : Bool := goodAt p l n i u && fitsB p i out u
def firstFrom (q : Nat → Bool) : Nat → Nat → Option Nat
  | _, 0 => none
  | u, d + 1 => if q u then some u else firstFrom q (u + 1) d
def goUp (p : Pair) (l : List Int) (n : Nat) : Nat → Nat → List Nat → Option (List Nat)
  | 0, _, out => some out
  | k + 1, i, out => match firstFrom (pickB p l n i out) 0 n with
    | none => none
    | some u => goUp p l n k (i + 1) (out ++ [u])
def upPath (p : Pair) (l : List Int) (n : Nat) : Option (List Nat) := goUp p l n l.length 0 []
def natsI (l : List Nat) : List Int := l.map fun (u : Nat) => (u : Int)

theorem firstFrom_lt {q : Nat → Bool} : ∀ (d u : Nat) {w : Nat}, firstFrom q u d = some w → w < u + d
  | 0, u, w, h => by simp [firstFrom] at h
  | d + 1, u, w, h => by
    unfold firstFrom at h
    split at h
    · injection h with h; omega
    · have := firstFrom_lt d (u + 1) h; omega

/-- What the two programs need of the pair and the path. -/
structure Fine (p : Pair) (o : Option (List Int)) (n : Nat) : Prop where
  small : Small p
  n0 : p.up.n = (n : Nat)
  n40 : n ≤ 1000
  steps : ∀ e ∈ L p.up.edges, 0 ≤ e.f ∧ e.f < n ∧ 0 ≤ e.t ∧ e.t < n
  pos : 0 < (L o).length
  len : (L o).length ≤ 1000
  states : ∀ i, i < (L o).length → 0 ≤ (L o).getD i 0 ∧ ((L o).getD i 0).toNat < (L p.ll).length
  ul : (L p.ul).length = n

end Go.D
end
/- UpperPath: from which upper states the rest of the path has an upper one. -/
section
set_option linter.unusedVariables false
set_option linter.unusedSimpArgs false
namespace Go.D

section
variable {p : Pair} {o : Option (List Int)} {n : Nat}

/-- The store while the rows are made. -/
structure GI (p : Pair) (o : Option (List Int)) (n : Nat) (σ : Store) (k : Nat) (cs : List DV) : Prop where
  h0 : σ[0]? = some (.mix (ePair p))
  h1 : σ[1]? = some (.mix [.p (eSl o)])
  h2 : σ[2]? = some (.mix [.pptr (graphsV p n) 0])
  h3 : σ[3]? = some (.mix cs)
  h4 : σ[4]? = some (.mix [.rsl 3 1 0 (L o).length])
  len : cs.length = (L o).length
  row : ∀ j, k ≤ j → j < (L o).length → ∃ q, cs[j]? = some (.rsl q 1 0 n) ∧ 5 ≤ q ∧ σ[q]? = some (.arr (eBools (rowG p (L o) n j)))

/-- One row is being made. -/
structure GS (p : Pair) (o : Option (List Int)) (n : Nat) (σ : Store) (i q : Nat) (row : List Bool) (cs : List DV) : Prop where
  gi : GI p o n σ (i + 1) cs
  i1 : i < (L o).length
  cur : cs[i]? = some (.rsl q 1 0 n)
  q5 : 5 ≤ q
  hq : σ[q]? = some (.arr (eBools row))
  rl : row.length = n
  ne : ∀ j q', i < j → cs[j]? = some (.rsl q' 1 0 n) → q' ≠ q

theorem GS.set {σ : Store} {i q : Nat} {row row' : List Bool} {cs : List DV} (h : GS p o n σ i q row cs) (hr : row'.length = n) : GS p o n (σ.set q (.arr (eBools row'))) i q row' cs := by
  have hq5 := h.q5
  refine ⟨⟨get_set_ne h.gi.h0 (by omega), get_set_ne h.gi.h1 (by omega), get_set_ne h.gi.h2 (by omega), get_set_ne h.gi.h3 (by omega), get_set_ne h.gi.h4 (by omega), h.gi.len, fun j h1 h2 => ?_⟩, h.i1, h.cur, h.q5, ?_, hr, h.ne⟩
  · obtain ⟨q', a, b, c⟩ := h.gi.row j h1 h2
    exact ⟨q', a, b, get_set_ne c (h.ne j q' (by omega) a)⟩
  · rw [List.getElem?_set_self (get_lt h.hq)]

theorem set_same {σ : Store} {q : Nat} {x : Row} (h : σ[q]? = some x) : σ.set q x = σ := by
  apply List.ext_getElem?
  intro j
  by_cases e : q = j
  · subst e; rw [List.getElem?_set_self (get_lt h), h]
  · rw [List.getElem?_set_ne e]

theorem load1_arr {σ : Store} {r i : Nat} {l : List Bool} (h : σ[r]? = some (.arr (eBools l))) (hi : i < l.length) : load1 (.ptr r i) σ = some (.p (.bool (l.getD i false))) := by
  have h1 : i + 1 ≤ (eBools l).length := by rw [bools_length]; omega
  have h2 : (eBools l)[i]? = some (.bool (l.getD i false)) := by
    rw [List.getD_eq_getElem?_getD, List.getElem?_eq_getElem hi]
    simp [eBools, hi]
  obtain ⟨_, h3⟩ := drop_one h2
  simp [load1, loadN, h, h1, h3]

variable {K' : Ex → Store → Option (DV × Store)}

theorem L12_1 (hf : Fine p o n) {i u q : Nat} {row : List Bool} {cs : List DV} {σ : Store} (h : GS p o n σ i q row cs) (hu : u < n) :
    ∀ (d v : Nat) (g : Bool), n - v = d → v ≤ n → (g = false → i + 1 < (L o).length) →
      f12_L1 guardT 0 K' (.ptr 0 0) (.ptr 1 0) (.ptr 2 0) (.ptr 4 0) (.p (pI (i : Nat))) (.p (pI ((L o).getD i 0))) (.p (pI (u : Nat))) (.p (.bool g)) (.p (pI (v : Nat))) (.p (pI (n : Nat))) (.p (pI (u : Nat))) σ =
      f12_L0 guardT 0 K' (.ptr 0 0) (.ptr 1 0) (.ptr 2 0) (.ptr 4 0) (.p (pI (i : Nat))) (.p (pI ((L o).getD i 0))) (.p (pI (n : Nat))) (.p (pI (u + 1 : Nat)))
        (σ.set q (.arr (eBools (row.set u ((g || anyFrom (fun v => follows p.up u v && goodAt p (L o) n (i + 1) v) v d) && labB p (L o) i u))))) := by
  have hn := hf.n0
  have i1 := h.i1
  have hlen := hf.len
  have hn40 := hf.n40
  have e0 : load1 (.ptr 0 3) σ = some (.p (pI (n : Nat))) := by rw [← hn]; exact pr_3 h.gi.h0
  have e4 : load1 (.ptr 4 0) σ = some (.rsl 3 1 0 (L o).length) := load1_ptr h.gi.h4 rfl
  have e3 : load1 (.ptr 3 i) σ = some (.rsl q 1 0 n) := load1_ptr h.gi.h3 h.cur
  have e6 : load1 (.ptr 0 6) σ = some (.p (eSl p.ll)) := pr_6 h.gi.h0
  have e7 : load1 (.ptr 0 7) σ = some (.p (eSl p.ul)) := pr_7 h.gi.h0
  have e2 : load1 (.ptr 2 0) σ = some (.pptr (graphsV p n) 0) := load1_ptr h.gi.h2 rfl
  have wu : IntKind.wrap .i64 ((u : Int) + 1) = ((u + 1 : Nat) : Int) := wrap_succ (by omega)
  have wi : IntKind.wrap .i64 ((i : Int) + 1) = ((i + 1 : Nat) : Int) := wrap_succ (by omega)
  obtain ⟨hs0, hs1⟩ := hf.states i i1
  have es : (L o).getD i 0 = (((L o).getD i 0).toNat : Int) := (Int.toNat_of_nonneg hs0).symm
  have hul : u < (L p.ul).length := by rw [hf.ul]; exact hu
  -- what stands behind the loop
  have fin : ∀ (g : Bool),
      ((load PP 84 (.ptr 4 0) σ).bind fun x87 =>
      (indexAddr PP 84 x87 (.p (pI (i : Nat)))).bind fun x89 =>
      (load PP 88 x89 σ).bind fun x90 =>
      guardT _ (.p (.bool g)) true ((fieldAddr PP 27 (.ptr 0 0) 2).bind fun v => some (v, σ)) σ fun x94 σ1 =>
      guardT _ (.p (.bool g)) true ((load PP 22 x94 σ1).bind fun v => some (v, σ1)) σ1 fun x95 σ2 =>
      guardT _ (.p (.bool g)) true (some (.p (pI ((L o).getD i 0)), σ2)) σ2 fun x96 σ3 =>
      guardT _ (.p (.bool g)) true ((indexAddr PP 22 x95 x96).bind fun v => some (v, σ3)) σ3 fun x97 σ4 =>
      guardT _ (.p (.bool g)) true ((load PP 3 x97 σ4).bind fun v => some (v, σ4)) σ4 fun x98 σ5 =>
      guardT _ (.p (.bool g)) true ((fieldAddr PP 27 (.ptr 0 0) 3).bind fun v => some (v, σ5)) σ5 fun x99 σ6 =>
      guardT _ (.p (.bool g)) true ((load PP 22 x99 σ6).bind fun v => some (v, σ6)) σ6 fun x100 σ7 =>
      guardT _ (.p (.bool g)) true (some (.p (pI (u : Nat)), σ7)) σ7 fun x101 σ8 =>
      guardT _ (.p (.bool g)) true ((indexAddr PP 22 x100 x101).bind fun v => some (v, σ8)) σ8 fun x102 σ9 =>
      guardT _ (.p (.bool g)) true ((load PP 3 x102 σ9).bind fun v => some (v, σ9)) σ9 fun x103 σ10 =>
      guardT _ (.p (.bool g)) true ((binOp PP .eql 3 x98 x103).bind fun v => some (v, σ10)) σ10 fun x104 σ11 =>
      (pickV (.p (.bool g)) x104 (DV.p (PV.bool false))).bind fun x105 =>
      (indexAddr PP 88 x90 (.p (pI (u : Nat)))).bind fun x106 =>
      (store PP 0 4 x106 x105 σ11).bind fun σ12 =>
      (binOp PP .add 3 (.p (pI (u : Nat))) (DV.p (PV.int IntKind.i64 (1)))).bind fun x107 =>
      f12_L0 guardT 0 K' (.ptr 0 0) (.ptr 1 0) (.ptr 2 0) (.ptr 4 0) (.p (pI (i : Nat))) (.p (pI ((L o).getD i 0))) (.p (pI (n : Nat))) x107 σ12) =
      f12_L0 guardT 0 K' (.ptr 0 0) (.ptr 1 0) (.ptr 2 0) (.ptr 4 0) (.p (pI (i : Nat))) (.p (pI ((L o).getD i 0))) (.p (pI (n : Nat))) (.p (pI (u + 1 : Nat)))
        (σ.set q (.arr (eBools (row.set u (g && labB p (L o) i u))))) := by
    intro g
    simp only [load84, load88, e4, obind, idx84_r i1, Nat.zero_add, e3]
    have hst : ∀ b : Bool, store PP 0 4 (.ptr q u) (.p (.bool b)) σ = some (σ.set q (.arr (eBools (row.set u b)))) := fun b => st4 h.hq (by rw [h.rl]; exact hu)
    cases g with
    | false => simp only [guard_ft, guard_sk, obind, pickV_false, idx88_r hu, Nat.zero_add, hst, b_add, wu, Bool.false_and]
    | true =>
      have hl1 : indexAddr PP 22 (.p (eSl p.ll)) (.p (pI ((L o).getD i 0))) = some (.pptr (eInts (L p.ll)) ((L o).getD i 0).toNat) := by
        have := idx22 (o := p.ll) hs1
        rw [← es] at this
        exact this
      simp only [guard_tt, obind, fa27_2, fa27_3, shift_ptr, Nat.zero_add, load22, e6, e7, hl1, load3, load1_getD hs1, idx22 hul, load1_getD hul, b_eql, pickV_true, idx88_r hu, hst, b_add, wu, Bool.true_and, labB]
  intro d
  induction d with
  | zero =>
    intro v g hd hv hg
    have hlt : ¬ (v : Int) < (n : Nat) := by omega
    rw [f12_L1_eq guardT rfl]
    simp only [fa27_1, fa25_0, shift_ptr, Nat.zero_add, load3, e0, obind, b_lss, hlt, decide_false, guard_ft, guard_sk, pickV_false, condK_false]
    have := fin g
    simp only [load3] at this
    rw [this]
    simp [anyFrom]
  | succ d ih =>
    intro v g hd hv hg
    have hlt : (v : Int) < (n : Nat) := by omega
    have hvn : v < n := by omega
    rw [f12_L1_eq guardT rfl]
    simp only [fa27_1, fa25_0, shift_ptr, Nat.zero_add, load3, e0, obind, b_lss, hlt, decide_true, guard_tt, not_bool, pickV_true]
    cases g with
    | true =>
      simp only [Bool.not_true, condK_false]
      have := fin true
      simp only [load3] at this
      rw [this]
      simp
    | false =>
      have hi2 := hg rfl
      obtain ⟨q', ha, hb, hc⟩ := h.gi.row (i + 1) (Nat.le_refl _) hi2
      have e3' : load1 (.ptr 3 (i + 1)) σ = some (.rsl q' 1 0 n) := load1_ptr h.gi.h3 ha
      have wv : IntKind.wrap .i64 ((v : Int) + 1) = ((v + 1 : Nat) : Int) := wrap_succ (by omega)
      simp only [Bool.not_false, condK_true, load82, e2, obind, pureFn_fn, List.append_nil, S45 hu hvn, Bool.false_or, anyFrom]
      cases hfo : follows p.up u v with
      | false =>
        simp only [guard_ft, guard_sk, obind, pickV_false, b_add, wv]
        rw [ih (v + 1) false (by omega) (by omega) hg]
        simp
      | true =>
        simp only [guard_tt, obind, load84, e4, b_add, wi, idx84_r hi2, Nat.zero_add, load88, e3', idx88_r hvn, load4, load1_arr hc (show v < (rowG p (L o) n (i + 1)).length by rw [rowG_len]; exact hvn), rowG_get _ _ _ _ _ hvn, pickV_true, wv]
        rw [ih (v + 1) (goodAt p (L o) n (i + 1) v) (by omega) (by omega) (fun _ => hi2)]
        simp

theorem L12_0 (hf : Fine p o n) {i q : Nat} {cs : List DV} :
    ∀ (d u : Nat) (row : List Bool) (σ : Store), n - u = d → u ≤ n → GS p o n σ i q row cs → (∀ j, j < u → row.getD j false = goodAt p (L o) n i j) →
      f12_L0 guardT 0 K' (.ptr 0 0) (.ptr 1 0) (.ptr 2 0) (.ptr 4 0) (.p (pI (i : Nat))) (.p (pI ((L o).getD i 0))) (.p (pI (n : Nat))) (.p (pI (u : Nat))) σ = K' .normal (σ.set q (.arr (eBools (rowG p (L o) n i))))
  | 0, u, row, σ, hd, hu, h, hrow => by
    have hlt : ¬ (u : Int) < (n : Nat) := by omega
    rw [f12_L0_eq guardT rfl]
    simp only [b_lss, obind, hlt, decide_false, condK_false]
    have : row = rowG p (L o) n i := by
      apply List.ext_getElem (by rw [h.rl, rowG_len])
      intro j h1 h2
      have hj : j < n := by rw [← h.rl]; exact h1
      have e1 := hrow j (by omega)
      rw [List.getD_eq_getElem?_getD, List.getElem?_eq_getElem h1] at e1
      have e2 := rowG_get p (L o) n i j hj
      rw [List.getD_eq_getElem?_getD, List.getElem?_eq_getElem h2] at e2
      exact e1.trans e2.symm
    rw [← this, set_same h.hq]
  | d + 1, u, row, σ, hd, hu, h, hrow => by
    have hlt : (u : Int) < (n : Nat) := by omega
    have hun : u < n := by omega
    have i1 := h.i1
    have hlen := hf.len
    have e1 : load1 (.ptr 1 0) σ = some (.p (eSl o)) := load1_ptr h.gi.h1 rfl
    have wm : IntKind.wrap .i64 (((L o).length : Nat) - 1 : Int) = (((L o).length - 1 : Nat) : Int) := wrap_pred (by omega) (by omega)
    have hi0 : decide ((i : Int) = (((L o).length - 1 : Nat) : Int)) = decide (i = (L o).length - 1) := by simp only [decide_eq_decide]; omega
    rw [f12_L0_eq guardT rfl]
    simp only [b_lss, obind, hlt, decide_true, condK_true, load22, e1, len22, b_sub, wm, b_eql, hi0]
    have e := L12_1 (K' := K') hf h hun n 0 (decide (i = (L o).length - 1)) (by omega) (Nat.zero_le _) (by intro hg; simp at hg; omega)
    have e' : f12_L1 guardT 0 K' (.ptr 0 0) (.ptr 1 0) (.ptr 2 0) (.ptr 4 0) (.p (pI (i : Nat))) (.p (pI ((L o).getD i 0))) (.p (pI (u : Nat))) (.p (.bool (decide (i = (L o).length - 1)))) (.p (pI 0)) (.p (pI (n : Nat))) (.p (pI (u : Nat))) σ = _ := e
    rw [e']
    have hg : ((decide (i = (L o).length - 1) || anyFrom (fun v => follows p.up u v && goodAt p (L o) n (i + 1) v) 0 n) && labB p (L o) i u) = goodAt p (L o) n i u := by
      by_cases hl : i = (L o).length - 1
      · rw [hl, good_last]; simp
      · rw [good_step p (L o) n i (by omega)]; simp [hl]
    rw [hg, L12_0 hf d (u + 1) _ _ (by omega) (by omega) (h.set (row' := row.set u (goodAt p (L o) n i u)) (by simp [h.rl])) (by
      intro j hj
      rcases Nat.lt_or_ge j u with h3 | h3
      · rw [List.getD_eq_getElem?_getD, List.getElem?_set_ne (by omega), ← List.getD_eq_getElem?_getD]; exact hrow j h3
      · have : j = u := by omega
        subst this
        rw [List.getD_eq_getElem?_getD, List.getElem?_set_self (by rw [h.rl]; exact hun)]
        rfl)]
    rw [List.set_set]

end
end Go.D
end
/- UpperPath: the rounds, the path. -/
section
set_option linter.unusedVariables false
set_option linter.unusedSimpArgs false
namespace Go.D

section
variable {p : Pair} {o : Option (List Int)} {n : Nat}

theorem st88_m {σ : Store} {cs : List DV} {i q : Nat} (h : σ[3]? = some (.mix cs)) (hi : i < cs.length) : store PP 0 88 (.ptr 3 i) (.rsl q 1 0 n) σ = some (σ.set 3 (.mix (cs.set i (.rsl q 1 0 n)))) := by
  have h1 : splice cs i [DV.rsl q 1 0 n] = cs.set i (.rsl q 1 0 n) := by
    unfold splice
    rw [List.set_eq_take_append_cons_drop]
    simp [hi]
  have hle : i + 1 ≤ cs.length := hi
  simp [store, s88, DV.cells, storeN, h, DV.one, h1, hle]

/-- One round of the range over the path, backward. -/
theorem R12 (hf : Fine p o n) {k : Nat} {cs : List DV} {σ : Store} (h : GI p o n σ (k + 1) cs) (hk : k < (L o).length) (x0 x1 x4 x5 x6 x7 x21 x22 x23 x24 x26 x27 x28 x29 x30 x31 x33 x34 x35 x36 x37 x38 x39 : DV) :
    ∃ σ' cs', GI p o n σ' k cs' ∧ ∀ K', f12_R0 guardT 0 x0 x1 (.ptr 0 0) (.ptr 1 0) x4 x5 x6 x7 (.ptr 2 0) (.ptr 4 0) x21 x22 x23 x24 x26 x27 x28 x29 x30 x31 x33 x34 x35 x36 x37 x38 x39 [.p (pI (k : Nat)), .p (pI ((L o).getD k 0))] σ K' = K' .normal σ' := by
  have hn := hf.n0
  have hn40 := hf.n40
  have l4 := get_lt h.h4
  have e0 : load1 (.ptr 0 3) σ = some (.p (pI (n : Nat))) := by rw [← hn]; exact pr_3 h.h0
  have e4 : load1 (.ptr 4 0) σ = some (.rsl 3 1 0 (L o).length) := load1_ptr h.h4 rfl
  have g3 : (σ ++ [Row.arr (eBools (List.replicate n false))])[3]? = some (.mix cs) := get_old h.h3
  have hkc : k < cs.length := by rw [h.len]; exact hk
  have hnew : (σ ++ [Row.arr (eBools (List.replicate n false))])[σ.length]? = some (.arr (eBools (List.replicate n false))) := get_snoc
  have hgs : GS p o n ((σ ++ [Row.arr (eBools (List.replicate n false))]).set 3 (.mix (cs.set k (.rsl σ.length 1 0 n)))) k σ.length (List.replicate n false) (cs.set k (.rsl σ.length 1 0 n)) := by
    refine ⟨⟨get_set_ne (get_old h.h0) (by omega), get_set_ne (get_old h.h1) (by omega), get_set_ne (get_old h.h2) (by omega), ?_, get_set_ne (get_old h.h4) (by omega), by simp [h.len], fun j h1 h2 => ?_⟩, hk, ?_, by omega, get_set_ne hnew (by omega), by simp, fun j q' h1 h2 => ?_⟩
    · rw [List.getElem?_set_self (by simp; omega)]
    · obtain ⟨q, a, b, c⟩ := h.row j h1 h2
      refine ⟨q, by rw [List.getElem?_set_ne (by omega)]; exact a, b, get_set_ne (get_old c) (by omega)⟩
    · rw [List.getElem?_set_self hkc]
    · rw [List.getElem?_set_ne (by omega)] at h2
      rcases Nat.lt_or_ge j (L o).length with h3 | h3
      · obtain ⟨q, a, b, c⟩ := h.row j h1 h3
        rw [a] at h2
        injection h2 with h2; injection h2 with h2
        have := get_lt c
        omega
      · rw [List.getElem?_eq_none (by rw [h.len]; exact h3)] at h2
        exact absurd h2 (by simp)
  have hg2 := hgs.set (row' := rowG p (L o) n k) (rowG_len _ _ _ _)
  refine ⟨_, _, ⟨hg2.gi.h0, hg2.gi.h1, hg2.gi.h2, hg2.gi.h3, hg2.gi.h4, hg2.gi.len, fun j h1 h2 => ?_⟩, fun K' => ?_⟩
  · rcases Nat.eq_or_lt_of_le h1 with h3 | h3
    · subst h3
      exact ⟨σ.length, hg2.cur, by omega, hg2.hq⟩
    · exact hg2.gi.row j h3 h2
  rw [f12_R0_eq]
  simp only [load84, e4, obind, fa27_1, fa25_0, shift_ptr, Nat.zero_add, load3, e0, mk88 hn40, idx84_r hk, st88_m g3 hkc]
  generalize (σ ++ [Row.arr (eBools (List.replicate n false))]).set 3 (.mix (cs.set k (.rsl σ.length 1 0 n))) = ρ at hgs ⊢
  have e4' : load1 (.ptr 4 0) ρ = some (.rsl 3 1 0 (L o).length) := load1_ptr hgs.gi.h4 rfl
  have e3' : load1 (.ptr 3 k) ρ = some (.rsl σ.length 1 0 n) := load1_ptr hgs.gi.h3 hgs.cur
  have hl88 : len PP 88 (.rsl σ.length 1 0 n) ρ = some (.p (pI (n : Nat))) := by simp [len, u88]
  simp only [e4', obind, idx84_r hk, Nat.zero_add, load88, e3', hl88]
  exact L12_0 (K' := K') hf n 0 _ ρ (by omega) (Nat.zero_le _) hgs (fun j hj => absurd hj (by omega))

theorem rounds12 (hf : Fine p o n) {run : List DV → Store → (Ex → Store → Option (DV × Store)) → Option (DV × Store)} {K : Ex → Store → Option (DV × Store)}
    (hrun : ∀ (k : Nat) (cs : List DV) (σ : Store), GI p o n σ (k + 1) cs → k < (L o).length → ∃ σ' cs', GI p o n σ' k cs' ∧ ∀ K', run [.p (pI (k : Nat)), .p (pI ((L o).getD k 0))] σ K' = K' .normal σ') :
    ∀ (k : Nat) (cs : List DV) (σ : Store), GI p o n σ k cs → k ≤ (L o).length → ∃ σ' cs', GI p o n σ' 0 cs' ∧ roundsK run (downFrom false 1 (eInts (L o)) k) σ K = K .normal σ'
  | 0, cs, σ, h, hk => ⟨σ, cs, h, rfl⟩
  | k + 1, cs, σ, h, hk => by
    obtain ⟨σ1, cs1, h1, e1⟩ := hrun k cs σ h (by omega)
    obtain ⟨σ2, cs2, h2, e2⟩ := rounds12 hf hrun k cs1 σ1 h1 (by omega)
    refine ⟨σ2, cs2, h2, ?_⟩
    have helem : elemOf false 1 (eInts (L o)) k = .p (pI ((L o).getD k 0)) := by
      have hk' : k < (L o).length := by omega
      have hx : (eInts (L o))[k]? = some (pI (L o)[k]) := by simp [eInts, hk']
      have hy : (L o).getD k 0 = (L o)[k] := by rw [List.getD_eq_getElem?_getD, List.getElem?_eq_getElem hk']; rfl
      rw [hy]
      simp [elemOf, hx]
    show roundsK run ([.p (pI (k : Nat)), elemOf false 1 (eInts (L o)) k] :: downFrom false 1 (eInts (L o)) k) σ K = _
    rw [helem]
    simp only [roundsK]
    rw [e1]
    exact e2

theorem range12 (hf : Fine p o n) {run : List DV → Store → (Ex → Store → Option (DV × Store)) → Option (DV × Store)} {K : Ex → Store → Option (DV × Store)} {cs : List DV} {σ : Store}
    (hrun : ∀ (k : Nat) (cs : List DV) (σ : Store), GI p o n σ (k + 1) cs → k < (L o).length → ∃ σ' cs', GI p o n σ' k cs' ∧ ∀ K', run [.p (pI (k : Nat)), .p (pI ((L o).getD k 0))] σ K' = K' .normal σ')
    (h : GI p o n σ (L o).length cs) : ∃ σ' cs', GI p o n σ' 0 cs' ∧ rangeK (pol 12) (.fn 80 [.pptr [eSl o] 0]) 2 true true run σ K = K .normal σ' := by
  obtain ⟨l, rfl⟩ : ∃ l, o = some l := by
    cases o with
    | none => have := hf.pos; simp at this
    | some l => exact ⟨l, rfl⟩
  have hlen := hf.len
  have hc : (eInts l).length = l.length * 1 ∧ 0 < 1 ∧ l.length ≤ 140737488355328 ∧ (false = false → 1 = 1) := by
    simp only [Option.getD_some] at hlen
    exact ⟨by simp [ints_length], by omega, by omega, fun _ => rfl⟩
  have hseq : ((pol 12).seq 80).bind (fun kind => seqList kind [.pptr [eSl (some l)] 0]) = some (downFrom false 1 (eInts l) l.length) := by
    show seqList (.backward false 1) [.pptr [eSl (some l)] 0] = _
    simp [seqList, eSl, ints_length, hc.2.2.1]
  have hall : ∀ k, (downFrom false 1 (eInts l) k).all (fun x => x.length == 2) = true := by
    intro k
    induction k with
    | zero => rfl
    | succ k ih => simp [downFrom, ih]
  obtain ⟨σ', cs', h1, h2⟩ := rounds12 hf hrun l.length cs σ h (Nat.le_refl _)
  refine ⟨σ', cs', h1, ?_⟩
  simp only [rangeK, hseq, hall, Bool.and_self, if_true]
  exact h2

/-! ### The path -/
def OutRel (σ : Store) (n : Nat) (out : List Nat) (x : DV) : Prop :=
  (∀ u ∈ out, u < n) ∧ ((out = [] ∧ x = .p .nilsl) ∨ (out ≠ [] ∧ ∃ r ver, x = .osl r ver 1 out.length (eInts (natsI out)) ∧ σ[r]? = some (.tok ver) ∧ 5 ≤ r))

theorem GI.push {σ : Store} {k : Nat} {cs : List DV} (h : GI p o n σ k cs) (r : Row) : GI p o n (σ ++ [r]) k cs :=
  ⟨get_old h.h0, get_old h.h1, get_old h.h2, get_old h.h3, get_old h.h4, h.len, fun j h1 h2 => let ⟨q, a, b, c⟩ := h.row j h1 h2; ⟨q, a, b, get_old c⟩⟩
theorem GI.tok {σ : Store} {k : Nat} {cs : List DV} (h : GI p o n σ k cs) {r v v' : Nat} (hr : σ[r]? = some (.tok v)) (h5 : 5 ≤ r) : GI p o n (σ.set r (.tok v')) k cs := by
  refine ⟨get_set_ne h.h0 (by omega), get_set_ne h.h1 (by omega), get_set_ne h.h2 (by omega), get_set_ne h.h3 (by omega), get_set_ne h.h4 (by omega), h.len, fun j h1 h2 => ?_⟩
  obtain ⟨q, a, b, c⟩ := h.row j h1 h2
  exact ⟨q, a, b, get_set_ne c fun e => by rw [e, hr] at c; injection c with c; cases c⟩

theorem bs22_1 (x : Int) (σ : Store) : buildSlice PP none 22 1 [(0, .p (pI x))] σ = some (.p (.sl true 1 [pI x]), σ) := Eq.trans (by kernel_rfl) rfl
theorem app22_nil (x : Int) (σ : Store) : append PP 0 false 22 22 (.p .nilsl) (.p (.sl true 1 [pI x])) σ = some (.osl σ.length 0 1 1 [pI x], σ ++ [.tok 0]) := by
  simp [append, src22, u22, s3, bytes3, zero3, source, appNil, pures, DV.pure?]
theorem app22_tok {σ : Store} {r ver m : Nat} {cs : List PV} (x : Int) (h : σ[r]? = some (.tok ver)) (hc : cs.length = m) (hm : m ≤ 1000) : append PP 0 false 22 22 (.osl r ver 1 m cs) (.p (.sl true 1 [pI x])) σ = some (.osl r (ver + 1) 1 (m + 1) (cs ++ [pI x]), σ.set r (.tok (ver + 1))) := by
  have h1 : (m + 1) * 8 ≤ 140737488355328 := by omega
  have h2 : m + 1 ≤ 140737488355328 := by omega
  simp [append, src22, u22, s3, bytes3, zero3, source, appTok, h, h1, h2, hc, pures, DV.pure?]

theorem app_out {σ : Store} {out : List Nat} {x : DV} {u : Nat} (h5 : 5 ≤ σ.length) (h : OutRel σ n out x) (hu : u < n) (hl : out.length ≤ 1000) :
    ∃ x' σ', append PP 0 false 22 22 x (.p (.sl true 1 [pI (u : Nat)])) σ = some (x', σ') ∧ OutRel σ' n (out ++ [u]) x' ∧ (∀ (p : Pair) (o : Option (List Int)) (k : Nat) (cs : List DV), GI p o n σ k cs → GI p o n σ' k cs) := by
  obtain ⟨h0, h⟩ := h
  have hall : ∀ w ∈ out ++ [u], w < n := by
    intro w hw
    rcases List.mem_append.1 hw with h1 | h1
    · exact h0 w h1
    · simp at h1; omega
  rcases h with ⟨rfl, rfl⟩ | ⟨hne, r, ver, rfl, hr, h5⟩
  · exact ⟨_, _, app22_nil _ σ, ⟨hall, .inr ⟨by simp, σ.length, 0, rfl, get_snoc, h5⟩⟩, fun p o k cs h => h.push _⟩
  · refine ⟨_, _, app22_tok _ hr (by simp [ints_length, natsI]) hl, ⟨hall, .inr ⟨by simp, r, ver + 1, by simp [natsI, eInts], ?_, h5⟩⟩, fun p o k cs h => h.tok hr h5⟩
    rw [List.getElem?_set_self (get_lt hr)]

end
end Go.D
end
/- UpperPath: what it answers. -/
section
set_option linter.unusedVariables false
set_option linter.unusedSimpArgs false
namespace Go.D

section
variable {p : Pair} {o : Option (List Int)} {n : Nat}

theorem idx22_o {σ : Store} {out : List Nat} {r ver i : Nat} (h : i < out.length) : indexAddr PP 22 (.osl r ver 1 out.length (eInts (natsI out))) (.p (pI (i : Nat))) = some (.pptr (eInts (natsI out)) i) := by
  have h2 : (0 : Int) ≤ (i : Int) ∧ (i : Int) < (out.length : Nat) := by omega
  simp [indexAddr, u22, s3, h2, h]
theorem natsI_get {out : List Nat} {i : Nat} (h : i < out.length) : (natsI out).getD i 0 = ((out.getD i 0 : Nat) : Int) := by
  simp [natsI, h]
theorem natsI_len (out : List Nat) : (natsI out).length = out.length := by simp [natsI]

theorem L12_3 (hf : Fine p o n) {i q : Nat} {cs : List DV} {σ : Store} {out : List Nat} {x : DV} (h : GI p o n σ 0 cs) (hi : i < (L o).length) (hq : σ[q]? = some (.arr (eBools (rowG p (L o) n i)))) (hout : OutRel σ n out x) (hol : out.length = i) :
    ∀ (d u : Nat), n - u = d → u ≤ n → f12_L3 guardT 0 (.ptr 0 0) (.ptr 2 0) (.ptr 4 0) x (.p (pI (i : Nat))) (.p (pI (-1))) (.p (pI ((L o).length : Nat))) (.p (pI (i : Nat))) (.rsl q 1 0 n) (.p (pI (n : Nat))) (.p (pI (u : Nat))) σ =
      f12_J0 guardT 0 (.ptr 0 0) (.ptr 2 0) (.ptr 4 0) x (.p (pI (match firstFrom (pickB p (L o) n i out) u d with | some w => (w : Int) | none => -1))) (.p (pI ((L o).length : Nat))) (.p (pI (i : Nat))) σ := by
  have e4 : load1 (.ptr 0 4) σ = some (.p (eSl p.up.init)) := pr_4 h.h0
  have e2 : load1 (.ptr 2 0) σ = some (.pptr (graphsV p n) 0) := load1_ptr h.h2 rfl
  have hn40 := hf.n40
  have hlen := hf.len
  intro d
  induction d with
  | zero =>
    intro u hd hu
    have hlt : ¬ (u : Int) < (n : Nat) := by omega
    rw [f12_L3_eq guardT rfl]
    simp only [b_lss, obind, hlt, decide_false, condK_false, firstFrom]
  | succ d ih =>
    intro u hd hu
    have hlt : (u : Int) < (n : Nat) := by omega
    have hun : u < n := by omega
    have wu : IntKind.wrap .i64 ((u : Int) + 1) = ((u + 1 : Nat) : Int) := wrap_succ (by omega)
    have hi0 : decide ((i : Int) = 0) = decide (i = 0) := by simp only [decide_eq_decide]; omega
    have hig : decide ((i : Int) > 0) = decide (i > 0) := by simp only [decide_eq_decide]; omega
    have ih' := ih (u + 1) (by omega) (by omega)
    rw [f12_L3_eq guardT rfl]
    simp only [b_lss, obind, hlt, decide_true, condK_true, idx88_r hun, Nat.zero_add, load4, load1_arr hq (show u < (rowG p (L o) n i).length by rw [rowG_len]; exact hun), rowG_get _ _ _ _ _ hun, b_eql, hi0]
    -- how the end goes
    have fin : ∀ fits : Bool, fits = fitsB p i out u →
        (guardT _ (.p (.bool (goodAt p (L o) n i u))) true (some (.p (.bool fits), σ)) σ fun x148 σ1 =>
          (pickV (.p (.bool (goodAt p (L o) n i u))) x148 (DV.p (PV.bool false))).bind fun x149 =>
          condK x149 (f12_J0 guardT 0 (.ptr 0 0) (.ptr 2 0) (.ptr 4 0) x (.p (pI (u : Nat))) (.p (pI ((L o).length : Nat))) (.p (pI (i : Nat))) σ1)
            ((binOp PP .add 3 (.p (pI (u : Nat))) (DV.p (PV.int IntKind.i64 (1)))).bind fun x151 =>
              f12_L3 guardT 0 (.ptr 0 0) (.ptr 2 0) (.ptr 4 0) x (.p (pI (i : Nat))) (.p (pI (-1))) (.p (pI ((L o).length : Nat))) (.p (pI (i : Nat))) (.rsl q 1 0 n) (.p (pI (n : Nat))) x151 σ1)) =
        f12_J0 guardT 0 (.ptr 0 0) (.ptr 2 0) (.ptr 4 0) x (.p (pI (match firstFrom (pickB p (L o) n i out) u (d + 1) with | some w => (w : Int) | none => -1))) (.p (pI ((L o).length : Nat))) (.p (pI (i : Nat))) σ := by
      intro fits hfi
      have hpk : pickB p (L o) n i out u = (goodAt p (L o) n i u && fits) := by rw [hfi]; rfl
      unfold firstFrom
      rw [hpk]
      cases goodAt p (L o) n i u with
      | false =>
        simp only [guard_ft, guard_sk, obind, pickV_false, condK_false, b_add, wu, Bool.false_and, Bool.false_eq_true, if_false]
        exact ih'
      | true =>
        simp only [guard_tt, obind, pickV_true, Bool.true_and]
        cases fits with
        | false =>
          simp only [condK_false, b_add, obind, wu, Bool.false_eq_true, if_false]
          exact ih'
        | true => simp only [condK_true, if_true]
    by_cases h0 : i = 0
    · have hd0 : decide (i = 0) = true := by simp [h0]
      have hd1 : decide (i > 0) = false := by simp [h0]
      simp only [hd0, guard_tt, obind, fa27_1, fa25_1, shift_ptr, Nat.zero_add, load22, e4, pureFn_fn, List.append_nil, S46 hf.small.ui, pickV_true]
      cases hh : hasI (L p.up.init) u with
      | true =>
        simp only [guard_tf, guard_sk, obind, pickV_true]
        exact fin true (by simp [fitsB, h0, hh])
      | false =>
        simp only [guard_ff, obind, b_gtr, hig, hd1, guard_ft, guard_sk, pickV_false]
        exact fin false (by simp [fitsB, h0, hh])
    · have hd0 : decide (i = 0) = false := by simp [h0]
      have hd1 : decide (i > 0) = true := by simp; omega
      have hne : out ≠ [] := by intro e; rw [e] at hol; simp at hol; omega
      obtain ⟨hall, hor⟩ := hout
      rcases hor with ⟨e, _⟩ | ⟨_, r, ver, rfl, hr, h5⟩
      · exact absurd e hne
      have hi1 : i - 1 < out.length := by omega
      have hw : out.getD (i - 1) 0 < n := by
        rw [List.getD_eq_getElem?_getD, List.getElem?_eq_getElem hi1]
        exact hall _ (List.getElem_mem hi1)
      simp only [hd0, guard_ft, guard_sk, obind, pickV_false, guard_ff, b_gtr, hig, hd1, guard_tt, load82, e2, b_sub, wrap_pred (show 0 < i by omega) (show i ≤ 1000000 by omega), idx22_o (σ := σ) hi1, load3, load1_getD (show i - 1 < (natsI out).length by rw [natsI_len]; exact hi1), natsI_get hi1, pureFn_fn, List.append_nil, S45 hw hun, pickV_true]
      exact fin _ (by simp [fitsB, h0])

def resUp : Option (List Nat) → DV
  | none => .tuple [.p .nilsl, .p (pI 25)]
  | some r => .tuple [.p (eSl (some (natsI r))), .p (pI 0)]

theorem L12_2 (hf : Fine p o n) :
    ∀ (k i : Nat) (out : List Nat) (σ : Store) (x : DV) (cs : List DV), (L o).length - i = k → i ≤ (L o).length → out.length = i → GI p o n σ 0 cs → OutRel σ n out x →
      ∃ v σ', f12_L2 guardT 0 (.ptr 0 0) (.ptr 2 0) (.ptr 4 0) x (.p (pI ((L o).length : Nat))) (.p (pI (i : Nat))) σ = some (v, σ') ∧ thawAll 0 σ' v = some (resUp (goUp p (L o) n k i out))
  | 0, i, out, σ, x, cs, hk, hi, hol, h, hout => by
    have hlt : ¬ (i : Int) < ((L o).length : Nat) := by omega
    have hpos := hf.pos
    refine ⟨.tuple [x, .p (pI 0)], σ, ?_, ?_⟩
    · rw [f12_L2_eq guardT rfl]
      simp only [b_lss, obind, hlt, decide_false, condK_false]
    · obtain ⟨_, hor⟩ := hout
      rcases hor with ⟨e, _⟩ | ⟨_, r, ver, rfl, hr, h5⟩
      · rw [e] at hol; simp at hol; omega
      · simp [thawAll, thawPart, mapO, thaw, thaw1, thawP, loosen, resUp, goUp, eSl, natsI_len, loosens_ints]
  | k + 1, i, out, σ, x, cs, hk, hi, hol, h, hout => by
    have hlt : (i : Int) < ((L o).length : Nat) := by omega
    have hil : i < (L o).length := by omega
    have hlen := hf.len
    have hn40 := hf.n40
    obtain ⟨q, hc, h5, hq⟩ := h.row i (Nat.zero_le _) hil
    have e4 : load1 (.ptr 4 0) σ = some (.rsl 3 1 0 (L o).length) := load1_ptr h.h4 rfl
    have e3 : load1 (.ptr 3 i) σ = some (.rsl q 1 0 n) := load1_ptr h.h3 hc
    have hl88 : len PP 88 (.rsl q 1 0 n) σ = some (.p (pI (n : Nat))) := by simp [len, u88]
    have l4 := get_lt h.h4
    rw [f12_L2_eq guardT rfl]
    simp only [b_lss, obind, hlt, decide_true, condK_true, load84, e4, idx84_r hil, Nat.zero_add, load88, e3, hl88]
    have e := L12_3 hf h hil hq hout hol n 0 (by omega) (Nat.zero_le _)
    have e' : f12_L3 guardT 0 (.ptr 0 0) (.ptr 2 0) (.ptr 4 0) x (.p (pI (i : Nat))) (.p (pI (-1))) (.p (pI ((L o).length : Nat))) (.p (pI (i : Nat))) (.rsl q 1 0 n) (.p (pI (n : Nat))) (.p (pI 0)) σ = _ := e
    rw [e', f12_J0_eq]
    unfold goUp
    cases hfst : firstFrom (pickB p (L o) n i out) 0 n with
    | none =>
      refine ⟨.tuple [.p .nilsl, .p (pI 25)], σ, ?_, rfl⟩
      simp [b_lss, condK_true]
    | some u =>
      have hun : u < n := by have := firstFrom_lt n 0 hfst; omega
      have hneg : ¬ (u : Int) < 0 := by omega
      obtain ⟨x', σ', happ, hout', hgi⟩ := app_out (σ := σ) (by omega) hout hun (by omega)
      simp only [b_lss, hneg, decide_false, obind, condK_false, bs22_1, happ, b_add, wrap_succ (show i ≤ 1000000 by omega)]
      exact L12_2 hf k (i + 1) (out ++ [u]) σ' x' cs (by omega) (by omega) (by simp [hol]) (hgi _ _ _ _ h) hout'

end
end Go.D
end
/- UpperPath as a whole. -/
section
set_option linter.unusedVariables false
set_option linter.unusedSimpArgs false
namespace Go.D

theorem orL_zero : ∀ {l : List Int}, orL l = 0 → ∀ a ∈ l, a = 0
  | [], _, a, h => absurd h (by simp)
  | b :: l, h, a, ha => by
    unfold orL at h
    split at h
    · rename_i hb
      rcases List.mem_cons.1 ha with e | e
      · rw [e]; exact hb
      · exact orL_zero h a e
    · rename_i hb; exact absurd h hb

theorem fine_of {p : Pair} {o : Option (List Int)} (hp : Small p) (hl : (L o).length ≤ 1000) (he : errP p = 0) (hq : errPath p.lo (L o) = 0) : Fine p o p.up.n.toNat := by
  have h1 : e1P p = 0 := orL_zero he _ (by simp)
  have h2 : e2P p = 0 := orL_zero he _ (by simp)
  have h3 : e3P p = 0 := orL_zero he _ (by simp)
  have g1 : isG p.lo = true ∧ isG p.up = true := by
    unfold e1P at h1
    split at h1
    · rename_i h; simpa using h
    · omega
  have g3 : ((L p.ll).length : Int) = p.lo.n ∧ ((L p.ul).length : Int) = p.up.n := by
    unfold e3P at h3
    split at h3
    · rename_i h; simpa using h
    · omega
  have hup := g1.2
  have hlo := g1.1
  simp only [isG, Bool.and_eq_true, decide_eq_true_eq] at hup hlo
  have nu : 0 ≤ p.up.n ∧ p.up.n ≤ 400 := by simpa [inR] using hup.1.1.1
  have nl : 0 ≤ p.lo.n ∧ p.lo.n ≤ 400 := by simpa [inR] using hlo.1.1.1
  have pu : pred p.up.n = p.up.n - 1 := wrap_ok (by omega) (by omega)
  have pl : pred p.lo.n = p.lo.n - 1 := wrap_ok (by omega) (by omega)
  have q1 : ¬ (L o).length = 0 := by intro h; simp [errPath, h] at hq
  have q2 : ¬ (L o).length > 60 := by intro h; simp [errPath, q1, h] at hq
  have q3 : (L o).any (badN p.lo) = false := by
    cases h : (L o).any (badN p.lo) with
    | false => rfl
    | true => simp [errPath, q1, q2, h] at hq
  refine ⟨hp, by omega, by omega, ?_, by omega, hl, ?_, by omega⟩
  · intro e hm
    obtain ⟨i, hi, rfl⟩ := List.getElem_of_mem hm
    have := (allFrom_iff _ _).1 hup.2 i (Nat.zero_le _) (by omega)
    have eg : (L p.up.edges).getD i default = (L p.up.edges)[i] := by rw [List.getD_eq_getElem?_getD, List.getElem?_eq_getElem hi]; rfl
    simp only [okE, eg, pu, inR, Bool.and_eq_true, decide_eq_true_eq] at this
    omega
  · intro i hi
    have eg : (L o).getD i 0 = (L o)[i] := by rw [List.getD_eq_getElem?_getD, List.getElem?_eq_getElem hi]; rfl
    have hb : badN p.lo (L o)[i] = false := by
      cases h : badN p.lo (L o)[i] with
      | false => rfl
      | true => rw [List.any_eq_true.2 ⟨_, List.getElem_mem hi, h⟩] at q3; exact absurd q3 (by simp)
    simp only [badN, inR, pl, Bool.not_eq_false', Bool.and_eq_true, decide_eq_true_eq] at hb
    rw [eg]
    omega

section
variable {p : Pair} {o : Option (List Int)} {n : Nat}

theorem range12' (hf : Fine p o n) {run : List DV → Store → (Ex → Store → Option (DV × Store)) → Option (DV × Store)} {K : Ex → Store → Option (DV × Store)} {cs : List DV} {σ : Store} {T : DV → Store → Prop}
    (hrun : ∀ (k : Nat) (cs : List DV) (σ : Store), GI p o n σ (k + 1) cs → k < (L o).length → ∃ σ' cs', GI p o n σ' k cs' ∧ ∀ K', run [.p (pI (k : Nat)), .p (pI ((L o).getD k 0))] σ K' = K' .normal σ')
    (h : GI p o n σ (L o).length cs) (hK : ∀ σ' cs', GI p o n σ' 0 cs' → ∃ v σ2, K .normal σ' = some (v, σ2) ∧ T v σ2) :
    ∃ v σ2, rangeK (pol 12) (.fn 80 [.pptr [eSl o] 0]) 2 true true run σ K = some (v, σ2) ∧ T v σ2 := by
  obtain ⟨σ', cs', h1, h2⟩ := range12 (K := K) hf hrun h
  obtain ⟨v, σ2, h3, h4⟩ := hK σ' cs' h1
  exact ⟨v, σ2, h2.trans h3, h4⟩

def resU (p : Pair) (o : Option (List Int)) : DV :=
  if errP p = 0 then if errPath p.lo (L o) = 0 then resUp (upPath p (L o) p.up.n.toNat) else .tuple [.p .nilsl, .p (pI (errPath p.lo (L o)))] else .tuple [.p .nilsl, .p (pI (errP p))]

theorem st82 (cs : List PV) (off : Nat) (x : DV) (a b : Row) : store PP 0 82 (.ptr 2 0) (.pptr cs off) [a, b, .mix [x]] = some [a, b, .mix [.pptr cs off]] := Eq.trans (by kernel_rfl) rfl
theorem st84_4 (r sz off m : Nat) (x : DV) (a b c d : Row) : store PP 0 84 (.ptr 4 0) (.rsl r sz off m) [a, b, c, d, .mix [x]] = some [a, b, c, d, .mix [.rsl r sz off m]] := Eq.trans (by kernel_rfl) rfl

theorem S12 {σ : Store} (hp : Small p) (hl : (L o).length ≤ 1000) : pureV CC 12 [.agg (ePair p), .p (eSl o)] σ = some (resU p o) := by
  refine pureV_any (by simp [pair_view, sl_view]) fun lo σ0 hs => ?_
  rcases hs with ⟨rfl, rfl, _⟩ | ⟨_, _, h⟩
  case inr => exact absurd h (by simp [rowFree, rowFree1, ePair])
  have hF : ∃ v σ', F12 guardT 0 (.agg (ePair p)) (.p (eSl o)) [] = some (v, σ') ∧ thawAll 0 σ' v = some (resU p o) := by
    have g0 : ∀ s, (Row.mix (ePair p) :: s : Store)[0]? = some (.mix (ePair p)) := fun _ => rfl
    have hbx : boxV (.p (eSl o)) = some [.p (eSl o)] := rfl
    have e1 : ∀ a s, load1 (.ptr 1 0) (a :: Row.mix [.p (eSl o)] :: s) = some (.p (eSl o)) := fun a s => load1_ptr (cs := [.p (eSl o)]) rfl rfl
    rw [F12_eq]
    simp only [box_pair, hbx, obind, List.length_nil, List.nil_append, List.length_cons, List.cons_append, Nat.zero_add, load27, pr_all (g0 _), omap, pureFn_fn, List.append_nil, S41 hp, b_neq]
    by_cases he : errP p = 0
    · simp only [he, decide_true, Bool.not_true, condK_false, fa27_0, shift_ptr, Nat.zero_add, obind, load25, pr_lo (g0 _), omap, load22, e1, pureFn_fn, List.append_nil, S42 hl hp.li hp.le, b_neq]
      by_cases hq : errPath p.lo (L o) = 0
      · have hf := fine_of hp hl he hq
        simp only [hq, decide_true, Bool.not_true, condK_false, load27, pr_all (g0 _), omap, obind, pureFn_fn, List.append_nil, S43 hp hf.n0 hf.n40 hf.steps, zero82, Nat.reduceAdd, st82, load22, e1, len22, mk84 hl, zero84, List.length_cons, List.length_nil, List.cons_append, List.nil_append, Nat.zero_add, st84_4, S44]
        refine range12' (n := p.up.n.toNat) hf (fun k cs σ h hk => R12 hf h hk _ _ _ _ _ _ _ _ _ _ _ _ _ _ _ _ _ _ _ _ _ _ _) (cs := List.replicate (L o).length (.p .nilsl)) ⟨rfl, rfl, rfl, rfl, rfl, by simp, fun j h1 h2 => absurd h1 (by omega)⟩ ?_
        intro σ' cs' h
        have e1' : load1 (.ptr 1 0) σ' = some (.p (eSl o)) := load1_ptr h.h1 rfl
        rw [f12_X0_normal]
        simp only [load22, e1', obind, len22]
        obtain ⟨v, σ2, h3, h4⟩ := L12_2 hf (L o).length 0 [] σ' (.p .nilsl) cs' (by omega) (Nat.zero_le _) rfl h ⟨fun u hu => absurd hu (by simp), .inl ⟨rfl, rfl⟩⟩
        refine ⟨v, σ2, h3, ?_⟩
        rw [h4]
        simp only [resU, he, hq, if_true, upPath]
      · simp only [hq, decide_false, Bool.not_false, condK_true]
        refine ⟨_, _, rfl, ?_⟩
        simp only [resU, he, hq, if_true, if_false]
        rfl
    · simp only [he, decide_false, Bool.not_false, condK_true]
      refine ⟨_, _, rfl, ?_⟩
      simp only [resU, he, if_false]
      rfl
  obtain ⟨v, σ', h1, h2⟩ := hF
  exact ⟨v, σ', F12_call h1, h2⟩

end
end Go.D
end
/- The reference's Upper. -/
section
set_option linter.unusedVariables false
set_option linter.unusedSimpArgs false
namespace Go.D

section
variable {p : Pair} {o : Option (List Int)} {n : Nat}

structure HI (p : Pair) (o : Option (List Int)) (n : Nat) (σ : Store) (k : Nat) (cs : List DV) : Prop where
  h0 : σ[0]? = some (.mix (ePair p))
  h1 : σ[1]? = some (.mix cs)
  len : cs.length = (L o).length
  row : ∀ j, k ≤ j → j < (L o).length → ∃ q, cs[j]? = some (.rsl q 1 0 n) ∧ 2 ≤ q ∧ σ[q]? = some (.arr (eBools (rowG p (L o) n j)))

structure HS (p : Pair) (o : Option (List Int)) (n : Nat) (σ : Store) (i q : Nat) (row : List Bool) (cs : List DV) : Prop where
  gi : HI p o n σ (i + 1) cs
  i1 : i < (L o).length
  cur : cs[i]? = some (.rsl q 1 0 n)
  q5 : 2 ≤ q
  hq : σ[q]? = some (.arr (eBools row))
  rl : row.length = n
  ne : ∀ j q', i < j → cs[j]? = some (.rsl q' 1 0 n) → q' ≠ q

theorem HS.set {σ : Store} {i q : Nat} {row row' : List Bool} {cs : List DV} (h : HS p o n σ i q row cs) (hr : row'.length = n) : HS p o n (σ.set q (.arr (eBools row'))) i q row' cs := by
  have hq5 := h.q5
  refine ⟨⟨get_set_ne h.gi.h0 (by omega), get_set_ne h.gi.h1 (by omega), h.gi.len, fun j h1 h2 => ?_⟩, h.i1, h.cur, h.q5, ?_, hr, h.ne⟩
  · obtain ⟨q', a, b, c⟩ := h.gi.row j h1 h2
    exact ⟨q', a, b, get_set_ne c (h.ne j q' (by omega) a)⟩
  · rw [List.getElem?_set_self (get_lt h.hq)]

abbrev mat (m : Nat) : DV := .rsl 1 1 0 m

theorem L17_2 (hf : Fine p o n) {i u q : Nat} {row : List Bool} {cs : List DV} {σ : Store} (h : HS p o n σ i q row cs) (hu : u < n) :
    ∀ (d v : Nat) (g : Bool), n - v = d → v ≤ n → (g = false → i + 1 < (L o).length) →
      f17_L2 guardT 0 (.p (eSl o)) (.ptr 0 0) (mat (L o).length) (.p (pI (i : Nat))) (.p (pI (u : Nat))) (.p (.bool g)) (.p (pI (v : Nat))) σ =
      f17_L1 guardT 0 (.p (eSl o)) (.ptr 0 0) (mat (L o).length) (.p (pI (i : Nat))) (.p (pI (u + 1 : Nat)))
        (σ.set q (.arr (eBools (row.set u ((g || anyFrom (fun v => follows p.up u v && goodAt p (L o) n (i + 1) v) v d) && labB p (L o) i u))))) := by
  have hn := hf.n0
  have i1 := h.i1
  have hlen := hf.len
  have hn40 := hf.n40
  have e0 : load1 (.ptr 0 3) σ = some (.p (pI (n : Nat))) := by rw [← hn]; exact pr_3 h.gi.h0
  have e3 : load1 (.ptr 1 i) σ = some (.rsl q 1 0 n) := load1_ptr h.gi.h1 h.cur
  have e6 : load1 (.ptr 0 6) σ = some (.p (eSl p.ll)) := pr_6 h.gi.h0
  have e7 : load1 (.ptr 0 7) σ = some (.p (eSl p.ul)) := pr_7 h.gi.h0
  have wu : IntKind.wrap .i64 ((u : Int) + 1) = ((u + 1 : Nat) : Int) := wrap_succ (by omega)
  have wi : IntKind.wrap .i64 ((i : Int) + 1) = ((i + 1 : Nat) : Int) := wrap_succ (by omega)
  obtain ⟨hs0, hs1⟩ := hf.states i i1
  have es : (L o).getD i 0 = (((L o).getD i 0).toNat : Int) := (Int.toNat_of_nonneg hs0).symm
  have hul : u < (L p.ul).length := by rw [hf.ul]; exact hu
  have hst : ∀ b : Bool, store PP 0 4 (.ptr q u) (.p (.bool b)) σ = some (σ.set q (.arr (eBools (row.set u b)))) := fun b => st4 h.hq (by rw [h.rl]; exact hu)
  have hl1 : indexAddr PP 22 (.p (eSl p.ll)) (.p (pI ((L o).getD i 0))) = some (.pptr (eInts (L p.ll)) ((L o).getD i 0).toNat) := by
    have := idx22 (o := p.ll) hs1
    rw [← es] at this
    exact this
  intro d
  induction d with
  | zero =>
    intro v g hd hv hg
    have hlt : ¬ (v : Int) < (n : Nat) := by omega
    rw [f17_L2_eq guardT rfl]
    simp only [fa27_1, fa25_0, shift_ptr, Nat.zero_add, load3, e0, obind, b_lss, hlt, decide_false, guard_ft, guard_sk, pickV_false, condK_false, idx84_r i1, load88, e3]
    cases g with
    | false => simp only [guard_ft, guard_sk, obind, pickV_false, idx88_r hu, Nat.zero_add, hst, b_add, wu, anyFrom, Bool.false_or, Bool.false_and]
    | true => simp only [guard_tt, obind, fa27_2, fa27_3, shift_ptr, Nat.zero_add, load22, e6, e7, idx22 i1, load1_getD i1, hl1, load3, load1_getD hs1, idx22 hul, load1_getD hul, b_eql, pickV_true, idx88_r hu, hst, b_add, wu, anyFrom, Bool.true_or, Bool.true_and, labB]
  | succ d ih =>
    intro v g hd hv hg
    have hlt : (v : Int) < (n : Nat) := by omega
    have hvn : v < n := by omega
    rw [f17_L2_eq guardT rfl]
    simp only [fa27_1, fa25_0, shift_ptr, Nat.zero_add, load3, e0, obind, b_lss, hlt, decide_true, guard_tt, not_bool, pickV_true]
    cases g with
    | true =>
      simp only [Bool.not_true, condK_false, idx84_r i1, Nat.zero_add, obind, load88, e3, guard_tt, fa27_2, fa27_3, shift_ptr, load22, e6, e7, idx22 i1, load1_getD i1, hl1, load3, load1_getD hs1, idx22 hul, load1_getD hul, b_eql, pickV_true, idx88_r hu, hst, b_add, wu, Bool.true_or, Bool.true_and, labB]
    | false =>
      have hi2 := hg rfl
      obtain ⟨q', ha, hb, hc⟩ := h.gi.row (i + 1) (Nat.le_refl _) hi2
      have e3' : load1 (.ptr 1 (i + 1)) σ = some (.rsl q' 1 0 n) := load1_ptr h.gi.h1 ha
      have wv : IntKind.wrap .i64 ((v : Int) + 1) = ((v + 1 : Nat) : Int) := wrap_succ (by omega)
      simp only [Bool.not_false, condK_true, b_add, obind, wi, idx84_r hi2, Nat.zero_add, load88, e3', idx88_r hvn, load4, load1_arr hc (show v < (rowG p (L o) n (i + 1)).length by rw [rowG_len]; exact hvn), rowG_get _ _ _ _ _ hvn, Bool.false_or, anyFrom]
      cases hfo : goodAt p (L o) n (i + 1) v with
      | false =>
        simp only [guard_ft, guard_sk, obind, pickV_false, b_add, wv]
        rw [ih (v + 1) false (by omega) (by omega) hg]
        simp
      | true =>
        simp only [guard_tt, obind, fa27_1, shift_ptr, Nat.zero_add, load25, pr_up h.gi.h0, omap, pureFn_fn, List.append_nil, S50 hf.small.ue, pickV_true, b_add, wv]
        rw [ih (v + 1) (follows p.up u v) (by omega) (by omega) (fun _ => hi2)]
        simp

theorem L17_1 (hf : Fine p o n) {i q : Nat} {cs : List DV} :
    ∀ (d u : Nat) (row : List Bool) (σ : Store), n - u = d → u ≤ n → HS p o n σ i q row cs → (∀ j, j < u → row.getD j false = goodAt p (L o) n i j) →
      f17_L1 guardT 0 (.p (eSl o)) (.ptr 0 0) (mat (L o).length) (.p (pI (i : Nat))) (.p (pI (u : Nat))) σ = f17_L0 guardT 0 (.p (eSl o)) (.ptr 0 0) (mat (L o).length) (.p (pI ((i : Int) - 1))) (σ.set q (.arr (eBools (rowG p (L o) n i))))
  | 0, u, row, σ, hd, hu, h, hrow => by
    have hlt : ¬ (u : Int) < (n : Nat) := by omega
    have e0 : load1 (.ptr 0 3) σ = some (.p (pI (n : Nat))) := by rw [← hf.n0]; exact pr_3 h.gi.h0
    have hlen := hf.len
    have i1 := h.i1
    have wi : IntKind.wrap .i64 ((i : Int) - 1) = (i : Int) - 1 := wrap_ok (by omega) (by omega)
    rw [f17_L1_eq guardT rfl]
    simp only [fa27_1, fa25_0, shift_ptr, Nat.zero_add, load3, e0, b_lss, obind, hlt, decide_false, condK_false, b_sub, wi]
    have : row = rowG p (L o) n i := by
      apply List.ext_getElem (by rw [h.rl, rowG_len])
      intro j h1 h2
      have hj : j < n := by rw [← h.rl]; exact h1
      have e1 := hrow j (by omega)
      rw [List.getD_eq_getElem?_getD, List.getElem?_eq_getElem h1] at e1
      have e2 := rowG_get p (L o) n i j hj
      rw [List.getD_eq_getElem?_getD, List.getElem?_eq_getElem h2] at e2
      exact e1.trans e2.symm
    rw [← this, set_same h.hq]
  | d + 1, u, row, σ, hd, hu, h, hrow => by
    have hlt : (u : Int) < (n : Nat) := by omega
    have hun : u < n := by omega
    have i1 := h.i1
    have hlen := hf.len
    have e0 : load1 (.ptr 0 3) σ = some (.p (pI (n : Nat))) := by rw [← hf.n0]; exact pr_3 h.gi.h0
    have wm : IntKind.wrap .i64 (((L o).length : Nat) - 1 : Int) = (((L o).length - 1 : Nat) : Int) := wrap_pred (by omega) (by omega)
    have hi0 : decide ((i : Int) = (((L o).length - 1 : Nat) : Int)) = decide (i = (L o).length - 1) := by simp only [decide_eq_decide]; omega
    rw [f17_L1_eq guardT rfl]
    simp only [fa27_1, fa25_0, shift_ptr, Nat.zero_add, load3, e0, b_lss, obind, hlt, decide_true, condK_true, len22, b_sub, wm, b_eql, hi0]
    have e := L17_2 hf h hun n 0 (decide (i = (L o).length - 1)) (by omega) (Nat.zero_le _) (by intro hg; simp at hg; omega)
    have e' : f17_L2 guardT 0 (.p (eSl o)) (.ptr 0 0) (mat (L o).length) (.p (pI (i : Nat))) (.p (pI (u : Nat))) (.p (.bool (decide (i = (L o).length - 1)))) (.p (pI 0)) σ = _ := e
    rw [e']
    have hg : ((decide (i = (L o).length - 1) || anyFrom (fun v => follows p.up u v && goodAt p (L o) n (i + 1) v) 0 n) && labB p (L o) i u) = goodAt p (L o) n i u := by
      by_cases hl : i = (L o).length - 1
      · rw [hl, good_last]; simp
      · rw [good_step p (L o) n i (by omega)]; simp [hl]
    rw [hg, L17_1 hf d (u + 1) _ _ (by omega) (by omega) (h.set (row' := row.set u (goodAt p (L o) n i u)) (by simp [h.rl])) (by
      intro j hj
      rcases Nat.lt_or_ge j u with h3 | h3
      · rw [List.getD_eq_getElem?_getD, List.getElem?_set_ne (by omega), ← List.getD_eq_getElem?_getD]; exact hrow j h3
      · have : j = u := by omega
        subst this
        rw [List.getD_eq_getElem?_getD, List.getElem?_set_self (by rw [h.rl]; exact hun)]
        rfl)]
    rw [List.set_set]

theorem st88_1 {σ : Store} {cs : List DV} {i q : Nat} (h : σ[1]? = some (.mix cs)) (hi : i < cs.length) : store PP 0 88 (.ptr 1 i) (.rsl q 1 0 n) σ = some (σ.set 1 (.mix (cs.set i (.rsl q 1 0 n)))) := by
  have h1 : splice cs i [DV.rsl q 1 0 n] = cs.set i (.rsl q 1 0 n) := by
    unfold splice
    rw [List.set_eq_take_append_cons_drop]
    simp [hi]
  have hle : i + 1 ≤ cs.length := hi
  simp [store, s88, DV.cells, storeN, h, DV.one, h1, hle]

theorem L17_0 (hf : Fine p o n) :
    ∀ (k : Nat) (cs : List DV) (σ : Store), HI p o n σ k cs → k ≤ (L o).length → ∃ σ' cs', HI p o n σ' 0 cs' ∧
      f17_L0 guardT 0 (.p (eSl o)) (.ptr 0 0) (mat (L o).length) (.p (pI ((k : Int) - 1))) σ = f17_L3 guardT 0 (.p (eSl o)) (.ptr 0 0) (mat (L o).length) (.p .nilsl) (.p (pI (0 : Nat))) σ'
  | 0, cs, σ, h, hk => by
    refine ⟨σ, cs, h, ?_⟩
    rw [f17_L0_eq guardT rfl]
    have : ¬ ((0 : Nat) : Int) - 1 ≥ 0 := by omega
    simp only [b_geq, obind, this, decide_false, condK_false]
    rfl
  | k + 1, cs, σ, h, hk => by
    have hk' : k < (L o).length := by omega
    have hn := hf.n0
    have hn40 := hf.n40
    have l1 := get_lt h.h1
    have e0 : load1 (.ptr 0 3) σ = some (.p (pI (n : Nat))) := by rw [← hn]; exact pr_3 h.h0
    have g3 : (σ ++ [Row.arr (eBools (List.replicate n false))])[1]? = some (.mix cs) := get_old h.h1
    have hkc : k < cs.length := by rw [h.len]; exact hk'
    have hnew : (σ ++ [Row.arr (eBools (List.replicate n false))])[σ.length]? = some (.arr (eBools (List.replicate n false))) := get_snoc
    have hgs : HS p o n ((σ ++ [Row.arr (eBools (List.replicate n false))]).set 1 (.mix (cs.set k (.rsl σ.length 1 0 n)))) k σ.length (List.replicate n false) (cs.set k (.rsl σ.length 1 0 n)) := by
      refine ⟨⟨get_set_ne (get_old h.h0) (by omega), ?_, by simp [h.len], fun j h1 h2 => ?_⟩, hk', ?_, by omega, get_set_ne hnew (by omega), by simp, fun j q' h1 h2 => ?_⟩
      · rw [List.getElem?_set_self (by simp; omega)]
      · obtain ⟨q, a, b, c⟩ := h.row j h1 h2
        refine ⟨q, by rw [List.getElem?_set_ne (by omega)]; exact a, b, get_set_ne (get_old c) (by omega)⟩
      · rw [List.getElem?_set_self hkc]
      · rw [List.getElem?_set_ne (by omega)] at h2
        rcases Nat.lt_or_ge j (L o).length with h3 | h3
        · obtain ⟨q, a, b, c⟩ := h.row j h1 h3
          rw [a] at h2
          injection h2 with h2; injection h2 with h2
          have := get_lt c
          omega
        · rw [List.getElem?_eq_none (by rw [h.len]; exact h3)] at h2
          exact absurd h2 (by simp)
    have hg2 := hgs.set (row' := rowG p (L o) n k) (rowG_len _ _ _ _)
    obtain ⟨σ', cs', h1, h2⟩ := L17_0 hf k (cs.set k (.rsl σ.length 1 0 n)) _ ⟨hg2.gi.h0, hg2.gi.h1, hg2.gi.len, fun j h1 h2 => by
      rcases Nat.eq_or_lt_of_le h1 with h3 | h3
      · subst h3
        exact ⟨σ.length, hg2.cur, by omega, hg2.hq⟩
      · exact hg2.gi.row j h3 h2⟩ (by omega)
    refine ⟨σ', cs', h1, ?_⟩
    have ek : (((k + 1 : Nat) : Int) - 1) = (k : Int) := by omega
    have hge : (k : Int) ≥ 0 := by omega
    rw [f17_L0_eq guardT rfl, ek]
    simp only [b_geq, obind, hge, decide_true, condK_true, fa27_1, fa25_0, shift_ptr, Nat.zero_add, load3, e0, mk88 hn40, idx84_r hk', st88_1 g3 hkc]
    have e : f17_L1 guardT 0 (.p (eSl o)) (.ptr 0 0) (mat (L o).length) (.p (pI (k : Nat))) (.p (pI 0)) _ = _ := L17_1 hf n 0 _ _ (by omega) (Nat.zero_le _) hgs (fun j hj => absurd hj (by omega))
    exact e.trans h2

end
end Go.D
end
