/- Equations of functions 12, 17, 33, 15, 34, 36, 95, 37, 38, 40, 41, 56, 23, 90, 91, 92, 93, 94, 121, 7, printed by gen.py. -/
import Derived.Test.YthddgnfaaccgjaaPc
section
set_option linter.unusedVariables false
set_option maxRecDepth 10000
namespace Go.D
open _root_.Go.D.Code (fstC sndC)
open _root_.Go.D.Ann (left right)
noncomputable def c12_0 : Code := bodyOf Go.Proofs.Try.f12
noncomputable def a12_0 : Ann := (pol 12).ann
noncomputable def a12_13 : Ann := right (left (right (right a12_0)))
noncomputable def a12_14 : Ann := left a12_13
noncomputable def c12_15 : Code := fstC (fstC (sndC (fstC (sndC (sndC c12_0)))))
noncomputable def a12_22 : Ann := left (right (left a12_14))
noncomputable def a12_33 : Ann := right (right (left a12_22))
noncomputable def a12_34 : Ann := left a12_33
noncomputable def c12_35 : Code := fstC (fstC (sndC (sndC (fstC (fstC (sndC c12_15))))))
noncomputable def c12_51 : Code := sndC (sndC c12_15)
noncomputable def a12_51 : Ann := right (right (left a12_14))
noncomputable def c12_52 : Code := sndC (sndC (sndC c12_0))
noncomputable def a12_52 : Ann := right (right (right a12_0))
noncomputable def f12_L0 (G : GuardT) (lo : Nat) (x0 x3 : DV) (σ : Store) : Option (DV × Store) :=
 codeF G PP (pol 12) CC lo (.loop c12_15) a12_14 [x0, ud, ud, x3, ud, ud, ud, ud, ud, ud, ud, ud, ud, ud, ud, ud, ud, ud, ud, ud, ud, ud, ud, ud, ud, ud, ud, ud, ud, ud, ud, ud, ud, ud, ud, ud, ud, ud] σ
 (blockC 0 a12_13 (seqC G PP (pol 12) CC lo c12_52 a12_52 (finR PP Go.Proofs.Try.f12.results.toList)))
noncomputable def f12_L1 (G : GuardT) (lo : Nat) (x0 x3 x4 : DV) (σ : Store) : Option (DV × Store) :=
 codeF G PP (pol 12) CC lo (.loop c12_35) a12_34 [x0, ud, ud, x3, x4, ud, ud, ud, ud, ud, ud, ud, ud, ud, ud, ud, ud, ud, ud, ud, ud, ud, ud, ud, ud, ud, ud, ud, ud, ud, ud, ud, ud, ud, ud, ud, ud, ud] σ
 (blockC 2 a12_33 (blockC 1 a12_22 (seqC G PP (pol 12) CC lo c12_51 a12_51 (loopC G PP (pol 12) CC lo c12_15 a12_14 (blockC 0 a12_13 (seqC G PP (pol 12) CC lo c12_52 a12_52 (finR PP Go.Proofs.Try.f12.results.toList)))))))
noncomputable def F12 (G : GuardT) (lo : Nat) (x0 : DV) (σ : Store) : Option (DV × Store) :=
 codeF G PP (pol 12) CC lo c12_0 a12_0 [x0, ud, ud, ud, ud, ud, ud, ud, ud, ud, ud, ud, ud, ud, ud, ud, ud, ud, ud, ud, ud, ud, ud, ud, ud, ud, ud, ud, ud, ud, ud, ud, ud, ud, ud, ud, ud, ud] σ (finR PP Go.Proofs.Try.f12.results.toList)
theorem f12_L0_eq (G : GuardT) (hG : GuardOk G) (lo : Nat) (x0 x3 : DV) (σ : Store) : f12_L0 G lo x0 x3 σ =
 (len PP 27 x0 σ).bind fun x10 =>
 (binOp PP .lss 3 x3 x10).bind fun x11 =>
 condK x11
 (
 (indexAddr PP 27 x0 x3).bind fun x16 =>
 (load PP 48 x16 σ).bind fun x17 =>
 (len PP 48 x17 σ).bind fun x18 =>
 (binOp PP .gtr 3 x18 (DV.p (PV.int IntKind.i64 (5)))).bind fun x19 =>
 condK x19
 (
 some ((DV.p (PV.bool false)), σ)
 )
 (
 f12_L1 G lo x0 x3 (DV.p (PV.int IntKind.i64 (0))) σ
 )
 )
 (
 some ((DV.p (PV.bool true)), σ)
 ) := (loopF_eq G hG).trans (by kernel_rfl)
theorem f12_L1_eq (G : GuardT) (hG : GuardOk G) (lo : Nat) (x0 x3 x4 : DV) (σ : Store) : f12_L1 G lo x0 x3 x4 σ =
 (indexAddr PP 27 x0 x3).bind fun x23 =>
 (load PP 48 x23 σ).bind fun x24 =>
 (len PP 48 x24 σ).bind fun x25 =>
 (binOp PP .lss 3 x4 x25).bind fun x26 =>
 condK x26
 (
 (indexAddr PP 27 x0 x3).bind fun x31 =>
 (load PP 48 x31 σ).bind fun x32 =>
 (indexAddr PP 48 x32 x4).bind fun x34 =>
 (load PP 22 x34 σ).bind fun x35 =>
 (len PP 22 x35 σ).bind fun x36 =>
 (binOp PP .gtr 3 x36 (DV.p (PV.int IntKind.i64 (5)))).bind fun x37 =>
 condK x37
 (
 some ((DV.p (PV.bool false)), σ)
 )
 (
 (binOp PP .add 3 x4 (DV.p (PV.int IntKind.i64 (1)))).bind fun x28 =>
 f12_L1 G lo x0 x3 x28 σ
 )
 )
 (
 (binOp PP .add 3 x3 (DV.p (PV.int IntKind.i64 (1)))).bind fun x13 =>
 f12_L0 G lo x0 x13 σ
 ) := (loopF_eq G hG).trans (by kernel_rfl)
theorem F12_eq (G : GuardT) (lo : Nat) (x0 : DV) (σ : Store) : F12 G lo x0 σ =
 (len PP 27 x0 σ).bind fun x6 =>
 (binOp PP .gtr 3 x6 (DV.p (PV.int IntKind.i64 (8)))).bind fun x7 =>
 condK x7
 (
 some ((DV.p (PV.bool false)), σ)
 )
 (
 f12_L0 G lo x0 (DV.p (PV.int IntKind.i64 (0))) σ
 ) := by kernel_rfl
theorem F12_call {lo : Nat} {x0 : DV} {σ : Store} {r : DV × Store} (h : F12 guardT lo x0 σ = some r) : CC lo 12 [x0] σ = some r :=
 callL_run Go.Proofs.Try.func12 (by decide +kernel) rfl (by decide +kernel) h
noncomputable def c17_0 : Code := bodyOf Go.Proofs.Try.f17
noncomputable def a17_0 : Ann := (pol 17).ann
noncomputable def a17_21 : Ann := right (left (right (right (right a17_0))))
noncomputable def a17_22 : Ann := left a17_21
noncomputable def c17_23 : Code := fstC (fstC (sndC (fstC (sndC (sndC (sndC c17_0))))))
noncomputable def a17_30 : Ann := left (right (left a17_22))
noncomputable def a17_42 : Ann := right (left (right (left a17_30)))
noncomputable def a17_43 : Ann := left a17_42
noncomputable def c17_44 : Code := fstC (fstC (sndC (fstC (sndC (fstC (fstC (sndC c17_23)))))))
noncomputable def c17_60 : Code := sndC (sndC (fstC (fstC (sndC c17_23))))
noncomputable def a17_60 : Ann := right (right (left a17_30))
noncomputable def a17_62 : Ann := right a17_60
noncomputable def a17_63 : Ann := left a17_62
noncomputable def c17_64 : Code := fstC (fstC (sndC c17_60))
noncomputable def a17_71 : Ann := left (right (left a17_63))
noncomputable def a17_74 : Ann := right (left a17_71)
noncomputable def a17_75 : Ann := left a17_74
noncomputable def c17_76 : Code := fstC (fstC (sndC (fstC (fstC (sndC c17_64)))))
noncomputable def c17_92 : Code := sndC (sndC c17_64)
noncomputable def a17_92 : Ann := right (right (left a17_63))
noncomputable def c17_93 : Code := sndC (sndC c17_23)
noncomputable def a17_93 : Ann := right (right (left a17_22))
noncomputable def c17_94 : Code := sndC (sndC (sndC (sndC c17_0)))
noncomputable def a17_94 : Ann := right (right (right (right a17_0)))
noncomputable def f17_L0 (G : GuardT) (lo : Nat) (x0 x3 : DV) (σ : Store) : Option (DV × Store) :=
 codeF G PP (pol 17) CC lo (.loop c17_23) a17_22 [x0, ud, ud, x3, ud, ud, ud, ud, ud, ud, ud, ud, ud, ud, ud, ud, ud, ud, ud, ud, ud, ud, ud, ud, ud, ud, ud, ud, ud, ud, ud, ud, ud, ud, ud, ud, ud, ud, ud, ud, ud, ud, ud, ud, ud, ud, ud, ud, ud, ud, ud, ud, ud, ud, ud, ud, ud, ud, ud, ud, ud, ud, ud, ud, ud, ud, ud, ud, ud, ud, ud, ud, ud, ud, ud, ud, ud, ud, ud] σ
 (blockC 0 a17_21 (seqC G PP (pol 17) CC lo c17_94 a17_94 (finR PP Go.Proofs.Try.f17.results.toList)))
noncomputable def f17_L1 (G : GuardT) (lo : Nat) (x0 x3 x4 : DV) (σ : Store) : Option (DV × Store) :=
 codeF G PP (pol 17) CC lo (.loop c17_44) a17_43 [x0, ud, ud, x3, x4, ud, ud, ud, ud, ud, ud, ud, ud, ud, ud, ud, ud, ud, ud, ud, ud, ud, ud, ud, ud, ud, ud, ud, ud, ud, ud, ud, ud, ud, ud, ud, ud, ud, ud, ud, ud, ud, ud, ud, ud, ud, ud, ud, ud, ud, ud, ud, ud, ud, ud, ud, ud, ud, ud, ud, ud, ud, ud, ud, ud, ud, ud, ud, ud, ud, ud, ud, ud, ud, ud, ud, ud, ud, ud] σ
 (blockC 2 a17_42 (seqC G PP (pol 17) CC lo c17_60 a17_60 (blockC 1 a17_30 (seqC G PP (pol 17) CC lo c17_93 a17_93 (loopC G PP (pol 17) CC lo c17_23 a17_22 (blockC 0 a17_21 (seqC G PP (pol 17) CC lo c17_94 a17_94 (finR PP Go.Proofs.Try.f17.results.toList))))))))
noncomputable def f17_L2 (G : GuardT) (lo : Nat) (x0 x3 x5 : DV) (σ : Store) : Option (DV × Store) :=
 codeF G PP (pol 17) CC lo (.loop c17_64) a17_63 [x0, ud, ud, x3, ud, x5, ud, ud, ud, ud, ud, ud, ud, ud, ud, ud, ud, ud, ud, ud, ud, ud, ud, ud, ud, ud, ud, ud, ud, ud, ud, ud, ud, ud, ud, ud, ud, ud, ud, ud, ud, ud, ud, ud, ud, ud, ud, ud, ud, ud, ud, ud, ud, ud, ud, ud, ud, ud, ud, ud, ud, ud, ud, ud, ud, ud, ud, ud, ud, ud, ud, ud, ud, ud, ud, ud, ud, ud, ud] σ
 (blockC 4 a17_62 (blockC 1 a17_30 (seqC G PP (pol 17) CC lo c17_93 a17_93 (loopC G PP (pol 17) CC lo c17_23 a17_22 (blockC 0 a17_21 (seqC G PP (pol 17) CC lo c17_94 a17_94 (finR PP Go.Proofs.Try.f17.results.toList)))))))
noncomputable def f17_L3 (G : GuardT) (lo : Nat) (x0 x3 x5 x6 : DV) (σ : Store) : Option (DV × Store) :=
 codeF G PP (pol 17) CC lo (.loop c17_76) a17_75 [x0, ud, ud, x3, ud, x5, x6, ud, ud, ud, ud, ud, ud, ud, ud, ud, ud, ud, ud, ud, ud, ud, ud, ud, ud, ud, ud, ud, ud, ud, ud, ud, ud, ud, ud, ud, ud, ud, ud, ud, ud, ud, ud, ud, ud, ud, ud, ud, ud, ud, ud, ud, ud, ud, ud, ud, ud, ud, ud, ud, ud, ud, ud, ud, ud, ud, ud, ud, ud, ud, ud, ud, ud, ud, ud, ud, ud, ud, ud] σ
 (blockC 6 a17_74 (blockC 5 a17_71 (seqC G PP (pol 17) CC lo c17_92 a17_92 (loopC G PP (pol 17) CC lo c17_64 a17_63 (blockC 4 a17_62 (blockC 1 a17_30 (seqC G PP (pol 17) CC lo c17_93 a17_93 (loopC G PP (pol 17) CC lo c17_23 a17_22 (blockC 0 a17_21 (seqC G PP (pol 17) CC lo c17_94 a17_94 (finR PP Go.Proofs.Try.f17.results.toList)))))))))))
noncomputable def F17 (G : GuardT) (lo : Nat) (x0 : DV) (σ : Store) : Option (DV × Store) :=
 codeF G PP (pol 17) CC lo c17_0 a17_0 [x0, ud, ud, ud, ud, ud, ud, ud, ud, ud, ud, ud, ud, ud, ud, ud, ud, ud, ud, ud, ud, ud, ud, ud, ud, ud, ud, ud, ud, ud, ud, ud, ud, ud, ud, ud, ud, ud, ud, ud, ud, ud, ud, ud, ud, ud, ud, ud, ud, ud, ud, ud, ud, ud, ud, ud, ud, ud, ud, ud, ud, ud, ud, ud, ud, ud, ud, ud, ud, ud, ud, ud, ud, ud, ud, ud, ud, ud, ud] σ (finR PP Go.Proofs.Try.f17.results.toList)
theorem f17_L0_eq (G : GuardT) (hG : GuardOk G) (lo : Nat) (x0 x3 : DV) (σ : Store) : f17_L0 G lo x0 x3 σ =
 (len PP 27 x0 σ).bind fun x15 =>
 (binOp PP .lss 3 x3 x15).bind fun x16 =>
 condK x16
 (
 (indexAddr PP 27 x0 x3).bind fun x21 =>
 (load PP 48 x21 σ).bind fun x22 =>
 (len PP 48 x22 σ).bind fun x23 =>
 (binOp PP .neq 3 x23 (DV.p (PV.int IntKind.i64 (3)))).bind fun x24 =>
 condK x24
 (
 some ((DV.p (PV.int IntKind.i64 (6))), σ)
 )
 (
 f17_L1 G lo x0 x3 (DV.p (PV.int IntKind.i64 (0))) σ
 )
 )
 (
 some ((DV.p (PV.int IntKind.i64 (0))), σ)
 ) := (loopF_eq G hG).trans (by kernel_rfl)
theorem f17_L1_eq (G : GuardT) (hG : GuardOk G) (lo : Nat) (x0 x3 x4 : DV) (σ : Store) : f17_L1 G lo x0 x3 x4 σ =
 (indexAddr PP 27 x0 x3).bind fun x28 =>
 (load PP 48 x28 σ).bind fun x29 =>
 (len PP 48 x29 σ).bind fun x30 =>
 (binOp PP .lss 3 x4 x30).bind fun x31 =>
 condK x31
 (
 (indexAddr PP 27 x0 x3).bind fun x36 =>
 (load PP 48 x36 σ).bind fun x37 =>
 (indexAddr PP 48 x37 x4).bind fun x39 =>
 (load PP 22 x39 σ).bind fun x40 =>
 (len PP 22 x40 σ).bind fun x41 =>
 (binOp PP .neq 3 x41 (DV.p (PV.int IntKind.i64 (3)))).bind fun x42 =>
 condK x42
 (
 some ((DV.p (PV.int IntKind.i64 (6))), σ)
 )
 (
 (binOp PP .add 3 x4 (DV.p (PV.int IntKind.i64 (1)))).bind fun x33 =>
 f17_L1 G lo x0 x3 x33 σ
 )
 )
 (
 f17_L2 G lo x0 x3 (DV.p (PV.int IntKind.i64 (0))) σ
 ) := (loopF_eq G hG).trans (by kernel_rfl)
theorem f17_L2_eq (G : GuardT) (hG : GuardOk G) (lo : Nat) (x0 x3 x5 : DV) (σ : Store) : f17_L2 G lo x0 x3 x5 σ =
 (indexAddr PP 27 x0 x3).bind fun x46 =>
 (load PP 48 x46 σ).bind fun x47 =>
 (len PP 48 x47 σ).bind fun x48 =>
 (binOp PP .lss 3 x5 x48).bind fun x49 =>
 condK x49
 (
 f17_L3 G lo x0 x3 x5 (DV.p (PV.int IntKind.i64 (0))) σ
 )
 (
 (binOp PP .add 3 x3 (DV.p (PV.int IntKind.i64 (1)))).bind fun x18 =>
 f17_L0 G lo x0 x18 σ
 ) := (loopF_eq G hG).trans (by kernel_rfl)
theorem f17_L3_eq (G : GuardT) (hG : GuardOk G) (lo : Nat) (x0 x3 x5 x6 : DV) (σ : Store) : f17_L3 G lo x0 x3 x5 x6 σ =
 (indexAddr PP 27 x0 x3).bind fun x55 =>
 (load PP 48 x55 σ).bind fun x56 =>
 (indexAddr PP 48 x56 x5).bind fun x58 =>
 (load PP 22 x58 σ).bind fun x59 =>
 (len PP 22 x59 σ).bind fun x60 =>
 (binOp PP .lss 3 x6 x60).bind fun x61 =>
 condK x61
 (
 (indexAddr PP 27 x0 x3).bind fun x66 =>
 (load PP 48 x66 σ).bind fun x67 =>
 (indexAddr PP 48 x67 x5).bind fun x69 =>
 (load PP 22 x69 σ).bind fun x70 =>
 (indexAddr PP 22 x70 x6).bind fun x72 =>
 (load PP 3 x72 σ).bind fun x73 =>
 (len PP 27 x0 σ).bind fun x75 =>
 (binOp PP .sub 3 x75 (DV.p (PV.int IntKind.i64 (1)))).bind fun x76 =>
 (pureFn CC (DV.fn 57 []) [x73, (DV.p (PV.int IntKind.i64 (-1))), x76] σ).bind fun x77 =>
 (unOp .not x77).bind fun x78 =>
 condK x78
 (
 some ((DV.p (PV.int IntKind.i64 (3))), σ)
 )
 (
 (binOp PP .add 3 x6 (DV.p (PV.int IntKind.i64 (1)))).bind fun x63 =>
 f17_L3 G lo x0 x3 x5 x63 σ
 )
 )
 (
 (binOp PP .add 3 x5 (DV.p (PV.int IntKind.i64 (1)))).bind fun x51 =>
 f17_L2 G lo x0 x3 x51 σ
 ) := (loopF_eq G hG).trans (by kernel_rfl)
theorem F17_eq (G : GuardT) (lo : Nat) (x0 : DV) (σ : Store) : F17 G lo x0 σ =
 (len PP 27 x0 σ).bind fun x8 =>
 (binOp PP .eql 3 x8 (DV.p (PV.int IntKind.i64 (0)))).bind fun x9 =>
 condK x9
 (
 some ((DV.p (PV.int IntKind.i64 (1))), σ)
 )
 (
 (len PP 27 x0 σ).bind fun x11 =>
 (binOp PP .gtr 3 x11 (DV.p (PV.int IntKind.i64 (6)))).bind fun x12 =>
 condK x12
 (
 some ((DV.p (PV.int IntKind.i64 (2))), σ)
 )
 (
 f17_L0 G lo x0 (DV.p (PV.int IntKind.i64 (0))) σ
 )
 ) := by kernel_rfl
theorem F17_call {lo : Nat} {x0 : DV} {σ : Store} {r : DV × Store} (h : F17 guardT lo x0 σ = some r) : CC lo 17 [x0] σ = some r :=
 callL_run Go.Proofs.Try.func17 (by decide +kernel) rfl (by decide +kernel) h
noncomputable def c33_0 : Code := bodyOf Go.Proofs.Try.f33
noncomputable def a33_0 : Ann := (pol 33).ann
noncomputable def a33_15 : Ann := right (left (right (right a33_0)))
noncomputable def a33_16 : Ann := left a33_15
noncomputable def c33_17 : Code := fstC (fstC (sndC (fstC (sndC (sndC c33_0)))))
noncomputable def c33_43 : Code := sndC (sndC (sndC c33_0))
noncomputable def a33_43 : Ann := right (right (right a33_0))
noncomputable def f33_L0 (G : GuardT) (lo : Nat) (x1 x23 x24 x25 : DV) (σ : Store) : Option (DV × Store) :=
 codeF G PP (pol 33) CC lo (.loop c33_17) a33_16 [ud, x1, ud, ud, ud, ud, ud, ud, ud, ud, ud, ud, ud, ud, ud, ud, ud, ud, ud, ud, ud, ud, ud, x23, x24, x25, ud, ud, ud, ud, ud, ud, ud, ud, ud, ud, ud, ud, ud, ud, ud, ud, ud, ud, ud, ud, ud, ud, ud, ud, ud, ud] σ
 (blockC 0 a33_15 (seqC G PP (pol 33) CC lo c33_43 a33_43 (finR PP Go.Proofs.Try.f33.results.toList)))
noncomputable def F33 (G : GuardT) (lo : Nat) (x0 : DV) (σ : Store) : Option (DV × Store) :=
 codeF G PP (pol 33) CC lo c33_0 a33_0 [x0, ud, ud, ud, ud, ud, ud, ud, ud, ud, ud, ud, ud, ud, ud, ud, ud, ud, ud, ud, ud, ud, ud, ud, ud, ud, ud, ud, ud, ud, ud, ud, ud, ud, ud, ud, ud, ud, ud, ud, ud, ud, ud, ud, ud, ud, ud, ud, ud, ud, ud, ud] σ (finR PP Go.Proofs.Try.f33.results.toList)
theorem f33_L0_eq (G : GuardT) (hG : GuardOk G) (lo : Nat) (x1 x23 x24 x25 : DV) (σ : Store) : f33_L0 G lo x1 x23 x24 x25 σ =
 (binOp PP .lss 3 x25 x24).bind fun x26 =>
 condK x26
 (
 (indexAddr PP 27 x23 x25).bind fun x27 =>
 (load PP 48 x27 σ).bind fun x28 =>
 (len PP 48 x28 σ).bind fun x30 =>
 (binOp PP .eql 3 x30 (DV.p (PV.int IntKind.i64 (3)))).bind fun x31 =>
 G _ x31 true (some (x28, σ)) σ fun x33 σ2 =>
 G _ x31 true ((pureFn CC (DV.fn 90 []) [x33, (DV.fn 91 [])] σ2).bind fun v => some (v, σ2)) σ2 fun x34 σ3 =>
 G _ x31 true ((unOp .not x34).bind fun v => some (v, σ3)) σ3 fun x35 σ4 =>
 (pickV x31 x35 (DV.p (PV.bool false))).bind fun x36 =>
 (zeroOf PP 104).bind fun z7 =>
 (store PP lo 104 (DV.ptr (List.length σ4) 0) (DV.fn 92 [x1]) (σ4 ++ [Row.mix z7])).bind fun σ5 =>
 (pureFn CC (DV.fn 90 []) [x28, (DV.fn 93 [(DV.ptr (List.length σ4) 0)])] σ5).bind fun x40 =>
 (unOp .not x40).bind fun x41 =>
 (pureFn CC (DV.fn 54 []) [x36, (DV.p (PV.int IntKind.i64 (6)))] σ5).bind fun x43 =>
 (pureFn CC (DV.fn 54 []) [x41, (DV.p (PV.int IntKind.i64 (3)))] σ5).bind fun x45 =>
 (buildSlice PP none 160 2 [(0, x43), (1, x45)] σ5).bind fun r46_6 =>
 (pureFn CC (DV.fn 52 []) [r46_6.1] r46_6.2).bind fun x47 =>
 (binOp PP .neq 34 x47 (DV.p (PV.int IntKind.i64 (0)))).bind fun x49 =>
 condK x49
 (
 some (x47, r46_6.2)
 )
 (
 (binOp PP .add 3 x25 (DV.p (PV.int IntKind.i64 (1)))).bind fun x51 =>
 f33_L0 G lo x1 x23 x24 x51 r46_6.2
 )
 )
 (
 some ((DV.p (PV.int IntKind.i64 (0))), σ)
 ) := (loopF_eq G hG).trans (by kernel_rfl)
theorem F33_eq (G : GuardT) (lo : Nat) (x0 : DV) (σ : Store) : F33 G lo x0 σ =
 (boxV x0).bind fun z1 =>
 (load PP 27 (DV.ptr (List.length σ) 0) (σ ++ [Row.mix z1])).bind fun x10 =>
 (len PP 27 x10 (σ ++ [Row.mix z1])).bind fun x11 =>
 (binOp PP .gtr 3 x11 (DV.p (PV.int IntKind.i64 (0)))).bind fun x12 =>
 (pureFn CC (DV.fn 54 []) [x12, (DV.p (PV.int IntKind.i64 (1)))] (σ ++ [Row.mix z1])).bind fun x13 =>
 (load PP 27 (DV.ptr (List.length σ) 0) (σ ++ [Row.mix z1])).bind fun x14 =>
 (len PP 27 x14 (σ ++ [Row.mix z1])).bind fun x15 =>
 (binOp PP .leq 3 x15 (DV.p (PV.int IntKind.i64 (6)))).bind fun x16 =>
 (pureFn CC (DV.fn 54 []) [x16, (DV.p (PV.int IntKind.i64 (2)))] (σ ++ [Row.mix z1])).bind fun x17 =>
 (buildSlice PP none 160 2 [(0, x13), (1, x17)] (σ ++ [Row.mix z1])).bind fun r18_1 =>
 (pureFn CC (DV.fn 52 []) [r18_1.1] r18_1.2).bind fun x19 =>
 (binOp PP .neq 34 x19 (DV.p (PV.int IntKind.i64 (0)))).bind fun x21 =>
 condK x21
 (
 some (x19, r18_1.2)
 )
 (
 (load PP 27 (DV.ptr (List.length σ) 0) r18_1.2).bind fun x23 =>
 (len PP 27 x23 r18_1.2).bind fun x24 =>
 f33_L0 G lo (DV.ptr (List.length σ) 0) x23 x24 (DV.p (PV.int IntKind.i64 (0))) r18_1.2
 ) := by kernel_rfl
theorem F33_call {lo : Nat} {x0 : DV} {σ : Store} {r : DV × Store} (h : F33 guardT lo x0 σ = some r) : CC lo 33 [x0] σ = some r :=
 callL_run Go.Proofs.Try.func33 (by decide +kernel) rfl (by decide +kernel) h
noncomputable def c15_0 : Code := bodyOf Go.Proofs.Try.f15
noncomputable def a15_0 : Ann := (pol 15).ann
noncomputable def a15_7 : Ann := right (left (right (right a15_0)))
noncomputable def a15_8 : Ann := left a15_7
noncomputable def c15_9 : Code := fstC (fstC (sndC (fstC (sndC (sndC c15_0)))))
noncomputable def c15_19 : Code := sndC (sndC (sndC c15_0))
noncomputable def a15_19 : Ann := right (right (right a15_0))
noncomputable def f15_L0 (G : GuardT) (lo : Nat) (x0 x3 x4 : DV) (σ : Store) : Option (DV × Store) :=
 codeF G PP (pol 15) CC lo (.loop c15_9) a15_8 [x0, ud, ud, x3, x4, ud, ud, ud, ud, ud, ud, ud, ud, ud, ud, ud, ud, ud, ud, ud] σ
 (blockC 0 a15_7 (seqC G PP (pol 15) CC lo c15_19 a15_19 (finR PP Go.Proofs.Try.f15.results.toList)))
noncomputable def F15 (G : GuardT) (lo : Nat) (x0 : DV) (σ : Store) : Option (DV × Store) :=
 codeF G PP (pol 15) CC lo c15_0 a15_0 [x0, ud, ud, ud, ud, ud, ud, ud, ud, ud, ud, ud, ud, ud, ud, ud, ud, ud, ud, ud] σ (finR PP Go.Proofs.Try.f15.results.toList)
theorem f15_L0_eq (G : GuardT) (hG : GuardOk G) (lo : Nat) (x0 x3 x4 : DV) (σ : Store) : f15_L0 G lo x0 x3 x4 σ =
 (len PP 27 x0 σ).bind fun x7 =>
 (binOp PP .lss 3 x4 x7).bind fun x8 =>
 condK x8
 (
 (indexAddr PP 27 x0 x4).bind fun x14 =>
 (load PP 48 x14 σ).bind fun x15 =>
 (pureFn CC (DV.fn 56 []) [x15] σ).bind fun x16 =>
 (buildSlice PP none 27 1 [(0, x16)] σ).bind fun r17_1 =>
 (append PP lo false 27 27 x3 r17_1.1 r17_1.2).bind fun r18_2 =>
 (binOp PP .add 3 x4 (DV.p (PV.int IntKind.i64 (1)))).bind fun x10 =>
 f15_L0 G lo x0 r18_2.1 x10 r18_2.2
 )
 (
 some (x3, σ)
 ) := (loopF_eq G hG).trans (by kernel_rfl)
theorem F15_eq (G : GuardT) (lo : Nat) (x0 : DV) (σ : Store) : F15 G lo x0 σ =
 f15_L0 G lo x0 (DV.p PV.nilsl) (DV.p (PV.int IntKind.i64 (0))) σ := by kernel_rfl
theorem F15_call {lo : Nat} {x0 : DV} {σ : Store} {r : DV × Store} (h : F15 guardT lo x0 σ = some r) : CC lo 15 [x0] σ = some r :=
 callL_run Go.Proofs.Try.func15 (by decide +kernel) rfl (by decide +kernel) h
noncomputable def c34_0 : Code := bodyOf Go.Proofs.Try.f34
noncomputable def a34_0 : Ann := (pol 34).ann
noncomputable def a34_17 : Ann := right (left (right (right (right a34_0))))
noncomputable def a34_18 : Ann := left a34_17
noncomputable def c34_19 : Code := fstC (fstC (sndC (fstC (sndC (sndC (sndC c34_0))))))
noncomputable def c34_39 : Code := sndC (sndC (sndC (sndC c34_0)))
noncomputable def a34_39 : Ann := right (right (right (right a34_0)))
noncomputable def f34_L0 (G : GuardT) (lo : Nat) (x0 x7 x19 x20 x21 : DV) (σ : Store) : Option (DV × Store) :=
 codeF G PP (pol 34) CC lo (.loop c34_19) a34_18 [x0, ud, ud, ud, ud, ud, ud, x7, ud, ud, ud, ud, ud, ud, ud, ud, ud, ud, ud, x19, x20, x21, ud, ud, ud, ud, ud, ud, ud, ud, ud, ud, ud, ud] σ
 (blockC 0 a34_17 (seqC G PP (pol 34) CC lo c34_39 a34_39 (finR PP Go.Proofs.Try.f34.results.toList)))
noncomputable def F34 (G : GuardT) (lo : Nat) (x0 x1 : DV) (σ : Store) : Option (DV × Store) :=
 codeF G PP (pol 34) CC lo c34_0 a34_0 [x0, x1, ud, ud, ud, ud, ud, ud, ud, ud, ud, ud, ud, ud, ud, ud, ud, ud, ud, ud, ud, ud, ud, ud, ud, ud, ud, ud, ud, ud, ud, ud, ud, ud] σ (finR PP Go.Proofs.Try.f34.results.toList)
theorem f34_L0_eq (G : GuardT) (hG : GuardOk G) (lo : Nat) (x0 x7 x19 x20 x21 : DV) (σ : Store) : f34_L0 G lo x0 x7 x19 x20 x21 σ =
 (binOp PP .lss 3 x21 x20).bind fun x22 =>
 condK x22
 (
 (indexAddr PP 31 x19 x21).bind fun x24 =>
 (load PP 98 x24 σ).bind fun x25 =>
 (zeroOf PP 98).bind fun z9 =>
 (store PP lo 98 (DV.ptr (List.length σ) 0) x25 (σ ++ [Row.mix z9])).bind fun σ2 =>
 (load PP 98 (DV.ptr (List.length σ) 0) σ2).bind fun x28 =>
 (pureFn CC (DV.fn 94 []) [x0, x7, x28] σ2).bind fun x29 =>
 (binOp PP .eql 3 x29 (DV.p (PV.int IntKind.i64 (-1)))).bind fun x31 =>
 condK x31
 (
 some ((DV.tuple [x21, (DV.p (PV.int IntKind.i64 (0)))]), σ2)
 )
 (
 (binOp PP .add 3 x21 (DV.p (PV.int IntKind.i64 (1)))).bind fun x33 =>
 f34_L0 G lo x0 x29 x19 x20 x33 σ2
 )
 )
 (
 some ((DV.tuple [(DV.p (PV.int IntKind.i64 (0))), (DV.p (PV.int IntKind.i64 (25)))]), σ)
 ) := (loopF_eq G hG).trans (by kernel_rfl)
theorem F34_eq (G : GuardT) (lo : Nat) (x0 x1 : DV) (σ : Store) : F34 G lo x0 x1 σ =
 (pureFn CC (DV.fn 33 []) [x0] σ).bind fun x11 =>
 (pureFn CC (DV.fn 85 []) [x1] σ).bind fun x13 =>
 (buildSlice PP none 160 2 [(0, x11), (1, x13)] σ).bind fun r14_1 =>
 (pureFn CC (DV.fn 52 []) [r14_1.1] r14_1.2).bind fun x15 =>
 (binOp PP .neq 34 x15 (DV.p (PV.int IntKind.i64 (0)))).bind fun x17 =>
 condK x17
 (
 some ((DV.tuple [(DV.p (PV.int IntKind.i64 (0))), x15]), r14_1.2)
 )
 (
 (len PP 31 x1 r14_1.2).bind fun x20 =>
 f34_L0 G lo x0 (DV.p (PV.int IntKind.i64 (0))) x1 x20 (DV.p (PV.int IntKind.i64 (0))) r14_1.2
 ) := by kernel_rfl
theorem F34_call {lo : Nat} {x0 x1 : DV} {σ : Store} {r : DV × Store} (h : F34 guardT lo x0 x1 σ = some r) : CC lo 34 [x0, x1] σ = some r :=
 callL_run Go.Proofs.Try.func34 (by decide +kernel) rfl (by decide +kernel) h
noncomputable def c36_0 : Code := bodyOf Go.Proofs.Try.f36
noncomputable def a36_0 : Ann := (pol 36).ann
noncomputable def F36 (G : GuardT) (lo : Nat) (x0 : DV) (σ : Store) : Option (DV × Store) :=
 codeF G PP (pol 36) CC lo c36_0 a36_0 [x0, ud, ud, ud, ud, ud, ud, ud, ud, ud, ud, ud] σ (finR PP Go.Proofs.Try.f36.results.toList)
theorem F36_eq (G : GuardT) (lo : Nat) (x0 : DV) (σ : Store) : F36 G lo x0 σ =
 (pureFn CC (DV.fn 33 []) [x0] σ).bind fun x6 =>
 (binOp PP .neq 34 x6 (DV.p (PV.int IntKind.i64 (0)))).bind fun x8 =>
 condK x8
 (
 some ((DV.tuple [(DV.p PV.nilsl), x6]), σ)
 )
 (
 (pureFn CC (DV.fn 95 []) [x0] σ).bind fun x11 =>
 some ((DV.tuple [x11, (DV.p (PV.int IntKind.i64 (0)))]), σ)
 ) := by kernel_rfl
theorem F36_call {lo : Nat} {x0 : DV} {σ : Store} {r : DV × Store} (h : F36 guardT lo x0 σ = some r) : CC lo 36 [x0] σ = some r :=
 callL_run Go.Proofs.Try.func36 (by decide +kernel) rfl (by decide +kernel) h
noncomputable def c95_0 : Code := bodyOf Go.Proofs.Try.f95
noncomputable def a95_0 : Ann := (pol 95).ann
noncomputable def a95_7 : Ann := right (left (right (right a95_0)))
noncomputable def a95_8 : Ann := left a95_7
noncomputable def c95_9 : Code := fstC (fstC (sndC (fstC (sndC (sndC c95_0)))))
noncomputable def a95_16 : Ann := left (right (right (left a95_8)))
noncomputable def a95_24 : Ann := right (left (right (right (left a95_16))))
noncomputable def a95_25 : Ann := left a95_24
noncomputable def c95_26 : Code := fstC (fstC (sndC (fstC (sndC (sndC (fstC (fstC (sndC (sndC c95_9)))))))))
noncomputable def a95_33 : Ann := left (right (right (left a95_25)))
noncomputable def a95_38 : Ann := right (right (left a95_33))
noncomputable def a95_39 : Ann := left a95_38
noncomputable def c95_40 : Code := fstC (fstC (sndC (sndC (fstC (fstC (sndC (sndC c95_26)))))))
noncomputable def c95_52 : Code := sndC (sndC (sndC c95_26))
noncomputable def a95_52 : Ann := right (right (right (left a95_25)))
noncomputable def c95_53 : Code := sndC (sndC (sndC (fstC (fstC (sndC (sndC c95_9))))))
noncomputable def a95_53 : Ann := right (right (right (left a95_16)))
noncomputable def c95_54 : Code := sndC (sndC (sndC c95_9))
noncomputable def a95_54 : Ann := right (right (right (left a95_8)))
noncomputable def c95_55 : Code := sndC (sndC (sndC c95_0))
noncomputable def a95_55 : Ann := right (right (right a95_0))
noncomputable def f95_L0 (G : GuardT) (lo : Nat) (x3 x10 x11 x12 : DV) (σ : Store) : Option (DV × Store) :=
 codeF G PP (pol 95) CC lo (.loop c95_9) a95_8 [ud, ud, ud, x3, ud, ud, ud, ud, ud, ud, x10, x11, x12, ud, ud, ud, ud, ud, ud, ud, ud, ud, ud, ud, ud, ud, ud, ud, ud, ud, ud, ud, ud, ud, ud, ud, ud, ud, ud, ud, ud, ud, ud, ud, ud, ud, ud, ud, ud] σ
 (blockC 0 a95_7 (seqC G PP (pol 95) CC lo c95_55 a95_55 (finR PP Go.Proofs.Try.f95.results.toList)))
noncomputable def f95_L1 (G : GuardT) (lo : Nat) (x3 x5 x6 x10 x11 x12 x18 x19 : DV) (σ : Store) : Option (DV × Store) :=
 codeF G PP (pol 95) CC lo (.loop c95_26) a95_25 [ud, ud, ud, x3, ud, x5, x6, ud, ud, ud, x10, x11, x12, ud, ud, ud, ud, ud, x18, x19, ud, ud, ud, ud, ud, ud, ud, ud, ud, ud, ud, ud, ud, ud, ud, ud, ud, ud, ud, ud, ud, ud, ud, ud, ud, ud, ud, ud, ud] σ
 (blockC 2 a95_24 (seqC G PP (pol 95) CC lo c95_53 a95_53 (blockC 1 a95_16 (seqC G PP (pol 95) CC lo c95_54 a95_54 (loopC G PP (pol 95) CC lo c95_9 a95_8 (blockC 0 a95_7 (seqC G PP (pol 95) CC lo c95_55 a95_55 (finR PP Go.Proofs.Try.f95.results.toList))))))))
noncomputable def f95_L2 (G : GuardT) (lo : Nat) (x3 x5 x6 x7 x10 x11 x12 x18 x19 x22 x23 x24 : DV) (σ : Store) : Option (DV × Store) :=
 codeF G PP (pol 95) CC lo (.loop c95_40) a95_39 [ud, ud, ud, x3, ud, x5, x6, x7, ud, ud, x10, x11, x12, ud, ud, ud, ud, ud, x18, x19, ud, ud, x22, x23, x24, ud, ud, ud, ud, ud, ud, ud, ud, ud, ud, ud, ud, ud, ud, ud, ud, ud, ud, ud, ud, ud, ud, ud, ud] σ
 (blockC 4 a95_38 (blockC 3 a95_33 (seqC G PP (pol 95) CC lo c95_52 a95_52 (loopC G PP (pol 95) CC lo c95_26 a95_25 (blockC 2 a95_24 (seqC G PP (pol 95) CC lo c95_53 a95_53 (blockC 1 a95_16 (seqC G PP (pol 95) CC lo c95_54 a95_54 (loopC G PP (pol 95) CC lo c95_9 a95_8 (blockC 0 a95_7 (seqC G PP (pol 95) CC lo c95_55 a95_55 (finR PP Go.Proofs.Try.f95.results.toList))))))))))))
noncomputable def F95 (G : GuardT) (lo : Nat) (x0 : DV) (σ : Store) : Option (DV × Store) :=
 codeF G PP (pol 95) CC lo c95_0 a95_0 [x0, ud, ud, ud, ud, ud, ud, ud, ud, ud, ud, ud, ud, ud, ud, ud, ud, ud, ud, ud, ud, ud, ud, ud, ud, ud, ud, ud, ud, ud, ud, ud, ud, ud, ud, ud, ud, ud, ud, ud, ud, ud, ud, ud, ud, ud, ud, ud, ud] σ (finR PP Go.Proofs.Try.f95.results.toList)
theorem f95_L0_eq (G : GuardT) (hG : GuardOk G) (lo : Nat) (x3 x10 x11 x12 : DV) (σ : Store) : f95_L0 G lo x3 x10 x11 x12 σ =
 (binOp PP .lss 3 x12 x11).bind fun x13 =>
 condK x13
 (
 (indexAddr PP 27 x10 x12).bind fun x14 =>
 (load PP 48 x14 σ).bind fun x15 =>
 (makeSlice PP true 48 (DV.p (PV.int IntKind.i64 (3))) (DV.p (PV.int IntKind.i64 (3))) σ).bind fun r16_1 =>
 (len PP 48 r16_1.1 r16_1.2).bind fun x18 =>
 f95_L1 G lo x3 x15 r16_1.1 x10 x11 x12 x18 (DV.p (PV.int IntKind.i64 (0))) r16_1.2
 )
 (
 some (x3, σ)
 ) := (loopF_eq G hG).trans (by kernel_rfl)
theorem f95_L1_eq (G : GuardT) (hG : GuardOk G) (lo : Nat) (x3 x5 x6 x10 x11 x12 x18 x19 : DV) (σ : Store) : f95_L1 G lo x3 x5 x6 x10 x11 x12 x18 x19 σ =
 (binOp PP .lss 3 x19 x18).bind fun x20 =>
 condK x20
 (
 (len PP 48 x5 σ).bind fun x23 =>
 f95_L2 G lo x3 x5 x6 x19 x10 x11 x12 x18 x19 x5 x23 (DV.p (PV.int IntKind.i64 (0))) σ
 )
 (
 (buildSlice PP (some true) 27 1 [(0, x6)] σ).bind fun r45_5 =>
 (append PP lo true 27 27 x3 r45_5.1 r45_5.2).bind fun r46_6 =>
 (binOp PP .add 3 x12 (DV.p (PV.int IntKind.i64 (1)))).bind fun x47 =>
 f95_L0 G lo r46_6.1 x10 x11 x47 r46_6.2
 ) := (loopF_eq G hG).trans (by kernel_rfl)
theorem f95_L2_eq (G : GuardT) (hG : GuardOk G) (lo : Nat) (x3 x5 x6 x7 x10 x11 x12 x18 x19 x22 x23 x24 : DV) (σ : Store) : f95_L2 G lo x3 x5 x6 x7 x10 x11 x12 x18 x19 x22 x23 x24 σ =
 (binOp PP .lss 3 x24 x23).bind fun x25 =>
 condK x25
 (
 (indexAddr PP 48 x22 x24).bind fun x26 =>
 (load PP 22 x26 σ).bind fun x27 =>
 (indexAddr PP 48 x6 x7).bind fun x32 =>
 (load PP 22 x32 σ).bind fun x33 =>
 (indexAddr PP 22 x27 x7).bind fun x36 =>
 (load PP 3 x36 σ).bind fun x37 =>
 (buildSlice PP none 22 1 [(0, x37)] σ).bind fun r38_2 =>
 (append PP lo false 22 22 x33 r38_2.1 r38_2.2).bind fun r39_3 =>
 (indexAddr PP 48 x6 x7).bind fun x40 =>
 (store PP lo 22 x40 r39_3.1 r39_3.2).bind fun σ4 =>
 (binOp PP .add 3 x24 (DV.p (PV.int IntKind.i64 (1)))).bind fun x41 =>
 f95_L2 G lo x3 x5 x6 x7 x10 x11 x12 x18 x19 x22 x23 x41 σ4
 )
 (
 (binOp PP .add 3 x19 (DV.p (PV.int IntKind.i64 (1)))).bind fun x42 =>
 f95_L1 G lo x3 x5 x6 x10 x11 x12 x18 x42 σ
 ) := (loopF_eq G hG).trans (by kernel_rfl)
theorem F95_eq (G : GuardT) (lo : Nat) (x0 : DV) (σ : Store) : F95 G lo x0 σ =
 (len PP 27 x0 σ).bind fun x11 =>
 f95_L0 G lo (DV.p PV.nilsl) x0 x11 (DV.p (PV.int IntKind.i64 (0))) σ := by kernel_rfl
theorem F95_call {lo : Nat} {x0 : DV} {σ : Store} {r : DV × Store} (h : F95 guardT lo x0 σ = some r) : CC lo 95 [x0] σ = some r :=
 callL_run Go.Proofs.Try.func95 (by decide +kernel) rfl (by decide +kernel) h
noncomputable def c37_0 : Code := bodyOf Go.Proofs.Try.f37
noncomputable def a37_0 : Ann := (pol 37).ann
noncomputable def a37_13 : Ann := right (left (right (right a37_0)))
noncomputable def a37_14 : Ann := left a37_13
noncomputable def c37_15 : Code := fstC (fstC (sndC (fstC (sndC (sndC c37_0)))))
noncomputable def c37_31 : Code := sndC (sndC (sndC c37_0))
noncomputable def a37_31 : Ann := right (right (right a37_0))
noncomputable def f37_L0 (G : GuardT) (lo : Nat) (x0 x1 x5 : DV) (σ : Store) : Option (DV × Store) :=
 codeF G PP (pol 37) CC lo (.loop c37_15) a37_14 [x0, x1, ud, ud, ud, x5, ud, ud, ud, ud, ud, ud, ud, ud, ud, ud, ud, ud, ud, ud, ud, ud, ud, ud, ud, ud, ud] σ
 (blockC 0 a37_13 (seqC G PP (pol 37) CC lo c37_31 a37_31 (finR PP Go.Proofs.Try.f37.results.toList)))
noncomputable def F37 (G : GuardT) (lo : Nat) (x0 x1 : DV) (σ : Store) : Option (DV × Store) :=
 codeF G PP (pol 37) CC lo c37_0 a37_0 [x0, x1, ud, ud, ud, ud, ud, ud, ud, ud, ud, ud, ud, ud, ud, ud, ud, ud, ud, ud, ud, ud, ud, ud, ud, ud, ud] σ (finR PP Go.Proofs.Try.f37.results.toList)
theorem f37_L0_eq (G : GuardT) (hG : GuardOk G) (lo : Nat) (x0 x1 x5 : DV) (σ : Store) : f37_L0 G lo x0 x1 x5 σ =
 (len PP 27 x0 σ).bind fun x13 =>
 (binOp PP .lss 3 x5 x13).bind fun x14 =>
 condK x14
 (
 (indexAddr PP 27 x0 x5).bind fun x19 =>
 (load PP 48 x19 σ).bind fun x20 =>
 (indexAddr PP 27 x1 x5).bind fun x23 =>
 (load PP 48 x23 σ).bind fun x24 =>
 (pureFn CC (DV.fn 23 []) [x20, x24] σ).bind fun x25 =>
 (unOp .not x25).bind fun x26 =>
 condK x26
 (
 some ((DV.p (PV.bool false)), σ)
 )
 (
 (binOp PP .add 3 x5 (DV.p (PV.int IntKind.i64 (1)))).bind fun x16 =>
 f37_L0 G lo x0 x1 x16 σ
 )
 )
 (
 some ((DV.p (PV.bool true)), σ)
 ) := (loopF_eq G hG).trans (by kernel_rfl)
theorem F37_eq (G : GuardT) (lo : Nat) (x0 x1 : DV) (σ : Store) : F37 G lo x0 x1 σ =
 (len PP 27 x0 σ).bind fun x7 =>
 (len PP 27 x1 σ).bind fun x9 =>
 (binOp PP .neq 3 x7 x9).bind fun x10 =>
 condK x10
 (
 some ((DV.p (PV.bool false)), σ)
 )
 (
 f37_L0 G lo x0 x1 (DV.p (PV.int IntKind.i64 (0))) σ
 ) := by kernel_rfl
theorem F37_call {lo : Nat} {x0 x1 : DV} {σ : Store} {r : DV × Store} (h : F37 guardT lo x0 x1 σ = some r) : CC lo 37 [x0, x1] σ = some r :=
 callL_run Go.Proofs.Try.func37 (by decide +kernel) rfl (by decide +kernel) h
noncomputable def c38_0 : Code := bodyOf Go.Proofs.Try.f38
noncomputable def a38_0 : Ann := (pol 38).ann
noncomputable def a38_7 : Ann := right (left (right (right a38_0)))
noncomputable def a38_8 : Ann := left a38_7
noncomputable def c38_9 : Code := fstC (fstC (sndC (fstC (sndC (sndC c38_0)))))
noncomputable def a38_16 : Ann := left (right (left a38_8))
noncomputable def a38_22 : Ann := right (left (right (left a38_16)))
noncomputable def a38_23 : Ann := left a38_22
noncomputable def c38_24 : Code := fstC (fstC (sndC (fstC (sndC (fstC (fstC (sndC c38_9)))))))
noncomputable def a38_31 : Ann := left (right (left a38_23))
noncomputable def a38_37 : Ann := right (left (right (left a38_31)))
noncomputable def a38_38 : Ann := left a38_37
noncomputable def c38_39 : Code := fstC (fstC (sndC (fstC (sndC (fstC (fstC (sndC c38_24)))))))
noncomputable def c38_49 : Code := sndC (sndC (fstC (fstC (sndC c38_24))))
noncomputable def a38_49 : Ann := right (right (left a38_31))
noncomputable def c38_50 : Code := sndC (sndC c38_24)
noncomputable def a38_50 : Ann := right (right (left a38_23))
noncomputable def c38_51 : Code := sndC (sndC (fstC (fstC (sndC c38_9))))
noncomputable def a38_51 : Ann := right (right (left a38_16))
noncomputable def c38_52 : Code := sndC (sndC c38_9)
noncomputable def a38_52 : Ann := right (right (left a38_8))
noncomputable def c38_53 : Code := sndC (sndC (sndC c38_0))
noncomputable def a38_53 : Ann := right (right (right a38_0))
noncomputable def f38_L0 (G : GuardT) (lo : Nat) (x0 x3 x4 : DV) (σ : Store) : Option (DV × Store) :=
 codeF G PP (pol 38) CC lo (.loop c38_9) a38_8 [x0, ud, ud, x3, x4, ud, ud, ud, ud, ud, ud, ud, ud, ud, ud, ud, ud, ud, ud, ud, ud, ud, ud, ud, ud, ud, ud, ud, ud, ud, ud, ud, ud, ud, ud, ud, ud, ud, ud, ud, ud, ud, ud, ud, ud] σ
 (blockC 0 a38_7 (seqC G PP (pol 38) CC lo c38_53 a38_53 (finR PP Go.Proofs.Try.f38.results.toList)))
noncomputable def f38_L1 (G : GuardT) (lo : Nat) (x0 x3 x4 x5 x6 : DV) (σ : Store) : Option (DV × Store) :=
 codeF G PP (pol 38) CC lo (.loop c38_24) a38_23 [x0, ud, ud, x3, x4, x5, x6, ud, ud, ud, ud, ud, ud, ud, ud, ud, ud, ud, ud, ud, ud, ud, ud, ud, ud, ud, ud, ud, ud, ud, ud, ud, ud, ud, ud, ud, ud, ud, ud, ud, ud, ud, ud, ud, ud] σ
 (blockC 2 a38_22 (seqC G PP (pol 38) CC lo c38_51 a38_51 (blockC 1 a38_16 (seqC G PP (pol 38) CC lo c38_52 a38_52 (loopC G PP (pol 38) CC lo c38_9 a38_8 (blockC 0 a38_7 (seqC G PP (pol 38) CC lo c38_53 a38_53 (finR PP Go.Proofs.Try.f38.results.toList))))))))
noncomputable def f38_L2 (G : GuardT) (lo : Nat) (x0 x3 x4 x5 x6 x7 x8 : DV) (σ : Store) : Option (DV × Store) :=
 codeF G PP (pol 38) CC lo (.loop c38_39) a38_38 [x0, ud, ud, x3, x4, x5, x6, x7, x8, ud, ud, ud, ud, ud, ud, ud, ud, ud, ud, ud, ud, ud, ud, ud, ud, ud, ud, ud, ud, ud, ud, ud, ud, ud, ud, ud, ud, ud, ud, ud, ud, ud, ud, ud, ud] σ
 (blockC 4 a38_37 (seqC G PP (pol 38) CC lo c38_49 a38_49 (blockC 3 a38_31 (seqC G PP (pol 38) CC lo c38_50 a38_50 (loopC G PP (pol 38) CC lo c38_24 a38_23 (blockC 2 a38_22 (seqC G PP (pol 38) CC lo c38_51 a38_51 (blockC 1 a38_16 (seqC G PP (pol 38) CC lo c38_52 a38_52 (loopC G PP (pol 38) CC lo c38_9 a38_8 (blockC 0 a38_7 (seqC G PP (pol 38) CC lo c38_53 a38_53 (finR PP Go.Proofs.Try.f38.results.toList)))))))))))))
noncomputable def F38 (G : GuardT) (lo : Nat) (x0 : DV) (σ : Store) : Option (DV × Store) :=
 codeF G PP (pol 38) CC lo c38_0 a38_0 [x0, ud, ud, ud, ud, ud, ud, ud, ud, ud, ud, ud, ud, ud, ud, ud, ud, ud, ud, ud, ud, ud, ud, ud, ud, ud, ud, ud, ud, ud, ud, ud, ud, ud, ud, ud, ud, ud, ud, ud, ud, ud, ud, ud, ud] σ (finR PP Go.Proofs.Try.f38.results.toList)
theorem f38_L0_eq (G : GuardT) (hG : GuardOk G) (lo : Nat) (x0 x3 x4 : DV) (σ : Store) : f38_L0 G lo x0 x3 x4 σ =
 (len PP 27 x0 σ).bind fun x11 =>
 (binOp PP .lss 3 x4 x11).bind fun x12 =>
 condK x12
 (
 f38_L1 G lo x0 x3 x4 (DV.p PV.nilsl) (DV.p (PV.int IntKind.i64 (0))) σ
 )
 (
 some (x3, σ)
 ) := (loopF_eq G hG).trans (by kernel_rfl)
theorem f38_L1_eq (G : GuardT) (hG : GuardOk G) (lo : Nat) (x0 x3 x4 x5 x6 : DV) (σ : Store) : f38_L1 G lo x0 x3 x4 x5 x6 σ =
 (binOp PP .lss 3 x6 (DV.p (PV.int IntKind.i64 (3)))).bind fun x16 =>
 condK x16
 (
 f38_L2 G lo x0 x3 x4 x5 x6 (DV.p PV.nilsl) (DV.p (PV.int IntKind.i64 (0))) σ
 )
 (
 (buildSlice PP none 27 1 [(0, x5)] σ).bind fun r42_5 =>
 (append PP lo false 27 27 x3 r42_5.1 r42_5.2).bind fun r43_6 =>
 (binOp PP .add 3 x4 (DV.p (PV.int IntKind.i64 (1)))).bind fun x14 =>
 f38_L0 G lo x0 r43_6.1 x14 r43_6.2
 ) := (loopF_eq G hG).trans (by kernel_rfl)
theorem f38_L2_eq (G : GuardT) (hG : GuardOk G) (lo : Nat) (x0 x3 x4 x5 x6 x7 x8 : DV) (σ : Store) : f38_L2 G lo x0 x3 x4 x5 x6 x7 x8 σ =
 (binOp PP .lss 3 x8 (DV.p (PV.int IntKind.i64 (3)))).bind fun x20 =>
 condK x20
 (
 (indexAddr PP 27 x0 x4).bind fun x26 =>
 (load PP 48 x26 σ).bind fun x27 =>
 (indexAddr PP 48 x27 x8).bind fun x29 =>
 (load PP 22 x29 σ).bind fun x30 =>
 (indexAddr PP 22 x30 x6).bind fun x32 =>
 (load PP 3 x32 σ).bind fun x33 =>
 (buildSlice PP none 22 1 [(0, x33)] σ).bind fun r34_1 =>
 (append PP lo false 22 22 x7 r34_1.1 r34_1.2).bind fun r35_2 =>
 (binOp PP .add 3 x8 (DV.p (PV.int IntKind.i64 (1)))).bind fun x22 =>
 f38_L2 G lo x0 x3 x4 x5 x6 r35_2.1 x22 r35_2.2
 )
 (
 (buildSlice PP none 48 1 [(0, x7)] σ).bind fun r38_3 =>
 (append PP lo false 48 48 x5 r38_3.1 r38_3.2).bind fun r39_4 =>
 (binOp PP .add 3 x6 (DV.p (PV.int IntKind.i64 (1)))).bind fun x18 =>
 f38_L1 G lo x0 x3 x4 r39_4.1 x18 r39_4.2
 ) := (loopF_eq G hG).trans (by kernel_rfl)
theorem F38_eq (G : GuardT) (lo : Nat) (x0 : DV) (σ : Store) : F38 G lo x0 σ =
 f38_L0 G lo x0 (DV.p PV.nilsl) (DV.p (PV.int IntKind.i64 (0))) σ := by kernel_rfl
theorem F38_call {lo : Nat} {x0 : DV} {σ : Store} {r : DV × Store} (h : F38 guardT lo x0 σ = some r) : CC lo 38 [x0] σ = some r :=
 callL_run Go.Proofs.Try.func38 (by decide +kernel) rfl (by decide +kernel) h
noncomputable def c40_0 : Code := bodyOf Go.Proofs.Try.f40
noncomputable def a40_0 : Ann := (pol 40).ann
noncomputable def a40_7 : Ann := right (left (right (right a40_0)))
noncomputable def a40_8 : Ann := left a40_7
noncomputable def c40_9 : Code := fstC (fstC (sndC (fstC (sndC (sndC c40_0)))))
noncomputable def c40_19 : Code := sndC (sndC (sndC c40_0))
noncomputable def a40_19 : Ann := right (right (right a40_0))
noncomputable def f40_L0 (G : GuardT) (lo : Nat) (x0 x3 x4 : DV) (σ : Store) : Option (DV × Store) :=
 codeF G PP (pol 40) CC lo (.loop c40_9) a40_8 [x0, ud, ud, x3, x4, ud, ud, ud, ud, ud, ud, ud, ud, ud, ud, ud, ud, ud, ud, ud, ud, ud, ud, ud, ud, ud] σ
 (blockC 0 a40_7 (seqC G PP (pol 40) CC lo c40_19 a40_19 (finR PP Go.Proofs.Try.f40.results.toList)))
noncomputable def F40 (G : GuardT) (lo : Nat) (x0 : DV) (σ : Store) : Option (DV × Store) :=
 codeF G PP (pol 40) CC lo c40_0 a40_0 [x0, ud, ud, ud, ud, ud, ud, ud, ud, ud, ud, ud, ud, ud, ud, ud, ud, ud, ud, ud, ud, ud, ud, ud, ud, ud] σ (finR PP Go.Proofs.Try.f40.results.toList)
theorem f40_L0_eq (G : GuardT) (hG : GuardOk G) (lo : Nat) (x0 x3 x4 : DV) (σ : Store) : f40_L0 G lo x0 x3 x4 σ =
 (len PP 31 x0 σ).bind fun x7 =>
 (binOp PP .lss 3 x4 x7).bind fun x8 =>
 condK x8
 (
 (indexAddr PP 31 x0 x4).bind fun x14 =>
 (fieldAddr PP 98 x14 1).bind fun x15 =>
 (load PP 3 x15 σ).bind fun x16 =>
 (indexAddr PP 31 x0 x4).bind fun x19 =>
 (fieldAddr PP 98 x19 0).bind fun x20 =>
 (load PP 3 x20 σ).bind fun x21 =>
 (build PP 98 [(0, x16), (1, x21)]).bind fun x22 =>
 (buildSlice PP none 31 1 [(0, x22)] σ).bind fun r23_1 =>
 (append PP lo false 31 31 x3 r23_1.1 r23_1.2).bind fun r24_2 =>
 (binOp PP .add 3 x4 (DV.p (PV.int IntKind.i64 (1)))).bind fun x10 =>
 f40_L0 G lo x0 r24_2.1 x10 r24_2.2
 )
 (
 some (x3, σ)
 ) := (loopF_eq G hG).trans (by kernel_rfl)
theorem F40_eq (G : GuardT) (lo : Nat) (x0 : DV) (σ : Store) : F40 G lo x0 σ =
 f40_L0 G lo x0 (DV.p PV.nilsl) (DV.p (PV.int IntKind.i64 (0))) σ := by kernel_rfl
theorem F40_call {lo : Nat} {x0 : DV} {σ : Store} {r : DV × Store} (h : F40 guardT lo x0 σ = some r) : CC lo 40 [x0] σ = some r :=
 callL_run Go.Proofs.Try.func40 (by decide +kernel) rfl (by decide +kernel) h
noncomputable def c41_0 : Code := bodyOf Go.Proofs.Try.f41
noncomputable def a41_0 : Ann := (pol 41).ann
noncomputable def a41_7 : Ann := right (left (right (right a41_0)))
noncomputable def a41_8 : Ann := left a41_7
noncomputable def c41_9 : Code := fstC (fstC (sndC (fstC (sndC (sndC c41_0)))))
noncomputable def c41_27 : Code := sndC (sndC (sndC c41_0))
noncomputable def a41_27 : Ann := right (right (right a41_0))
noncomputable def f41_L0 (G : GuardT) (lo : Nat) (x0 x1 x5 x6 : DV) (σ : Store) : Option (DV × Store) :=
 codeF G PP (pol 41) CC lo (.loop c41_9) a41_8 [x0, x1, ud, ud, ud, x5, x6, ud, ud, ud, ud, ud, ud, ud, ud, ud, ud, ud, ud, ud, ud, ud, ud, ud, ud, ud, ud, ud, ud, ud, ud, ud, ud, ud] σ
 (blockC 0 a41_7 (seqC G PP (pol 41) CC lo c41_27 a41_27 (finR PP Go.Proofs.Try.f41.results.toList)))
noncomputable def F41 (G : GuardT) (lo : Nat) (x0 x1 : DV) (σ : Store) : Option (DV × Store) :=
 codeF G PP (pol 41) CC lo c41_0 a41_0 [x0, x1, ud, ud, ud, ud, ud, ud, ud, ud, ud, ud, ud, ud, ud, ud, ud, ud, ud, ud, ud, ud, ud, ud, ud, ud, ud, ud, ud, ud, ud, ud, ud, ud] σ (finR PP Go.Proofs.Try.f41.results.toList)
theorem f41_L0_eq (G : GuardT) (hG : GuardOk G) (lo : Nat) (x0 x1 x5 x6 : DV) (σ : Store) : f41_L0 G lo x0 x1 x5 x6 σ =
 (len PP 31 x1 σ).bind fun x9 =>
 (binOp PP .lss 3 x6 x9).bind fun x10 =>
 condK x10
 (
 (indexAddr PP 27 x0 x5).bind fun x15 =>
 (load PP 48 x15 σ).bind fun x16 =>
 (indexAddr PP 31 x1 x6).bind fun x19 =>
 (fieldAddr PP 98 x19 0).bind fun x20 =>
 (load PP 3 x20 σ).bind fun x21 =>
 (indexAddr PP 48 x16 x21).bind fun x22 =>
 (load PP 22 x22 σ).bind fun x23 =>
 (indexAddr PP 31 x1 x6).bind fun x26 =>
 (fieldAddr PP 98 x26 1).bind fun x27 =>
 (load PP 3 x27 σ).bind fun x28 =>
 (indexAddr PP 22 x23 x28).bind fun x29 =>
 (load PP 3 x29 σ).bind fun x30 =>
 (binOp PP .eql 3 x30 (DV.p (PV.int IntKind.i64 (-1)))).bind fun x32 =>
 condK x32
 (
 some (x6, σ)
 )
 (
 (binOp PP .add 3 x6 (DV.p (PV.int IntKind.i64 (1)))).bind fun x12 =>
 f41_L0 G lo x0 x1 x30 x12 σ
 )
 )
 (
 some ((DV.p (PV.int IntKind.i64 (-1))), σ)
 ) := (loopF_eq G hG).trans (by kernel_rfl)
theorem F41_eq (G : GuardT) (lo : Nat) (x0 x1 : DV) (σ : Store) : F41 G lo x0 x1 σ =
 f41_L0 G lo x0 x1 (DV.p (PV.int IntKind.i64 (0))) (DV.p (PV.int IntKind.i64 (0))) σ := by kernel_rfl
theorem F41_call {lo : Nat} {x0 x1 : DV} {σ : Store} {r : DV × Store} (h : F41 guardT lo x0 x1 σ = some r) : CC lo 41 [x0, x1] σ = some r :=
 callL_run Go.Proofs.Try.func41 (by decide +kernel) rfl (by decide +kernel) h
noncomputable def c56_0 : Code := bodyOf Go.Proofs.Try.f56
noncomputable def a56_0 : Ann := (pol 56).ann
noncomputable def a56_7 : Ann := right (left (right (right a56_0)))
noncomputable def a56_8 : Ann := left a56_7
noncomputable def c56_9 : Code := fstC (fstC (sndC (fstC (sndC (sndC c56_0)))))
noncomputable def c56_19 : Code := sndC (sndC (sndC c56_0))
noncomputable def a56_19 : Ann := right (right (right a56_0))
noncomputable def f56_L0 (G : GuardT) (lo : Nat) (x0 x3 x4 : DV) (σ : Store) : Option (DV × Store) :=
 codeF G PP (pol 56) CC lo (.loop c56_9) a56_8 [x0, ud, ud, x3, x4, ud, ud, ud, ud, ud, ud, ud, ud, ud, ud, ud, ud, ud, ud, ud] σ
 (blockC 0 a56_7 (seqC G PP (pol 56) CC lo c56_19 a56_19 (finR PP Go.Proofs.Try.f56.results.toList)))
noncomputable def F56 (G : GuardT) (lo : Nat) (x0 : DV) (σ : Store) : Option (DV × Store) :=
 codeF G PP (pol 56) CC lo c56_0 a56_0 [x0, ud, ud, ud, ud, ud, ud, ud, ud, ud, ud, ud, ud, ud, ud, ud, ud, ud, ud, ud] σ (finR PP Go.Proofs.Try.f56.results.toList)
theorem f56_L0_eq (G : GuardT) (hG : GuardOk G) (lo : Nat) (x0 x3 x4 : DV) (σ : Store) : f56_L0 G lo x0 x3 x4 σ =
 (len PP 48 x0 σ).bind fun x7 =>
 (binOp PP .lss 3 x4 x7).bind fun x8 =>
 condK x8
 (
 (indexAddr PP 48 x0 x4).bind fun x14 =>
 (load PP 22 x14 σ).bind fun x15 =>
 (pureFn CC (DV.fn 55 []) [x15] σ).bind fun x16 =>
 (buildSlice PP none 48 1 [(0, x16)] σ).bind fun r17_1 =>
 (append PP lo false 48 48 x3 r17_1.1 r17_1.2).bind fun r18_2 =>
 (binOp PP .add 3 x4 (DV.p (PV.int IntKind.i64 (1)))).bind fun x10 =>
 f56_L0 G lo x0 r18_2.1 x10 r18_2.2
 )
 (
 some (x3, σ)
 ) := (loopF_eq G hG).trans (by kernel_rfl)
theorem F56_eq (G : GuardT) (lo : Nat) (x0 : DV) (σ : Store) : F56 G lo x0 σ =
 f56_L0 G lo x0 (DV.p PV.nilsl) (DV.p (PV.int IntKind.i64 (0))) σ := by kernel_rfl
theorem F56_call {lo : Nat} {x0 : DV} {σ : Store} {r : DV × Store} (h : F56 guardT lo x0 σ = some r) : CC lo 56 [x0] σ = some r :=
 callL_run Go.Proofs.Try.func56 (by decide +kernel) rfl (by decide +kernel) h
noncomputable def c23_0 : Code := bodyOf Go.Proofs.Try.f23
noncomputable def a23_0 : Ann := (pol 23).ann
noncomputable def a23_13 : Ann := right (left (right (right a23_0)))
noncomputable def a23_14 : Ann := left a23_13
noncomputable def c23_15 : Code := fstC (fstC (sndC (fstC (sndC (sndC c23_0)))))
noncomputable def c23_31 : Code := sndC (sndC (sndC c23_0))
noncomputable def a23_31 : Ann := right (right (right a23_0))
noncomputable def f23_L0 (G : GuardT) (lo : Nat) (x0 x1 x5 : DV) (σ : Store) : Option (DV × Store) :=
 codeF G PP (pol 23) CC lo (.loop c23_15) a23_14 [x0, x1, ud, ud, ud, x5, ud, ud, ud, ud, ud, ud, ud, ud, ud, ud, ud, ud, ud, ud, ud, ud, ud, ud, ud, ud, ud] σ
 (blockC 0 a23_13 (seqC G PP (pol 23) CC lo c23_31 a23_31 (finR PP Go.Proofs.Try.f23.results.toList)))
noncomputable def F23 (G : GuardT) (lo : Nat) (x0 x1 : DV) (σ : Store) : Option (DV × Store) :=
 codeF G PP (pol 23) CC lo c23_0 a23_0 [x0, x1, ud, ud, ud, ud, ud, ud, ud, ud, ud, ud, ud, ud, ud, ud, ud, ud, ud, ud, ud, ud, ud, ud, ud, ud, ud] σ (finR PP Go.Proofs.Try.f23.results.toList)
theorem f23_L0_eq (G : GuardT) (hG : GuardOk G) (lo : Nat) (x0 x1 x5 : DV) (σ : Store) : f23_L0 G lo x0 x1 x5 σ =
 (len PP 48 x0 σ).bind fun x13 =>
 (binOp PP .lss 3 x5 x13).bind fun x14 =>
 condK x14
 (
 (indexAddr PP 48 x0 x5).bind fun x19 =>
 (load PP 22 x19 σ).bind fun x20 =>
 (indexAddr PP 48 x1 x5).bind fun x23 =>
 (load PP 22 x23 σ).bind fun x24 =>
 (pureFn CC (DV.fn 61 []) [x20, x24] σ).bind fun x25 =>
 (unOp .not x25).bind fun x26 =>
 condK x26
 (
 some ((DV.p (PV.bool false)), σ)
 )
 (
 (binOp PP .add 3 x5 (DV.p (PV.int IntKind.i64 (1)))).bind fun x16 =>
 f23_L0 G lo x0 x1 x16 σ
 )
 )
 (
 some ((DV.p (PV.bool true)), σ)
 ) := (loopF_eq G hG).trans (by kernel_rfl)
theorem F23_eq (G : GuardT) (lo : Nat) (x0 x1 : DV) (σ : Store) : F23 G lo x0 x1 σ =
 (len PP 48 x0 σ).bind fun x7 =>
 (len PP 48 x1 σ).bind fun x9 =>
 (binOp PP .neq 3 x7 x9).bind fun x10 =>
 condK x10
 (
 some ((DV.p (PV.bool false)), σ)
 )
 (
 f23_L0 G lo x0 x1 (DV.p (PV.int IntKind.i64 (0))) σ
 ) := by kernel_rfl
theorem F23_call {lo : Nat} {x0 x1 : DV} {σ : Store} {r : DV × Store} (h : F23 guardT lo x0 x1 σ = some r) : CC lo 23 [x0, x1] σ = some r :=
 callL_run Go.Proofs.Try.func23 (by decide +kernel) rfl (by decide +kernel) h
noncomputable def c90_0 : Code := bodyOf Go.Proofs.Try.f90
noncomputable def a90_0 : Ann := (pol 90).ann
noncomputable def F90 (G : GuardT) (lo : Nat) (x0 x1 : DV) (σ : Store) : Option (DV × Store) :=
 codeF G PP (pol 90) CC lo c90_0 a90_0 [x0, x1, ud, ud, ud, ud, ud, ud, ud] σ (finR PP Go.Proofs.Try.f90.results.toList)
theorem F90_eq (G : GuardT) (lo : Nat) (x0 x1 : DV) (σ : Store) : F90 G lo x0 x1 σ =
 (pureFn CC (DV.fn 121 []) [x0, x1] σ).bind fun x7 =>
 (binOp PP .geq 3 x7 (DV.p (PV.int IntKind.i64 (0)))).bind fun x8 =>
 some (x8, σ) := by kernel_rfl
theorem F90_call {lo : Nat} {x0 x1 : DV} {σ : Store} {r : DV × Store} (h : F90 guardT lo x0 x1 σ = some r) : CC lo 90 [x0, x1] σ = some r :=
 callL_run Go.Proofs.Try.func90 (by decide +kernel) rfl (by decide +kernel) h
noncomputable def c91_0 : Code := bodyOf Go.Proofs.Try.f91
noncomputable def a91_0 : Ann := (pol 91).ann
noncomputable def F91 (G : GuardT) (lo : Nat) (x0 : DV) (σ : Store) : Option (DV × Store) :=
 codeF G PP (pol 91) CC lo c91_0 a91_0 [x0, ud, ud, ud, ud, ud] σ (finR PP Go.Proofs.Try.f91.results.toList)
theorem F91_eq (G : GuardT) (lo : Nat) (x0 : DV) (σ : Store) : F91 G lo x0 σ =
 (len PP 22 x0 σ).bind fun x4 =>
 (binOp PP .neq 3 x4 (DV.p (PV.int IntKind.i64 (3)))).bind fun x5 =>
 some (x5, σ) := by kernel_rfl
theorem F91_call {lo : Nat} {x0 : DV} {σ : Store} {r : DV × Store} (h : F91 guardT lo x0 σ = some r) : CC lo 91 [x0] σ = some r :=
 callL_run Go.Proofs.Try.func91 (by decide +kernel) rfl (by decide +kernel) h
noncomputable def c92_0 : Code := bodyOf Go.Proofs.Try.f92
noncomputable def a92_0 : Ann := (pol 92).ann
noncomputable def F92 (G : GuardT) (lo : Nat) (x0 x1 : DV) (σ : Store) : Option (DV × Store) :=
 codeF G PP (pol 92) CC lo c92_0 a92_0 [x0, x1, ud, ud, ud, ud, ud, ud, ud, ud] σ (finR PP Go.Proofs.Try.f92.results.toList)
theorem F92_eq (G : GuardT) (lo : Nat) (x0 x1 : DV) (σ : Store) : F92 G lo x0 x1 σ =
 (load PP 27 x1 σ).bind fun x5 =>
 (len PP 27 x5 σ).bind fun x6 =>
 (binOp PP .sub 3 x6 (DV.p (PV.int IntKind.i64 (1)))).bind fun x7 =>
 (pureFn CC (DV.fn 79 []) [x0, (DV.p (PV.int IntKind.i64 (-1))), x7] σ).bind fun x8 =>
 (unOp .not x8).bind fun x9 =>
 some (x9, σ) := by kernel_rfl
theorem F92_call {lo : Nat} {x0 x1 : DV} {σ : Store} {r : DV × Store} (h : F92 guardT lo x0 x1 σ = some r) : CC lo 92 [x0, x1] σ = some r :=
 callL_run Go.Proofs.Try.func92 (by decide +kernel) rfl (by decide +kernel) h
noncomputable def c93_0 : Code := bodyOf Go.Proofs.Try.f93
noncomputable def a93_0 : Ann := (pol 93).ann
noncomputable def F93 (G : GuardT) (lo : Nat) (x0 x1 : DV) (σ : Store) : Option (DV × Store) :=
 codeF G PP (pol 93) CC lo c93_0 a93_0 [x0, x1, ud, ud, ud, ud, ud] σ (finR PP Go.Proofs.Try.f93.results.toList)
theorem F93_eq (G : GuardT) (lo : Nat) (x0 x1 : DV) (σ : Store) : F93 G lo x0 x1 σ =
 (load PP 104 x1 σ).bind fun x5 =>
 (pureFn CC (DV.fn 80 []) [x0, x5] σ).bind fun x6 =>
 some (x6, σ) := by kernel_rfl
theorem F93_call {lo : Nat} {x0 x1 : DV} {σ : Store} {r : DV × Store} (h : F93 guardT lo x0 x1 σ = some r) : CC lo 93 [x0, x1] σ = some r :=
 callL_run Go.Proofs.Try.func93 (by decide +kernel) rfl (by decide +kernel) h
noncomputable def c94_0 : Code := bodyOf Go.Proofs.Try.f94
noncomputable def a94_0 : Ann := (pol 94).ann
noncomputable def F94 (G : GuardT) (lo : Nat) (x0 x1 x2 : DV) (σ : Store) : Option (DV × Store) :=
 codeF G PP (pol 94) CC lo c94_0 a94_0 [x0, x1, x2, ud, ud, ud, ud, ud, ud, ud, ud, ud, ud, ud, ud, ud, ud, ud, ud] σ (finR PP Go.Proofs.Try.f94.results.toList)
theorem F94_eq (G : GuardT) (lo : Nat) (x0 x1 x2 : DV) (σ : Store) : F94 G lo x0 x1 x2 σ =
 (boxV x2).bind fun z5 =>
 (indexAddr PP 27 x0 x1).bind fun x9 =>
 (load PP 48 x9 (σ ++ [Row.mix z5])).bind fun x10 =>
 (fieldAddr PP 98 (DV.ptr (List.length σ) 0) 0).bind fun x11 =>
 (load PP 3 x11 (σ ++ [Row.mix z5])).bind fun x12 =>
 (indexAddr PP 48 x10 x12).bind fun x13 =>
 (load PP 22 x13 (σ ++ [Row.mix z5])).bind fun x14 =>
 (fieldAddr PP 98 (DV.ptr (List.length σ) 0) 1).bind fun x15 =>
 (load PP 3 x15 (σ ++ [Row.mix z5])).bind fun x16 =>
 (indexAddr PP 22 x14 x16).bind fun x17 =>
 (load PP 3 x17 (σ ++ [Row.mix z5])).bind fun x18 =>
 some (x18, (σ ++ [Row.mix z5])) := by kernel_rfl
theorem F94_call {lo : Nat} {x0 x1 x2 : DV} {σ : Store} {r : DV × Store} (h : F94 guardT lo x0 x1 x2 σ = some r) : CC lo 94 [x0, x1, x2] σ = some r :=
 callL_run Go.Proofs.Try.func94 (by decide +kernel) rfl (by decide +kernel) h
noncomputable def c121_0 : Code := bodyOf Go.Proofs.Try.f121
noncomputable def a121_0 : Ann := (pol 121).ann
noncomputable def a121_5 : Ann := right (left (right a121_0))
noncomputable def a121_6 : Ann := left a121_5
noncomputable def c121_7 : Code := fstC (fstC (sndC (fstC (sndC c121_0))))
noncomputable def c121_25 : Code := sndC (sndC c121_0)
noncomputable def a121_25 : Ann := right (right a121_0)
noncomputable def f121_L0 (G : GuardT) (lo : Nat) (x0 x1 x7 x8 : DV) (σ : Store) : Option (DV × Store) :=
 codeF G PP (pol 121) CC lo (.loop c121_7) a121_6 [x0, x1, ud, ud, ud, ud, ud, x7, x8, ud, ud, ud, ud, ud, ud, ud, ud, ud, ud] σ
 (blockC 0 a121_5 (seqC G PP (pol 121) CC lo c121_25 a121_25 (finR PP Go.Proofs.Try.f121.results.toList)))
noncomputable def F121 (G : GuardT) (lo : Nat) (x0 x1 : DV) (σ : Store) : Option (DV × Store) :=
 codeF G PP (pol 121) CC lo c121_0 a121_0 [x0, x1, ud, ud, ud, ud, ud, ud, ud, ud, ud, ud, ud, ud, ud, ud, ud, ud, ud] σ (finR PP Go.Proofs.Try.f121.results.toList)
theorem f121_L0_eq (G : GuardT) (hG : GuardOk G) (lo : Nat) (x0 x1 x7 x8 : DV) (σ : Store) : f121_L0 G lo x0 x1 x7 x8 σ =
 (binOp PP .lss 3 x8 x7).bind fun x9 =>
 condK x9
 (
 (indexAddr PP 48 x0 x8).bind fun x14 =>
 (load PP 22 x14 σ).bind fun x15 =>
 (pureFn CC x1 [x15] σ).bind fun x16 =>
 condK x16
 (
 some (x8, σ)
 )
 (
 (binOp PP .add 3 x8 (DV.p (PV.int IntKind.i64 (1)))).bind fun x18 =>
 f121_L0 G lo x0 x1 x7 x18 σ
 )
 )
 (
 some ((DV.p (PV.int IntKind.i64 (-1))), σ)
 ) := (loopF_eq G hG).trans (by kernel_rfl)
theorem F121_eq (G : GuardT) (lo : Nat) (x0 x1 : DV) (σ : Store) : F121 G lo x0 x1 σ =
 (len PP 48 x0 σ).bind fun x7 =>
 f121_L0 G lo x0 x1 x7 (DV.p (PV.int IntKind.i64 (0))) σ := by kernel_rfl
theorem F121_call {lo : Nat} {x0 x1 : DV} {σ : Store} {r : DV × Store} (h : F121 guardT lo x0 x1 σ = some r) : CC lo 121 [x0, x1] σ = some r :=
 callL_run Go.Proofs.Try.func121 (by decide +kernel) rfl (by decide +kernel) h
noncomputable def c7_0 : Code := bodyOf Go.Proofs.Try.f7
noncomputable def a7_0 : Ann := (pol 7).ann
noncomputable def F7 (G : GuardT) (lo : Nat) (x0 x1 : DV) (σ : Store) : Option (DV × Store) :=
 codeF G PP (pol 7) CC lo c7_0 a7_0 [x0, x1, ud, ud, ud, ud, ud, ud, ud, ud, ud, ud, ud, ud, ud, ud, ud, ud, ud, ud, ud, ud, ud, ud, ud, ud, ud, ud, ud, ud, ud, ud, ud, ud, ud, ud, ud, ud, ud, ud, ud, ud, ud, ud, ud, ud, ud, ud, ud, ud, ud, ud, ud, ud, ud, ud, ud, ud, ud, ud, ud, ud, ud, ud, ud, ud, ud, ud, ud, ud, ud, ud, ud, ud, ud, ud, ud, ud, ud, ud, ud, ud, ud, ud, ud, ud, ud, ud, ud, ud, ud, ud, ud, ud, ud, ud, ud, ud, ud, ud, ud, ud, ud, ud, ud, ud, ud, ud, ud, ud, ud, ud, ud, ud, ud, ud, ud, ud, ud, ud, ud, ud, ud, ud, ud, ud, ud, ud, ud, ud, ud, ud, ud, ud, ud, ud, ud, ud, ud, ud, ud, ud, ud, ud, ud] σ (finR PP Go.Proofs.Try.f7.results.toList)
theorem F7_eq (G : GuardT) (lo : Nat) (x0 x1 : DV) (σ : Store) : F7 G lo x0 x1 σ =
 (pureFn CC (DV.fn 10 []) [] σ).bind fun x17 =>
 (unOp .not x17).bind fun x18 =>
 condK x18
 (
 some ((DV.p (PV.bool false)), σ)
 )
 (
 (pureFn CC (DV.fn 12 []) [x0] σ).bind fun x20 =>
 (unOp .not x20).bind fun x21 =>
 G _ x21 false (some (x1, σ)) σ fun x23 σ1 =>
 G _ x21 false ((pureFn CC (DV.fn 28 []) [x23] σ1).bind fun v => some (v, σ1)) σ1 fun x24 σ2 =>
 G _ x21 false ((unOp .not x24).bind fun v => some (v, σ2)) σ2 fun x25 σ3 =>
 (pickV x21 (DV.p (PV.bool true)) x25).bind fun x26 =>
 condK x26
 (
 some ((DV.p (PV.bool true)), σ3)
 )
 (
 (pureFn CC (DV.fn 17 []) [x0] σ3).bind fun x28 =>
 (pureFn CC (DV.fn 15 []) [x0] σ3).bind fun x30 =>
 (pureFn CC (DV.fn 33 []) [x30] σ3).bind fun x31 =>
 (binOp PP .neq 3 x31 x28).bind fun x34 =>
 condK x34
 (
 some ((DV.p (PV.bool false)), σ3)
 )
 (
 (pureFn CC (DV.fn 15 []) [x0] σ3).bind fun x37 =>
 (pureFn CC (DV.fn 35 []) [x1] σ3).bind fun x39 =>
 (pureFn CC (DV.fn 34 []) [x37, x39] σ3).bind fun x40 =>
 (extractV x40 0).bind fun x41 =>
 (extractV x40 1).bind fun x42 =>
 (pureFn CC (DV.fn 15 []) [x0] σ3).bind fun x45 =>
 (pureFn CC (DV.fn 36 []) [x45] σ3).bind fun x46 =>
 (extractV x46 0).bind fun x47 =>
 (extractV x46 1).bind fun x48 =>
 (binOp PP .neq 3 x28 (DV.p (PV.int IntKind.i64 (0)))).bind fun x50 =>
 condK x50
 (
 (binOp PP .eql 3 x42 x28).bind fun x53 =>
 G _ x53 true (some (x48, σ3)) σ3 fun x55 σ4 =>
 G _ x53 true (some (x28, σ4)) σ4 fun x56 σ5 =>
 G _ x53 true ((binOp PP .eql 3 x55 x56).bind fun v => some (v, σ5)) σ5 fun x57 σ6 =>
 (pickV x53 x57 (DV.p (PV.bool false))).bind fun x58 =>
 G _ x58 true (some (x41, σ6)) σ6 fun x60 σ7 =>
 G _ x58 true ((binOp PP .eql 3 x60 (DV.p (PV.int IntKind.i64 (0)))).bind fun v => some (v, σ7)) σ7 fun x61 σ8 =>
 (pickV x58 x61 (DV.p (PV.bool false))).bind fun x62 =>
 G _ x62 true (some (x47, σ8)) σ8 fun x64 σ9 =>
 G _ x62 true ((len PP 27 x64 σ9).bind fun v => some (v, σ9)) σ9 fun x65 σ10 =>
 G _ x62 true ((binOp PP .eql 3 x65 (DV.p (PV.int IntKind.i64 (0)))).bind fun v => some (v, σ10)) σ10 fun x66 σ11 =>
 (pickV x62 x66 (DV.p (PV.bool false))).bind fun x67 =>
 some (x67, σ11)
 )
 (
 (binOp PP .neq 34 x48 (DV.p (PV.int IntKind.i64 (0)))).bind fun x69 =>
 G _ x69 false (some (x47, σ3)) σ3 fun x71 σ12 =>
 G _ x69 false (some (x0, σ12)) σ12 fun x72 σ13 =>
 G _ x69 false ((pureFn CC (DV.fn 38 []) [x72] σ13).bind fun v => some (v, σ13)) σ13 fun x73 σ14 =>
 G _ x69 false ((pureFn CC (DV.fn 37 []) [x71, x73] σ14).bind fun v => some (v, σ14)) σ14 fun x74 σ15 =>
 G _ x69 false ((unOp .not x74).bind fun v => some (v, σ15)) σ15 fun x75 σ16 =>
 (pickV x69 (DV.p (PV.bool true)) x75).bind fun x76 =>
 condK x76
 (
 some ((DV.p (PV.bool false)), σ16)
 )
 (
 (pureFn CC (DV.fn 15 []) [x47] σ16).bind fun x79 =>
 (pureFn CC (DV.fn 36 []) [x79] σ16).bind fun x80 =>
 (extractV x80 0).bind fun x81 =>
 (extractV x80 1).bind fun x82 =>
 (binOp PP .neq 34 x82 (DV.p (PV.int IntKind.i64 (0)))).bind fun x84 =>
 G _ x84 false (some (x81, σ16)) σ16 fun x86 σ17 =>
 G _ x84 false (some (x0, σ17)) σ17 fun x87 σ18 =>
 G _ x84 false ((pureFn CC (DV.fn 37 []) [x86, x87] σ18).bind fun v => some (v, σ18)) σ18 fun x88 σ19 =>
 G _ x84 false ((unOp .not x88).bind fun v => some (v, σ19)) σ19 fun x89 σ20 =>
 (pickV x84 (DV.p (PV.bool true)) x89).bind fun x90 =>
 condK x90
 (
 some ((DV.p (PV.bool false)), σ20)
 )
 (
 (pureFn CC (DV.fn 39 []) [x1] σ20).bind fun x92 =>
 (binOp PP .neq 3 x92 (DV.p (PV.int IntKind.i64 (0)))).bind fun x94 =>
 condK x94
 (
 (binOp PP .eql 3 x42 x92).bind fun x97 =>
 G _ x97 true (some (x41, σ20)) σ20 fun x99 σ21 =>
 G _ x97 true ((binOp PP .eql 3 x99 (DV.p (PV.int IntKind.i64 (0)))).bind fun v => some (v, σ21)) σ21 fun x100 σ22 =>
 (pickV x97 x100 (DV.p (PV.bool false))).bind fun x101 =>
 some (x101, σ22)
 )
 (
 (pureFn CC (DV.fn 15 []) [x47] σ20).bind fun x104 =>
 (pureFn CC (DV.fn 40 []) [x1] σ20).bind fun x106 =>
 (pureFn CC (DV.fn 34 []) [x104, x106] σ20).bind fun x107 =>
 (extractV x107 0).bind fun x108 =>
 (extractV x107 1).bind fun x109 =>
 (pureFn CC (DV.fn 41 []) [x0, x1] σ20).bind fun x112 =>
 (binOp PP .lss 3 x112 (DV.p (PV.int IntKind.i64 (0)))).bind fun x114 =>
 condK x114
 (
 (binOp PP .eql 34 x42 (DV.p (PV.int IntKind.i64 (25)))).bind fun x116 =>
 G _ x116 true (some (x109, σ20)) σ20 fun x118 σ23 =>
 G _ x116 true ((binOp PP .eql 34 x118 (DV.p (PV.int IntKind.i64 (25)))).bind fun v => some (v, σ23)) σ23 fun x119 σ24 =>
 (pickV x116 x119 (DV.p (PV.bool false))).bind fun x120 =>
 G _ x120 true (some (x41, σ24)) σ24 fun x122 σ25 =>
 G _ x120 true ((binOp PP .eql 3 x122 (DV.p (PV.int IntKind.i64 (0)))).bind fun v => some (v, σ25)) σ25 fun x123 σ26 =>
 (pickV x120 x123 (DV.p (PV.bool false))).bind fun x124 =>
 G _ x124 true (some (x108, σ26)) σ26 fun x126 σ27 =>
 G _ x124 true ((binOp PP .eql 3 x126 (DV.p (PV.int IntKind.i64 (0)))).bind fun v => some (v, σ27)) σ27 fun x127 σ28 =>
 (pickV x124 x127 (DV.p (PV.bool false))).bind fun x128 =>
 some (x128, σ28)
 )
 (
 (binOp PP .eql 34 x42 (DV.p (PV.int IntKind.i64 (0)))).bind fun x130 =>
 G _ x130 true (some (x109, σ20)) σ20 fun x132 σ29 =>
 G _ x130 true ((binOp PP .eql 34 x132 (DV.p (PV.int IntKind.i64 (0)))).bind fun v => some (v, σ29)) σ29 fun x133 σ30 =>
 (pickV x130 x133 (DV.p (PV.bool false))).bind fun x134 =>
 G _ x134 true (some (x41, σ30)) σ30 fun x136 σ31 =>
 G _ x134 true (some (x112, σ31)) σ31 fun x137 σ32 =>
 G _ x134 true ((binOp PP .eql 3 x136 x137).bind fun v => some (v, σ32)) σ32 fun x138 σ33 =>
 (pickV x134 x138 (DV.p (PV.bool false))).bind fun x139 =>
 G _ x139 true (some (x108, σ33)) σ33 fun x141 σ34 =>
 G _ x139 true (some (x112, σ34)) σ34 fun x142 σ35 =>
 G _ x139 true ((binOp PP .eql 3 x141 x142).bind fun v => some (v, σ35)) σ35 fun x143 σ36 =>
 (pickV x139 x143 (DV.p (PV.bool false))).bind fun x144 =>
 some (x144, σ36)
 )
 )
 )
 )
 )
 )
 )
 ) := by kernel_rfl
theorem F7_call {lo : Nat} {x0 x1 : DV} {σ : Store} {r : DV × Store} (h : F7 guardT lo x0 x1 σ = some r) : CC lo 7 [x0, x1] σ = some r :=
 callL_run Go.Proofs.Try.func7 (by decide +kernel) rfl (by decide +kernel) h
end Go.D
end
/- What functions of the library and of the reference's base answer: turned from the texts of chapter 21. -/
section
set_option linter.unusedVariables false
set_option linter.unusedSimpArgs false
namespace Go.D
def inR (n a b : Int) : Bool := decide (n ≥ a) && decide (n ≤ b)

theorem S79 (n a b : Int) (σ : Store) : pureV CC 79 [.p (pI n), .p (pI a), .p (pI b)] σ = some (.p (.bool (inR n a b))) := by
  refine pureV_free rfl rfl (F79_call (r := (.p (.bool (inR n a b)), [])) ?_) rfl
  rw [F79_eq]
  simp only [b_geq, b_leq, obind, inR]
  by_cases h : n ≥ a <;> simp [h, guard_tt, guard_ft, b_leq, pickV_true, pickV_false]

theorem S57 (n a b : Int) (σ : Store) : pureV CC 57 [.p (pI n), .p (pI a), .p (pI b)] σ = some (.p (.bool (inR n a b))) := by
  refine pureV_free rfl rfl (F57_call (r := (.p (.bool (inR n a b)), [])) ?_) rfl
  rw [F57_eq]
  simp only [b_geq, b_leq, obind, inR]
  by_cases h : n ≥ a <;> simp [h, guard_tt, guard_ft, b_leq, pickV_true, pickV_false]

theorem S54 (b : Bool) (e : Int) (σ : Store) : pureV CC 54 [.p (.bool b), .p (pI e)] σ = some (.p (pI (if b then 0 else e))) := by
  refine pureV_free rfl rfl (F54_call (r := (.p (pI (if b then 0 else e)), [])) ?_) rfl
  rw [F54_eq]
  cases b <;> rfl

theorem S134 (n : Int) (σ : Store) : pureV CC 134 [.p (pI n)] σ = some (.p (.bool false)) := by
  refine pureV_free rfl rfl (F134_call (r := (.p (.bool false), [])) ?_) rfl
  rw [F134_eq]
  simp [b_neq]

def cmpI (a b : Int) : Int := if a < b then -1 else if a > b then 1 else 0

theorem S112 (a b : Int) (σ : Store) : pureV CC 112 [.p (pI a), .p (pI b)] σ = some (.p (pI (cmpI a b))) := by
  refine pureV_free rfl rfl (F112_call (r := (.p (pI (cmpI a b)), [])) ?_) rfl
  rw [F112_eq]
  simp only [pureFn_fn, List.append_nil, S134, obind, condK_false, b_lss, b_gtr, cmpI]
  by_cases h : a < b
  · simp [h, condK_true, condK_if]
  · by_cases h2 : a > b <;> simp [h, h2, condK_true, condK_if]

theorem S106 (b : Bool) (σ : Store) : pureV CC 106 [.p (.bool b)] σ = some (.p (pI (if b then 1 else 0))) := by
  refine pureV_free rfl rfl (F106_call (r := (.p (pI (if b then 1 else 0)), [])) ?_) rfl
  rw [F106_eq]
  cases b <;> rfl

def idxFrom {α : Type} (q : α → Bool) : List α → Nat → Int
  | [], _ => -1
  | a :: l, i => if q a then (i : Int) else idxFrom q l (i + 1)

theorem idxFrom_ge {α : Type} (q : α → Bool) : ∀ (l : List α) (i : Nat), decide (idxFrom q l i ≥ 0) = l.any q
  | [], i => rfl
  | a :: l, i => by
    unfold idxFrom
    cases h : q a with
    | true => simp [h]
    | false => simp only [Bool.false_eq_true, if_false, idxFrom_ge q l, List.any_cons, h, Bool.false_or]

theorem drop_cons {α : Type} {l : List α} {i : Nat} (h : i < l.length) : l.drop i = l[i] :: l.drop (i + 1) := List.drop_eq_getElem_cons h

theorem L116 {o : Option (List Int)} {f : FuncId} {caps : List DV} {σ : Store} {lo : Nat} {q : Int → Bool} (hl : (L o).length ≤ 1000) (hq : ∀ v, pureV CC f (.p (pI v) :: caps) σ = some (.p (.bool (q v)))) :
    ∀ (k i : Nat), (L o).length - i = k → i ≤ (L o).length → f116_L0 guardT lo (.p (eSl o)) (.fn f caps) (.p (pI ((L o).length : Nat))) (.p (pI (i : Nat))) σ = some (.p (pI (idxFrom q ((L o).drop i) i)), σ)
  | 0, i, hk, hi => by
    have : i = (L o).length := by omega
    rw [f116_L0_eq guardT rfl]
    subst this
    simp [b_lss, condK_false, idxFrom]
  | k + 1, i, hk, hi => by
    have h : i < (L o).length := by omega
    have h' : (i : Int) < ((L o).length : Nat) := by omega
    rw [f116_L0_eq guardT rfl]
    simp only [b_lss, obind, h', decide_true, condK_true, idx22 h, load3, load1_ints h, pureFn_fn, List.singleton_append, hq]
    rw [drop_cons h]
    cases hqv : q (L o)[i] with
    | true => simp [condK_true, idxFrom, hqv]
    | false =>
      simp only [condK_false, b_add, obind, wrap_succ (show i ≤ 1000000 by omega), idxFrom, hqv, Bool.false_eq_true, if_false]
      exact L116 hl hq k (i + 1) (by omega) (by omega)

theorem fn_view (f : FuncId) (caps : List DV) : view (.fn f caps) = .fn f caps := rfl
theorem sl_view (o : Option (List Int)) : view (.p (eSl o)) = .p (eSl o) := by simp [view, viewCell, loosen_sl]
theorem es_view (o : Option (List Edg)) : view (.p (eEs o)) = .p (eEs o) := by simp [view, viewCell, loosen_es]

/-- The stores at which a closure is called. -/
abbrev AtSt (caps : List DV) (σ σ0 : Store) : Prop := (σ0 = [] ∧ caps.all rowFree1 = true) ∨ σ0 = σ

theorem S116 {o : Option (List Int)} {f : FuncId} {caps : List DV} {σ : Store} {q : Int → Bool} (hl : (L o).length ≤ 1000) (hq : ∀ σ0, AtSt caps σ σ0 → ∀ v, pureV CC f (.p (pI v) :: caps) σ0 = some (.p (.bool (q v)))) :
    pureV CC 116 [.p (eSl o), .fn f caps] σ = some (.p (pI (idxFrom q (L o) 0))) := by
  refine pureV_any (by simp [sl_view, fn_view]) fun lo σ0 hs => ⟨_, σ0, F116_call (r := (.p (pI (idxFrom q (L o) 0)), σ0)) ?_, rfl⟩
  have hat : AtSt caps σ σ0 := by
    rcases hs with ⟨h1, _, h3⟩ | ⟨h1, _, _⟩
    · exact .inl ⟨h1, by simpa [rowFree] using (by simpa [rowFree] using h3 : _ ∧ _).2⟩
    · exact .inr h1
  rw [F116_eq]
  simp only [len22, obind]
  have := L116 (lo := lo) hl (hq σ0 hat) _ 0 rfl (Nat.zero_le _)
  simpa using this

theorem S80 {o : Option (List Int)} {f : FuncId} {caps : List DV} {σ : Store} {q : Int → Bool} (hl : (L o).length ≤ 1000) (hq : ∀ σ0, AtSt caps σ σ0 → ∀ v, pureV CC f (.p (pI v) :: caps) σ0 = some (.p (.bool (q v)))) :
    pureV CC 80 [.p (eSl o), .fn f caps] σ = some (.p (.bool ((L o).any q))) := by
  refine pureV_any (by simp [sl_view, fn_view]) fun lo σ0 hs => ⟨_, σ0, F80_call (r := (.p (.bool ((L o).any q)), σ0)) ?_, rfl⟩
  have hat : ∀ σ1, AtSt caps σ0 σ1 → AtSt caps σ σ1 := by
    intro σ1 h
    rcases hs with ⟨h1, _, h3⟩ | ⟨h1, _, _⟩
    · rcases h with h | h
      · exact .inl h
      · exact .inl ⟨h.trans h1, by simpa [rowFree] using (by simpa [rowFree] using h3 : _ ∧ _).2⟩
    · rw [← h1]; exact h
  rw [F80_eq]
  simp only [pureFn_fn, List.append_nil, S116 hl fun σ1 h => hq σ1 (hat σ1 h), obind, b_geq, idxFrom_ge]

theorem load1_getD {l : List Int} {i : Nat} (h : i < l.length) (σ : Store) : load1 (.pptr (eInts l) i) σ = some (.p (pI (l.getD i 0))) := by
  rw [load1_ints h, List.getD_eq_getElem?_getD, List.getElem?_eq_getElem h]; rfl
theorem wrap_pred {i : Nat} (h : 0 < i) (h2 : i ≤ 1000000) : IntKind.wrap .i64 ((i : Int) - 1) = ((i - 1 : Nat) : Int) := by
  rw [wrap_ok] <;> omega

theorem L119 {o : Option (List Int)} {v : Int} {σ : Store} {lo : Nat} (hl : (L o).length ≤ 1000) :
    ∀ (k i : Nat), (L o).length - i = k → i ≤ (L o).length → f119_L0 guardT lo (.p (eSl o)) (.p (pI v)) (.p (pI ((L o).length : Nat))) (.p (pI (i : Nat))) σ = some (.p (pI (idxFrom (fun a => decide (v = a)) ((L o).drop i) i)), σ)
  | 0, i, hk, hi => by
    have : i = (L o).length := by omega
    rw [f119_L0_eq guardT rfl]
    subst this
    simp [b_lss, condK_false, idxFrom]
  | k + 1, i, hk, hi => by
    have h : i < (L o).length := by omega
    have h' : (i : Int) < ((L o).length : Nat) := by omega
    rw [f119_L0_eq guardT rfl]
    simp only [b_lss, obind, h', decide_true, condK_true, idx22 h, load3, load1_ints h, b_eql]
    rw [drop_cons h]
    by_cases hqv : v = (L o)[i]
    · simp [condK_true, idxFrom, hqv]
    · simp only [hqv, decide_false, condK_false, b_add, obind, wrap_succ (show i ≤ 1000000 by omega), idxFrom, Bool.false_eq_true, if_false]
      exact L119 hl k (i + 1) (by omega) (by omega)

theorem S119 {o : Option (List Int)} {v : Int} {σ : Store} (hl : (L o).length ≤ 1000) : pureV CC 119 [.p (eSl o), .p (pI v)] σ = some (.p (pI (idxFrom (fun a => decide (v = a)) (L o) 0))) := by
  refine pureV_free (by simp [sl_view]; rfl) rfl (F119_call (r := (.p (pI (idxFrom (fun a => decide (v = a)) (L o) 0)), [])) ?_) rfl
  rw [F119_eq]
  simp only [len22, obind]
  have := L119 (lo := 0) (σ := []) (v := v) hl _ 0 rfl (Nat.zero_le _)
  simpa using this

def hasI (l : List Int) (v : Int) : Bool := l.any fun a => decide (v = a)

theorem S86 {o : Option (List Int)} {v : Int} {σ : Store} (hl : (L o).length ≤ 1000) : pureV CC 86 [.p (eSl o), .p (pI v)] σ = some (.p (.bool (hasI (L o) v))) := by
  refine pureV_free (by simp [sl_view]; rfl) rfl (F86_call (r := (.p (.bool (hasI (L o) v)), [])) ?_) rfl
  rw [F86_eq]
  simp only [pureFn_fn, List.append_nil, S119 hl, obind, b_geq, idxFrom_ge, hasI]

theorem L88 {o : Option (List Int)} {v : Int} {σ : Store} {lo : Nat} (hl : (L o).length ≤ 1000) :
    ∀ (k i : Nat), (L o).length - i = k → i ≤ (L o).length → f88_L0 guardT lo (.p (eSl o)) (.p (pI v)) (.p (pI (i : Nat))) σ = some (.p (.bool (hasI ((L o).drop i) v)), σ)
  | 0, i, hk, hi => by
    have : i = (L o).length := by omega
    rw [f88_L0_eq guardT rfl]
    subst this
    simp [len22, b_lss, condK_false, hasI]
  | k + 1, i, hk, hi => by
    have h : i < (L o).length := by omega
    have h' : (i : Int) < ((L o).length : Nat) := by omega
    rw [f88_L0_eq guardT rfl]
    simp only [len22, b_lss, obind, h', decide_true, condK_true, idx22 h, load3, load1_ints h, b_eql]
    rw [drop_cons h]
    by_cases hqv : (L o)[i] = v
    · simp [condK_true, hasI, hqv]
    · have hqv' : ¬ v = (L o)[i] := fun e => hqv e.symm
      simp only [hqv, decide_false, condK_false, b_add, obind, wrap_succ (show i ≤ 1000000 by omega), hasI, List.any_cons, hqv', Bool.false_or]
      exact L88 hl k (i + 1) (by omega) (by omega)

theorem S88 {o : Option (List Int)} {v : Int} {σ : Store} (hl : (L o).length ≤ 1000) : pureV CC 88 [.p (eSl o), .p (pI v)] σ = some (.p (.bool (hasI (L o) v))) := by
  refine pureV_free (by simp [sl_view]; rfl) rfl (F88_call (r := (.p (.bool (hasI (L o) v)), [])) ?_) rfl
  rw [F88_eq]
  have := L88 (lo := 0) (σ := []) (v := v) hl _ 0 rfl (Nat.zero_le _)
  simpa using this

def edgD (e : Edg) : List DV := [.p (pI e.f), .p (pI e.t), .p (pI e.a)]
def orL : List Int → Int
  | [] => 0
  | a :: l => if a = 0 then orL l else a
def ordE (a b : Edg) : Int := orL [cmpI a.f b.f, cmpI a.t b.t, cmpI a.a b.a]

theorem pureV_view {call : CallF} {f : FuncId} {args args' : List DV} {σ : Store} (h : args.map view = args') (h2 : args'.map view = args') : pureV call f args σ = pureV call f args' σ := by
  unfold pureV
  rw [h, h2]

theorem L111 {o : Option (List Int)} {σ : Store} {lo : Nat} (hl : (L o).length ≤ 1000) :
    ∀ (k i : Nat), (L o).length - i = k → i ≤ (L o).length → f111_L0 guardT lo (.p (pI 0)) (.p (eSl o)) (.p (pI ((L o).length : Nat))) (.p (pI (i : Nat))) σ = some (.p (pI (orL ((L o).drop i))), σ)
  | 0, i, hk, hi => by
    have : i = (L o).length := by omega
    rw [f111_L0_eq guardT rfl]
    subst this
    simp [b_lss, condK_false, orL]
  | k + 1, i, hk, hi => by
    have h : i < (L o).length := by omega
    have h' : (i : Int) < ((L o).length : Nat) := by omega
    rw [f111_L0_eq guardT rfl]
    simp only [b_lss, obind, h', decide_true, condK_true, idx22 h, load3, load1_ints h, b_neq]
    rw [drop_cons h]
    by_cases hqv : (L o)[i] = 0
    · simp only [hqv, decide_true, Bool.not_true, condK_false, b_add, obind, wrap_succ (show i ≤ 1000000 by omega), orL, if_true]
      exact L111 hl k (i + 1) (by omega) (by omega)
    · simp [condK_true, orL, hqv]

theorem S111 {o : Option (List Int)} {σ : Store} (hl : (L o).length ≤ 1000) : pureV CC 111 [.p (eSl o)] σ = some (.p (pI (orL (L o)))) := by
  refine pureV_free (by simp [sl_view]) rfl (F111_call (r := (.p (pI (orL (L o))), [])) ?_) rfl
  rw [F111_eq]
  simp only [len22, obind]
  have := L111 (lo := 0) (σ := []) hl _ 0 rfl (Nat.zero_le _)
  simpa using this

theorem box_edg (e : Edg) : boxV (.agg (edgD e)) = some (edgD e) := rfl
theorem bs22_3 (x y z : Int) (σ : Store) : buildSlice PP none 22 3 [(0, .p (pI x)), (1, .p (pI y)), (2, .p (pI z))] σ = some (.p (.sl true 3 (eInts [x, y, z])), σ) := Eq.trans (by kernel_rfl) rfl
theorem sl3_view (x y z : Int) : view (.p (.sl true 3 (eInts [x, y, z]))) = .p (eSl (some [x, y, z])) := rfl

theorem get_snoc {σ : Store} {r : Row} : (σ ++ [r])[σ.length]? = some r := by simp
theorem get_old {σ : Store} {r : Row} {i : Nat} {x : Row} (h : σ[i]? = some x) : (σ ++ [r])[i]? = some x := by
  rw [List.getElem?_append_left (List.getElem?_eq_some_iff.1 h).1]; exact h

theorem S83 (a b : Edg) (σ : Store) : pureV CC 83 [.agg (edgD a), .agg (edgD b)] σ = some (.p (pI (ordE a b))) := by
  refine pureV_free rfl rfl (F83_call (r := (.p (pI (ordE a b)), [.mix (edgD a), .mix (edgD b)])) ?_) rfl
  rw [F83_eq]
  have g0 : ([Row.mix (edgD a), Row.mix (edgD b)] : Store)[0]? = some (.mix (edgD a)) := rfl
  have g1 : ([Row.mix (edgD a), Row.mix (edgD b)] : Store)[1]? = some (.mix (edgD b)) := rfl
  simp only [box_edg, obind, List.length_nil, List.nil_append, List.length_cons, List.cons_append, fa106_0, fa106_1, fa106_2, shift_ptr, load3, Nat.zero_add,
    load1_ptr (off := 0) g0 rfl, load1_ptr (off := 1) g0 rfl, load1_ptr (off := 2) g0 rfl, load1_ptr (off := 0) g1 rfl, load1_ptr (off := 1) g1 rfl, load1_ptr (off := 2) g1 rfl, pureFn_fn, List.append_nil, S112, bs22_3]
  rw [pureV_view (args' := [.p (eSl (some [cmpI a.f b.f, cmpI a.t b.t, cmpI a.a b.a]))]) (by simp [sl3_view]) (by simp [sl_view]), S111 (by simp)]
  rfl

theorem S60 (e : Edg) (σ : Store) : pureV CC 60 [.agg (edgD e)] σ = some (.p (eSl (some [e.f, e.t, e.a]))) := by
  refine pureV_free rfl rfl (F60_call (r := (.p (.sl true 3 (eInts [e.f, e.t, e.a])), [.mix (edgD e)])) ?_) rfl
  rw [F60_eq]
  have g0 : ([Row.mix (edgD e)] : Store)[0]? = some (.mix (edgD e)) := rfl
  simp only [box_edg, obind, List.length_nil, List.nil_append, fa106_0, fa106_1, fa106_2, shift_ptr, load3, Nat.zero_add,
    load1_ptr (off := 0) g0 rfl, load1_ptr (off := 1) g0 rfl, load1_ptr (off := 2) g0 rfl, bs22_3]

def firstI : List Int → List Int → Int
  | a :: xs, b :: ys => if a = b then firstI xs ys else if a < b then -1 else 1
  | xs, ys => (if xs.length > ys.length then 1 else 0) - (if xs.length < ys.length then 1 else 0)

theorem firstI_nil (xs ys : List Int) (h : xs = [] ∨ ys = []) : firstI xs ys = (if xs.length > ys.length then 1 else 0) - (if xs.length < ys.length then 1 else 0) := by
  rcases h with rfl | rfl
  · unfold firstI; rfl
  · cases xs <;> rfl

theorem L59 {a b : Option (List Int)} {σ : Store} {lo : Nat} (ha : (L a).length ≤ 1000) (hb : (L b).length ≤ 1000) :
    ∀ (k i : Nat), (L a).length - i = k → i ≤ (L a).length → i ≤ (L b).length → f59_L0 guardT lo (.p (eSl a)) (.p (eSl b)) (.p (pI (i : Nat))) σ = some (.p (pI (firstI ((L a).drop i) ((L b).drop i))), σ) := by
  have fin : ∀ (i : Nat), i ≤ (L a).length → i ≤ (L b).length → ((L a).length ≤ i ∨ (L b).length ≤ i) → (
      (len PP 22 (.p (eSl a)) σ).bind fun x40 =>
      (len PP 22 (.p (eSl b)) σ).bind fun x42 =>
      (binOp PP .gtr 3 x40 x42).bind fun x43 =>
      (pureFn CC (DV.fn 106 []) [x43] σ).bind fun x44 =>
      (len PP 22 (.p (eSl a)) σ).bind fun x46 =>
      (len PP 22 (.p (eSl b)) σ).bind fun x48 =>
      (binOp PP .lss 3 x46 x48).bind fun x49 =>
      (pureFn CC (DV.fn 106 []) [x49] σ).bind fun x50 =>
      (binOp PP .sub 3 x44 x50).bind fun x51 =>
      some (x51, σ)) = some (.p (pI (firstI ((L a).drop i) ((L b).drop i))), σ) := by
    intro i h1 h2 h
    rw [firstI_nil _ _ (h.imp (fun h => List.drop_eq_nil_of_le h) fun h => List.drop_eq_nil_of_le h)]
    simp only [len22, obind, b_gtr, b_lss, pureFn_fn, List.append_nil, S106, b_sub, List.length_drop, decide_eq_true_eq]
    have e1 : ((((L a).length : Nat) : Int) > ((L b).length : Nat)) ↔ (L a).length - i > (L b).length - i := by omega
    have e2 : ((((L a).length : Nat) : Int) < ((L b).length : Nat)) ↔ (L a).length - i < (L b).length - i := by omega
    simp only [e1, e2]
    rw [wrap_ok]
    · split <;> split <;> simp
    · split <;> split <;> simp
  intro k
  induction k with
  | zero =>
    intro i hk hi hj
    have h' : ¬ (i : Int) < ((L a).length : Nat) := by omega
    rw [f59_L0_eq guardT rfl]
    simp only [len22 a, b_lss, obind, h', decide_false, guard_ft, pickV_false, condK_false]
    have := fin i hi hj (.inl (by omega))
    simpa only [len22 a, b_lss, obind] using this
  | succ k ih =>
    intro i hk hi hj
    have h : i < (L a).length := by omega
    have h' : (i : Int) < ((L a).length : Nat) := by omega
    rw [f59_L0_eq guardT rfl]
    simp only [len22 a, b_lss, obind, h', decide_true, guard_tt, len22 b, pickV_true]
    by_cases hb2 : i < (L b).length
    · have hb' : (i : Int) < ((L b).length : Nat) := by omega
      simp only [hb', decide_true, condK_true, idx22 h, idx22 hb2, load3, load1_ints h, load1_ints hb2, obind, b_neq]
      rw [drop_cons h, drop_cons hb2]
      by_cases e : (L a)[i] = (L b)[i]
      · simp only [e, decide_true, Bool.not_true, condK_false, b_add, obind, wrap_succ (show i ≤ 1000000 by omega), firstI, if_true]
        exact ih (i + 1) (by omega) (by omega) (by omega)
      · simp only [e, decide_false, Bool.not_false, condK_true, pureFn_fn, List.append_nil, b_lss, S106, obind, b_mul, b_sub, firstI, if_false, decide_eq_true_eq]
        by_cases e2 : (L a)[i] < (L b)[i]
        · simp [e2, wrap_ok]
        · simp [e2, wrap_ok]
    · have hb' : ¬ (i : Int) < ((L b).length : Nat) := by omega
      simp only [hb', decide_false, condK_false]
      have := fin i hi hj (.inr (by omega))
      simpa only [len22 a, len22 b, b_lss, obind] using this

theorem S59 {a b : Option (List Int)} {σ : Store} (ha : (L a).length ≤ 1000) (hb : (L b).length ≤ 1000) : pureV CC 59 [.p (eSl a), .p (eSl b)] σ = some (.p (pI (firstI (L a) (L b)))) := by
  refine pureV_free (by simp [sl_view]) rfl (F59_call (r := (.p (pI (firstI (L a) (L b))), [])) ?_) rfl
  rw [F59_eq]
  have := L59 (lo := 0) (σ := []) ha hb _ 0 rfl (Nat.zero_le _) (Nat.zero_le _)
  simpa using this

theorem load106_D {l : List Edg} {i : Nat} (h : i < l.length) (σ : Store) : (loadN σ 3 (.pptr (eEdgs l) (i * 3))).map DV.agg = some (.agg (edgD (l.getD i default))) := by
  rw [load106_edgs h, List.getD_eq_getElem?_getD, List.getElem?_eq_getElem h]; rfl

def allFrom (p : Nat → Bool) : Nat → Nat → Bool
  | _, 0 => true
  | i, k + 1 => p i && allFrom p (i + 1) k
theorem store_new106 (σ : Store) (e : Edg) (z : List DV) (hz : z.length = 3) : store PP 0 106 (.ptr σ.length 0) (.agg (edgD e)) (σ ++ [.mix z]) = some (σ ++ [.mix (edgD e)]) := by
  have hone : (edgD e).all DV.one = true := rfl
  have hs : splice z 0 (edgD e) = edgD e := by
    match z, hz with
    | [a, b, c], _ => rfl
  simp [store, s106, DV.cells, storeN, hone, edgD, hz]
  exact ⟨⟨rfl, rfl, rfl⟩, by simpa [edgD] using hs⟩

theorem allFrom_iff {p : Nat → Bool} : ∀ (k i : Nat), allFrom p i k = true ↔ ∀ j, i ≤ j → j < i + k → p j = true
  | 0, i => by simp [allFrom]; omega
  | k + 1, i => by
    simp only [allFrom, Bool.and_eq_true, allFrom_iff k (i + 1)]
    constructor
    · rintro ⟨h1, h2⟩ j hj hk
      rcases Nat.eq_or_lt_of_le hj with e | e
      · rw [← e]; exact h1
      · exact h2 j e (by omega)
    · intro h
      exact ⟨h i (Nat.le_refl _) (by omega), fun j hj hk => h j (by omega) (by omega)⟩

theorem get_set_ne {σ : Store} {i j : Nat} {r x : Row} (h : σ[i]? = some x) (hne : i ≠ j) : (σ.set j r)[i]? = some x := by
  rw [List.getElem?_set_ne (Ne.symm hne)]; exact h
theorem get_lt {σ : Store} {i : Nat} {x : Row} (h : σ[i]? = some x) : i < σ.length := (List.getElem?_eq_some_iff.1 h).1

theorem len160 (o : Option (List Int)) (σ : Store) : len PP 160 (.p (eSl o)) σ = some (.p (.int .i64 ((L o).length : Nat))) := by cases o <;> simp [len, u160, eSl]
theorem idx160 {o : Option (List Int)} {i : Nat} (h : i < (L o).length) : indexAddr PP 160 (.p (eSl o)) (.p (.int .i64 (i : Nat))) = some (.pptr (eInts (L o)) i) := by
  cases o with
  | none => simp at h
  | some l =>
    have h2 : (0 : Int) ≤ (i : Int) ∧ (i : Int) < (l.length : Nat) := by simp at h; omega
    simp [indexAddr, u160, s34, eSl, h2]

theorem L52 {o : Option (List Int)} {σ : Store} {lo : Nat} (hl : (L o).length ≤ 1000) :
    ∀ (k i : Nat), (L o).length - i = k → i ≤ (L o).length → f52_L0 guardT lo (.p (eSl o)) (.p (pI ((L o).length : Nat))) (.p (pI (i : Nat))) σ = some (.p (pI (orL ((L o).drop i))), σ)
  | 0, i, hk, hi => by
    have : i = (L o).length := by omega
    rw [f52_L0_eq guardT rfl]
    subst this
    simp [b_lss, condK_false, orL]
  | k + 1, i, hk, hi => by
    have h : i < (L o).length := by omega
    have h' : (i : Int) < ((L o).length : Nat) := by omega
    rw [f52_L0_eq guardT rfl]
    simp only [b_lss, obind, h', decide_true, condK_true, idx160 h, load34, load1_ints h, b_neq]
    rw [drop_cons h]
    by_cases hqv : (L o)[i] = 0
    · simp only [hqv, decide_true, Bool.not_true, condK_false, b_add, obind, wrap_succ (show i ≤ 1000000 by omega), orL, if_true]
      exact L52 hl k (i + 1) (by omega) (by omega)
    · simp [condK_true, orL, hqv]

theorem S52 {o : Option (List Int)} {σ : Store} (hl : (L o).length ≤ 1000) : pureV CC 52 [.p (eSl o)] σ = some (.p (pI (orL (L o)))) := by
  refine pureV_free (by simp [sl_view]) rfl (F52_call (r := (.p (pI (orL (L o))), [])) ?_) rfl
  rw [F52_eq]
  simp only [len160, obind]
  have := L52 (lo := 0) (σ := []) hl _ 0 rfl (Nat.zero_le _)
  simpa using this

theorem bs160_3 (x y z : Int) (σ : Store) : buildSlice PP none 160 3 [(0, .p (pI x)), (1, .p (pI y)), (2, .p (pI z))] σ = some (.p (.sl true 3 (eInts [x, y, z])), σ) := Eq.trans (by kernel_rfl) rfl

theorem S52t {l : List Int} {n : Nat} {σ : Store} (hn : n = l.length) (hl : l.length ≤ 1000) : pureV CC 52 [.p (.sl true n (eInts l))] σ = some (.p (pI (orL l))) := by
  rw [pureV_view (args' := [.p (eSl (some l))]) (by subst hn; simp [view, viewCell, loosen, loosens_ints, eSl]) (by simp [sl_view])]
  exact S52 (o := some l) hl

theorem bytes3 : bytes? PP 3 = some 8 := Eq.trans (by kernel_rfl) rfl
theorem bytes106 : bytes? PP 106 = some 24 := Eq.trans (by kernel_rfl) rfl
theorem src22 : srcType PP 22 = true := Eq.trans (by kernel_rfl) rfl
theorem src23 : srcType PP 23 = true := Eq.trans (by kernel_rfl) rfl
theorem bs22_0 (σ : Store) : buildSlice PP none 22 0 [] σ = some (.p (.sl true 0 []), σ) := Eq.trans (by kernel_rfl) rfl
theorem bs23_0 (σ : Store) : buildSlice PP none 23 0 [] σ = some (.p (.sl true 0 []), σ) := Eq.trans (by kernel_rfl) rfl
theorem pures_map (cs : List PV) : pures (cs.map DV.p) = some cs := by
  induction cs with
  | nil => rfl
  | cons a l ih => simp [pures, DV.pure?, ih]

/-- What is appended to an empty literal. -/
theorem app22 {o : Option (List Int)} {lo : Nat} (hl : (L o).length ≤ 1000) (σ : Store) : append PP lo false 22 22 (.p (.sl true 0 [])) (.p (eSl o)) σ = some (if (L o).length = 0 then (.p (.sl true 0 []), σ) else (.osl σ.length 0 1 (L o).length (eInts (L o)), σ ++ [.tok 0])) := by
  have hsrc : source σ 1 (.p (eSl o)) = some ((L o).length, (eInts (L o)).map DV.p) := by
    cases o <;> simp [source, eSl, ints_length, eInts]
  have h1 : (L o).length * 8 ≤ 140737488355328 := by omega
  have h2 : (L o).length ≤ 140737488355328 := by omega
  simp only [append, src22, u22, s3, bytes3, zero3, hsrc, appLit]
  simp [h1, h2, pures_map]
  split <;> rfl
theorem app23 {o : Option (List Edg)} {lo : Nat} (hl : (L o).length ≤ 10000) (σ : Store) : append PP lo false 23 23 (.p (.sl true 0 [])) (.p (eEs o)) σ = some (if (L o).length = 0 then (.p (.sl true 0 []), σ) else (.osl σ.length 0 3 (L o).length (eEdgs (L o)), σ ++ [.tok 0])) := by
  have hsrc : source σ 3 (.p (eEs o)) = some ((L o).length, (eEdgs (L o)).map DV.p) := by
    cases o <;> simp [source, eEs, edgs_length, eEdgs]
  have h1 : (L o).length * 24 ≤ 140737488355328 := by omega
  have h2 : (L o).length ≤ 140737488355328 := by omega
  simp only [append, src23, u23, s106, bytes106, zero106, hsrc, appLit]
  simp [h1, h2, pures_map]
  split <;> rfl

theorem S55 {o : Option (List Int)} {σ : Store} (hl : (L o).length ≤ 1000) : pureV CC 55 [.p (eSl o)] σ = some (.p (eSl (some (L o)))) := by
  refine pureV_any (by simp [sl_view]) fun lo σ0 hs => ?_
  by_cases h : (L o).length = 0
  · refine ⟨.p (.sl true 0 []), σ0, F55_call ?_, ?_⟩
    · rw [F55_eq]
      simp only [bs22_0, obind, app22 hl, h, if_true]
    · have : L o = [] := List.length_eq_zero_iff.1 h
      rw [this]; rfl
  · refine ⟨.osl σ0.length 0 1 (L o).length (eInts (L o)), σ0 ++ [.tok 0], F55_call ?_, ?_⟩
    · rw [F55_eq]
      simp only [bs22_0, obind, app22 hl, h, if_false]
    · simp [thawAll, thawPart, thaw, thaw1, thawP, loosens_ints, eSl]

theorem L61 {a b : Option (List Int)} {σ : Store} {lo : Nat} (h0 : L a = L b) (hl : (L a).length ≤ 1000) :
    ∀ (k i : Nat), (L a).length - i = k → i ≤ (L a).length → f61_L0 guardT lo (.p (eSl a)) (.p (eSl b)) (.p (pI (i : Nat))) σ = some (.p (.bool true), σ)
  | 0, i, hk, hi => by
    have : ¬ (i : Int) < ((L a).length : Nat) := by omega
    rw [f61_L0_eq guardT rfl]
    simp only [len22, b_lss, obind, this, decide_false, condK_false]
  | k + 1, i, hk, hi => by
    have h : i < (L a).length := by omega
    have hb : i < (L b).length := by rw [← h0]; exact h
    have h' : (i : Int) < ((L a).length : Nat) := by omega
    rw [f61_L0_eq guardT rfl]
    have e : (L a).getD i 0 = (L b).getD i 0 := by rw [h0]
    simp only [len22, b_lss, obind, h', decide_true, condK_true, idx22 h, idx22 hb, load3, load1_getD h, load1_getD hb, b_neq, e, Bool.not_true, condK_false, b_add, wrap_succ (show i ≤ 1000000 by omega)]
    exact L61 h0 hl k (i + 1) (by omega) (by omega)

theorem S61 {a b : Option (List Int)} {σ : Store} (h0 : L a = L b) (hl : (L a).length ≤ 1000) : pureV CC 61 [.p (eSl a), .p (eSl b)] σ = some (.p (.bool true)) := by
  refine pureV_free (by simp [sl_view]) rfl (F61_call (r := (.p (.bool true), [])) ?_) rfl
  rw [F61_eq]
  have := L61 (lo := 0) (σ := []) h0 hl _ 0 rfl (Nat.zero_le _)
  simp only [len22, obind, b_neq, h0, decide_true, Bool.not_true, condK_false]
  exact this

theorem ex0 (a b : DV) : extractV (.tuple [a, b]) 0 = some a := Eq.trans rfl rfl
theorem ex1 (a b : DV) : extractV (.tuple [a, b]) 1 = some b := Eq.trans rfl rfl
theorem len22_nil (σ : Store) : len PP 22 (.p .nilsl) σ = some (.p (.int .i64 0)) := by simp [len, u22]

theorem orL_zero : ∀ {l : List Int}, orL l = 0 → ∀ a ∈ l, a = 0
  | [], _, a, h => absurd h (by simp)
  | b :: l, h, a, ha => by
    unfold orL at h
    split at h
    · rename_i hb
      rcases List.mem_cons.1 ha with e | e
      · rw [e]; exact hb
      · exact orL_zero h a e
    · rename_i hb; exact absurd h hb

abbrev OI := Option (List Int)
def eLs : Option (List OI) → PV
  | none => .nilsl
  | some l => .sl false l.length (l.map eSl)
theorem u48 : PP.underlying 48 = some (.slice 22) := Eq.trans (by kernel_rfl) rfl
theorem s22 : size? PP 22 = some 1 := Eq.trans (by kernel_rfl) rfl
theorem len48 (o : Option (List OI)) (σ : Store) : len PP 48 (.p (eLs o)) σ = some (.p (.int .i64 ((L o).length : Nat))) := by cases o <;> simp [len, u48, eLs]
theorem idx48 {o : Option (List OI)} {i : Nat} (h : i < (L o).length) : indexAddr PP 48 (.p (eLs o)) (.p (.int .i64 (i : Nat))) = some (.pptr ((L o).map eSl) i) := by
  cases o with
  | none => simp at h
  | some l =>
    have h2 : (0 : Int) ≤ (i : Int) ∧ (i : Int) < (l.length : Nat) := by simp at h; omega
    simp [indexAddr, u48, s22, eLs, h2]
theorem load1_ls {l : List OI} {i : Nat} (h : i < l.length) (σ : Store) : load1 (.pptr (l.map eSl) i) σ = some (.p (eSl (l.getD i none))) :=
  load1_pptr (by simp [h, List.getD_eq_getElem?_getD]) σ
theorem loosens_ls (l : List OI) : loosens (l.map eSl) = l.map eSl := by
  induction l with
  | nil => rfl
  | cons a l ih => simp only [List.map_cons, loosens, loosen_sl, ih]
theorem loosen_ls (o : Option (List OI)) : loosen (eLs o) = eLs o := by
  cases o <;> simp [eLs, loosen, loosens_ls]
theorem ls_view (o : Option (List OI)) : view (.p (eLs o)) = .p (eLs o) := by simp [view, viewCell, loosen_ls]
theorem getD_at {α : Type} {l : List α} {i : Nat} (d : α) (h : i < l.length) : l.getD i d = l[i] := by rw [List.getD_eq_getElem?_getD, List.getElem?_eq_getElem h]; rfl

/-- n elements of sz cells each, as they stand in a list that is appended to. -/
def Out (σ : Store) (lo sz n : Nat) (cs : List PV) (x : DV) : Prop :=
  cs.length = n * sz ∧ ((n = 0 ∧ x = .p .nilsl) ∨ (n ≠ 0 ∧ ∃ r ver, x = .osl r ver sz n cs ∧ σ[r]? = some (.tok ver) ∧ lo ≤ r))
/-- All rows but that of a list stay. -/
def Others (σ σ' : Store) (x : DV) : Prop := ∀ i row, σ[i]? = some row → (∀ r ver sz n cs, x = .osl r ver sz n cs → i ≠ r) → σ'[i]? = some row

theorem Out.zero {σ : Store} {lo sz : Nat} : Out σ lo sz 0 [] (.p .nilsl) := ⟨by simp, .inl ⟨rfl, rfl⟩⟩
theorem Others.mix {σ σ' : Store} {lo sz n : Nat} {cs : List PV} {x : DV} (h : Others σ σ' x) (ho : Out σ lo sz n cs x) {i : Nat} {row : Row} (hi : σ[i]? = some row) (hr : ∀ v, row ≠ .tok v) : σ'[i]? = some row := by
  refine h i row hi ?_
  rintro r ver sz' n' cs' rfl rfl
  rcases ho.2 with ⟨_, h2⟩ | ⟨_, r2, ver2, h2, h3, _⟩
  · cases h2
  · injection h2 with e1
    subst e1
    rw [hi] at h3
    injection h3 with h3
    exact hr _ h3

theorem Out.push {σ : Store} {t e lo sz b n : Nat} {z : List DV} {cs vs : List PV} {x : DV} (hs : srcType PP t = true) (hu : PP.underlying t = some (.slice e)) (h1 : size? PP e = some sz) (h2 : bytes? PP e = some b) (h3 : zeroOf PP e = some z)
    (h4 : z.length = sz) (hz : 0 < sz) (hb : 0 < b) (hb2 : b ≤ 1000) (hv : vs.length = sz) (ho : Out σ lo sz n cs x) (hn : n ≤ 1000000) (hlo : lo ≤ σ.length) :
    ∃ x' σ', append PP lo false t t x (.p (.sl true 1 vs)) σ = some (x', σ') ∧ Out σ' lo sz (n + 1) (cs ++ vs) x' ∧ Others σ σ' x ∧ σ.length ≤ σ'.length := by
  have hsrc : source σ sz (.p (.sl true 1 vs)) = some (1, vs.map DV.p) := by simp [source, hv]
  have hz0 : ¬ (z.length ≠ sz ∨ sz = 0) := by omega
  obtain ⟨hc, ho⟩ := ho
  rcases ho with ⟨rfl, rfl⟩ | ⟨hn0, r, ver, rfl, hr, hl⟩
  · refine ⟨.osl σ.length 0 sz 1 vs, σ ++ [.tok 0], ?_, ⟨by simp [hc, hv], .inr ⟨by simp, σ.length, 0, ?_, get_snoc, hlo⟩⟩, ?_, by simp⟩
    · have : b ≤ 140737488355328 := by omega
      simp only [append, hs, hu, h1, h2, h3, hz0, hsrc, appNil]
      simp [this, hb, pures_map, h4, hz, Nat.ne_of_gt hz]
    · have : cs = [] := List.length_eq_zero_iff.1 (by simpa using hc)
      rw [this]; simp
    · intro i row hi _
      exact get_old hi
  · refine ⟨.osl r (ver + 1) sz (n + 1) (cs ++ vs), σ.set r (.tok (ver + 1)), ?_, ⟨by simp [hc, hv, Nat.add_mul], .inr ⟨by simp, r, ver + 1, rfl, ?_, hl⟩⟩, ?_, by simp⟩
    · have e1 : (n + 1) * b ≤ 140737488355328 := Nat.le_trans (Nat.mul_le_mul (show n + 1 ≤ 1000001 by omega) hb2) (by decide)
      have e2 : n + 1 ≤ 140737488355328 := by omega
      simp only [append, hs, hu, h1, h2, h3, hz0, hsrc, appTok]
      simp [e1, e2, hb, hc, hl, hr, pures_map, h4, Nat.ne_of_gt hz]
    · rw [List.getElem?_set_self (get_lt hr)]
    · intro i row hi hne
      rw [List.getElem?_set_ne (fun e => hne _ _ _ _ _ rfl e.symm)]
      exact hi

theorem Out.tw {σ : Store} {lo sz n : Nat} {cs : List PV} {x : DV} (ho : Out σ lo sz n cs x) (m : Nat) : thaw m σ x = some (.p (if n = 0 then .nilsl else .sl false n (loosens cs))) := by
  rcases ho.2 with ⟨rfl, rfl⟩ | ⟨hn, r, ver, rfl, _, _⟩
  · rfl
  · simp [thaw, thaw1, thawP, hn]
theorem Out.twAll {σ : Store} {lo sz n : Nat} {cs : List PV} {x : DV} (ho : Out σ lo sz n cs x) (m : Nat) : thawAll m σ x = some (.p (if n = 0 then .nilsl else .sl false n (loosens cs))) := by
  rcases ho.2 with ⟨rfl, rfl⟩ | ⟨hn, r, ver, rfl, _, _⟩
  · rfl
  · simp [thawAll, thawPart, thaw, thaw1, thawP, hn]
theorem Out.vw {σ : Store} {lo sz n : Nat} {cs : List PV} {x : DV} (ho : Out σ lo sz n cs x) : view x = .p (if n = 0 then .nilsl else .sl false n (loosens cs)) := by
  rcases ho.2 with ⟨rfl, rfl⟩ | ⟨hn, r, ver, rfl, _, _⟩
  · rfl
  · simp [view, viewCell, hn]

theorem bytes22 : bytes? PP 22 = some 24 := Eq.trans (by kernel_rfl) rfl
theorem zero22 : zeroOf PP 22 = some [.p .nilsl] := Eq.trans (by kernel_rfl) rfl
theorem src48 : srcType PP 48 = true := Eq.trans (by kernel_rfl) rfl
theorem bs48_1 (v : PV) (σ : Store) : buildSlice PP none 48 1 [(0, .p v)] σ = some (.p (.sl true 1 [v]), σ) := Eq.trans (by kernel_rfl) rfl
theorem Out.push48 {σ : Store} {lo n : Nat} {cs : List PV} {v : PV} {x : DV} (ho : Out σ lo 1 n cs x) (hn : n ≤ 1000000) (hlo : lo ≤ σ.length) :
    ∃ x' σ', append PP lo false 48 48 x (.p (.sl true 1 [v])) σ = some (x', σ') ∧ Out σ' lo 1 (n + 1) (cs ++ [v]) x' ∧ Others σ σ' x ∧ σ.length ≤ σ'.length :=
  Out.push src48 u48 s22 bytes22 zero22 rfl (by decide) (by decide) (by decide) rfl ho hn hlo
theorem Out.push22 {σ : Store} {lo n : Nat} {cs : List PV} {v : PV} {x : DV} (ho : Out σ lo 1 n cs x) (hn : n ≤ 1000000) (hlo : lo ≤ σ.length) :
    ∃ x' σ', append PP lo false 22 22 x (.p (.sl true 1 [v])) σ = some (x', σ') ∧ Out σ' lo 1 (n + 1) (cs ++ [v]) x' ∧ Others σ σ' x ∧ σ.length ≤ σ'.length :=
  Out.push src22 u22 s3 bytes3 zero3 rfl (by decide) (by decide) (by decide) rfl ho hn hlo

def ownX (x : OI) : OI := some (L x)
def ownLs (o : Option (List OI)) : Option (List OI) := if L o = [] then none else some ((L o).map ownX)
theorem L56 {o : Option (List OI)} {lo : Nat} (hl : (L o).length ≤ 1000) (hx : ∀ x ∈ L o, (L x).length ≤ 1000) :
    ∀ (k i : Nat) (x : DV) (σ : Store), (L o).length - i = k → i ≤ (L o).length → lo ≤ σ.length → Out σ lo 1 i (((L o).take i).map fun x => eSl (ownX x)) x →
      ∃ x' σ', f56_L0 guardT lo (.p (eLs o)) x (.p (pI (i : Nat))) σ = some (x', σ') ∧ Out σ' lo 1 (L o).length ((L o).map fun x => eSl (ownX x)) x'
  | 0, i, x, σ, hk, hi, hlo, ho => by
    have : i = (L o).length := by omega
    subst this
    rw [List.take_length] at ho
    refine ⟨x, σ, ?_, ho⟩
    rw [f56_L0_eq guardT rfl]
    simp [len48, b_lss, condK_false]
  | k + 1, i, x, σ, hk, hi, hlo, ho => by
    have h : i < (L o).length := by omega
    have h' : (i : Int) < ((L o).length : Nat) := by omega
    obtain ⟨x', σ', h1, h2, h3, h4⟩ := ho.push48 (v := eSl (ownX (L o)[i])) (by omega) hlo
    rw [f56_L0_eq guardT rfl]
    simp only [len48, b_lss, obind, h', decide_true, condK_true, idx48 h, load22, load1_ls h, getD_at none h, pureFn_fn, List.append_nil, S55 (hx _ (List.getElem_mem h)), bs48_1]
    rw [show (eSl (some (L (L o)[i]))) = eSl (ownX (L o)[i]) from rfl, h1]
    simp only [obind, b_add, wrap_succ (show i ≤ 1000000 by omega)]
    refine L56 hl hx k (i + 1) x' σ' (by omega) (by omega) (by omega) ?_
    have e : ((L o).take (i + 1)).map (fun x => eSl (ownX x)) = ((L o).take i).map (fun x => eSl (ownX x)) ++ [eSl (ownX (L o)[i])] := by
      rw [List.take_succ_eq_append_getElem h, List.map_append]; rfl
    rw [e]
    exact h2
theorem S56 {o : Option (List OI)} {σ : Store} (hl : (L o).length ≤ 1000) (hx : ∀ x ∈ L o, (L x).length ≤ 1000) : pureV CC 56 [.p (eLs o)] σ = some (.p (eLs (ownLs o))) := by
  refine pureV_any (by simp [ls_view]) fun lo σ0 hs => ?_
  have hlo : lo ≤ σ0.length := by rcases hs with ⟨rfl, rfl, _⟩ | ⟨_, rfl, _⟩ <;> simp_all
  obtain ⟨x', σ', h1, h2⟩ := L56 (lo := lo) hl hx _ 0 (.p .nilsl) σ0 rfl (Nat.zero_le _) hlo (by simpa using Out.zero)
  refine ⟨x', σ', F56_call ?_, ?_⟩
  · rw [F56_eq]; exact h1
  · rw [h2.twAll]
    unfold ownLs
    by_cases e : L o = []
    · simp [e, eLs]
    · have e2 : ¬ (L o).length = 0 := fun h => e (List.length_eq_zero_iff.1 h)
      have e3 : (L o).map (fun x => eSl (ownX x)) = ((L o).map ownX).map eSl := by simp
      simp only [e, e2, if_false, eLs, e3, loosens_ls, List.length_map]

theorem L_own (o : Option (List OI)) : L (ownLs o) = (L o).map ownX := by
  unfold ownLs
  split
  · rename_i h; rw [h]; rfl
  · rfl
theorem L116' {o : Option (List Int)} {f : FuncId} {caps : List DV} {σ : Store} {lo : Nat} {q : Int → Bool} (hl : (L o).length ≤ 1000) (hq : ∀ v ∈ L o, pureV CC f (.p (pI v) :: caps) σ = some (.p (.bool (q v)))) :
    ∀ (k i : Nat), (L o).length - i = k → i ≤ (L o).length → f116_L0 guardT lo (.p (eSl o)) (.fn f caps) (.p (pI ((L o).length : Nat))) (.p (pI (i : Nat))) σ = some (.p (pI (idxFrom q ((L o).drop i) i)), σ)
  | 0, i, hk, hi => by
    have : i = (L o).length := by omega
    rw [f116_L0_eq guardT rfl]
    subst this
    simp [b_lss, condK_false, idxFrom]
  | k + 1, i, hk, hi => by
    have h : i < (L o).length := by omega
    have h' : (i : Int) < ((L o).length : Nat) := by omega
    rw [f116_L0_eq guardT rfl]
    simp only [b_lss, obind, h', decide_true, condK_true, idx22 h, load3, load1_ints h, pureFn_fn, List.singleton_append, hq _ (List.getElem_mem h)]
    rw [drop_cons h]
    cases hqv : q (L o)[i] with
    | true => simp [condK_true, idxFrom, hqv]
    | false =>
      simp only [condK_false, b_add, obind, wrap_succ (show i ≤ 1000000 by omega), idxFrom, hqv, Bool.false_eq_true, if_false]
      exact L116' hl hq k (i + 1) (by omega) (by omega)
theorem S116' {o : Option (List Int)} {f : FuncId} {caps : List DV} {σ : Store} {q : Int → Bool} (hl : (L o).length ≤ 1000) (hq : ∀ σ0, AtSt caps σ σ0 → ∀ v ∈ L o, pureV CC f (.p (pI v) :: caps) σ0 = some (.p (.bool (q v)))) :
    pureV CC 116 [.p (eSl o), .fn f caps] σ = some (.p (pI (idxFrom q (L o) 0))) := by
  refine pureV_any (by simp [sl_view, fn_view]) fun lo σ0 hs => ⟨_, σ0, F116_call (r := (.p (pI (idxFrom q (L o) 0)), σ0)) ?_, rfl⟩
  have hat : AtSt caps σ σ0 := by
    rcases hs with ⟨h1, _, h3⟩ | ⟨h1, _, _⟩
    · exact .inl ⟨h1, by simpa [rowFree] using (by simpa [rowFree] using h3 : _ ∧ _).2⟩
    · exact .inr h1
  rw [F116_eq]
  simp only [len22, obind]
  have := L116' (lo := lo) hl (hq σ0 hat) _ 0 rfl (Nat.zero_le _)
  simpa using this
theorem S80' {o : Option (List Int)} {f : FuncId} {caps : List DV} {σ : Store} {q : Int → Bool} (hl : (L o).length ≤ 1000) (hq : ∀ σ0, AtSt caps σ σ0 → ∀ v ∈ L o, pureV CC f (.p (pI v) :: caps) σ0 = some (.p (.bool (q v)))) :
    pureV CC 80 [.p (eSl o), .fn f caps] σ = some (.p (.bool ((L o).any q))) := by
  refine pureV_any (by simp [sl_view, fn_view]) fun lo σ0 hs => ⟨_, σ0, F80_call (r := (.p (.bool ((L o).any q)), σ0)) ?_, rfl⟩
  have hat : ∀ σ1, AtSt caps σ0 σ1 → AtSt caps σ σ1 := by
    intro σ1 h
    rcases hs with ⟨h1, _, h3⟩ | ⟨h1, _, _⟩
    · rcases h with h | h
      · exact .inl h
      · exact .inl ⟨h.trans h1, by simpa [rowFree] using (by simpa [rowFree] using h3 : _ ∧ _).2⟩
    · rw [← h1]; exact h
  rw [F80_eq]
  simp only [pureFn_fn, List.append_nil, S116' hl fun σ1 h => hq σ1 (hat σ1 h), obind, b_geq, idxFrom_ge]

theorem len48_nil (σ : Store) : len PP 48 (.p .nilsl) σ = some (.p (.int .i64 0)) := len48 none σ

theorem neq22_nn : binOp PP .neq 22 (.p .nilsl) (.p .nilsl) = some (.p (.bool false)) := Eq.trans (by kernel_rfl) rfl
theorem neq22_sl (ex : Bool) (n : Nat) (cs : List PV) : binOp PP .neq 22 (.p (.sl ex n cs)) (.p .nilsl) = some (.p (.bool true)) := Eq.trans (by kernel_rfl) rfl
theorem neq22_o (o : OI) : binOp PP .neq 22 (.p (eSl o)) (.p .nilsl) = some (.p (.bool o.isSome)) := by
  cases o with
  | none => exact neq22_nn
  | some l => exact neq22_sl _ _ _
theorem bs22_1 (x : Int) (σ : Store) : buildSlice PP none 22 1 [(0, .p (pI x))] σ = some (.p (.sl true 1 [pI x]), σ) := Eq.trans (by kernel_rfl) rfl
end Go.D
end
/- Components: errors, copies, bounds. -/
section
set_option linter.unusedVariables false
set_option linter.unusedSimpArgs false
namespace Go.D

structure Cmp where
  n : Int
  init : OI
  out : OI
  mv : Option (List Edg)
def eCmp (c : Cmp) : List DV := [.p (pI c.n), .p (eSl c.init), .p (eSl c.out), .p (eEs c.mv)]
abbrev pred (n : Int) : Int := IntKind.wrap .i64 (n - 1)
theorem fa25_0 (x : DV) : fieldAddr PP 25 x 0 = shiftPtr x 0 := Eq.trans (by kernel_rfl) rfl
theorem fa25_1 (x : DV) : fieldAddr PP 25 x 1 = shiftPtr x 1 := Eq.trans (by kernel_rfl) rfl
theorem fa25_2 (x : DV) : fieldAddr PP 25 x 2 = shiftPtr x 2 := Eq.trans (by kernel_rfl) rfl
theorem fa25_3 (x : DV) : fieldAddr PP 25 x 3 = shiftPtr x 3 := Eq.trans (by kernel_rfl) rfl
theorem load25 (x : DV) (σ : Store) : load PP 25 x σ = (loadN σ 4 x).map .agg := Eq.trans (by kernel_rfl) rfl
theorem zero25 : zeroOf PP 25 = some [.p (pI 0), .p .nilsl, .p .nilsl, .p .nilsl] := Eq.trans (by kernel_rfl) rfl
theorem s25 : size? PP 25 = some 4 := Eq.trans (by kernel_rfl) rfl
theorem box_cmp (c : Cmp) : boxV (.agg (eCmp c)) = some (eCmp c) := rfl
theorem cmp_view (c : Cmp) : view (.agg (eCmp c)) = .agg (eCmp c) := by simp [view, viewCell, eCmp, loosen_sl, loosen_es, loosen]

section
variable {c : Cmp} {σ : Store} {r : Nat} (h : σ[r]? = some (.mix (eCmp c)))
include h
theorem cm_all : loadN σ 4 (.ptr r 0) = some (eCmp c) := loadN_ptr h rfl (by simp [eCmp])
theorem cm_0 : load1 (.ptr r 0) σ = some (.p (pI c.n)) := load1_ptr h rfl
theorem cm_1 : load1 (.ptr r 1) σ = some (.p (eSl c.init)) := load1_ptr h rfl
theorem cm_2 : load1 (.ptr r 2) σ = some (.p (eSl c.out)) := load1_ptr h rfl
theorem cm_3 : load1 (.ptr r 3) σ = some (.p (eEs c.mv)) := load1_ptr h rfl
end

/-- Bounds of lists. -/
structure CSm (c : Cmp) : Prop where
  i : (L c.init).length ≤ 1000
  o : (L c.out).length ≤ 1000
  m : (L c.mv).length ≤ 10000

def ltr (v : Int) : Bool := inR v 0 2
theorem S82 (v : Int) (σ : Store) : pureV CC 82 [.p (pI v)] σ = some (.p (.bool (ltr v))) := by
  refine pureV_free rfl rfl (F82_call (r := (.p (.bool (ltr v)), [])) ?_) rfl
  rw [F82_eq]
  simp only [pureFn_fn, List.append_nil, S79, obind, ltr]
theorem S58 (v : Int) (σ : Store) : pureV CC 58 [.p (pI v)] σ = some (.p (.bool (ltr v))) := by
  refine pureV_free rfl rfl (F58_call (r := (.p (.bool (ltr v)), [])) ?_) rfl
  rw [F58_eq]
  simp only [pureFn_fn, List.append_nil, S57, obind, ltr]
theorem S81 (v : Int) (σ : Store) : pureV CC 81 [.p (pI v)] σ = some (.p (.bool (!ltr v))) := by
  refine pureV_free rfl rfl (F81_call (r := (.p (.bool (!ltr v)), [])) ?_) rfl
  rw [F81_eq]
  simp only [pureFn_fn, List.append_nil, S82, obind, not_bool]
theorem S78 {c : Cmp} {σ : Store} {r : Nat} {v : Int} (h : σ[r]? = some (.mix (eCmp c))) : pureV CC 78 [.p (pI v), .ptr r 0] σ = some (.p (.bool (inR v 0 (pred c.n)))) := by
  refine pureV_rows rfl rfl (F78_call (r := (.p (.bool (inR v 0 (pred c.n))), σ)) ?_) rfl
  rw [F78_eq]
  simp only [fa25_0, fa25_1, fa25_2, fa25_3, load3, load22, load23, load25, len22, len23, shift_ptr, shift_pptr, Nat.zero_add, Nat.add_zero, pureFn_fn, List.append_nil, List.singleton_append, List.cons_append, List.nil_append, cm_0 (h), cm_1 (h), cm_2 (h), cm_3 (h), obind, b_sub, S79]
theorem S84 {c : Cmp} {σ : Store} {r : Nat} {v : Int} (h : σ[r]? = some (.mix (eCmp c))) : pureV CC 84 [.p (pI v), .ptr r 0] σ = some (.p (.bool (!inR v 0 (pred c.n)))) := by
  refine pureV_rows rfl rfl (F84_call (r := (.p (.bool (!inR v 0 (pred c.n))), σ)) ?_) rfl
  rw [F84_eq]
  simp only [fa25_0, fa25_1, fa25_2, fa25_3, load3, load22, load23, load25, len22, len23, shift_ptr, shift_pptr, Nat.zero_add, Nat.add_zero, pureFn_fn, List.append_nil, List.singleton_append, List.cons_append, List.nil_append, cm_0 (h), cm_1 (h), cm_2 (h), cm_3 (h), obind, b_sub, S79, not_bool]

/-! ### What is wrong with a component -/
def iniB (c : Cmp) (i : Nat) : Bool := inR ((L c.init).getD i 0) 0 (pred c.n) && (decide (i = 0) || decide ((L c.init).getD (i - 1) 0 < (L c.init).getD i 0))
def mvE (c : Cmp) (i : Nat) : Int := if (inR ((L c.mv).getD i default).f 0 (pred c.n) && inR ((L c.mv).getD i default).a 0 (pred c.n) && ltr ((L c.mv).getD i default).t) = true then if (decide (i = 0) || decide (ordE ((L c.mv).getD (i - 1) default) ((L c.mv).getD i default) < 0)) = true then 0 else 13 else 3
def firstE (q : Nat → Int) : Nat → Nat → Int
  | _, 0 => 0
  | i, k + 1 => if q i = 0 then firstE q (i + 1) k else q i
def cmpE5 (c : Cmp) : Int := orL [if inR c.n 0 10 then 0 else 3, if decide ((L c.mv).length ≤ 60) then 0 else 2, if decide (((L c.out).length : Int) = c.n) then 0 else 6, if (L c.out).all ltr then 0 else 3, if allFrom (iniB c) 0 (L c.init).length then 0 else 5]
def cmpE (c : Cmp) : Int := if cmpE5 c = 0 then firstE (mvE c) 0 (L c.mv).length else cmpE5 c

theorem L29_0 {c : Cmp} {σ : Store} {r lo : Nat} {b4 : DV} (h0 : σ[r]? = some (.mix (eCmp c))) (hc : CSm c) :
    ∀ (k i : Nat) (b : Bool), (L c.init).length - i = k → i ≤ (L c.init).length → f29_L0 guardT lo (.ptr r 0) (.fn 78 [.ptr r 0]) b4 (.p (.bool b)) (.p (eSl c.init)) (.p (pI ((L c.init).length : Nat))) (.p (pI (i : Nat))) σ =
      f29_L0 guardT lo (.ptr r 0) (.fn 78 [.ptr r 0]) b4 (.p (.bool (b && allFrom (iniB c) i k))) (.p (eSl c.init)) (.p (pI ((L c.init).length : Nat))) (.p (pI ((L c.init).length : Nat))) σ
  | 0, i, b, hk, hi => by
    have : i = (L c.init).length := by omega
    rw [this, allFrom, Bool.and_true]
  | k + 1, i, b, hk, hi => by
    have hl := hc.i
    have h : i < (L c.init).length := by omega
    have h' : (i : Int) < ((L c.init).length : Nat) := by omega
    have w := wrap_succ (show i ≤ 1000000 by omega)
    rw [f29_L0_eq guardT rfl]
    simp only [b_lss, b_eql, b_neq, b_leq, b_geq, b_gtr, guard_tt, guard_ff, guard_tf, guard_ft, guard_sk, obind, omap, pickV_true, pickV_false, condK_true, condK_false, decide_true, decide_false, Bool.not_true, Bool.not_false, not_bool, h', idx22 h, load3, load1_getD h]
    have ih := fun b => L29_0 (lo := lo) (b4 := b4) h0 hc k (i + 1) b (by omega) (by omega)
    cases b with
    | false =>
      simp only [guard_tt, guard_ff, guard_tf, guard_ft, guard_sk, obind, omap, pickV_true, pickV_false, condK_true, condK_false, decide_true, decide_false, Bool.not_true, Bool.not_false, not_bool, b_add, w, Bool.false_and]
      rw [ih]
      simp
    | true =>
      simp only [guard_tt, guard_ff, guard_tf, guard_ft, guard_sk, obind, omap, pickV_true, pickV_false, condK_true, condK_false, decide_true, decide_false, Bool.not_true, Bool.not_false, not_bool, shift_ptr, shift_pptr, Nat.zero_add, Nat.add_zero, pureFn_fn, List.append_nil, List.singleton_append, List.cons_append, List.nil_append, S78 h0, allFrom, iniB]
      cases hst : inR ((L c.init).getD i 0) 0 (pred c.n) with
      | false =>
        simp only [guard_tt, guard_ff, guard_tf, guard_ft, guard_sk, obind, omap, pickV_true, pickV_false, condK_true, condK_false, decide_true, decide_false, Bool.not_true, Bool.not_false, not_bool, b_add, w, Bool.false_and, Bool.and_false]
        rw [ih]
        simp
      | true =>
        simp only [guard_tt, guard_ff, guard_tf, guard_ft, guard_sk, obind, omap, pickV_true, pickV_false, condK_true, condK_false, decide_true, decide_false, Bool.not_true, Bool.not_false, not_bool, b_eql]
        by_cases hz : i = 0
        · have hd : decide ((i : Int) = 0) = true := by simp [hz]
          simp only [hd, guard_tt, guard_ff, guard_tf, guard_ft, guard_sk, obind, omap, pickV_true, pickV_false, condK_true, condK_false, decide_true, decide_false, Bool.not_true, Bool.not_false, not_bool, b_add, w]
          rw [ih]
          simp [hz]
        · have hz' : ¬ (i : Int) = 0 := by omega
          simp only [hz', guard_tt, guard_ff, guard_tf, guard_ft, guard_sk, obind, omap, pickV_true, pickV_false, condK_true, condK_false, decide_true, decide_false, Bool.not_true, Bool.not_false, not_bool, fa25_0, fa25_1, fa25_2, fa25_3, load3, load22, load23, load25, len22, len23, shift_ptr, shift_pptr, Nat.zero_add, Nat.add_zero, pureFn_fn, List.append_nil, List.singleton_append, List.cons_append, List.nil_append, cm_0 (h0), cm_1 (h0), cm_2 (h0), cm_3 (h0), b_sub, wrap_pred (show 0 < i by omega) (show i ≤ 1000000 by omega), idx22 (show i - 1 < (L c.init).length by omega), load1_getD (show i - 1 < (L c.init).length by omega), b_lss, b_add, w]
          rw [ih]
          simp [hz]

theorem bs160_2 (x y : Int) (σ : Store) : buildSlice PP none 160 2 [(0, .p (pI x)), (1, .p (pI y))] σ = some (.p (.sl true 2 (eInts [x, y])), σ) := Eq.trans (by kernel_rfl) rfl
theorem bs160_5 (x y z u v : Int) (σ : Store) : buildSlice PP none 160 5 [(0, .p (pI x)), (1, .p (pI y)), (2, .p (pI z)), (3, .p (pI u)), (4, .p (pI v))] σ = some (.p (.sl true 5 (eInts [x, y, z, u, v])), σ) := Eq.trans (by kernel_rfl) rfl
theorem either2 (x y : Int) (σ : Store) : pureV CC 52 [.p (.sl true 2 (eInts [x, y]))] σ = some (.p (pI (orL [x, y]))) := S52t (l := [x, y]) rfl (by simp)
theorem either5 (x y z u v : Int) (σ : Store) : pureV CC 52 [.p (.sl true 5 (eInts [x, y, z, u, v]))] σ = some (.p (pI (orL [x, y, z, u, v]))) := S52t (l := [x, y, z, u, v]) rfl (by simp)

theorem L29_1 {c : Cmp} {r : Nat} (hc : CSm c) :
    ∀ (k i : Nat) (σ : Store), σ[r]? = some (.mix (eCmp c)) → (L c.mv).length - i = k → i ≤ (L c.mv).length → ∃ σ', f29_L1 guardT 0 (.ptr r 0) (.fn 78 [.ptr r 0]) (.p (eEs c.mv)) (.p (pI ((L c.mv).length : Nat))) (.p (pI (i : Nat))) σ = some (.p (pI (firstE (mvE c) i k)), σ')
  | 0, i, σ, h0, hk, hi => by
    have : ¬ (i : Int) < ((L c.mv).length : Nat) := by omega
    refine ⟨σ, ?_⟩
    rw [f29_L1_eq guardT rfl]
    simp only [b_lss, b_eql, b_neq, b_leq, b_geq, b_gtr, this, guard_tt, guard_ff, guard_tf, guard_ft, guard_sk, obind, omap, pickV_true, pickV_false, condK_true, condK_false, decide_true, decide_false, Bool.not_true, Bool.not_false, not_bool, firstE]
  | k + 1, i, σ, h0, hk, hi => by
    have hl := hc.m
    have h : i < (L c.mv).length := by omega
    have h' : (i : Int) < ((L c.mv).length : Nat) := by omega
    have w := wrap_succ (show i ≤ 1000000 by omega)
    have hg1 : (σ ++ [Row.mix (edgD ((L c.mv).getD i default))])[r]? = some (.mix (eCmp c)) := get_old h0
    have hx : (σ ++ [Row.mix (edgD ((L c.mv).getD i default))])[σ.length]? = some (.mix (edgD ((L c.mv).getD i default))) := get_snoc
    obtain ⟨σ', ih⟩ := L29_1 hc k (i + 1) _ hg1 (by omega) (by omega)
    have hfe : firstE (mvE c) i (k + 1) = if mvE c i = 0 then firstE (mvE c) (i + 1) k else mvE c i := rfl
    rw [hfe, f29_L1_eq guardT rfl, mvE]
    simp only [b_lss, b_eql, b_neq, b_leq, b_geq, b_gtr, h', guard_tt, guard_ff, guard_tf, guard_ft, guard_sk, obind, omap, pickV_true, pickV_false, condK_true, condK_false, decide_true, decide_false, Bool.not_true, Bool.not_false, not_bool, idx23 h, load106, load106_D h, zero106, store_new106 σ ((L c.mv).getD i default) [.p (pI 0), .p (pI 0), .p (pI 0)] rfl]
    generalize hρ : σ ++ [Row.mix (edgD ((L c.mv).getD i default))] = ρ at *
    by_cases hz : i = 0
    · have hd : decide ((i : Int) = 0) = true := by simp [hz]
      have hd2 : decide (i = 0) = true := by simp [hz]
      cases h1 : inR ((L c.mv).getD i default).f 0 (pred c.n) <;> cases h3 : inR ((L c.mv).getD i default).a 0 (pred c.n) <;> cases h4 : ltr ((L c.mv).getD i default).t <;>
        simp only [fa106_0, fa106_1, fa106_2, load106, load3, shift_ptr, shift_pptr, Nat.zero_add, Nat.add_zero, pureFn_fn, List.append_nil, List.singleton_append, List.cons_append, List.nil_append, guard_tt, guard_ff, guard_tf, guard_ft, guard_sk, obind, omap, pickV_true, pickV_false, condK_true, condK_false, decide_true, decide_false, Bool.not_true, Bool.not_false, not_bool, load1_ptr (off := 0) (hx) rfl, load1_ptr (off := 1) (hx) rfl, load1_ptr (off := 2) (hx) rfl, S78 hg1, S82, S54, h1, h3, h4, hd, hd2, b_lss, b_eql, b_neq, b_leq, b_geq, b_gtr, bs160_2, either2, orL, Bool.true_and, Bool.and_true, Bool.and_false, Bool.false_and, Bool.true_or, Bool.false_eq_true, if_true, if_false, Int.reduceEq, reduceIte, b_add, w, ih] <;> exact ⟨_, rfl⟩
    · have hd : decide ((i : Int) = 0) = false := by simp; omega
      have hd2 : decide (i = 0) = false := by simp [hz]
      have hi1 : i - 1 < (L c.mv).length := by omega
      cases h1 : inR ((L c.mv).getD i default).f 0 (pred c.n) <;> cases h3 : inR ((L c.mv).getD i default).a 0 (pred c.n) <;> cases h4 : ltr ((L c.mv).getD i default).t <;> cases h5 : decide (ordE ((L c.mv).getD (i - 1) default) ((L c.mv).getD i default) < 0) <;>
        simp only [fa106_0, fa106_1, fa106_2, load106, load3, shift_ptr, shift_pptr, Nat.zero_add, Nat.add_zero, pureFn_fn, List.append_nil, List.singleton_append, List.cons_append, List.nil_append, guard_tt, guard_ff, guard_tf, guard_ft, guard_sk, obind, omap, pickV_true, pickV_false, condK_true, condK_false, decide_true, decide_false, Bool.not_true, Bool.not_false, not_bool, load1_ptr (off := 0) (hx) rfl, load1_ptr (off := 1) (hx) rfl, load1_ptr (off := 2) (hx) rfl, S78 hg1, S82, S54, h1, h3, h4, h5, hd, hd2, b_lss, b_eql, b_neq, b_leq, b_geq, b_gtr, fa25_0, fa25_1, fa25_2, fa25_3, load3, load22, load23, load25, len22, len23, cm_0 (hg1), cm_1 (hg1), cm_2 (hg1), cm_3 (hg1), b_sub, wrap_pred (show 0 < i by omega) (show i ≤ 1000000 by omega), idx23 hi1, load106_D hi1, loadN_ptr (off := 0) (n := 3) (vs := edgD ((L c.mv).getD i default)) hx rfl (by simp [edgD]), S83, bs160_2, either2, orL, Bool.true_and, Bool.and_true, Bool.and_false, Bool.false_and, Bool.true_or, Bool.false_or, Bool.false_eq_true, if_true, if_false, Int.reduceEq, reduceIte, b_add, w, ih] <;> exact ⟨_, rfl⟩

theorem any_all_not (q : Int → Bool) : ∀ l : List Int, (!l.any fun v => !q v) = l.all q
  | [] => rfl
  | a :: l => by simp only [List.any_cons, List.all_cons, Bool.not_or, Bool.not_not, any_all_not q l]

theorem S29 {c : Cmp} {σ : Store} (hc : CSm c) : pureV CC 29 [.agg (eCmp c)] σ = some (.p (pI (cmpE c))) := by
  refine pureV_any (by simp [cmp_view]) fun lo σ0 hs => ?_
  rcases hs with ⟨rfl, rfl, _⟩ | ⟨_, _, h⟩
  case inr => exact absurd h (by simp [rowFree, rowFree1, eCmp])
  have g0 : ([Row.mix (eCmp c)] : Store)[0]? = some (.mix (eCmp c)) := rfl
  have hb : ∀ σ, pureV CC 80 [.p (eSl c.out), .fn 81 []] σ = some (.p (.bool ((L c.out).any fun v => !ltr v))) := fun σ => S80 hc.o fun σ0 _ v => S81 v σ0
  have hn : ¬ (((L c.init).length : Nat) : Int) < ((L c.init).length : Nat) := by omega
  have e60 : decide (((L c.mv).length : Int) ≤ 60) = decide ((L c.mv).length ≤ 60) := by rw [decide_eq_decide]; omega
  obtain ⟨σ', hL⟩ := L29_1 hc (r := 0) _ 0 [Row.mix (eCmp c)] g0 (Nat.sub_zero _) (Nat.zero_le _)
  have hF : ∃ σ', F29 guardT 0 (.agg (eCmp c)) [] = some (.p (pI (cmpE c)), σ') := by
    rw [F29_eq]
    simp only [box_cmp, guard_tt, guard_ff, guard_tf, guard_ft, guard_sk, obind, omap, pickV_true, pickV_false, condK_true, condK_false, decide_true, decide_false, Bool.not_true, Bool.not_false, not_bool, List.length_nil, fa25_0, fa25_1, fa25_2, fa25_3, load3, load22, load23, load25, len22, len23, shift_ptr, shift_pptr, Nat.zero_add, Nat.add_zero, pureFn_fn, List.append_nil, List.singleton_append, List.cons_append, List.nil_append, cm_0 (g0), cm_1 (g0), cm_2 (g0), cm_3 (g0), hb]
    rw [show (DV.p (PV.int IntKind.i64 0)) = (.p (pI ((0 : Nat) : Int))) from rfl, L29_0 g0 hc _ 0 true (Nat.sub_zero _) (Nat.zero_le _), f29_L0_eq guardT rfl]
    simp only [b_lss, b_eql, b_neq, b_leq, b_geq, b_gtr, hn, guard_tt, guard_ff, guard_tf, guard_ft, guard_sk, obind, omap, pickV_true, pickV_false, condK_true, condK_false, decide_true, decide_false, Bool.not_true, Bool.not_false, not_bool, fa25_0, fa25_1, fa25_2, fa25_3, load3, load22, load23, load25, len22, len23, shift_ptr, shift_pptr, Nat.zero_add, Nat.add_zero, pureFn_fn, List.append_nil, List.singleton_append, List.cons_append, List.nil_append, cm_0 (g0), cm_1 (g0), cm_2 (g0), cm_3 (g0), S79, S54, any_all_not, Bool.true_and, bs160_5, either5, e60]
    rw [show orL _ = cmpE5 c from rfl]
    by_cases hz : cmpE5 c = 0
    · have hce : cmpE c = firstE (mvE c) 0 (L c.mv).length := by unfold cmpE; rw [if_pos hz]
      refine ⟨σ', ?_⟩
      rw [hce]
      simp only [hz, guard_tt, guard_ff, guard_tf, guard_ft, guard_sk, obind, omap, pickV_true, pickV_false, condK_true, condK_false, decide_true, decide_false, Bool.not_true, Bool.not_false, not_bool]
      exact hL
    · have hce : cmpE c = cmpE5 c := by unfold cmpE; rw [if_neg hz]
      rw [hce]
      exact ⟨_, by simp only [hz, guard_tt, guard_ff, guard_tf, guard_ft, guard_sk, obind, omap, pickV_true, pickV_false, condK_true, condK_false, decide_true, decide_false, Bool.not_true, Bool.not_false, not_bool]; rfl⟩
  obtain ⟨σ', h⟩ := hF
  exact ⟨_, σ', F29_call h, rfl⟩

/-! ### The reference's -/
theorem ordE_first (a b : Edg) : decide (firstI [a.f, a.t, a.a] [b.f, b.t, b.a] ≥ 0) = !decide (ordE a b < 0) := by
  simp only [firstI, ordE, orL, cmpI, List.length_nil]
  by_cases h1 : a.f < b.f
  · have : ¬ a.f = b.f := by omega
    simp [h1, this]
  · by_cases h2 : a.f > b.f
    · have : ¬ a.f = b.f := by omega
      simp [h1, h2, this]
    · have e1 : a.f = b.f := by omega
      by_cases h3 : a.t < b.t
      · have : ¬ a.t = b.t := by omega
        simp [h3, this, e1]
      · by_cases h4 : a.t > b.t
        · have : ¬ a.t = b.t := by omega
          simp [h3, h4, this, e1]
        · have e2 : a.t = b.t := by omega
          by_cases h5 : a.a < b.a
          · have : ¬ a.a = b.a := by omega
            simp [h5, this, e1, e2]
          · by_cases h6 : a.a > b.a
            · have : ¬ a.a = b.a := by omega
              simp [h5, h6, this, e1, e2]
            · have e3 : a.a = b.a := by omega
              simp [e1, e2, e3]
theorem L16_2 {c : Cmp} {r : Nat} (hc : CSm c) :
    ∀ (k i : Nat) (σ : Store), σ[r]? = some (.mix (eCmp c)) → (L c.mv).length - i = k → i ≤ (L c.mv).length → ∃ σ', f16_L2 guardT 0 (.ptr r 0) (.p (pI (i : Nat))) σ = some (.p (pI (firstE (mvE c) i k)), σ')
  | 0, i, σ, h0, hk, hi => by
    have : ¬ (i : Int) < ((L c.mv).length : Nat) := by omega
    refine ⟨σ, ?_⟩
    rw [f16_L2_eq guardT rfl]
    simp only [fa25_0, fa25_1, fa25_2, fa25_3, load3, load22, load23, load25, len22, len23, shift_ptr, shift_pptr, Nat.zero_add, Nat.add_zero, pureFn_fn, List.append_nil, List.singleton_append, List.cons_append, List.nil_append, cm_0 (h0), cm_1 (h0), cm_2 (h0), cm_3 (h0), b_lss, b_eql, b_neq, b_leq, b_geq, b_gtr, this, guard_tt, guard_ff, guard_tf, guard_ft, guard_sk, obind, omap, pickV_true, pickV_false, condK_true, condK_false, decide_true, decide_false, Bool.not_true, Bool.not_false, not_bool, firstE]
  | k + 1, i, σ, h0, hk, hi => by
    have hl := hc.m
    have h : i < (L c.mv).length := by omega
    have h' : (i : Int) < ((L c.mv).length : Nat) := by omega
    have w := wrap_succ (show i ≤ 1000000 by omega)
    have hg1 : (σ ++ [Row.mix (edgD ((L c.mv).getD i default))])[r]? = some (.mix (eCmp c)) := get_old h0
    have hx : (σ ++ [Row.mix (edgD ((L c.mv).getD i default))])[σ.length]? = some (.mix (edgD ((L c.mv).getD i default))) := get_snoc
    obtain ⟨σ', ih⟩ := L16_2 hc k (i + 1) _ hg1 (by omega) (by omega)
    have hfe : firstE (mvE c) i (k + 1) = if mvE c i = 0 then firstE (mvE c) (i + 1) k else mvE c i := rfl
    rw [hfe, f16_L2_eq guardT rfl, mvE]
    simp only [fa25_0, fa25_1, fa25_2, fa25_3, load3, load22, load23, load25, len22, len23, shift_ptr, shift_pptr, Nat.zero_add, Nat.add_zero, pureFn_fn, List.append_nil, List.singleton_append, List.cons_append, List.nil_append, cm_0 (h0), cm_1 (h0), cm_2 (h0), cm_3 (h0), b_lss, b_eql, b_neq, b_leq, b_geq, b_gtr, h', guard_tt, guard_ff, guard_tf, guard_ft, guard_sk, obind, omap, pickV_true, pickV_false, condK_true, condK_false, decide_true, decide_false, Bool.not_true, Bool.not_false, not_bool, idx23 h, load106, load106_D h, zero106, store_new106 σ ((L c.mv).getD i default) [.p (pI 0), .p (pI 0), .p (pI 0)] rfl]
    generalize hρ : σ ++ [Row.mix (edgD ((L c.mv).getD i default))] = ρ at *
    by_cases hz : i = 0
    · have hd : decide ((i : Int) > 0) = false := by simp [hz]
      have hd2 : decide (i = 0) = true := by simp [hz]
      cases h1 : inR ((L c.mv).getD i default).f 0 (pred c.n) <;> cases h3 : inR ((L c.mv).getD i default).a 0 (pred c.n) <;> cases h4 : ltr ((L c.mv).getD i default).t <;>
        simp only [fa106_0, fa106_1, fa106_2, load106, load3, shift_ptr, shift_pptr, Nat.zero_add, Nat.add_zero, pureFn_fn, List.append_nil, List.singleton_append, List.cons_append, List.nil_append, guard_tt, guard_ff, guard_tf, guard_ft, guard_sk, obind, omap, pickV_true, pickV_false, condK_true, condK_false, decide_true, decide_false, Bool.not_true, Bool.not_false, not_bool, fa25_0, fa25_1, fa25_2, fa25_3, load3, load22, load23, load25, len22, len23, cm_0 (hg1), cm_1 (hg1), cm_2 (hg1), cm_3 (hg1), b_sub, load1_ptr (off := 0) (hx) rfl, load1_ptr (off := 1) (hx) rfl, load1_ptr (off := 2) (hx) rfl, S57, S58, h1, h3, h4, hd, hd2, b_lss, b_eql, b_neq, b_leq, b_geq, b_gtr, Bool.true_and, Bool.and_true, Bool.and_false, Bool.false_and, Bool.true_or, Bool.false_eq_true, if_true, if_false, Int.reduceEq, reduceIte, b_add, w, ih] <;> exact ⟨_, rfl⟩
    · have hd : decide ((i : Int) > 0) = true := by simp; omega
      have hd2 : decide (i = 0) = false := by simp [hz]
      have hi1 : i - 1 < (L c.mv).length := by omega
      have hor : decide (firstI [((L c.mv).getD (i - 1) default).f, ((L c.mv).getD (i - 1) default).t, ((L c.mv).getD (i - 1) default).a] [((L c.mv).getD i default).f, ((L c.mv).getD i default).t, ((L c.mv).getD i default).a] ≥ 0) = _ := ordE_first _ _
      cases h1 : inR ((L c.mv).getD i default).f 0 (pred c.n) <;> cases h3 : inR ((L c.mv).getD i default).a 0 (pred c.n) <;> cases h4 : ltr ((L c.mv).getD i default).t <;> cases h5 : decide (ordE ((L c.mv).getD (i - 1) default) ((L c.mv).getD i default) < 0) <;>
        simp only [fa106_0, fa106_1, fa106_2, load106, load3, shift_ptr, shift_pptr, Nat.zero_add, Nat.add_zero, pureFn_fn, List.append_nil, List.singleton_append, List.cons_append, List.nil_append, guard_tt, guard_ff, guard_tf, guard_ft, guard_sk, obind, omap, pickV_true, pickV_false, condK_true, condK_false, decide_true, decide_false, Bool.not_true, Bool.not_false, not_bool, load1_ptr (off := 0) (hx) rfl, load1_ptr (off := 1) (hx) rfl, load1_ptr (off := 2) (hx) rfl, S57, S58, S59 (a := some [_, _, _]) (b := some [_, _, _]) (by simp) (by simp), S60, hor, h1, h3, h4, h5, hd, hd2, b_lss, b_eql, b_neq, b_leq, b_geq, b_gtr, fa25_0, fa25_1, fa25_2, fa25_3, load3, load22, load23, load25, len22, len23, cm_0 (hg1), cm_1 (hg1), cm_2 (hg1), cm_3 (hg1), b_sub, wrap_pred (show 0 < i by omega) (show i ≤ 1000000 by omega), idx23 hi1, load106_D hi1, loadN_ptr (off := 0) (n := 3) (vs := edgD ((L c.mv).getD i default)) hx rfl (by simp [edgD]), Option.getD_some, Bool.true_and, Bool.and_true, Bool.and_false, Bool.false_and, Bool.true_or, Bool.false_or, Bool.false_eq_true, if_true, if_false, Int.reduceEq, reduceIte, b_add, w, ih] <;> exact ⟨_, rfl⟩
theorem L16_1 {c : Cmp} {r : Nat} {σ : Store} (hc : CSm c) (h0 : σ[r]? = some (.mix (eCmp c))) :
    ∀ (k i : Nat), (L c.init).length - i = k → i ≤ (L c.init).length → f16_L1 guardT 0 (.ptr r 0) (.p (pI (i : Nat))) σ = if allFrom (iniB c) i k = true then f16_L2 guardT 0 (.ptr r 0) (.p (pI (0 : Nat))) σ else some (.p (pI 5), σ)
  | 0, i, hk, hi => by
    have : ¬ (i : Int) < ((L c.init).length : Nat) := by omega
    rw [f16_L1_eq guardT rfl]
    simp only [fa25_0, fa25_1, fa25_2, fa25_3, load3, load22, load23, load25, len22, len23, shift_ptr, shift_pptr, Nat.zero_add, Nat.add_zero, pureFn_fn, List.append_nil, List.singleton_append, List.cons_append, List.nil_append, cm_0 (h0), cm_1 (h0), cm_2 (h0), cm_3 (h0), b_lss, b_eql, b_neq, b_leq, b_geq, b_gtr, this, guard_tt, guard_ff, guard_tf, guard_ft, guard_sk, obind, omap, pickV_true, pickV_false, condK_true, condK_false, decide_true, decide_false, Bool.not_true, Bool.not_false, not_bool, allFrom, if_true]
    rfl
  | k + 1, i, hk, hi => by
    have hl := hc.i
    have h : i < (L c.init).length := by omega
    have h' : (i : Int) < ((L c.init).length : Nat) := by omega
    have w := wrap_succ (show i ≤ 1000000 by omega)
    have ih := L16_1 hc h0 k (i + 1) (by omega) (by omega)
    rw [f16_L1_eq guardT rfl, allFrom, iniB]
    by_cases hz : i = 0
    · have hd : decide ((i : Int) > 0) = false := by simp [hz]
      have hd2 : decide (i = 0) = true := by simp [hz]
      cases h1 : inR ((L c.init).getD i 0) 0 (pred c.n) <;>
        simp only [fa25_0, fa25_1, fa25_2, fa25_3, load3, load22, load23, load25, len22, len23, shift_ptr, shift_pptr, Nat.zero_add, Nat.add_zero, pureFn_fn, List.append_nil, List.singleton_append, List.cons_append, List.nil_append, cm_0 (h0), cm_1 (h0), cm_2 (h0), cm_3 (h0), b_lss, b_eql, b_neq, b_leq, b_geq, b_gtr, h', guard_tt, guard_ff, guard_tf, guard_ft, guard_sk, obind, omap, pickV_true, pickV_false, condK_true, condK_false, decide_true, decide_false, Bool.not_true, Bool.not_false, not_bool, idx22 h, load1_getD h, b_sub, S57, h1, hd, hd2, Bool.true_and, Bool.false_and, Bool.true_or, Bool.false_eq_true, if_false, b_add, w, ih]
    · have hd : decide ((i : Int) > 0) = true := by simp; omega
      have hd2 : decide (i = 0) = false := by simp [hz]
      have hi1 : i - 1 < (L c.init).length := by omega
      have hle : decide ((L c.init).getD i 0 ≤ (L c.init).getD (i - 1) 0) = !decide ((L c.init).getD (i - 1) 0 < (L c.init).getD i 0) := by
        rw [← decide_not, decide_eq_decide]; omega
      cases h1 : inR ((L c.init).getD i 0) 0 (pred c.n) <;> cases h2 : decide ((L c.init).getD (i - 1) 0 < (L c.init).getD i 0) <;>
        simp only [fa25_0, fa25_1, fa25_2, fa25_3, load3, load22, load23, load25, len22, len23, shift_ptr, shift_pptr, Nat.zero_add, Nat.add_zero, pureFn_fn, List.append_nil, List.singleton_append, List.cons_append, List.nil_append, cm_0 (h0), cm_1 (h0), cm_2 (h0), cm_3 (h0), b_lss, b_eql, b_neq, b_leq, b_geq, b_gtr, h', guard_tt, guard_ff, guard_tf, guard_ft, guard_sk, obind, omap, pickV_true, pickV_false, condK_true, condK_false, decide_true, decide_false, Bool.not_true, Bool.not_false, not_bool, idx22 h, load1_getD h, b_sub, wrap_pred (show 0 < i by omega) (show i ≤ 1000000 by omega), idx22 hi1, load1_getD hi1, hle, S57, h1, h2, hd, hd2, Bool.true_and, Bool.false_and, Bool.true_or, Bool.false_or, Bool.false_eq_true, if_false, b_add, w, ih]
theorem L16_0 {c : Cmp} {r : Nat} {σ : Store} (hc : CSm c) (h0 : σ[r]? = some (.mix (eCmp c))) :
    ∀ (k i : Nat), (L c.out).length - i = k → i ≤ (L c.out).length → f16_L0 guardT 0 (.ptr r 0) (.p (pI (i : Nat))) σ = if ((L c.out).drop i).all ltr = true then f16_L1 guardT 0 (.ptr r 0) (.p (pI (0 : Nat))) σ else some (.p (pI 3), σ)
  | 0, i, hk, hi => by
    have : ¬ (i : Int) < ((L c.out).length : Nat) := by omega
    rw [f16_L0_eq guardT rfl, List.drop_eq_nil_of_le (by omega)]
    simp only [fa25_0, fa25_1, fa25_2, fa25_3, load3, load22, load23, load25, len22, len23, shift_ptr, shift_pptr, Nat.zero_add, Nat.add_zero, pureFn_fn, List.append_nil, List.singleton_append, List.cons_append, List.nil_append, cm_0 (h0), cm_1 (h0), cm_2 (h0), cm_3 (h0), b_lss, b_eql, b_neq, b_leq, b_geq, b_gtr, this, guard_tt, guard_ff, guard_tf, guard_ft, guard_sk, obind, omap, pickV_true, pickV_false, condK_true, condK_false, decide_true, decide_false, Bool.not_true, Bool.not_false, not_bool, List.all_nil, if_true]
    rfl
  | k + 1, i, hk, hi => by
    have hl := hc.o
    have h : i < (L c.out).length := by omega
    have h' : (i : Int) < ((L c.out).length : Nat) := by omega
    have w := wrap_succ (show i ≤ 1000000 by omega)
    have ih := L16_0 hc h0 k (i + 1) (by omega) (by omega)
    rw [f16_L0_eq guardT rfl, drop_cons h, List.all_cons]
    cases h1 : ltr (L c.out)[i] <;>
      simp only [fa25_0, fa25_1, fa25_2, fa25_3, load3, load22, load23, load25, len22, len23, shift_ptr, shift_pptr, Nat.zero_add, Nat.add_zero, pureFn_fn, List.append_nil, List.singleton_append, List.cons_append, List.nil_append, cm_0 (h0), cm_1 (h0), cm_2 (h0), cm_3 (h0), b_lss, b_eql, b_neq, b_leq, b_geq, b_gtr, h', guard_tt, guard_ff, guard_tf, guard_ft, guard_sk, obind, omap, pickV_true, pickV_false, condK_true, condK_false, decide_true, decide_false, Bool.not_true, Bool.not_false, not_bool, idx22 h, load1_ints h, S58, h1, Bool.true_and, Bool.false_and, Bool.false_eq_true, if_false, b_add, w, ih]
theorem S16 {c : Cmp} {σ : Store} (hc : CSm c) : pureV CC 16 [.agg (eCmp c)] σ = some (.p (pI (cmpE c))) := by
  refine pureV_any (by simp [cmp_view]) fun lo σ0 hs => ?_
  rcases hs with ⟨rfl, rfl, _⟩ | ⟨_, _, h⟩
  case inr => exact absurd h (by simp [rowFree, rowFree1, eCmp])
  have g0 : ([Row.mix (eCmp c)] : Store)[0]? = some (.mix (eCmp c)) := rfl
  obtain ⟨σ', hL⟩ := L16_2 hc (r := 0) _ 0 [Row.mix (eCmp c)] g0 (Nat.sub_zero _) (Nat.zero_le _)
  have hL1 := L16_1 hc (r := 0) g0 _ 0 (Nat.sub_zero _) (Nat.zero_le _)
  have hL0 := L16_0 hc (r := 0) g0 _ 0 (Nat.sub_zero _) (Nat.zero_le _)
  rw [hL1, hL, List.drop_zero] at hL0
  have e60 : decide (((L c.mv).length : Int) > 60) = !decide ((L c.mv).length ≤ 60) := by rw [← decide_not, decide_eq_decide]; omega
  have hF : ∃ σ', F16 guardT 0 (.agg (eCmp c)) [] = some (.p (pI (cmpE c)), σ') := by
    rw [F16_eq, cmpE, cmpE5]
    cases h1 : inR c.n 0 10 <;> cases h2 : decide ((L c.mv).length ≤ 60) <;> cases h3 : decide (((L c.out).length : Int) = c.n) <;> cases h4 : (L c.out).all ltr <;> cases h5 : allFrom (iniB c) 0 (L c.init).length <;>
      simp only [h4, h5, if_true, Bool.false_eq_true, if_false] at hL0 <;>
      simp only [box_cmp, guard_tt, guard_ff, guard_tf, guard_ft, guard_sk, obind, omap, pickV_true, pickV_false, condK_true, condK_false, decide_true, decide_false, Bool.not_true, Bool.not_false, not_bool, List.length_nil, fa25_0, fa25_1, fa25_2, fa25_3, load3, load22, load23, load25, len22, len23, shift_ptr, shift_pptr, Nat.zero_add, Nat.add_zero, pureFn_fn, List.append_nil, List.singleton_append, List.cons_append, List.nil_append, cm_0 (g0), cm_1 (g0), cm_2 (g0), cm_3 (g0), b_lss, b_eql, b_neq, b_leq, b_geq, b_gtr, S57, e60, h1, h2, h3, orL, if_true, Bool.false_eq_true, if_false, Int.reduceEq, reduceIte] <;>
      first | exact ⟨_, rfl⟩ | exact ⟨_, hL0⟩
  obtain ⟨σ', h⟩ := hF
  exact ⟨_, σ', F16_call h, rfl⟩

/-! ### Copies, bounds -/
def ownC (c : Cmp) : Cmp := ⟨c.n, some (L c.init), some (L c.out), some (L c.mv)⟩
theorem cmpE_own (c : Cmp) : cmpE (ownC c) = cmpE c := rfl
theorem csm_own {c : Cmp} (h : CSm c) : CSm (ownC c) := ⟨h.i, h.o, h.m⟩
theorem bld25p (a b d x : PV) : build PP 25 [(0, .p a), (1, .p b), (2, .p d), (3, .p x)] = some (.agg [.p a, .p b, .p d, .p x]) := Eq.trans (by kernel_rfl) rfl
theorem bld25o (a b d : PV) (r ver sz n : Nat) (cs : List PV) : build PP 25 [(0, .p a), (1, .p b), (2, .p d), (3, .osl r ver sz n cs)] = some (.agg [.p a, .p b, .p d, .osl r ver sz n cs]) := Eq.trans (by kernel_rfl) rfl
theorem st25_p (a b d x : PV) (z : List DV) (hz : z.length = 4) (m : Row) (rest : Store) : store PP 0 25 (.ptr 1 0) (.agg [.p a, .p b, .p d, .p x]) (m :: .mix z :: rest) = some (m :: .mix [.p a, .p b, .p d, .p x] :: rest) := by
  match z, hz with
  | [z0, z1, z2, z3], _ => exact Eq.trans (by kernel_rfl) rfl
theorem st25_o (a b d : PV) (r ver sz n : Nat) (cs : List PV) (z : List DV) (hz : z.length = 4) (m : Row) (rest : Store) : store PP 0 25 (.ptr 1 0) (.agg [.p a, .p b, .p d, .osl r ver sz n cs]) (m :: .mix z :: rest) = some (m :: .mix [.p a, .p b, .p d, .osl r ver sz n cs] :: rest) := by
  match z, hz with
  | [z0, z1, z2, z3], _ => exact Eq.trans (by kernel_rfl) rfl
theorem cv25 (a b c d : DV) (m : Row) (rest : Store) : cellV PP 25 (.ptr 1 0) (m :: .mix [a, b, c, d] :: rest) = some (.agg [a, b, c, d]) := Eq.trans (by kernel_rfl) rfl
theorem S14 {c : Cmp} {σ : Store} (hc : CSm c) : pureV CC 14 [.agg (eCmp c)] σ = some (.agg (eCmp (ownC c))) := by
  refine pureV_any (by simp [cmp_view]) fun lo σ0 hs => ?_
  rcases hs with ⟨rfl, rfl, _⟩ | ⟨_, _, h⟩
  case inr => exact absurd h (by simp [rowFree, rowFree1, eCmp])
  have g0 : ∀ r, ([Row.mix (eCmp c), r] : Store)[0]? = some (.mix (eCmp c)) := fun _ => rfl
  have z4 : ([.p (pI 0), .p .nilsl, .p .nilsl, .p .nilsl] : List DV).length = 4 := rfl
  by_cases h : (L c.mv).length = 0
  · refine ⟨.agg [.p (pI c.n), .p (eSl (some (L c.init))), .p (eSl (some (L c.out))), .p (.sl true 0 [])], [.mix (eCmp c), .mix [.p (pI c.n), .p (eSl (some (L c.init))), .p (eSl (some (L c.out))), .p (.sl true 0 [])]], F14_call ?_, ?_⟩
    · rw [F14_eq]
      simp only [box_cmp, zero25, guard_tt, guard_ff, guard_tf, guard_ft, guard_sk, obind, omap, pickV_true, pickV_false, condK_true, condK_false, decide_true, decide_false, Bool.not_true, Bool.not_false, not_bool, List.length_nil, List.length_cons, fa25_0, fa25_1, fa25_2, fa25_3, load3, load22, load23, load25, len22, len23, shift_ptr, shift_pptr, Nat.zero_add, Nat.add_zero, pureFn_fn, List.append_nil, List.singleton_append, List.cons_append, List.nil_append, cm_0 (g0 _), cm_1 (g0 _), cm_2 (g0 _), cm_3 (g0 _), S55 hc.i, S55 hc.o, bs23_0, app23 hc.m, h, if_true, bld25p, st25_p _ _ _ _ _ z4, cv25]
    · have : L c.mv = [] := List.length_eq_zero_iff.1 h
      simp [thawAll, thawPart, mapO, thaw, thaw1, thawP, loosen, loosens, loosen_sl, eCmp, ownC, eEs, this, eEdgs]
  · refine ⟨.agg [.p (pI c.n), .p (eSl (some (L c.init))), .p (eSl (some (L c.out))), .osl 2 0 3 (L c.mv).length (eEdgs (L c.mv))], [.mix (eCmp c), .mix [.p (pI c.n), .p (eSl (some (L c.init))), .p (eSl (some (L c.out))), .osl 2 0 3 (L c.mv).length (eEdgs (L c.mv))], .tok 0], F14_call ?_, ?_⟩
    · rw [F14_eq]
      simp only [box_cmp, zero25, guard_tt, guard_ff, guard_tf, guard_ft, guard_sk, obind, omap, pickV_true, pickV_false, condK_true, condK_false, decide_true, decide_false, Bool.not_true, Bool.not_false, not_bool, List.length_nil, List.length_cons, fa25_0, fa25_1, fa25_2, fa25_3, load3, load22, load23, load25, len22, len23, shift_ptr, shift_pptr, Nat.zero_add, Nat.add_zero, pureFn_fn, List.append_nil, List.singleton_append, List.cons_append, List.nil_append, cm_0 (g0 _), cm_1 (g0 _), cm_2 (g0 _), cm_3 (g0 _), S55 hc.i, S55 hc.o, bs23_0, app23 hc.m, h, if_false, bld25o, Nat.reduceAdd, st25_o _ _ _ _ _ _ _ _ _ z4, cv25]
    · simp [thawAll, thawPart, mapO, thaw, thaw1, thawP, loosen, loosen_sl, eCmp, ownC, eEs, loosens_edgs]

def fewC (c : Cmp) : Bool := decide ((L c.init).length ≤ 14) && decide ((L c.out).length ≤ 14) && (decide ((L c.mv).length ≤ 24) || (decide ((L c.mv).length > 60) && decide ((L c.mv).length ≤ 62)))
theorem dec_le (n m : Nat) : decide ((n : Int) ≤ (m : Int)) = decide (n ≤ m) := by rw [decide_eq_decide]; omega
theorem dec_gt (n m : Nat) : decide ((n : Int) > (m : Int)) = decide (n > m) := by rw [decide_eq_decide]; omega
theorem S11 {c : Cmp} {σ : Store} : pureV CC 11 [.agg (eCmp c)] σ = some (.p (.bool (fewC c))) := by
  refine pureV_any (by simp [cmp_view]) fun lo σ0 hs => ?_
  rcases hs with ⟨rfl, rfl, _⟩ | ⟨_, _, h⟩
  case inr => exact absurd h (by simp [rowFree, rowFree1, eCmp])
  have g0 : ([Row.mix (eCmp c)] : Store)[0]? = some (.mix (eCmp c)) := rfl
  have e1 := dec_le (L c.init).length 14
  have e2 := dec_le (L c.out).length 14
  have e3 := dec_le (L c.mv).length 24
  have e4 := dec_gt (L c.mv).length 60
  have e5 := dec_le (L c.mv).length 62
  simp only [Int.cast_ofNat_Int] at e1 e2 e3 e4 e5
  have hF : F11 guardT 0 (.agg (eCmp c)) [] = some (.p (.bool (fewC c)), [Row.mix (eCmp c)]) := by
    rw [F11_eq, fewC]
    cases h1 : decide ((L c.init).length ≤ 14) <;> cases h2 : decide ((L c.out).length ≤ 14) <;> cases h3 : decide ((L c.mv).length ≤ 24) <;> cases h4 : decide ((L c.mv).length > 60) <;>
      simp only [box_cmp, guard_tt, guard_ff, guard_tf, guard_ft, guard_sk, obind, omap, pickV_true, pickV_false, condK_true, condK_false, decide_true, decide_false, Bool.not_true, Bool.not_false, not_bool, List.length_nil, fa25_0, fa25_1, fa25_2, fa25_3, load3, load22, load23, load25, len22, len23, shift_ptr, shift_pptr, Nat.zero_add, Nat.add_zero, pureFn_fn, List.append_nil, List.singleton_append, List.cons_append, List.nil_append, cm_0 (g0), cm_1 (g0), cm_2 (g0), cm_3 (g0), b_lss, b_eql, b_neq, b_leq, b_geq, b_gtr, e1, e2, e3, e4, e5, h1, h2, h3, h4, Bool.true_and, Bool.false_and, Bool.true_or, Bool.false_or]
  exact ⟨_, _, F11_call hF, rfl⟩
theorem csm_of {c : Cmp} (h : fewC c = true) : CSm c := by
  simp only [fewC, Bool.and_eq_true, Bool.or_eq_true, decide_eq_true_eq] at h
  exact ⟨by omega, by omega, by omega⟩
end Go.D
end
/- Pairs and runs: errors, copies. -/
section
set_option linter.unusedVariables false
set_option linter.unusedSimpArgs false
namespace Go.D

structure Pr where
  i : Int
  o : Int
  deriving DecidableEq, Inhabited
def prD (p : Pr) : List DV := [.p (pI p.i), .p (pI p.o)]
def ePrs : List Pr → List PV
  | [] => []
  | e :: l => pI e.i :: pI e.o :: ePrs l
abbrev OP := Option (List Pr)
def ePs : OP → PV
  | none => .nilsl
  | some l => .sl false l.length (ePrs l)
structure Run where
  st : OI
  ps : OP
def eRun (r : Run) : List DV := [.p (eSl r.st), .p (ePs r.ps)]

theorem u31 : PP.underlying 31 = some (.slice 98) := Eq.trans (by kernel_rfl) rfl
theorem s98 : size? PP 98 = some 2 := Eq.trans (by kernel_rfl) rfl
theorem bytes98 : bytes? PP 98 = some 16 := Eq.trans (by kernel_rfl) rfl
theorem zero98 : zeroOf PP 98 = some [.p (pI 0), .p (pI 0)] := Eq.trans (by kernel_rfl) rfl
theorem src31 : srcType PP 31 = true := Eq.trans (by kernel_rfl) rfl
theorem bs31_0 (σ : Store) : buildSlice PP none 31 0 [] σ = some (.p (.sl true 0 []), σ) := Eq.trans (by kernel_rfl) rfl
theorem load31 (x : DV) (σ : Store) : load PP 31 x σ = load1 x σ := Eq.trans (by kernel_rfl) rfl
theorem load98 (x : DV) (σ : Store) : load PP 98 x σ = (loadN σ 2 x).map .agg := Eq.trans (by kernel_rfl) rfl
theorem load33 (x : DV) (σ : Store) : load PP 33 x σ = (loadN σ 2 x).map .agg := Eq.trans (by kernel_rfl) rfl
theorem zero33 : zeroOf PP 33 = some [.p .nilsl, .p .nilsl] := Eq.trans (by kernel_rfl) rfl
theorem s33 : size? PP 33 = some 2 := Eq.trans (by kernel_rfl) rfl
theorem fa98_0 (x : DV) : fieldAddr PP 98 x 0 = shiftPtr x 0 := Eq.trans (by kernel_rfl) rfl
theorem fa98_1 (x : DV) : fieldAddr PP 98 x 1 = shiftPtr x 1 := Eq.trans (by kernel_rfl) rfl
theorem fa33_0 (x : DV) : fieldAddr PP 33 x 0 = shiftPtr x 0 := Eq.trans (by kernel_rfl) rfl
theorem fa33_1 (x : DV) : fieldAddr PP 33 x 1 = shiftPtr x 1 := Eq.trans (by kernel_rfl) rfl
theorem len31 (o : OP) (σ : Store) : len PP 31 (.p (ePs o)) σ = some (.p (.int .i64 ((L o).length : Nat))) := by cases o <;> simp [len, u31, ePs]
theorem prs_length (l : List Pr) : (ePrs l).length = l.length * 2 := by
  induction l with
  | nil => rfl
  | cons a l ih => simp [ePrs, ih]; omega
theorem idx31 {o : OP} {i : Nat} (h : i < (L o).length) : indexAddr PP 31 (.p (ePs o)) (.p (.int .i64 (i : Nat))) = some (.pptr (ePrs (L o)) (i * 2)) := by
  cases o with
  | none => simp at h
  | some l =>
    have h2 : (0 : Int) ≤ (i : Int) ∧ (i : Int) < (l.length : Nat) := by simp at h; omega
    simp [indexAddr, u31, s98, ePs, h2]
theorem prs_get : ∀ (l : List Pr) (i : Nat) (h : i < l.length), (ePrs l)[i * 2]? = some (pI l[i].i) ∧ (ePrs l)[i * 2 + 1]? = some (pI l[i].o)
  | e :: l, 0, h => by simp [ePrs]
  | e :: l, i + 1, h => by
    have := prs_get l i (by simpa using h)
    have e3 : (i + 1) * 2 = i * 2 + 1 + 1 := by omega
    rw [e3]
    simpa [ePrs] using this
theorem load98_D {l : List Pr} {i : Nat} (h : i < l.length) (σ : Store) : (loadN σ 2 (.pptr (ePrs l) (i * 2))).map DV.agg = some (.agg (prD (l.getD i default))) := by
  have hle : i * 2 + 2 ≤ (ePrs l).length := by rw [prs_length]; omega
  obtain ⟨h1, h2⟩ := prs_get l i h
  have hd : ((ePrs l).drop (i * 2)).take 2 = [pI l[i].i, pI l[i].o] := by
    apply List.ext_getElem?
    intro j
    match j with
    | 0 => simpa using h1
    | 1 => simpa using h2
    | j + 2 => simp; omega
  rw [getD_at default h]
  simp [loadN, hle, hd, prD]
theorem load1_pr0 {l : List Pr} {i : Nat} (h : i < l.length) (σ : Store) : load1 (.pptr (ePrs l) (i * 2)) σ = some (.p (pI (l.getD i default).i)) := by
  rw [getD_at default h]; exact load1_pptr (prs_get l i h).1 σ
theorem load1_pr1 {l : List Pr} {i : Nat} (h : i < l.length) (σ : Store) : load1 (.pptr (ePrs l) (i * 2 + 1)) σ = some (.p (pI (l.getD i default).o)) := by
  rw [getD_at default h]; exact load1_pptr (prs_get l i h).2 σ
theorem store_new98 (σ : Store) (e : Pr) (z : List DV) (hz : z.length = 2) : store PP 0 98 (.ptr σ.length 0) (.agg (prD e)) (σ ++ [.mix z]) = some (σ ++ [.mix (prD e)]) := by
  have hs : splice z 0 (prD e) = prD e := by
    match z, hz with
    | [a, b], _ => rfl
  simp [store, s98, DV.cells, storeN, prD, hz]
  exact ⟨⟨rfl, rfl⟩, by simpa [prD] using hs⟩
theorem loosens_prs (l : List Pr) : loosens (ePrs l) = ePrs l := by
  induction l with
  | nil => rfl
  | cons a l ih => simp only [ePrs, loosens, loosen, ih]
theorem loosen_ps (o : OP) : loosen (ePs o) = ePs o := by
  cases o <;> simp [ePs, loosen, loosens_prs]
theorem ps_view (o : OP) : view (.p (ePs o)) = .p (ePs o) := by simp [view, viewCell, loosen_ps]
theorem run_view (r : Run) : view (.agg (eRun r)) = .agg (eRun r) := by simp [view, viewCell, eRun, loosen_sl, loosen_ps]
theorem box_run (r : Run) : boxV (.agg (eRun r)) = some (eRun r) := rfl
theorem box_pr (r : Pr) : boxV (.agg (prD r)) = some (prD r) := rfl
theorem bld98 (a b : Int) : build PP 98 [(0, .p (pI a)), (1, .p (pI b))] = some (.agg (prD ⟨a, b⟩)) := Eq.trans (by kernel_rfl) rfl
theorem bld106 (a b c : Int) : build PP 106 [(0, .p (pI a)), (1, .p (pI b)), (2, .p (pI c))] = some (.agg (edgD ⟨a, b, c⟩)) := Eq.trans (by kernel_rfl) rfl
theorem eq106 (a b : Edg) : binOp PP .eql 106 (.agg (edgD a)) (.agg (edgD b)) = some (.p (.bool (decide (a = b)))) := by
  have h : binOp PP .eql 106 (.agg (edgD a)) (.agg (edgD b)) = (match some (a.f == b.f) with
      | some true => (match some (a.t == b.t) with
        | some true => (match some (a.a == b.a) with
          | some true => some true
          | r => r)
        | r => r)
      | r => r).map fun b => .p (.bool b) := by kernel_rfl
  have e1 : decide (a = b) = (a.f == b.f && (a.t == b.t && a.a == b.a)) := by
    rcases a with ⟨a1, a2, a3⟩
    rcases b with ⟨b1, b2, b3⟩
    rw [Bool.eq_iff_iff]
    simp
  rw [h, e1]
  cases a.f == b.f <;> cases a.t == b.t <;> cases a.a == b.a <;> rfl

section
variable {p : Run} {σ : Store} {r : Nat} (h : σ[r]? = some (.mix (eRun p)))
include h
theorem rn_all : loadN σ 2 (.ptr r 0) = some (eRun p) := loadN_ptr h rfl (by simp [eRun])
theorem rn_0 : load1 (.ptr r 0) σ = some (.p (eSl p.st)) := load1_ptr h rfl
theorem rn_1 : load1 (.ptr r 1) σ = some (.p (ePs p.ps)) := load1_ptr h rfl
end
structure RSm (r : Run) : Prop where
  s : (L r.st).length ≤ 1000
  p : (L r.ps).length ≤ 1000

/-! ### What is wrong with pairs -/
def badP (p : Pr) : Bool := !ltr p.i || !ltr p.o
def prsE (l : List Pr) : Int := if l.length ≤ 60 then (if l.any badP then 3 else 0) else 2
theorem S118 (p : Pr) (σ : Store) : pureV CC 118 [.agg (prD p)] σ = some (.p (.bool (badP p))) := by
  refine pureV_free rfl rfl (F118_call (r := (.p (.bool (badP p)), [.mix (prD p)])) ?_) rfl
  rw [F118_eq, badP]
  have g0 : ([Row.mix (prD p)] : Store)[0]? = some (.mix (prD p)) := rfl
  cases h1 : ltr p.i <;> simp only [box_pr, guard_tt, guard_ff, guard_tf, guard_ft, guard_sk, obind, omap, pickV_true, pickV_false, condK_true, condK_false, decide_true, decide_false, Bool.not_true, Bool.not_false, not_bool, List.length_nil, fa98_0, fa98_1, load98, load3, shift_ptr, shift_pptr, Nat.zero_add, Nat.add_zero, pureFn_fn, List.append_nil, List.singleton_append, List.cons_append, List.nil_append, load1_ptr (off := 0) (g0) rfl, load1_ptr (off := 1) (g0) rfl, S82, h1, Bool.true_or, Bool.false_or]
theorem L135 {o : OP} {σ : Store} {lo : Nat} (hl : (L o).length ≤ 1000) :
    ∀ (k i : Nat), (L o).length - i = k → i ≤ (L o).length → f135_L0 guardT lo (.p (ePs o)) (.fn 118 []) (.p (pI ((L o).length : Nat))) (.p (pI (i : Nat))) σ = some (.p (pI (idxFrom badP ((L o).drop i) i)), σ)
  | 0, i, hk, hi => by
    have : ¬ (i : Int) < ((L o).length : Nat) := by omega
    rw [f135_L0_eq guardT rfl, List.drop_eq_nil_of_le (by omega)]
    simp only [b_lss, b_eql, b_neq, b_leq, b_geq, b_gtr, guard_tt, guard_ff, guard_tf, guard_ft, guard_sk, obind, omap, pickV_true, pickV_false, condK_true, condK_false, decide_true, decide_false, Bool.not_true, Bool.not_false, not_bool, this, idxFrom]
  | k + 1, i, hk, hi => by
    have h : i < (L o).length := by omega
    have h' : (i : Int) < ((L o).length : Nat) := by omega
    have ih := L135 (σ := σ) (lo := lo) hl k (i + 1) (by omega) (by omega)
    rw [f135_L0_eq guardT rfl, drop_cons h, idxFrom]
    simp only [b_lss, b_eql, b_neq, b_leq, b_geq, b_gtr, guard_tt, guard_ff, guard_tf, guard_ft, guard_sk, obind, omap, pickV_true, pickV_false, condK_true, condK_false, decide_true, decide_false, Bool.not_true, Bool.not_false, not_bool, h', idx31 h, load98, load98_D h, shift_ptr, shift_pptr, Nat.zero_add, Nat.add_zero, pureFn_fn, List.append_nil, List.singleton_append, List.cons_append, List.nil_append, S118, getD_at default h]
    cases badP (L o)[i] with
    | true => simp only [guard_tt, guard_ff, guard_tf, guard_ft, guard_sk, obind, omap, pickV_true, pickV_false, condK_true, condK_false, decide_true, decide_false, Bool.not_true, Bool.not_false, not_bool, if_true]
    | false => simp only [guard_tt, guard_ff, guard_tf, guard_ft, guard_sk, obind, omap, pickV_true, pickV_false, condK_true, condK_false, decide_true, decide_false, Bool.not_true, Bool.not_false, not_bool, Bool.false_eq_true, if_false, b_add, wrap_succ (show i ≤ 1000000 by omega)]; exact ih
theorem S117 {o : OP} {σ : Store} (hl : (L o).length ≤ 1000) : pureV CC 117 [.p (ePs o), .fn 118 []] σ = some (.p (.bool ((L o).any badP))) := by
  have h135 : ∀ σ, pureV CC 135 [.p (ePs o), .fn 118 []] σ = some (.p (pI (idxFrom badP (L o) 0))) := by
    intro σ
    refine pureV_any (by simp [ps_view, fn_view]) fun lo σ0 hs => ⟨_, σ0, F135_call (r := (.p (pI (idxFrom badP (L o) 0)), σ0)) ?_, rfl⟩
    rw [F135_eq]
    simp only [len31, obind]
    have := L135 (lo := lo) (σ := σ0) hl _ 0 rfl (Nat.zero_le _)
    simpa using this
  refine pureV_any (by simp [ps_view, fn_view]) fun lo σ0 hs => ⟨_, σ0, F117_call (r := (.p (.bool ((L o).any badP)), σ0)) ?_, rfl⟩
  rw [F117_eq]
  simp only [shift_ptr, shift_pptr, Nat.zero_add, Nat.add_zero, pureFn_fn, List.append_nil, List.singleton_append, List.cons_append, List.nil_append, h135, guard_tt, guard_ff, guard_tf, guard_ft, guard_sk, obind, omap, pickV_true, pickV_false, condK_true, condK_false, decide_true, decide_false, Bool.not_true, Bool.not_false, not_bool, b_geq, idxFrom_ge]
theorem e60 (n : Nat) : decide ((n : Int) ≤ 60) = decide (n ≤ 60) := dec_le n 60
theorem g60 (n : Nat) : decide ((n : Int) > 60) = !decide (n ≤ 60) := by rw [← decide_not, decide_eq_decide]; omega
theorem S85 {o : OP} {σ : Store} (hl : (L o).length ≤ 1000) : pureV CC 85 [.p (ePs o)] σ = some (.p (pI (prsE (L o)))) := by
  refine pureV_any (by simp [ps_view]) fun lo σ0 hs => ⟨_, σ0, F85_call (r := (.p (pI (prsE (L o))), σ0)) ?_, rfl⟩
  rw [F85_eq, prsE]
  simp only [shift_ptr, shift_pptr, Nat.zero_add, Nat.add_zero, pureFn_fn, List.append_nil, List.singleton_append, List.cons_append, List.nil_append, S117 hl, guard_tt, guard_ff, guard_tf, guard_ft, guard_sk, obind, omap, pickV_true, pickV_false, condK_true, condK_false, decide_true, decide_false, Bool.not_true, Bool.not_false, not_bool, len31, b_leq, e60, S54, bs160_2, either2, orL]
  by_cases h : (L o).length ≤ 60
  · cases h2 : (L o).any badP <;> simp [h, h2]
  · simp [h]
theorem L39 {o : OP} {σ : Store} {lo : Nat} (hl : (L o).length ≤ 1000) :
    ∀ (k i : Nat), (L o).length - i = k → i ≤ (L o).length → f39_L0 guardT lo (.p (ePs o)) (.p (pI (i : Nat))) σ = some (.p (pI (if ((L o).drop i).any badP then 3 else 0)), σ)
  | 0, i, hk, hi => by
    have : ¬ (i : Int) < ((L o).length : Nat) := by omega
    rw [f39_L0_eq guardT rfl, List.drop_eq_nil_of_le (by omega)]
    simp only [len31, b_lss, b_eql, b_neq, b_leq, b_geq, b_gtr, guard_tt, guard_ff, guard_tf, guard_ft, guard_sk, obind, omap, pickV_true, pickV_false, condK_true, condK_false, decide_true, decide_false, Bool.not_true, Bool.not_false, not_bool, this, List.any_nil, Bool.false_eq_true, if_false]
  | k + 1, i, hk, hi => by
    have h : i < (L o).length := by omega
    have h' : (i : Int) < ((L o).length : Nat) := by omega
    have ih := L39 (σ := σ) (lo := lo) hl k (i + 1) (by omega) (by omega)
    rw [f39_L0_eq guardT rfl, drop_cons h, List.any_cons, badP, ← getD_at default h]
    cases h1 : ltr ((L o).getD i default).i <;> cases h2 : ltr ((L o).getD i default).o <;>
      simp only [len31, b_lss, b_eql, b_neq, b_leq, b_geq, b_gtr, guard_tt, guard_ff, guard_tf, guard_ft, guard_sk, obind, omap, pickV_true, pickV_false, condK_true, condK_false, decide_true, decide_false, Bool.not_true, Bool.not_false, not_bool, h', idx31 h, fa98_0, fa98_1, load98, load3, shift_ptr, shift_pptr, Nat.zero_add, Nat.add_zero, pureFn_fn, List.append_nil, List.singleton_append, List.cons_append, List.nil_append, load1_pr0 h, load1_pr1 h, S58, h1, h2, Bool.true_or, Bool.false_or, if_true, b_add, wrap_succ (show i ≤ 1000000 by omega), ih]
theorem S39 {o : OP} {σ : Store} (hl : (L o).length ≤ 1000) : pureV CC 39 [.p (ePs o)] σ = some (.p (pI (prsE (L o)))) := by
  refine pureV_any (by simp [ps_view]) fun lo σ0 hs => ⟨_, σ0, F39_call (r := (.p (pI (prsE (L o))), σ0)) ?_, rfl⟩
  have hL := L39 (σ := σ0) (lo := lo) hl _ 0 (Nat.sub_zero _) (Nat.zero_le _)
  rw [List.drop_zero] at hL
  rw [F39_eq, prsE]
  by_cases h : (L o).length ≤ 60
  · simp only [len31, b_lss, b_eql, b_neq, b_leq, b_geq, b_gtr, guard_tt, guard_ff, guard_tf, guard_ft, guard_sk, obind, omap, pickV_true, pickV_false, condK_true, condK_false, decide_true, decide_false, Bool.not_true, Bool.not_false, not_bool, g60, h, if_true]
    exact hL
  · simp only [len31, b_lss, b_eql, b_neq, b_leq, b_geq, b_gtr, guard_tt, guard_ff, guard_tf, guard_ft, guard_sk, obind, omap, pickV_true, pickV_false, condK_true, condK_false, decide_true, decide_false, Bool.not_true, Bool.not_false, not_bool, g60, h, if_false]
theorem S28 {o : OP} {σ : Store} : pureV CC 28 [.p (ePs o)] σ = some (.p (.bool (decide ((L o).length ≤ 62)))) := by
  refine pureV_any (by simp [ps_view]) fun lo σ0 hs => ⟨_, σ0, F28_call (r := (.p (.bool (decide ((L o).length ≤ 62))), σ0)) ?_, rfl⟩
  have e := dec_le (L o).length 62
  rw [F28_eq]
  simp only [len31, b_lss, b_eql, b_neq, b_leq, b_geq, b_gtr, guard_tt, guard_ff, guard_tf, guard_ft, guard_sk, obind, omap, pickV_true, pickV_false, condK_true, condK_false, decide_true, decide_false, Bool.not_true, Bool.not_false, not_bool]
  rw [← e]; rfl

/-! ### Is there such a step? -/
def hasE (l : List Edg) (x : Edg) : Bool := l.any fun e => decide (e = x)
theorem L120 {o : Option (List Edg)} {x : Edg} {σ : Store} {r lo : Nat} (hx : σ[r]? = some (.mix (edgD x))) (hl : (L o).length ≤ 10000) :
    ∀ (k i : Nat), (L o).length - i = k → i ≤ (L o).length → f120_L0 guardT lo (.p (eEs o)) (.ptr r 0) (.p (pI ((L o).length : Nat))) (.p (pI (i : Nat))) σ = some (.p (pI (idxFrom (fun e => decide (x = e)) ((L o).drop i) i)), σ)
  | 0, i, hk, hi => by
    have : ¬ (i : Int) < ((L o).length : Nat) := by omega
    rw [f120_L0_eq guardT rfl, List.drop_eq_nil_of_le (by omega)]
    simp only [b_lss, b_eql, b_neq, b_leq, b_geq, b_gtr, guard_tt, guard_ff, guard_tf, guard_ft, guard_sk, obind, omap, pickV_true, pickV_false, condK_true, condK_false, decide_true, decide_false, Bool.not_true, Bool.not_false, not_bool, this, idxFrom]
  | k + 1, i, hk, hi => by
    have h : i < (L o).length := by omega
    have h' : (i : Int) < ((L o).length : Nat) := by omega
    have ih := L120 (lo := lo) hx hl k (i + 1) (by omega) (by omega)
    rw [f120_L0_eq guardT rfl, drop_cons h, idxFrom, ← getD_at default h]
    simp only [b_lss, b_eql, b_neq, b_leq, b_geq, b_gtr, guard_tt, guard_ff, guard_tf, guard_ft, guard_sk, obind, omap, pickV_true, pickV_false, condK_true, condK_false, decide_true, decide_false, Bool.not_true, Bool.not_false, not_bool, h', load106, loadN_ptr (off := 0) (n := 3) (vs := edgD x) hx rfl (by simp [edgD]), idx23 h, load106_D h, eq106]
    cases h1 : decide (x = (L o).getD i default) with
    | true => simp only [guard_tt, guard_ff, guard_tf, guard_ft, guard_sk, obind, omap, pickV_true, pickV_false, condK_true, condK_false, decide_true, decide_false, Bool.not_true, Bool.not_false, not_bool, if_true]
    | false => simp only [guard_tt, guard_ff, guard_tf, guard_ft, guard_sk, obind, omap, pickV_true, pickV_false, condK_true, condK_false, decide_true, decide_false, Bool.not_true, Bool.not_false, not_bool, Bool.false_eq_true, if_false, b_add, wrap_succ (show i ≤ 1000000 by omega)]; exact ih
theorem S87 {o : Option (List Edg)} {x : Edg} {σ : Store} (hl : (L o).length ≤ 10000) : pureV CC 87 [.p (eEs o), .agg (edgD x)] σ = some (.p (.bool (hasE (L o) x))) := by
  have h120 : ∀ σ, pureV CC 120 [.p (eEs o), .agg (edgD x)] σ = some (.p (pI (idxFrom (fun e => decide (x = e)) (L o) 0))) := by
    intro σ
    refine pureV_any (by simp [es_view]; rfl) fun lo σ0 hs => ⟨_, σ0 ++ [.mix (edgD x)], F120_call (r := (.p (pI (idxFrom (fun e => decide (x = e)) (L o) 0)), σ0 ++ [.mix (edgD x)])) ?_, rfl⟩
    rw [F120_eq]
    simp only [box_edg, len23, obind]
    have := L120 (lo := lo) (σ := σ0 ++ [.mix (edgD x)]) get_snoc hl _ 0 rfl (Nat.zero_le _)
    simpa using this
  refine pureV_any (by simp [es_view]; rfl) fun lo σ0 hs => ⟨_, σ0 ++ [.mix (edgD x)], F87_call (r := (.p (.bool (hasE (L o) x)), σ0 ++ [.mix (edgD x)])) ?_, rfl⟩
  rw [F87_eq]
  have hx : (σ0 ++ [Row.mix (edgD x)])[σ0.length]? = some (.mix (edgD x)) := get_snoc
  have e : (fun e => decide (x = e)) = fun e : Edg => decide (e = x) := by funext e; rw [decide_eq_decide]; exact eq_comm
  simp only [box_edg, guard_tt, guard_ff, guard_tf, guard_ft, guard_sk, obind, omap, pickV_true, pickV_false, condK_true, condK_false, decide_true, decide_false, Bool.not_true, Bool.not_false, not_bool, load106, loadN_ptr (off := 0) (n := 3) (vs := edgD x) hx rfl (by simp [edgD]), shift_ptr, shift_pptr, Nat.zero_add, Nat.add_zero, pureFn_fn, List.append_nil, List.singleton_append, List.cons_append, List.nil_append, h120, b_geq, idxFrom_ge, hasE, e]
theorem L89 {c : Cmp} {x : Edg} {σ : Store} {q r lo : Nat} (h0 : σ[q]? = some (.mix (eCmp c))) (hx : σ[r]? = some (.mix (edgD x))) (hl : (L c.mv).length ≤ 10000) :
    ∀ (k i : Nat), (L c.mv).length - i = k → i ≤ (L c.mv).length → f89_L0 guardT lo (.ptr q 0) (.ptr r 0) (.p (pI (i : Nat))) σ = some (.p (.bool (hasE ((L c.mv).drop i) x)), σ)
  | 0, i, hk, hi => by
    have : ¬ (i : Int) < ((L c.mv).length : Nat) := by omega
    rw [f89_L0_eq guardT rfl, List.drop_eq_nil_of_le (by omega)]
    simp only [fa25_0, fa25_1, fa25_2, fa25_3, load3, load22, load23, load25, len22, len23, shift_ptr, shift_pptr, Nat.zero_add, Nat.add_zero, pureFn_fn, List.append_nil, List.singleton_append, List.cons_append, List.nil_append, cm_0 (h0), cm_1 (h0), cm_2 (h0), cm_3 (h0), b_lss, b_eql, b_neq, b_leq, b_geq, b_gtr, guard_tt, guard_ff, guard_tf, guard_ft, guard_sk, obind, omap, pickV_true, pickV_false, condK_true, condK_false, decide_true, decide_false, Bool.not_true, Bool.not_false, not_bool, this, hasE, List.any_nil]
  | k + 1, i, hk, hi => by
    have h : i < (L c.mv).length := by omega
    have h' : (i : Int) < ((L c.mv).length : Nat) := by omega
    have ih := L89 (lo := lo) h0 hx hl k (i + 1) (by omega) (by omega)
    rw [f89_L0_eq guardT rfl, drop_cons h, hasE, List.any_cons, ← getD_at default h]
    simp only [fa25_0, fa25_1, fa25_2, fa25_3, load3, load22, load23, load25, len22, len23, shift_ptr, shift_pptr, Nat.zero_add, Nat.add_zero, pureFn_fn, List.append_nil, List.singleton_append, List.cons_append, List.nil_append, cm_0 (h0), cm_1 (h0), cm_2 (h0), cm_3 (h0), b_lss, b_eql, b_neq, b_leq, b_geq, b_gtr, guard_tt, guard_ff, guard_tf, guard_ft, guard_sk, obind, omap, pickV_true, pickV_false, condK_true, condK_false, decide_true, decide_false, Bool.not_true, Bool.not_false, not_bool, h', load106, loadN_ptr (off := 0) (n := 3) (vs := edgD x) hx rfl (by simp [edgD]), idx23 h, load106_D h, eq106]
    cases h1 : decide ((L c.mv).getD i default = x) with
    | true => simp only [guard_tt, guard_ff, guard_tf, guard_ft, guard_sk, obind, omap, pickV_true, pickV_false, condK_true, condK_false, decide_true, decide_false, Bool.not_true, Bool.not_false, not_bool, Bool.true_or]
    | false => simp only [guard_tt, guard_ff, guard_tf, guard_ft, guard_sk, obind, omap, pickV_true, pickV_false, condK_true, condK_false, decide_true, decide_false, Bool.not_true, Bool.not_false, not_bool, Bool.false_or, b_add, wrap_succ (show i ≤ 1000000 by omega)]; exact ih
theorem S89 {c : Cmp} {x : Edg} {σ : Store} (hl : (L c.mv).length ≤ 10000) : pureV CC 89 [.agg (eCmp c), .agg (edgD x)] σ = some (.p (.bool (hasE (L c.mv) x))) := by
  refine pureV_any (by simp [cmp_view]; rfl) fun lo σ0 hs => ⟨_, σ0 ++ [.mix (eCmp c)] ++ [.mix (edgD x)], F89_call (r := (.p (.bool (hasE (L c.mv) x)), σ0 ++ [.mix (eCmp c)] ++ [.mix (edgD x)])) ?_, rfl⟩
  rw [F89_eq]
  simp only [box_edg, box_cmp, obind]
  have := L89 (lo := lo) (q := σ0.length) (r := (σ0 ++ [Row.mix (eCmp c)]).length) (σ := σ0 ++ [Row.mix (eCmp c)] ++ [Row.mix (edgD x)]) (get_old get_snoc) get_snoc hl _ 0 rfl (Nat.zero_le _)
  simpa using this

/-! ### Runs -/
def stAt (r : Run) (i : Nat) : Int := (L r.st).getD i 0
def prAt (r : Run) (i : Nat) : Pr := (L r.ps).getD i default
def okStep (c : Cmp) (r : Run) (i : Nat) : Bool := hasE (L c.mv) ⟨stAt r i, (prAt r i).i, stAt r (i + 1)⟩ && decide ((L c.out).getD (stAt r i).toNat 0 = (prAt r i).o)
def runLoop (c : Cmp) (r : Run) : Nat → Nat → Int × Int
  | _, 0 => ((L r.ps).length, 0)
  | i, k + 1 => if okStep c r i then runLoop c r (i + 1) k else (i, 14)
def badS (c : Cmp) (v : Int) : Bool := !inR v 0 (pred c.n)
def runRes (c : Cmp) (r : Run) : Int × Int :=
  if prsE (L r.ps) = 0 then if ((L r.st).length : Int) = ((L r.ps).length : Nat) + 1 then if (L r.st).any (badS c) then (0, 3) else if hasI (L c.init) (stAt r 0) then runLoop c r 0 (L r.ps).length else (0, 10) else (0, 6) else (0, prsE (L r.ps))
def chkRun (c : Cmp) (r : Run) : Int × Int := if cmpE c = 0 then runRes c r else (0, cmpE c)
def tup2 (x : Int × Int) : DV := .tuple [.p (pI x.1), .p (pI x.2)]

/-- A right component. -/
structure COk (c : Cmp) (n : Nat) : Prop where
  sm : CSm c
  nn : c.n = (n : Nat)
  n10 : n ≤ 10
  o : (L c.out).length = n
  ol : ∀ i, i < n → ltr ((L c.out).getD i 0) = true
  m60 : (L c.mv).length ≤ 60
  il : ∀ s ∈ L c.init, 0 ≤ s ∧ s < n
  inc : ∀ i, i + 1 < (L c.init).length → (L c.init).getD i 0 < (L c.init).getD (i + 1) 0
  ml : ∀ e ∈ L c.mv, (0 ≤ e.f ∧ e.f < n) ∧ (0 ≤ e.a ∧ e.a < n) ∧ ltr e.t = true
  mo : ∀ i, i + 1 < (L c.mv).length → ordE ((L c.mv).getD i default) ((L c.mv).getD (i + 1) default) < 0

theorem firstE_zero {q : Nat → Int} : ∀ (k i : Nat), firstE q i k = 0 → ∀ j, i ≤ j → j < i + k → q j = 0
  | 0, i, h, j, h1, h2 => by omega
  | k + 1, i, h, j, h1, h2 => by
    unfold firstE at h
    by_cases e : q i = 0
    · rw [if_pos e] at h
      rcases Nat.eq_or_lt_of_le h1 with e2 | e2
      · rw [← e2]; exact e
      · exact firstE_zero k (i + 1) h j e2 (by omega)
    · rw [if_neg e] at h
      exact absurd h e
theorem cok_of {c : Cmp} (hc : CSm c) (h : cmpE c = 0) : COk c c.n.toNat := by
  unfold cmpE at h
  split at h
  case isFalse h1 => exact absurd h h1
  rename_i h5
  unfold cmpE5 at h5
  have a1 := orL_zero h5 _ (by simp : (if inR c.n 0 10 then (0 : Int) else 3) ∈ _)
  have a2 := orL_zero h5 _ (by simp : (if decide ((L c.mv).length ≤ 60) then (0 : Int) else 2) ∈ _)
  have a3 := orL_zero h5 _ (by simp : (if decide (((L c.out).length : Int) = c.n) then (0 : Int) else 6) ∈ _)
  have a4 := orL_zero h5 _ (by simp : (if (L c.out).all ltr then (0 : Int) else 3) ∈ _)
  have a5 := orL_zero h5 _ (by simp : (if allFrom (iniB c) 0 (L c.init).length then (0 : Int) else 5) ∈ _)
  have b1 : inR c.n 0 10 = true := by
    cases e : inR c.n 0 10 with
    | true => rfl
    | false => rw [e] at a1; exact absurd a1 (by decide)
  have b2 : (L c.mv).length ≤ 60 := by
    by_cases e : (L c.mv).length ≤ 60
    · exact e
    · rw [decide_eq_false e] at a2; exact absurd a2 (by decide)
  have b3 : ((L c.out).length : Int) = c.n := by
    by_cases e : ((L c.out).length : Int) = c.n
    · exact e
    · rw [decide_eq_false e] at a3; exact absurd a3 (by decide)
  have b4 : (L c.out).all ltr = true := by
    cases e : (L c.out).all ltr with
    | true => rfl
    | false => rw [e] at a4; exact absurd a4 (by decide)
  have b5 : allFrom (iniB c) 0 (L c.init).length = true := by
    cases e : allFrom (iniB c) 0 (L c.init).length with
    | true => rfl
    | false => rw [e] at a5; exact absurd a5 (by decide)
  have nn : 0 ≤ c.n ∧ c.n ≤ 10 := by simpa [inR] using b1
  have pn : pred c.n = c.n - 1 := wrap_ok (by omega) (by omega)
  rw [allFrom_iff] at b5
  have hm := firstE_zero _ _ h
  refine ⟨hc, by omega, by omega, by omega, ?_, b2, ?_, ?_, ?_, ?_⟩
  · intro i hi
    have hi2 : i < (L c.out).length := by omega
    rw [getD_at 0 hi2]
    exact List.all_eq_true.1 b4 _ (List.getElem_mem hi2)
  · intro s hs
    obtain ⟨i, hi, rfl⟩ := List.getElem_of_mem hs
    have := b5 i (Nat.zero_le _) (by omega)
    rw [iniB, getD_at 0 hi] at this
    simp only [inR, pn, Bool.and_eq_true, decide_eq_true_eq] at this
    omega
  · intro i hi
    have := b5 (i + 1) (Nat.zero_le _) (by omega)
    rw [iniB] at this
    simp only [Bool.and_eq_true, Bool.or_eq_true, decide_eq_true_eq, Nat.add_sub_cancel] at this
    omega
  · intro e he
    obtain ⟨i, hi, rfl⟩ := List.getElem_of_mem he
    have := hm i (Nat.zero_le _) (by omega)
    rw [mvE, getD_at default hi] at this
    split at this
    · rename_i h1
      simp only [inR, pn, Bool.and_eq_true, decide_eq_true_eq] at h1
      exact ⟨by omega, by omega, h1.2⟩
    · exact absurd this (by decide)
  · intro i hi
    have := hm (i + 1) (Nat.zero_le _) (by omega)
    rw [mvE] at this
    split at this
    · split at this
      · rename_i h2
        simp only [Bool.or_eq_true, decide_eq_true_eq, Nat.add_sub_cancel] at h2
        omega
      · exact absurd this (by decide)
    · exact absurd this (by decide)
end Go.D
end
