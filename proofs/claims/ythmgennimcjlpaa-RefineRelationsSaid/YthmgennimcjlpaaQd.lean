/- Equations of functions 77, 79, 42, 50, 16, 43, 45, 44, 18, 14, 47, 13, 19, 11, 3, printed by gen.py. -/
import Derived.Test.YthmgennimcjlpaaQc
section
set_option linter.unusedVariables false
set_option maxRecDepth 10000
namespace Go.D
noncomputable def c77_0 : Code := bodyOf Go.Proofs.Try.f77
noncomputable def a77_0 : Ann := (pol 77).ann
noncomputable def c77_1 : Code := Code.fstC c77_0
noncomputable def a77_1 : Ann := Ann.left a77_0
noncomputable def c77_2 : Code := Code.sndC c77_0
noncomputable def a77_2 : Ann := Ann.right a77_0
noncomputable def c77_3 : Code := Code.fstC c77_2
noncomputable def a77_3 : Ann := Ann.left a77_2
noncomputable def c77_4 : Code := Code.sndC c77_2
noncomputable def a77_4 : Ann := Ann.right a77_2
noncomputable def F77 (G : GuardT) (lo : Nat) (x0 x1 : DV) (σ : Store) : Option (DV × Store) :=
  codeF G PP (pol 77) CC lo c77_0 a77_0 [x0, x1, ud, ud, ud, ud, ud, ud, ud, ud] σ (finR PP Go.Proofs.Try.f77.results.toList)
theorem F77_eq (G : GuardT) (lo : Nat) (x0 x1 : DV) (σ : Store) : F77 G lo x0 x1 σ =
    (fieldAddr PP 25 x1 0).bind fun x5 =>
    (load PP 3 x5 σ).bind fun x6 =>
    (binOp PP .sub 3 x6 (DV.p (PV.int IntKind.i64 (1)))).bind fun x7 =>
    (pureFn CC (DV.fn 53 []) [x0, (DV.p (PV.int IntKind.i64 (0))), x7] σ).bind fun x8 =>
    (unOp .not x8).bind fun x9 =>
    some (x9, σ) := by kernel_rfl
theorem F77_call {lo : Nat} {x0 x1 : DV} {σ : Store} {r : DV × Store} (h : F77 guardT lo x0 x1 σ = some r) : CC lo 77 [x0, x1] σ = some r :=
  callL_run Go.Proofs.Try.func77 (by decide +kernel) rfl (by decide +kernel) h
noncomputable def c79_0 : Code := bodyOf Go.Proofs.Try.f79
noncomputable def a79_0 : Ann := (pol 79).ann
noncomputable def c79_1 : Code := Code.fstC c79_0
noncomputable def a79_1 : Ann := Ann.left a79_0
noncomputable def c79_2 : Code := Code.sndC c79_0
noncomputable def a79_2 : Ann := Ann.right a79_0
noncomputable def c79_3 : Code := Code.fstC c79_2
noncomputable def a79_3 : Ann := Ann.left a79_2
noncomputable def c79_4 : Code := Code.sndC c79_2
noncomputable def a79_4 : Ann := Ann.right a79_2
noncomputable def F79 (G : GuardT) (lo : Nat) (x0 x1 x2 : DV) (σ : Store) : Option (DV × Store) :=
  codeF G PP (pol 79) CC lo c79_0 a79_0 [x0, x1, x2, ud, ud, ud, ud, ud, ud, ud, ud, ud, ud, ud, ud] σ (finR PP Go.Proofs.Try.f79.results.toList)
theorem F79_eq (G : GuardT) (lo : Nat) (x0 x1 x2 : DV) (σ : Store) : F79 G lo x0 x1 x2 σ =
    (boxV x0).bind fun z3 =>
    (fieldAddr PP 100 (DV.ptr (List.length σ) 0) 0).bind fun x5 =>
    (load PP 3 x5 (σ ++ [Row.mix z3])).bind fun x6 =>
    (load PP 3 x1 (σ ++ [Row.mix z3])).bind fun x7 =>
    (binOp PP .eql 3 x6 x7).bind fun x8 =>
    G _ x8 true ((fieldAddr PP 100 (DV.ptr (List.length σ) 0) 1).bind fun v => some (v, (σ ++ [Row.mix z3]))) (σ ++ [Row.mix z3]) fun x10 σ1 =>
    G _ x8 true ((load PP 3 x10 σ1).bind fun v => some (v, σ1)) σ1 fun x11 σ2 =>
    G _ x8 true ((load PP 3 x2 σ2).bind fun v => some (v, σ2)) σ2 fun x12 σ3 =>
    G _ x8 true ((binOp PP .eql 3 x11 x12).bind fun v => some (v, σ3)) σ3 fun x13 σ4 =>
    (pickV x8 x13 (DV.p (PV.bool false))).bind fun x14 =>
    some (x14, σ4) := by kernel_rfl
theorem F79_call {lo : Nat} {x0 x1 x2 : DV} {σ : Store} {r : DV × Store} (h : F79 guardT lo x0 x1 x2 σ = some r) : CC lo 79 [x0, x1, x2] σ = some r :=
  callL_run Go.Proofs.Try.func79 (by decide +kernel) rfl (by decide +kernel) h
noncomputable def c42_0 : Code := bodyOf Go.Proofs.Try.f42
noncomputable def a42_0 : Ann := (pol 42).ann
noncomputable def c42_1 : Code := Code.fstC c42_0
noncomputable def a42_1 : Ann := Ann.left a42_0
noncomputable def c42_2 : Code := Code.sndC c42_0
noncomputable def a42_2 : Ann := Ann.right a42_0
noncomputable def c42_3 : Code := Code.fstC c42_2
noncomputable def a42_3 : Ann := Ann.left a42_2
noncomputable def c42_4 : Code := Code.sndC c42_2
noncomputable def a42_4 : Ann := Ann.right a42_2
noncomputable def c42_5 : Code := Code.fstC c42_4
noncomputable def a42_5 : Ann := Ann.left a42_4
noncomputable def c42_14 : Code := Code.sndC c42_4
noncomputable def a42_14 : Ann := Ann.right a42_4
noncomputable def c42_6 : Code := Code.fstC c42_5
noncomputable def a42_6 : Ann := Ann.left a42_5
noncomputable def c42_7 : Code := Code.sndC c42_5
noncomputable def a42_7 : Ann := Ann.right a42_5
noncomputable def c42_8 : Code := Code.fstC c42_7
noncomputable def a42_8 : Ann := Ann.left a42_7
noncomputable def c42_9 : Code := Code.sndC c42_7
noncomputable def a42_9 : Ann := Ann.right a42_7
noncomputable def c42_10 : Code := Code.fstC c42_9
noncomputable def a42_10 : Ann := Ann.left a42_9
noncomputable def c42_13 : Code := Code.sndC c42_9
noncomputable def a42_13 : Ann := Ann.right a42_9
noncomputable def c42_11 : Code := Code.fstC c42_10
noncomputable def a42_11 : Ann := Ann.left a42_10
noncomputable def c42_12 : Code := Code.sndC c42_10
noncomputable def a42_12 : Ann := Ann.right a42_10
noncomputable def c42_15 : Code := Code.fstC c42_14
noncomputable def a42_15 : Ann := Ann.left a42_14
noncomputable def c42_16 : Code := Code.sndC c42_14
noncomputable def a42_16 : Ann := Ann.right a42_14
noncomputable def c42_17 : Code := Code.fstC c42_16
noncomputable def a42_17 : Ann := Ann.left a42_16
noncomputable def c42_35 : Code := Code.sndC c42_16
noncomputable def a42_35 : Ann := Ann.right a42_16
noncomputable def c42_18 : Code := Code.fstC c42_17
noncomputable def a42_18 : Ann := Ann.left a42_17
noncomputable def c42_19 : Code := Code.sndC c42_17
noncomputable def a42_19 : Ann := Ann.right a42_17
noncomputable def c42_20 : Code := Code.fstC c42_19
noncomputable def a42_20 : Ann := Ann.left a42_19
noncomputable def c42_21 : Code := Code.fstC c42_20
noncomputable def a42_21 : Ann := Ann.left a42_20
noncomputable def c42_22 : Code := Code.fstC c42_21
noncomputable def a42_22 : Ann := Ann.left a42_21
noncomputable def c42_23 : Code := Code.sndC c42_21
noncomputable def a42_23 : Ann := Ann.right a42_21
noncomputable def c42_24 : Code := Code.fstC c42_23
noncomputable def a42_24 : Ann := Ann.left a42_23
noncomputable def c42_27 : Code := Code.sndC c42_23
noncomputable def a42_27 : Ann := Ann.right a42_23
noncomputable def c42_25 : Code := Code.fstC c42_24
noncomputable def a42_25 : Ann := Ann.left a42_24
noncomputable def c42_26 : Code := Code.sndC c42_24
noncomputable def a42_26 : Ann := Ann.right a42_24
noncomputable def c42_28 : Code := Code.fstC c42_27
noncomputable def a42_28 : Ann := Ann.left a42_27
noncomputable def c42_34 : Code := Code.sndC c42_27
noncomputable def a42_34 : Ann := Ann.right a42_27
noncomputable def c42_29 : Code := Code.fstC c42_28
noncomputable def a42_29 : Ann := Ann.left a42_28
noncomputable def c42_30 : Code := Code.fstC c42_29
noncomputable def a42_30 : Ann := Ann.left a42_29
noncomputable def c42_31 : Code := Code.sndC c42_29
noncomputable def a42_31 : Ann := Ann.right a42_29
noncomputable def c42_32 : Code := Code.fstC c42_31
noncomputable def a42_32 : Ann := Ann.left a42_31
noncomputable def c42_33 : Code := Code.sndC c42_31
noncomputable def a42_33 : Ann := Ann.right a42_31
noncomputable def c42_36 : Code := Code.fstC c42_35
noncomputable def a42_36 : Ann := Ann.left a42_35
noncomputable def c42_37 : Code := Code.sndC c42_35
noncomputable def a42_37 : Ann := Ann.right a42_35
noncomputable def f42_L0 (G : GuardT) (lo : Nat) (x1 x2 x7 x38 x39 : DV) (σ : Store) : Option (DV × Store) :=
  codeF G PP (pol 42) CC lo (.loop c42_21) a42_20 [ud, x1, x2, ud, ud, ud, ud, x7, ud, ud, ud, ud, ud, ud, ud, ud, ud, ud, ud, ud, ud, ud, ud, ud, ud, ud, ud, ud, ud, ud, ud, ud, ud, ud, ud, ud, ud, ud, x38, x39, ud, ud, ud, ud, ud, ud, ud, ud, ud, ud, ud, ud, ud, ud, ud, ud, ud, ud, ud, ud, ud, ud, ud, ud, ud, ud] σ
   (blockC 0 a42_19 (seqC G PP (pol 42) CC lo c42_35 a42_35 (finR PP Go.Proofs.Try.f42.results.toList)))
noncomputable def F42 (G : GuardT) (lo : Nat) (x0 x1 : DV) (σ : Store) : Option (DV × Store) :=
  codeF G PP (pol 42) CC lo c42_0 a42_0 [x0, x1, ud, ud, ud, ud, ud, ud, ud, ud, ud, ud, ud, ud, ud, ud, ud, ud, ud, ud, ud, ud, ud, ud, ud, ud, ud, ud, ud, ud, ud, ud, ud, ud, ud, ud, ud, ud, ud, ud, ud, ud, ud, ud, ud, ud, ud, ud, ud, ud, ud, ud, ud, ud, ud, ud, ud, ud, ud, ud, ud, ud, ud, ud, ud, ud] σ (finR PP Go.Proofs.Try.f42.results.toList)
theorem f42_L0_eq (G : GuardT) (hG : GuardOk G) (lo : Nat) (x1 x2 x7 x38 x39 : DV) (σ : Store) : f42_L0 G lo x1 x2 x7 x38 x39 σ =
    (binOp PP .lss 3 x39 x38).bind fun x40 =>
    condK x40
     (
      (indexAddr PP 22 x1 x39).bind fun x44 =>
      (loadP PP (pol 42) (some 45) 3 x44 σ).bind fun x45 =>
      (binOp PP .add 3 x39 (DV.p (PV.int IntKind.i64 (1)))).bind fun x48 =>
      (indexAddr PP 22 x1 x48).bind fun x49 =>
      (loadP PP (pol 42) (some 50) 3 x49 σ).bind fun x50 =>
      (zeroOf PP 3).bind fun z9 =>
      (zeroOf PP 3).bind fun z10 =>
      (store PP lo 3 (DV.ptr (List.length σ) 0) x45 ((σ ++ [Row.mix z9]) ++ [Row.mix z10])).bind fun σ2 =>
      (store PP lo 3 (DV.ptr (List.length (σ ++ [Row.mix z9])) 0) x50 σ2).bind fun σ3 =>
      G _ x7 true ((load PP 3 (DV.ptr (List.length σ) 0) σ3).bind fun v => some (v, σ3)) σ3 fun x53 σ4 =>
      G _ x7 true ((load PP 3 (DV.ptr (List.length (σ ++ [Row.mix z9])) 0) σ4).bind fun v => some (v, σ4)) σ4 fun x54 σ5 =>
      G _ x7 true ((binOp PP .eql 3 x53 x54).bind fun v => some (v, σ5)) σ5 fun x55 σ6 =>
      G _ x7 true (some (x55, σ6)) σ6 fun x56 σ7 =>
      G _ x56 false ((fieldAddr PP 25 x2 2).bind fun v => some (v, σ7)) σ7 fun x57 σ8 =>
      G _ x56 false ((load PP 23 x57 σ8).bind fun v => some (v, σ8)) σ8 fun x58 σ9 =>
      G _ x56 false (some ((DV.fn 79 [(DV.ptr (List.length σ) 0), (DV.ptr (List.length (σ ++ [Row.mix z9])) 0)]), σ9)) σ9 fun x59 σ10 =>
      G _ x56 false ((pureFn CC (DV.fn 78 []) [x58, x59] σ10).bind fun v => some (v, σ10)) σ10 fun x60 σ11 =>
      G _ x7 true ((pickV x56 (DV.p (PV.bool true)) x60).bind fun v => some (v, σ11)) σ11 fun x61 σ12 =>
      (pickV x7 x61 (DV.p (PV.bool false))).bind fun x62 =>
      (binOp PP .add 3 x39 (DV.p (PV.int IntKind.i64 (1)))).bind fun x63 =>
      f42_L0 G lo x1 x2 x62 x38 x63 σ12
     )
     (
      (pureFn CC (DV.fn 56 []) [x7, (DV.p (PV.int IntKind.i64 (14)))] σ).bind fun x65 =>
      some (x65, σ)
     ) := (loopF_eq G hG).trans (by kernel_rfl)
theorem F42_eq (G : GuardT) (lo : Nat) (x0 x1 : DV) (σ : Store) : F42 G lo x0 x1 σ =
    (boxV x0).bind fun z2 =>
    (pureFn CC (DV.fn 51 []) [x1, (DV.fn 77 [(DV.ptr (List.length σ) 0)])] (σ ++ [Row.mix z2])).bind fun x13 =>
    (len PP 22 x1 (σ ++ [Row.mix z2])).bind fun x15 =>
    (binOp PP .gtr 3 x15 (DV.p (PV.int IntKind.i64 (0)))).bind fun x16 =>
    (pureFn CC (DV.fn 56 []) [x16, (DV.p (PV.int IntKind.i64 (1)))] (σ ++ [Row.mix z2])).bind fun x17 =>
    (len PP 22 x1 (σ ++ [Row.mix z2])).bind fun x19 =>
    (binOp PP .leq 3 x19 (DV.p (PV.int IntKind.i64 (60)))).bind fun x20 =>
    (pureFn CC (DV.fn 56 []) [x20, (DV.p (PV.int IntKind.i64 (2)))] (σ ++ [Row.mix z2])).bind fun x21 =>
    (unOp .not x13).bind fun x23 =>
    (pureFn CC (DV.fn 56 []) [x23, (DV.p (PV.int IntKind.i64 (3)))] (σ ++ [Row.mix z2])).bind fun x24 =>
    (buildSlice PP none 122 3 [(0, x17), (1, x21), (2, x24)] (σ ++ [Row.mix z2])).bind fun r25_1 =>
    (pureFn CC (DV.fn 54 []) [r25_1.1] r25_1.2).bind fun x26 =>
    (binOp PP .neq 30 x26 (DV.p (PV.int IntKind.i64 (0)))).bind fun x28 =>
    condK x28
     (
      some (x26, r25_1.2)
     )
     (
      (fieldAddr PP 25 (DV.ptr (List.length σ) 0) 1).bind fun x30 =>
      (load PP 22 x30 r25_1.2).bind fun x31 =>
      (indexAddr PP 22 x1 (DV.p (PV.int IntKind.i64 (0)))).bind fun x33 =>
      (load PP 3 x33 r25_1.2).bind fun x34 =>
      (pureFn CC (DV.fn 46 []) [x31, x34] r25_1.2).bind fun x35 =>
      (sliceOp PP 22 x1 (some (DV.p (PV.int IntKind.i64 (1)))) none none).bind fun x37 =>
      (len PP 22 x37 r25_1.2).bind fun x38 =>
      f42_L0 G lo x1 (DV.ptr (List.length σ) 0) x35 x38 (DV.p (PV.int IntKind.i64 (0))) r25_1.2
     ) := by kernel_rfl
theorem F42_call {lo : Nat} {x0 x1 : DV} {σ : Store} {r : DV × Store} (h : F42 guardT lo x0 x1 σ = some r) : CC lo 42 [x0, x1] σ = some r :=
  callL_run Go.Proofs.Try.func42 (by decide +kernel) rfl (by decide +kernel) h
noncomputable def c50_0 : Code := bodyOf Go.Proofs.Try.f50
noncomputable def a50_0 : Ann := (pol 50).ann
noncomputable def c50_1 : Code := Code.fstC c50_0
noncomputable def a50_1 : Ann := Ann.left a50_0
noncomputable def c50_2 : Code := Code.sndC c50_0
noncomputable def a50_2 : Ann := Ann.right a50_0
noncomputable def c50_3 : Code := Code.fstC c50_2
noncomputable def a50_3 : Ann := Ann.left a50_2
noncomputable def c50_10 : Code := Code.sndC c50_2
noncomputable def a50_10 : Ann := Ann.right a50_2
noncomputable def c50_4 : Code := Code.fstC c50_3
noncomputable def a50_4 : Ann := Ann.left a50_3
noncomputable def c50_5 : Code := Code.sndC c50_3
noncomputable def a50_5 : Ann := Ann.right a50_3
noncomputable def c50_6 : Code := Code.fstC c50_5
noncomputable def a50_6 : Ann := Ann.left a50_5
noncomputable def c50_9 : Code := Code.sndC c50_5
noncomputable def a50_9 : Ann := Ann.right a50_5
noncomputable def c50_7 : Code := Code.fstC c50_6
noncomputable def a50_7 : Ann := Ann.left a50_6
noncomputable def c50_8 : Code := Code.sndC c50_6
noncomputable def a50_8 : Ann := Ann.right a50_6
noncomputable def c50_11 : Code := Code.fstC c50_10
noncomputable def a50_11 : Ann := Ann.left a50_10
noncomputable def c50_31 : Code := Code.sndC c50_10
noncomputable def a50_31 : Ann := Ann.right a50_10
noncomputable def c50_12 : Code := Code.fstC c50_11
noncomputable def a50_12 : Ann := Ann.left a50_11
noncomputable def c50_13 : Code := Code.sndC c50_11
noncomputable def a50_13 : Ann := Ann.right a50_11
noncomputable def c50_14 : Code := Code.fstC c50_13
noncomputable def a50_14 : Ann := Ann.left a50_13
noncomputable def c50_15 : Code := Code.fstC c50_14
noncomputable def a50_15 : Ann := Ann.left a50_14
noncomputable def c50_16 : Code := Code.fstC c50_15
noncomputable def a50_16 : Ann := Ann.left a50_15
noncomputable def c50_21 : Code := Code.sndC c50_15
noncomputable def a50_21 : Ann := Ann.right a50_15
noncomputable def c50_17 : Code := Code.fstC c50_16
noncomputable def a50_17 : Ann := Ann.left a50_16
noncomputable def c50_18 : Code := Code.sndC c50_16
noncomputable def a50_18 : Ann := Ann.right a50_16
noncomputable def c50_19 : Code := Code.fstC c50_18
noncomputable def a50_19 : Ann := Ann.left a50_18
noncomputable def c50_20 : Code := Code.sndC c50_18
noncomputable def a50_20 : Ann := Ann.right a50_18
noncomputable def c50_22 : Code := Code.fstC c50_21
noncomputable def a50_22 : Ann := Ann.left a50_21
noncomputable def c50_30 : Code := Code.sndC c50_21
noncomputable def a50_30 : Ann := Ann.right a50_21
noncomputable def c50_23 : Code := Code.fstC c50_22
noncomputable def a50_23 : Ann := Ann.left a50_22
noncomputable def c50_24 : Code := Code.fstC c50_23
noncomputable def a50_24 : Ann := Ann.left a50_23
noncomputable def c50_25 : Code := Code.sndC c50_23
noncomputable def a50_25 : Ann := Ann.right a50_23
noncomputable def c50_26 : Code := Code.fstC c50_25
noncomputable def a50_26 : Ann := Ann.left a50_25
noncomputable def c50_29 : Code := Code.sndC c50_25
noncomputable def a50_29 : Ann := Ann.right a50_25
noncomputable def c50_27 : Code := Code.fstC c50_26
noncomputable def a50_27 : Ann := Ann.left a50_26
noncomputable def c50_28 : Code := Code.sndC c50_26
noncomputable def a50_28 : Ann := Ann.right a50_26
noncomputable def c50_32 : Code := Code.fstC c50_31
noncomputable def a50_32 : Ann := Ann.left a50_31
noncomputable def c50_33 : Code := Code.sndC c50_31
noncomputable def a50_33 : Ann := Ann.right a50_31
noncomputable def f50_L0 (G : GuardT) (lo : Nat) (x1 x2 x3 x7 : DV) (σ : Store) : Option (DV × Store) :=
  codeF G PP (pol 50) CC lo (.loop c50_15) a50_14 [ud, x1, x2, x3, ud, ud, ud, x7, ud, ud, ud, ud, ud, ud, ud, ud, ud, ud, ud, ud, ud, ud, ud, ud, ud, ud, ud, ud, ud, ud, ud, ud, ud, ud, ud, ud] σ
   (blockC 0 a50_13 (seqC G PP (pol 50) CC lo c50_31 a50_31 (finR PP Go.Proofs.Try.f50.results.toList)))
noncomputable def F50 (G : GuardT) (lo : Nat) (x0 x1 x2 : DV) (σ : Store) : Option (DV × Store) :=
  codeF G PP (pol 50) CC lo c50_0 a50_0 [x0, x1, x2, ud, ud, ud, ud, ud, ud, ud, ud, ud, ud, ud, ud, ud, ud, ud, ud, ud, ud, ud, ud, ud, ud, ud, ud, ud, ud, ud, ud, ud, ud, ud, ud, ud] σ (finR PP Go.Proofs.Try.f50.results.toList)
theorem f50_L0_eq (G : GuardT) (hG : GuardOk G) (lo : Nat) (x1 x2 x3 x7 : DV) (σ : Store) : f50_L0 G lo x1 x2 x3 x7 σ =
    (fieldAddr PP 25 x3 2).bind fun x12 =>
    (load PP 23 x12 σ).bind fun x13 =>
    (len PP 23 x13 σ).bind fun x14 =>
    (binOp PP .lss 3 x7 x14).bind fun x15 =>
    condK x15
     (
      (fieldAddr PP 25 x3 2).bind fun x18 =>
      (load PP 23 x18 σ).bind fun x19 =>
      (indexAddr PP 23 x19 x7).bind fun x21 =>
      (fieldAddr PP 100 x21 0).bind fun x22 =>
      (load PP 3 x22 σ).bind fun x23 =>
      (binOp PP .eql 3 x23 x1).bind fun x25 =>
      G _ x25 true ((fieldAddr PP 25 x3 2).bind fun v => some (v, σ)) σ fun x27 σ1 =>
      G _ x25 true ((load PP 23 x27 σ1).bind fun v => some (v, σ1)) σ1 fun x28 σ2 =>
      G _ x25 true (some (x7, σ2)) σ2 fun x29 σ3 =>
      G _ x25 true ((indexAddr PP 23 x28 x29).bind fun v => some (v, σ3)) σ3 fun x30 σ4 =>
      G _ x25 true ((fieldAddr PP 100 x30 1).bind fun v => some (v, σ4)) σ4 fun x31 σ5 =>
      G _ x25 true ((load PP 3 x31 σ5).bind fun v => some (v, σ5)) σ5 fun x32 σ6 =>
      G _ x25 true (some (x2, σ6)) σ6 fun x33 σ7 =>
      G _ x25 true ((binOp PP .eql 3 x32 x33).bind fun v => some (v, σ7)) σ7 fun x34 σ8 =>
      (pickV x25 x34 (DV.p (PV.bool false))).bind fun x35 =>
      condK x35
       (
        some ((DV.p (PV.bool true)), σ8)
       )
       (
        (binOp PP .add 3 x7 (DV.p (PV.int IntKind.i64 (1)))).bind fun x17 =>
        f50_L0 G lo x1 x2 x3 x17 σ8
       )
     )
     (
      some ((DV.p (PV.bool false)), σ)
     ) := (loopF_eq G hG).trans (by kernel_rfl)
theorem F50_eq (G : GuardT) (lo : Nat) (x0 x1 x2 : DV) (σ : Store) : F50 G lo x0 x1 x2 σ =
    (boxV x0).bind fun z3 =>
    (binOp PP .eql 3 x1 x2).bind fun x10 =>
    condK x10
     (
      some ((DV.p (PV.bool true)), (σ ++ [Row.mix z3]))
     )
     (
      f50_L0 G lo x1 x2 (DV.ptr (List.length σ) 0) (DV.p (PV.int IntKind.i64 (0))) (σ ++ [Row.mix z3])
     ) := by kernel_rfl
theorem F50_call {lo : Nat} {x0 x1 x2 : DV} {σ : Store} {r : DV × Store} (h : F50 guardT lo x0 x1 x2 σ = some r) : CC lo 50 [x0, x1, x2] σ = some r :=
  callL_run Go.Proofs.Try.func50 (by decide +kernel) rfl (by decide +kernel) h
noncomputable def c16_0 : Code := bodyOf Go.Proofs.Try.f16
noncomputable def a16_0 : Ann := (pol 16).ann
noncomputable def c16_1 : Code := Code.fstC c16_0
noncomputable def a16_1 : Ann := Ann.left a16_0
noncomputable def c16_2 : Code := Code.sndC c16_0
noncomputable def a16_2 : Ann := Ann.right a16_0
noncomputable def c16_3 : Code := Code.fstC c16_2
noncomputable def a16_3 : Ann := Ann.left a16_2
noncomputable def c16_10 : Code := Code.sndC c16_2
noncomputable def a16_10 : Ann := Ann.right a16_2
noncomputable def c16_4 : Code := Code.fstC c16_3
noncomputable def a16_4 : Ann := Ann.left a16_3
noncomputable def c16_5 : Code := Code.sndC c16_3
noncomputable def a16_5 : Ann := Ann.right a16_3
noncomputable def c16_6 : Code := Code.fstC c16_5
noncomputable def a16_6 : Ann := Ann.left a16_5
noncomputable def c16_9 : Code := Code.sndC c16_5
noncomputable def a16_9 : Ann := Ann.right a16_5
noncomputable def c16_7 : Code := Code.fstC c16_6
noncomputable def a16_7 : Ann := Ann.left a16_6
noncomputable def c16_8 : Code := Code.sndC c16_6
noncomputable def a16_8 : Ann := Ann.right a16_6
noncomputable def c16_11 : Code := Code.fstC c16_10
noncomputable def a16_11 : Ann := Ann.left a16_10
noncomputable def c16_18 : Code := Code.sndC c16_10
noncomputable def a16_18 : Ann := Ann.right a16_10
noncomputable def c16_12 : Code := Code.fstC c16_11
noncomputable def a16_12 : Ann := Ann.left a16_11
noncomputable def c16_13 : Code := Code.sndC c16_11
noncomputable def a16_13 : Ann := Ann.right a16_11
noncomputable def c16_14 : Code := Code.fstC c16_13
noncomputable def a16_14 : Ann := Ann.left a16_13
noncomputable def c16_17 : Code := Code.sndC c16_13
noncomputable def a16_17 : Ann := Ann.right a16_13
noncomputable def c16_15 : Code := Code.fstC c16_14
noncomputable def a16_15 : Ann := Ann.left a16_14
noncomputable def c16_16 : Code := Code.sndC c16_14
noncomputable def a16_16 : Ann := Ann.right a16_14
noncomputable def c16_19 : Code := Code.fstC c16_18
noncomputable def a16_19 : Ann := Ann.left a16_18
noncomputable def c16_39 : Code := Code.sndC c16_18
noncomputable def a16_39 : Ann := Ann.right a16_18
noncomputable def c16_20 : Code := Code.fstC c16_19
noncomputable def a16_20 : Ann := Ann.left a16_19
noncomputable def c16_21 : Code := Code.sndC c16_19
noncomputable def a16_21 : Ann := Ann.right a16_19
noncomputable def c16_22 : Code := Code.fstC c16_21
noncomputable def a16_22 : Ann := Ann.left a16_21
noncomputable def c16_23 : Code := Code.fstC c16_22
noncomputable def a16_23 : Ann := Ann.left a16_22
noncomputable def c16_24 : Code := Code.fstC c16_23
noncomputable def a16_24 : Ann := Ann.left a16_23
noncomputable def c16_29 : Code := Code.sndC c16_23
noncomputable def a16_29 : Ann := Ann.right a16_23
noncomputable def c16_25 : Code := Code.fstC c16_24
noncomputable def a16_25 : Ann := Ann.left a16_24
noncomputable def c16_26 : Code := Code.sndC c16_24
noncomputable def a16_26 : Ann := Ann.right a16_24
noncomputable def c16_27 : Code := Code.fstC c16_26
noncomputable def a16_27 : Ann := Ann.left a16_26
noncomputable def c16_28 : Code := Code.sndC c16_26
noncomputable def a16_28 : Ann := Ann.right a16_26
noncomputable def c16_30 : Code := Code.fstC c16_29
noncomputable def a16_30 : Ann := Ann.left a16_29
noncomputable def c16_38 : Code := Code.sndC c16_29
noncomputable def a16_38 : Ann := Ann.right a16_29
noncomputable def c16_31 : Code := Code.fstC c16_30
noncomputable def a16_31 : Ann := Ann.left a16_30
noncomputable def c16_32 : Code := Code.fstC c16_31
noncomputable def a16_32 : Ann := Ann.left a16_31
noncomputable def c16_33 : Code := Code.sndC c16_31
noncomputable def a16_33 : Ann := Ann.right a16_31
noncomputable def c16_34 : Code := Code.fstC c16_33
noncomputable def a16_34 : Ann := Ann.left a16_33
noncomputable def c16_37 : Code := Code.sndC c16_33
noncomputable def a16_37 : Ann := Ann.right a16_33
noncomputable def c16_35 : Code := Code.fstC c16_34
noncomputable def a16_35 : Ann := Ann.left a16_34
noncomputable def c16_36 : Code := Code.sndC c16_34
noncomputable def a16_36 : Ann := Ann.right a16_34
noncomputable def c16_40 : Code := Code.fstC c16_39
noncomputable def a16_40 : Ann := Ann.left a16_39
noncomputable def c16_47 : Code := Code.sndC c16_39
noncomputable def a16_47 : Ann := Ann.right a16_39
noncomputable def c16_41 : Code := Code.fstC c16_40
noncomputable def a16_41 : Ann := Ann.left a16_40
noncomputable def c16_42 : Code := Code.sndC c16_40
noncomputable def a16_42 : Ann := Ann.right a16_40
noncomputable def c16_43 : Code := Code.fstC c16_42
noncomputable def a16_43 : Ann := Ann.left a16_42
noncomputable def c16_46 : Code := Code.sndC c16_42
noncomputable def a16_46 : Ann := Ann.right a16_42
noncomputable def c16_44 : Code := Code.fstC c16_43
noncomputable def a16_44 : Ann := Ann.left a16_43
noncomputable def c16_45 : Code := Code.sndC c16_43
noncomputable def a16_45 : Ann := Ann.right a16_43
noncomputable def c16_48 : Code := Code.fstC c16_47
noncomputable def a16_48 : Ann := Ann.left a16_47
noncomputable def c16_68 : Code := Code.sndC c16_47
noncomputable def a16_68 : Ann := Ann.right a16_47
noncomputable def c16_49 : Code := Code.fstC c16_48
noncomputable def a16_49 : Ann := Ann.left a16_48
noncomputable def c16_50 : Code := Code.sndC c16_48
noncomputable def a16_50 : Ann := Ann.right a16_48
noncomputable def c16_51 : Code := Code.fstC c16_50
noncomputable def a16_51 : Ann := Ann.left a16_50
noncomputable def c16_52 : Code := Code.fstC c16_51
noncomputable def a16_52 : Ann := Ann.left a16_51
noncomputable def c16_53 : Code := Code.fstC c16_52
noncomputable def a16_53 : Ann := Ann.left a16_52
noncomputable def c16_58 : Code := Code.sndC c16_52
noncomputable def a16_58 : Ann := Ann.right a16_52
noncomputable def c16_54 : Code := Code.fstC c16_53
noncomputable def a16_54 : Ann := Ann.left a16_53
noncomputable def c16_55 : Code := Code.sndC c16_53
noncomputable def a16_55 : Ann := Ann.right a16_53
noncomputable def c16_56 : Code := Code.fstC c16_55
noncomputable def a16_56 : Ann := Ann.left a16_55
noncomputable def c16_57 : Code := Code.sndC c16_55
noncomputable def a16_57 : Ann := Ann.right a16_55
noncomputable def c16_59 : Code := Code.fstC c16_58
noncomputable def a16_59 : Ann := Ann.left a16_58
noncomputable def c16_67 : Code := Code.sndC c16_58
noncomputable def a16_67 : Ann := Ann.right a16_58
noncomputable def c16_60 : Code := Code.fstC c16_59
noncomputable def a16_60 : Ann := Ann.left a16_59
noncomputable def c16_61 : Code := Code.fstC c16_60
noncomputable def a16_61 : Ann := Ann.left a16_60
noncomputable def c16_62 : Code := Code.sndC c16_60
noncomputable def a16_62 : Ann := Ann.right a16_60
noncomputable def c16_63 : Code := Code.fstC c16_62
noncomputable def a16_63 : Ann := Ann.left a16_62
noncomputable def c16_66 : Code := Code.sndC c16_62
noncomputable def a16_66 : Ann := Ann.right a16_62
noncomputable def c16_64 : Code := Code.fstC c16_63
noncomputable def a16_64 : Ann := Ann.left a16_63
noncomputable def c16_65 : Code := Code.sndC c16_63
noncomputable def a16_65 : Ann := Ann.right a16_63
noncomputable def c16_69 : Code := Code.fstC c16_68
noncomputable def a16_69 : Ann := Ann.left a16_68
noncomputable def c16_70 : Code := Code.sndC c16_68
noncomputable def a16_70 : Ann := Ann.right a16_68
noncomputable def f16_L0 (G : GuardT) (lo : Nat) (x1 x2 x5 : DV) (σ : Store) : Option (DV × Store) :=
  codeF G PP (pol 16) CC lo (.loop c16_23) a16_22 [ud, x1, x2, ud, ud, x5, ud, ud, ud, ud, ud, ud, ud, ud, ud, ud, ud, ud, ud, ud, ud, ud, ud, ud, ud, ud, ud, ud, ud, ud, ud, ud, ud, ud, ud, ud, ud, ud, ud, ud, ud, ud, ud, ud, ud, ud, ud, ud, ud, ud, ud, ud, ud, ud, ud, ud] σ
   (blockC 0 a16_21 (seqC G PP (pol 16) CC lo c16_39 a16_39 (finR PP Go.Proofs.Try.f16.results.toList)))
noncomputable def f16_L1 (G : GuardT) (lo : Nat) (x1 x2 x6 : DV) (σ : Store) : Option (DV × Store) :=
  codeF G PP (pol 16) CC lo (.loop c16_52) a16_51 [ud, x1, x2, ud, ud, ud, x6, ud, ud, ud, ud, ud, ud, ud, ud, ud, ud, ud, ud, ud, ud, ud, ud, ud, ud, ud, ud, ud, ud, ud, ud, ud, ud, ud, ud, ud, ud, ud, ud, ud, ud, ud, ud, ud, ud, ud, ud, ud, ud, ud, ud, ud, ud, ud, ud, ud] σ
   (blockC 2 a16_50 (seqC G PP (pol 16) CC lo c16_68 a16_68 (finR PP Go.Proofs.Try.f16.results.toList)))
noncomputable def F16 (G : GuardT) (lo : Nat) (x0 x1 : DV) (σ : Store) : Option (DV × Store) :=
  codeF G PP (pol 16) CC lo c16_0 a16_0 [x0, x1, ud, ud, ud, ud, ud, ud, ud, ud, ud, ud, ud, ud, ud, ud, ud, ud, ud, ud, ud, ud, ud, ud, ud, ud, ud, ud, ud, ud, ud, ud, ud, ud, ud, ud, ud, ud, ud, ud, ud, ud, ud, ud, ud, ud, ud, ud, ud, ud, ud, ud, ud, ud, ud, ud] σ (finR PP Go.Proofs.Try.f16.results.toList)
theorem f16_L0_eq (G : GuardT) (hG : GuardOk G) (lo : Nat) (x1 x2 x5 : DV) (σ : Store) : f16_L0 G lo x1 x2 x5 σ =
    (len PP 22 x1 σ).bind fun x15 =>
    (binOp PP .lss 3 x5 x15).bind fun x16 =>
    condK x16
     (
      (indexAddr PP 22 x1 x5).bind fun x21 =>
      (load PP 3 x21 σ).bind fun x22 =>
      (fieldAddr PP 27 x2 0).bind fun x23 =>
      (fieldAddr PP 25 x23 0).bind fun x24 =>
      (load PP 3 x24 σ).bind fun x25 =>
      (binOp PP .sub 3 x25 (DV.p (PV.int IntKind.i64 (1)))).bind fun x26 =>
      (pureFn CC (DV.fn 22 []) [x22, (DV.p (PV.int IntKind.i64 (0))), x26] σ).bind fun x27 =>
      (unOp .not x27).bind fun x28 =>
      condK x28
       (
        some ((DV.p (PV.int IntKind.i64 (3))), σ)
       )
       (
        (binOp PP .add 3 x5 (DV.p (PV.int IntKind.i64 (1)))).bind fun x18 =>
        f16_L0 G lo x1 x2 x18 σ
       )
     )
     (
      (fieldAddr PP 27 x2 0).bind fun x29 =>
      (fieldAddr PP 25 x29 1).bind fun x30 =>
      (load PP 22 x30 σ).bind fun x31 =>
      (indexAddr PP 22 x1 (DV.p (PV.int IntKind.i64 (0)))).bind fun x33 =>
      (load PP 3 x33 σ).bind fun x34 =>
      (pureFn CC (DV.fn 49 []) [x31, x34] σ).bind fun x35 =>
      (unOp .not x35).bind fun x36 =>
      condK x36
       (
        some ((DV.p (PV.int IntKind.i64 (14))), σ)
       )
       (
        f16_L1 G lo x1 x2 (DV.p (PV.int IntKind.i64 (1))) σ
       )
     ) := (loopF_eq G hG).trans (by kernel_rfl)
theorem f16_L1_eq (G : GuardT) (hG : GuardOk G) (lo : Nat) (x1 x2 x6 : DV) (σ : Store) : f16_L1 G lo x1 x2 x6 σ =
    (len PP 22 x1 σ).bind fun x39 =>
    (binOp PP .lss 3 x6 x39).bind fun x40 =>
    condK x40
     (
      (fieldAddr PP 27 x2 0).bind fun x43 =>
      (load PP 25 x43 σ).bind fun x44 =>
      (binOp PP .sub 3 x6 (DV.p (PV.int IntKind.i64 (1)))).bind fun x47 =>
      (indexAddr PP 22 x1 x47).bind fun x48 =>
      (load PP 3 x48 σ).bind fun x49 =>
      (indexAddr PP 22 x1 x6).bind fun x52 =>
      (load PP 3 x52 σ).bind fun x53 =>
      (pureFn CC (DV.fn 50 []) [x44, x49, x53] σ).bind fun x54 =>
      (unOp .not x54).bind fun x55 =>
      condK x55
       (
        some ((DV.p (PV.int IntKind.i64 (14))), σ)
       )
       (
        (binOp PP .add 3 x6 (DV.p (PV.int IntKind.i64 (1)))).bind fun x42 =>
        f16_L1 G lo x1 x2 x42 σ
       )
     )
     (
      some ((DV.p (PV.int IntKind.i64 (0))), σ)
     ) := (loopF_eq G hG).trans (by kernel_rfl)
theorem F16_eq (G : GuardT) (lo : Nat) (x0 x1 : DV) (σ : Store) : F16 G lo x0 x1 σ =
    (boxV x0).bind fun z2 =>
    (len PP 22 x1 (σ ++ [Row.mix z2])).bind fun x8 =>
    (binOp PP .eql 3 x8 (DV.p (PV.int IntKind.i64 (0)))).bind fun x9 =>
    condK x9
     (
      some ((DV.p (PV.int IntKind.i64 (1))), (σ ++ [Row.mix z2]))
     )
     (
      (len PP 22 x1 (σ ++ [Row.mix z2])).bind fun x11 =>
      (binOp PP .gtr 3 x11 (DV.p (PV.int IntKind.i64 (60)))).bind fun x12 =>
      condK x12
       (
        some ((DV.p (PV.int IntKind.i64 (2))), (σ ++ [Row.mix z2]))
       )
       (
        f16_L0 G lo x1 (DV.ptr (List.length σ) 0) (DV.p (PV.int IntKind.i64 (0))) (σ ++ [Row.mix z2])
       )
     ) := by kernel_rfl
theorem F16_call {lo : Nat} {x0 x1 : DV} {σ : Store} {r : DV × Store} (h : F16 guardT lo x0 x1 σ = some r) : CC lo 16 [x0, x1] σ = some r :=
  callL_run Go.Proofs.Try.func16 (by decide +kernel) rfl (by decide +kernel) h
noncomputable def c43_0 : Code := bodyOf Go.Proofs.Try.f43
noncomputable def a43_0 : Ann := (pol 43).ann
noncomputable def c43_1 : Code := Code.fstC c43_0
noncomputable def a43_1 : Ann := Ann.left a43_0
noncomputable def c43_2 : Code := Code.sndC c43_0
noncomputable def a43_2 : Ann := Ann.right a43_0
noncomputable def c43_3 : Code := Code.fstC c43_2
noncomputable def a43_3 : Ann := Ann.left a43_2
noncomputable def c43_4 : Code := Code.sndC c43_2
noncomputable def a43_4 : Ann := Ann.right a43_2
noncomputable def c43_5 : Code := Code.fstC c43_4
noncomputable def a43_5 : Ann := Ann.left a43_4
noncomputable def c43_19 : Code := Code.sndC c43_4
noncomputable def a43_19 : Ann := Ann.right a43_4
noncomputable def c43_6 : Code := Code.fstC c43_5
noncomputable def a43_6 : Ann := Ann.left a43_5
noncomputable def c43_7 : Code := Code.sndC c43_5
noncomputable def a43_7 : Ann := Ann.right a43_5
noncomputable def c43_8 : Code := Code.fstC c43_7
noncomputable def a43_8 : Ann := Ann.left a43_7
noncomputable def c43_9 : Code := Code.fstC c43_8
noncomputable def a43_9 : Ann := Ann.left a43_8
noncomputable def c43_10 : Code := Code.fstC c43_9
noncomputable def a43_10 : Ann := Ann.left a43_9
noncomputable def c43_11 : Code := Code.sndC c43_9
noncomputable def a43_11 : Ann := Ann.right a43_9
noncomputable def c43_12 : Code := Code.fstC c43_11
noncomputable def a43_12 : Ann := Ann.left a43_11
noncomputable def c43_15 : Code := Code.sndC c43_11
noncomputable def a43_15 : Ann := Ann.right a43_11
noncomputable def c43_13 : Code := Code.fstC c43_12
noncomputable def a43_13 : Ann := Ann.left a43_12
noncomputable def c43_14 : Code := Code.sndC c43_12
noncomputable def a43_14 : Ann := Ann.right a43_12
noncomputable def c43_16 : Code := Code.fstC c43_15
noncomputable def a43_16 : Ann := Ann.left a43_15
noncomputable def c43_18 : Code := Code.sndC c43_15
noncomputable def a43_18 : Ann := Ann.right a43_15
noncomputable def c43_17 : Code := Code.fstC c43_16
noncomputable def a43_17 : Ann := Ann.left a43_16
noncomputable def c43_20 : Code := Code.fstC c43_19
noncomputable def a43_20 : Ann := Ann.left a43_19
noncomputable def c43_36 : Code := Code.sndC c43_19
noncomputable def a43_36 : Ann := Ann.right a43_19
noncomputable def c43_21 : Code := Code.fstC c43_20
noncomputable def a43_21 : Ann := Ann.left a43_20
noncomputable def c43_22 : Code := Code.sndC c43_20
noncomputable def a43_22 : Ann := Ann.right a43_20
noncomputable def c43_23 : Code := Code.fstC c43_22
noncomputable def a43_23 : Ann := Ann.left a43_22
noncomputable def c43_24 : Code := Code.fstC c43_23
noncomputable def a43_24 : Ann := Ann.left a43_23
noncomputable def c43_25 : Code := Code.fstC c43_24
noncomputable def a43_25 : Ann := Ann.left a43_24
noncomputable def c43_26 : Code := Code.sndC c43_24
noncomputable def a43_26 : Ann := Ann.right a43_24
noncomputable def c43_27 : Code := Code.fstC c43_26
noncomputable def a43_27 : Ann := Ann.left a43_26
noncomputable def c43_30 : Code := Code.sndC c43_26
noncomputable def a43_30 : Ann := Ann.right a43_26
noncomputable def c43_28 : Code := Code.fstC c43_27
noncomputable def a43_28 : Ann := Ann.left a43_27
noncomputable def c43_29 : Code := Code.sndC c43_27
noncomputable def a43_29 : Ann := Ann.right a43_27
noncomputable def c43_31 : Code := Code.fstC c43_30
noncomputable def a43_31 : Ann := Ann.left a43_30
noncomputable def c43_35 : Code := Code.sndC c43_30
noncomputable def a43_35 : Ann := Ann.right a43_30
noncomputable def c43_32 : Code := Code.fstC c43_31
noncomputable def a43_32 : Ann := Ann.left a43_31
noncomputable def c43_33 : Code := Code.fstC c43_32
noncomputable def a43_33 : Ann := Ann.left a43_32
noncomputable def c43_34 : Code := Code.sndC c43_32
noncomputable def a43_34 : Ann := Ann.right a43_32
noncomputable def c43_37 : Code := Code.fstC c43_36
noncomputable def a43_37 : Ann := Ann.left a43_36
noncomputable def c43_38 : Code := Code.sndC c43_36
noncomputable def a43_38 : Ann := Ann.right a43_36
noncomputable def f43_L0 (G : GuardT) (lo : Nat) (x1 x3 x11 x12 : DV) (σ : Store) : Option (DV × Store) :=
  codeF G PP (pol 43) CC lo (.loop c43_9) a43_8 [ud, x1, ud, x3, ud, ud, ud, ud, ud, ud, ud, x11, x12, ud, ud, ud, ud, ud, ud, ud, ud, ud, ud, ud, ud, ud, ud, ud, ud, ud, ud, ud, ud, ud, ud, ud, ud, ud, ud, ud, ud, ud, ud, ud, ud, ud, ud, ud, ud] σ
   (blockC 0 a43_7 (seqC G PP (pol 43) CC lo c43_19 a43_19 (finR PP Go.Proofs.Try.f43.results.toList)))
noncomputable def f43_L1 (G : GuardT) (lo : Nat) (x3 x30 x31 x32 : DV) (σ : Store) : Option (DV × Store) :=
  codeF G PP (pol 43) CC lo (.loop c43_24) a43_23 [ud, ud, ud, x3, ud, ud, ud, ud, ud, ud, ud, ud, ud, ud, ud, ud, ud, ud, ud, ud, ud, ud, ud, ud, ud, ud, ud, ud, ud, ud, x30, x31, x32, ud, ud, ud, ud, ud, ud, ud, ud, ud, ud, ud, ud, ud, ud, ud, ud] σ
   (blockC 2 a43_22 (seqC G PP (pol 43) CC lo c43_36 a43_36 (finR PP Go.Proofs.Try.f43.results.toList)))
noncomputable def F43 (G : GuardT) (lo : Nat) (x0 : DV) (σ : Store) : Option (DV × Store) :=
  codeF G PP (pol 43) CC lo c43_0 a43_0 [x0, ud, ud, ud, ud, ud, ud, ud, ud, ud, ud, ud, ud, ud, ud, ud, ud, ud, ud, ud, ud, ud, ud, ud, ud, ud, ud, ud, ud, ud, ud, ud, ud, ud, ud, ud, ud, ud, ud, ud, ud, ud, ud, ud, ud, ud, ud, ud, ud] σ (finR PP Go.Proofs.Try.f43.results.toList)
theorem f43_L0_eq (G : GuardT) (hG : GuardOk G) (lo : Nat) (x1 x3 x11 x12 : DV) (σ : Store) : f43_L0 G lo x1 x3 x11 x12 σ =
    (binOp PP .lss 3 x12 x11).bind fun x13 =>
    condK x13
     (
      (nilCheckV x3).bind fun x16 =>
      (fieldAddr PP 118 x16 1).bind fun x17 =>
      (load PP 84 x17 σ).bind fun x18 =>
      (fieldAddr PP 27 x1 1).bind fun x19 =>
      (fieldAddr PP 25 x19 0).bind fun x20 =>
      (load PP 3 x20 σ).bind fun x21 =>
      (makeSlice PP false 88 x21 x21 σ).bind fun r22_1 =>
      (buildSlice PP (some true) 84 1 [(0, r22_1.1)] r22_1.2).bind fun r23_2 =>
      (append PP lo true 84 84 x18 r23_2.1 r23_2.2).bind fun r24_3 =>
      (nilCheckV x3).bind fun x25 =>
      (fieldAddr PP 118 x25 1).bind fun x26 =>
      (store PP lo 84 x26 r24_3.1 r24_3.2).bind fun σ4 =>
      (binOp PP .add 3 x12 (DV.p (PV.int IntKind.i64 (1)))).bind fun x27 =>
      f43_L0 G lo x1 x3 x11 x27 σ4
     )
     (
      (fieldAddr PP 27 x1 1).bind fun x28 =>
      (fieldAddr PP 25 x28 2).bind fun x29 =>
      (load PP 23 x29 σ).bind fun x30 =>
      (len PP 23 x30 σ).bind fun x31 =>
      f43_L1 G lo x3 x30 x31 (DV.p (PV.int IntKind.i64 (0))) σ
     ) := (loopF_eq G hG).trans (by kernel_rfl)
theorem f43_L1_eq (G : GuardT) (hG : GuardOk G) (lo : Nat) (x3 x30 x31 x32 : DV) (σ : Store) : f43_L1 G lo x3 x30 x31 x32 σ =
    (binOp PP .lss 3 x32 x31).bind fun x33 =>
    condK x33
     (
      (indexAddr PP 23 x30 x32).bind fun x34 =>
      (load PP 100 x34 σ).bind fun x35 =>
      (zeroOf PP 100).bind fun z5 =>
      (store PP lo 100 (DV.ptr (List.length σ) 0) x35 (σ ++ [Row.mix z5])).bind fun σ5 =>
      (nilCheckV x3).bind fun x37 =>
      (fieldAddr PP 118 x37 1).bind fun x38 =>
      (load PP 84 x38 σ5).bind fun x39 =>
      (fieldAddr PP 100 (DV.ptr (List.length σ) 0) 0).bind fun x40 =>
      (load PP 3 x40 σ5).bind fun x41 =>
      (indexAddr PP 84 x39 x41).bind fun x42 =>
      (load PP 88 x42 σ5).bind fun x43 =>
      (fieldAddr PP 100 (DV.ptr (List.length σ) 0) 1).bind fun x44 =>
      (load PP 3 x44 σ5).bind fun x45 =>
      (indexAddr PP 88 x43 x45).bind fun x46 =>
      (store PP lo 4 x46 (DV.p (PV.bool true)) σ5).bind fun σ6 =>
      (binOp PP .add 3 x32 (DV.p (PV.int IntKind.i64 (1)))).bind fun x47 =>
      f43_L1 G lo x3 x30 x31 x47 σ6
     )
     (
      some (x3, σ)
     ) := (loopF_eq G hG).trans (by kernel_rfl)
theorem F43_eq (G : GuardT) (lo : Nat) (x0 : DV) (σ : Store) : F43 G lo x0 σ =
    (boxV x0).bind fun z1 =>
    (load PP 27 (DV.ptr (List.length σ) 0) (σ ++ [Row.mix z1])).bind fun x6 =>
    (build PP 118 [(0, x6)]).bind fun x7 =>
    (boxV x7).bind fun z8 =>
    (fieldAddr PP 27 (DV.ptr (List.length σ) 0) 1).bind fun x9 =>
    (fieldAddr PP 25 x9 0).bind fun x10 =>
    (load PP 3 x10 ((σ ++ [Row.mix z1]) ++ [Row.mix z8])).bind fun x11 =>
    f43_L0 G lo (DV.ptr (List.length σ) 0) (DV.ptr (List.length (σ ++ [Row.mix z1])) 0) x11 (DV.p (PV.int IntKind.i64 (0))) ((σ ++ [Row.mix z1]) ++ [Row.mix z8]) := by kernel_rfl
theorem F43_call {lo : Nat} {x0 : DV} {σ : Store} {r : DV × Store} (h : F43 guardT lo x0 σ = some r) : CC lo 43 [x0] σ = some r :=
  callL_run Go.Proofs.Try.func43 (by decide +kernel) rfl (by decide +kernel) h
noncomputable def c45_0 : Code := bodyOf Go.Proofs.Try.f45
noncomputable def a45_0 : Ann := (pol 45).ann
noncomputable def c45_1 : Code := Code.fstC c45_0
noncomputable def a45_1 : Ann := Ann.left a45_0
noncomputable def c45_2 : Code := Code.sndC c45_0
noncomputable def a45_2 : Ann := Ann.right a45_0
noncomputable def c45_3 : Code := Code.fstC c45_2
noncomputable def a45_3 : Ann := Ann.left a45_2
noncomputable def c45_4 : Code := Code.sndC c45_2
noncomputable def a45_4 : Ann := Ann.right a45_2
noncomputable def F45 (G : GuardT) (lo : Nat) (x0 x1 x2 : DV) (σ : Store) : Option (DV × Store) :=
  codeF G PP (pol 45) CC lo c45_0 a45_0 [x0, x1, x2, ud, ud, ud, ud, ud, ud, ud, ud, ud, ud, ud, ud, ud, ud, ud, ud, ud, ud, ud] σ (finR PP Go.Proofs.Try.f45.results.toList)
theorem F45_eq (G : GuardT) (lo : Nat) (x0 x1 x2 : DV) (σ : Store) : F45 G lo x0 x1 x2 σ =
    (binOp PP .eql 3 x1 x2).bind fun x9 =>
    G _ x9 false (some (x0, σ)) σ fun x11 σ1 =>
    G _ x9 false ((nilCheckV x11).bind fun v => some (v, σ1)) σ1 fun x12 σ2 =>
    G _ x9 false ((fieldAddr PP 118 x12 1).bind fun v => some (v, σ2)) σ2 fun x13 σ3 =>
    G _ x9 false ((load PP 84 x13 σ3).bind fun v => some (v, σ3)) σ3 fun x14 σ4 =>
    G _ x9 false (some (x1, σ4)) σ4 fun x15 σ5 =>
    G _ x9 false ((indexAddr PP 84 x14 x15).bind fun v => some (v, σ5)) σ5 fun x16 σ6 =>
    G _ x9 false ((load PP 88 x16 σ6).bind fun v => some (v, σ6)) σ6 fun x17 σ7 =>
    G _ x9 false (some (x2, σ7)) σ7 fun x18 σ8 =>
    G _ x9 false ((indexAddr PP 88 x17 x18).bind fun v => some (v, σ8)) σ8 fun x19 σ9 =>
    G _ x9 false ((load PP 4 x19 σ9).bind fun v => some (v, σ9)) σ9 fun x20 σ10 =>
    (pickV x9 (DV.p (PV.bool true)) x20).bind fun x21 =>
    some (x21, σ10) := by kernel_rfl
theorem F45_call {lo : Nat} {x0 x1 x2 : DV} {σ : Store} {r : DV × Store} (h : F45 guardT lo x0 x1 x2 σ = some r) : CC lo 45 [x0, x1, x2] σ = some r :=
  callL_run Go.Proofs.Try.func45 (by decide +kernel) rfl (by decide +kernel) h
noncomputable def c44_0 : Code := bodyOf Go.Proofs.Try.f44
noncomputable def a44_0 : Ann := (pol 44).ann
noncomputable def c44_1 : Code := Code.fstC c44_0
noncomputable def a44_1 : Ann := Ann.left a44_0
noncomputable def c44_2 : Code := Code.sndC c44_0
noncomputable def a44_2 : Ann := Ann.right a44_0
noncomputable def c44_3 : Code := Code.fstC c44_2
noncomputable def a44_3 : Ann := Ann.left a44_2
noncomputable def c44_4 : Code := Code.sndC c44_2
noncomputable def a44_4 : Ann := Ann.right a44_2
noncomputable def F44 (G : GuardT) (lo : Nat) (x0 : DV) (σ : Store) : Option (DV × Store) :=
  codeF G PP (pol 44) CC lo c44_0 a44_0 [x0, ud, ud, ud] σ (finR PP Go.Proofs.Try.f44.results.toList)
theorem F44_eq (G : GuardT) (lo : Nat) (x0 : DV) (σ : Store) : F44 G lo x0 σ =
    (boxV x0).bind fun z1 =>
    some ((DV.fn 80 [(DV.ptr (List.length σ) 0)]), (σ ++ [Row.mix z1])) := by kernel_rfl
theorem F44_call {lo : Nat} {x0 : DV} {σ : Store} {r : DV × Store} (h : F44 guardT lo x0 σ = some r) : CC lo 44 [x0] σ = some r :=
  callL_run Go.Proofs.Try.func44 (by decide +kernel) rfl (by decide +kernel) h
noncomputable def c18_0 : Code := bodyOf Go.Proofs.Try.f18
noncomputable def a18_0 : Ann := (pol 18).ann
noncomputable def c18_1 : Code := Code.fstC c18_0
noncomputable def a18_1 : Ann := Ann.left a18_0
noncomputable def c18_2 : Code := Code.sndC c18_0
noncomputable def a18_2 : Ann := Ann.right a18_0
noncomputable def c18_3 : Code := Code.fstC c18_2
noncomputable def a18_3 : Ann := Ann.left a18_2
noncomputable def c18_10 : Code := Code.sndC c18_2
noncomputable def a18_10 : Ann := Ann.right a18_2
noncomputable def c18_4 : Code := Code.fstC c18_3
noncomputable def a18_4 : Ann := Ann.left a18_3
noncomputable def c18_5 : Code := Code.sndC c18_3
noncomputable def a18_5 : Ann := Ann.right a18_3
noncomputable def c18_6 : Code := Code.fstC c18_5
noncomputable def a18_6 : Ann := Ann.left a18_5
noncomputable def c18_9 : Code := Code.sndC c18_5
noncomputable def a18_9 : Ann := Ann.right a18_5
noncomputable def c18_7 : Code := Code.fstC c18_6
noncomputable def a18_7 : Ann := Ann.left a18_6
noncomputable def c18_8 : Code := Code.sndC c18_6
noncomputable def a18_8 : Ann := Ann.right a18_6
noncomputable def c18_11 : Code := Code.fstC c18_10
noncomputable def a18_11 : Ann := Ann.left a18_10
noncomputable def c18_31 : Code := Code.sndC c18_10
noncomputable def a18_31 : Ann := Ann.right a18_10
noncomputable def c18_12 : Code := Code.fstC c18_11
noncomputable def a18_12 : Ann := Ann.left a18_11
noncomputable def c18_13 : Code := Code.sndC c18_11
noncomputable def a18_13 : Ann := Ann.right a18_11
noncomputable def c18_14 : Code := Code.fstC c18_13
noncomputable def a18_14 : Ann := Ann.left a18_13
noncomputable def c18_15 : Code := Code.fstC c18_14
noncomputable def a18_15 : Ann := Ann.left a18_14
noncomputable def c18_16 : Code := Code.fstC c18_15
noncomputable def a18_16 : Ann := Ann.left a18_15
noncomputable def c18_21 : Code := Code.sndC c18_15
noncomputable def a18_21 : Ann := Ann.right a18_15
noncomputable def c18_17 : Code := Code.fstC c18_16
noncomputable def a18_17 : Ann := Ann.left a18_16
noncomputable def c18_18 : Code := Code.sndC c18_16
noncomputable def a18_18 : Ann := Ann.right a18_16
noncomputable def c18_19 : Code := Code.fstC c18_18
noncomputable def a18_19 : Ann := Ann.left a18_18
noncomputable def c18_20 : Code := Code.sndC c18_18
noncomputable def a18_20 : Ann := Ann.right a18_18
noncomputable def c18_22 : Code := Code.fstC c18_21
noncomputable def a18_22 : Ann := Ann.left a18_21
noncomputable def c18_30 : Code := Code.sndC c18_21
noncomputable def a18_30 : Ann := Ann.right a18_21
noncomputable def c18_23 : Code := Code.fstC c18_22
noncomputable def a18_23 : Ann := Ann.left a18_22
noncomputable def c18_24 : Code := Code.fstC c18_23
noncomputable def a18_24 : Ann := Ann.left a18_23
noncomputable def c18_25 : Code := Code.sndC c18_23
noncomputable def a18_25 : Ann := Ann.right a18_23
noncomputable def c18_26 : Code := Code.fstC c18_25
noncomputable def a18_26 : Ann := Ann.left a18_25
noncomputable def c18_29 : Code := Code.sndC c18_25
noncomputable def a18_29 : Ann := Ann.right a18_25
noncomputable def c18_27 : Code := Code.fstC c18_26
noncomputable def a18_27 : Ann := Ann.left a18_26
noncomputable def c18_28 : Code := Code.sndC c18_26
noncomputable def a18_28 : Ann := Ann.right a18_26
noncomputable def c18_32 : Code := Code.fstC c18_31
noncomputable def a18_32 : Ann := Ann.left a18_31
noncomputable def c18_33 : Code := Code.sndC c18_31
noncomputable def a18_33 : Ann := Ann.right a18_31
noncomputable def f18_L0 (G : GuardT) (lo : Nat) (x0 x1 x5 : DV) (σ : Store) : Option (DV × Store) :=
  codeF G PP (pol 18) CC lo (.loop c18_15) a18_14 [x0, x1, ud, ud, ud, x5, ud, ud, ud, ud, ud, ud, ud, ud, ud, ud, ud, ud, ud, ud, ud, ud, ud, ud, ud, ud] σ
   (blockC 0 a18_13 (seqC G PP (pol 18) CC lo c18_31 a18_31 (finR PP Go.Proofs.Try.f18.results.toList)))
noncomputable def F18 (G : GuardT) (lo : Nat) (x0 x1 : DV) (σ : Store) : Option (DV × Store) :=
  codeF G PP (pol 18) CC lo c18_0 a18_0 [x0, x1, ud, ud, ud, ud, ud, ud, ud, ud, ud, ud, ud, ud, ud, ud, ud, ud, ud, ud, ud, ud, ud, ud, ud, ud] σ (finR PP Go.Proofs.Try.f18.results.toList)
theorem f18_L0_eq (G : GuardT) (hG : GuardOk G) (lo : Nat) (x0 x1 x5 : DV) (σ : Store) : f18_L0 G lo x0 x1 x5 σ =
    (len PP 22 x0 σ).bind fun x13 =>
    (binOp PP .lss 3 x5 x13).bind fun x14 =>
    condK x14
     (
      (indexAddr PP 22 x0 x5).bind fun x19 =>
      (load PP 3 x19 σ).bind fun x20 =>
      (indexAddr PP 22 x1 x5).bind fun x23 =>
      (load PP 3 x23 σ).bind fun x24 =>
      (binOp PP .neq 3 x20 x24).bind fun x25 =>
      condK x25
       (
        some ((DV.p (PV.bool false)), σ)
       )
       (
        (binOp PP .add 3 x5 (DV.p (PV.int IntKind.i64 (1)))).bind fun x16 =>
        f18_L0 G lo x0 x1 x16 σ
       )
     )
     (
      some ((DV.p (PV.bool true)), σ)
     ) := (loopF_eq G hG).trans (by kernel_rfl)
theorem F18_eq (G : GuardT) (lo : Nat) (x0 x1 : DV) (σ : Store) : F18 G lo x0 x1 σ =
    (len PP 22 x0 σ).bind fun x7 =>
    (len PP 22 x1 σ).bind fun x9 =>
    (binOp PP .neq 3 x7 x9).bind fun x10 =>
    condK x10
     (
      some ((DV.p (PV.bool false)), σ)
     )
     (
      f18_L0 G lo x0 x1 (DV.p (PV.int IntKind.i64 (0))) σ
     ) := by kernel_rfl
theorem F18_call {lo : Nat} {x0 x1 : DV} {σ : Store} {r : DV × Store} (h : F18 guardT lo x0 x1 σ = some r) : CC lo 18 [x0, x1] σ = some r :=
  callL_run Go.Proofs.Try.func18 (by decide +kernel) rfl (by decide +kernel) h
noncomputable def c14_0 : Code := bodyOf Go.Proofs.Try.f14
noncomputable def a14_0 : Ann := (pol 14).ann
noncomputable def c14_1 : Code := Code.fstC c14_0
noncomputable def a14_1 : Ann := Ann.left a14_0
noncomputable def c14_2 : Code := Code.sndC c14_0
noncomputable def a14_2 : Ann := Ann.right a14_0
noncomputable def c14_3 : Code := Code.fstC c14_2
noncomputable def a14_3 : Ann := Ann.left a14_2
noncomputable def c14_4 : Code := Code.sndC c14_2
noncomputable def a14_4 : Ann := Ann.right a14_2
noncomputable def F14 (G : GuardT) (lo : Nat) (x0 : DV) (σ : Store) : Option (DV × Store) :=
  codeF G PP (pol 14) CC lo c14_0 a14_0 [x0, ud, ud, ud, ud, ud] σ (finR PP Go.Proofs.Try.f14.results.toList)
theorem F14_eq (G : GuardT) (lo : Nat) (x0 : DV) (σ : Store) : F14 G lo x0 σ =
    (buildSlice PP none 22 0 [] σ).bind fun r3_1 =>
    (append PP lo false 22 22 r3_1.1 x0 r3_1.2).bind fun r5_2 =>
    some (r5_2.1, r5_2.2) := by kernel_rfl
theorem F14_call {lo : Nat} {x0 : DV} {σ : Store} {r : DV × Store} (h : F14 guardT lo x0 σ = some r) : CC lo 14 [x0] σ = some r :=
  callL_run Go.Proofs.Try.func14 (by decide +kernel) rfl (by decide +kernel) h
noncomputable def c47_0 : Code := bodyOf Go.Proofs.Try.f47
noncomputable def a47_0 : Ann := (pol 47).ann
noncomputable def c47_1 : Code := Code.fstC c47_0
noncomputable def a47_1 : Ann := Ann.left a47_0
noncomputable def c47_2 : Code := Code.sndC c47_0
noncomputable def a47_2 : Ann := Ann.right a47_0
noncomputable def c47_3 : Code := Code.fstC c47_2
noncomputable def a47_3 : Ann := Ann.left a47_2
noncomputable def c47_4 : Code := Code.sndC c47_2
noncomputable def a47_4 : Ann := Ann.right a47_2
noncomputable def c47_5 : Code := Code.fstC c47_4
noncomputable def a47_5 : Ann := Ann.left a47_4
noncomputable def c47_6 : Code := Code.sndC c47_4
noncomputable def a47_6 : Ann := Ann.right a47_4
noncomputable def F47 (G : GuardT) (lo : Nat) (x0 : DV) (σ : Store) : Option (DV × Store) :=
  codeF G PP (pol 47) CC lo c47_0 a47_0 [x0, ud, ud, ud, ud, ud, ud, ud, ud, ud, ud, ud, ud] σ (finR PP Go.Proofs.Try.f47.results.toList)
theorem F47_eq (G : GuardT) (lo : Nat) (x0 : DV) (σ : Store) : F47 G lo x0 σ =
    (boxV x0).bind fun z1 =>
    (zeroOf PP 25).bind fun z2 =>
    (fieldAddr PP 25 (DV.ptr (List.length σ) 0) 1).bind fun x3 =>
    (load PP 22 x3 ((σ ++ [Row.mix z1]) ++ [Row.mix z2])).bind fun x4 =>
    (pureFn CC (DV.fn 14 []) [x4] ((σ ++ [Row.mix z1]) ++ [Row.mix z2])).bind fun x5 =>
    (buildSlice PP none 23 0 [] ((σ ++ [Row.mix z1]) ++ [Row.mix z2])).bind fun r6_1 =>
    (fieldAddr PP 25 (DV.ptr (List.length σ) 0) 2).bind fun x7 =>
    (load PP 23 x7 r6_1.2).bind fun x8 =>
    (append PP lo false 23 23 r6_1.1 x8 r6_1.2).bind fun r9_2 =>
    (fieldAddr PP 25 (DV.ptr (List.length σ) 0) 1).bind fun x10 =>
    (store PP lo 22 x10 x5 r9_2.2).bind fun σ3 =>
    (fieldAddr PP 25 (DV.ptr (List.length σ) 0) 2).bind fun x11 =>
    (store PP lo 23 x11 r9_2.1 σ3).bind fun σ4 =>
    (load PP 25 (DV.ptr (List.length σ) 0) σ4).bind fun x12 =>
    (store PP lo 25 (DV.ptr (List.length (σ ++ [Row.mix z1])) 0) x12 σ4).bind fun σ5 =>
    (cellV PP 25 (DV.ptr (List.length (σ ++ [Row.mix z1])) 0) σ5).bind fun v0 =>
    some (v0, σ5) := by kernel_rfl
theorem F47_call {lo : Nat} {x0 : DV} {σ : Store} {r : DV × Store} (h : F47 guardT lo x0 σ = some r) : CC lo 47 [x0] σ = some r :=
  callL_run Go.Proofs.Try.func47 (by decide +kernel) rfl (by decide +kernel) h
noncomputable def c13_0 : Code := bodyOf Go.Proofs.Try.f13
noncomputable def a13_0 : Ann := (pol 13).ann
noncomputable def c13_1 : Code := Code.fstC c13_0
noncomputable def a13_1 : Ann := Ann.left a13_0
noncomputable def c13_2 : Code := Code.sndC c13_0
noncomputable def a13_2 : Ann := Ann.right a13_0
noncomputable def c13_3 : Code := Code.fstC c13_2
noncomputable def a13_3 : Ann := Ann.left a13_2
noncomputable def c13_4 : Code := Code.sndC c13_2
noncomputable def a13_4 : Ann := Ann.right a13_2
noncomputable def F13 (G : GuardT) (lo : Nat) (x0 : DV) (σ : Store) : Option (DV × Store) :=
  codeF G PP (pol 13) CC lo c13_0 a13_0 [x0, ud, ud, ud, ud, ud, ud, ud, ud, ud, ud, ud, ud, ud, ud, ud] σ (finR PP Go.Proofs.Try.f13.results.toList)
theorem F13_eq (G : GuardT) (lo : Nat) (x0 : DV) (σ : Store) : F13 G lo x0 σ =
    (boxV x0).bind fun z1 =>
    (zeroOf PP 27).bind fun z2 =>
    (fieldAddr PP 27 (DV.ptr (List.length σ) 0) 0).bind fun x3 =>
    (load PP 25 x3 ((σ ++ [Row.mix z1]) ++ [Row.mix z2])).bind fun x4 =>
    (pureFn CC (DV.fn 47 []) [x4] ((σ ++ [Row.mix z1]) ++ [Row.mix z2])).bind fun x5 =>
    (fieldAddr PP 27 (DV.ptr (List.length σ) 0) 1).bind fun x6 =>
    (load PP 25 x6 ((σ ++ [Row.mix z1]) ++ [Row.mix z2])).bind fun x7 =>
    (pureFn CC (DV.fn 47 []) [x7] ((σ ++ [Row.mix z1]) ++ [Row.mix z2])).bind fun x8 =>
    (fieldAddr PP 27 (DV.ptr (List.length σ) 0) 2).bind fun x9 =>
    (load PP 22 x9 ((σ ++ [Row.mix z1]) ++ [Row.mix z2])).bind fun x10 =>
    (pureFn CC (DV.fn 14 []) [x10] ((σ ++ [Row.mix z1]) ++ [Row.mix z2])).bind fun x11 =>
    (fieldAddr PP 27 (DV.ptr (List.length σ) 0) 3).bind fun x12 =>
    (load PP 22 x12 ((σ ++ [Row.mix z1]) ++ [Row.mix z2])).bind fun x13 =>
    (pureFn CC (DV.fn 14 []) [x13] ((σ ++ [Row.mix z1]) ++ [Row.mix z2])).bind fun x14 =>
    (build PP 27 [(0, x5), (1, x8), (2, x11), (3, x14)]).bind fun x15 =>
    (store PP lo 27 (DV.ptr (List.length (σ ++ [Row.mix z1])) 0) x15 ((σ ++ [Row.mix z1]) ++ [Row.mix z2])).bind fun σ1 =>
    (cellV PP 27 (DV.ptr (List.length (σ ++ [Row.mix z1])) 0) σ1).bind fun v0 =>
    some (v0, σ1) := by kernel_rfl
theorem F13_call {lo : Nat} {x0 : DV} {σ : Store} {r : DV × Store} (h : F13 guardT lo x0 σ = some r) : CC lo 13 [x0] σ = some r :=
  callL_run Go.Proofs.Try.func13 (by decide +kernel) rfl (by decide +kernel) h
noncomputable def c19_0 : Code := bodyOf Go.Proofs.Try.f19
noncomputable def a19_0 : Ann := (pol 19).ann
noncomputable def c19_1 : Code := Code.fstC c19_0
noncomputable def a19_1 : Ann := Ann.left a19_0
noncomputable def c19_2 : Code := Code.sndC c19_0
noncomputable def a19_2 : Ann := Ann.right a19_0
noncomputable def c19_3 : Code := Code.fstC c19_2
noncomputable def a19_3 : Ann := Ann.left a19_2
noncomputable def c19_4 : Code := Code.sndC c19_2
noncomputable def a19_4 : Ann := Ann.right a19_2
noncomputable def F19 (G : GuardT) (lo : Nat) (x0 : DV) (σ : Store) : Option (DV × Store) :=
  codeF G PP (pol 19) CC lo c19_0 a19_0 [x0, ud, ud, ud, ud, ud, ud, ud, ud, ud, ud, ud, ud, ud, ud, ud, ud, ud, ud, ud, ud, ud, ud] σ (finR PP Go.Proofs.Try.f19.results.toList)
theorem F19_eq (G : GuardT) (lo : Nat) (x0 : DV) (σ : Store) : F19 G lo x0 σ =
    (boxV x0).bind fun z1 =>
    (fieldAddr PP 25 (DV.ptr (List.length σ) 0) 0).bind fun x3 =>
    (load PP 3 x3 (σ ++ [Row.mix z1])).bind fun x4 =>
    (binOp PP .leq 3 x4 (DV.p (PV.int IntKind.i64 (7)))).bind fun x5 =>
    G _ x5 false ((fieldAddr PP 25 (DV.ptr (List.length σ) 0) 0).bind fun v => some (v, (σ ++ [Row.mix z1]))) (σ ++ [Row.mix z1]) fun x7 σ1 =>
    G _ x5 false ((load PP 3 x7 σ1).bind fun v => some (v, σ1)) σ1 fun x8 σ2 =>
    G _ x5 false ((binOp PP .gtr 3 x8 (DV.p (PV.int IntKind.i64 (40)))).bind fun v => some (v, σ2)) σ2 fun x9 σ3 =>
    (pickV x5 (DV.p (PV.bool true)) x9).bind fun x10 =>
    G _ x10 true ((fieldAddr PP 25 (DV.ptr (List.length σ) 0) 1).bind fun v => some (v, σ3)) σ3 fun x12 σ4 =>
    G _ x10 true ((load PP 22 x12 σ4).bind fun v => some (v, σ4)) σ4 fun x13 σ5 =>
    G _ x10 true ((len PP 22 x13 σ5).bind fun v => some (v, σ5)) σ5 fun x14 σ6 =>
    G _ x10 true ((binOp PP .leq 3 x14 (DV.p (PV.int IntKind.i64 (45)))).bind fun v => some (v, σ6)) σ6 fun x15 σ7 =>
    (pickV x10 x15 (DV.p (PV.bool false))).bind fun x16 =>
    G _ x16 true ((fieldAddr PP 25 (DV.ptr (List.length σ) 0) 2).bind fun v => some (v, σ7)) σ7 fun x18 σ8 =>
    G _ x16 true ((load PP 23 x18 σ8).bind fun v => some (v, σ8)) σ8 fun x19 σ9 =>
    G _ x16 true ((len PP 23 x19 σ9).bind fun v => some (v, σ9)) σ9 fun x20 σ10 =>
    G _ x16 true ((binOp PP .leq 3 x20 (DV.p (PV.int IntKind.i64 (24)))).bind fun v => some (v, σ10)) σ10 fun x21 σ11 =>
    (pickV x16 x21 (DV.p (PV.bool false))).bind fun x22 =>
    some (x22, σ11) := by kernel_rfl
theorem F19_call {lo : Nat} {x0 : DV} {σ : Store} {r : DV × Store} (h : F19 guardT lo x0 σ = some r) : CC lo 19 [x0] σ = some r :=
  callL_run Go.Proofs.Try.func19 (by decide +kernel) rfl (by decide +kernel) h
noncomputable def c11_0 : Code := bodyOf Go.Proofs.Try.f11
noncomputable def a11_0 : Ann := (pol 11).ann
noncomputable def c11_1 : Code := Code.fstC c11_0
noncomputable def a11_1 : Ann := Ann.left a11_0
noncomputable def c11_2 : Code := Code.sndC c11_0
noncomputable def a11_2 : Ann := Ann.right a11_0
noncomputable def c11_3 : Code := Code.fstC c11_2
noncomputable def a11_3 : Ann := Ann.left a11_2
noncomputable def c11_4 : Code := Code.sndC c11_2
noncomputable def a11_4 : Ann := Ann.right a11_2
noncomputable def F11 (G : GuardT) (lo : Nat) (x0 : DV) (σ : Store) : Option (DV × Store) :=
  codeF G PP (pol 11) CC lo c11_0 a11_0 [x0, ud, ud, ud, ud, ud, ud, ud, ud, ud, ud, ud, ud, ud, ud, ud, ud, ud, ud, ud, ud, ud, ud] σ (finR PP Go.Proofs.Try.f11.results.toList)
theorem F11_eq (G : GuardT) (lo : Nat) (x0 : DV) (σ : Store) : F11 G lo x0 σ =
    (boxV x0).bind fun z1 =>
    (fieldAddr PP 27 (DV.ptr (List.length σ) 0) 0).bind fun x3 =>
    (load PP 25 x3 (σ ++ [Row.mix z1])).bind fun x4 =>
    (pureFn CC (DV.fn 19 []) [x4] (σ ++ [Row.mix z1])).bind fun x5 =>
    G _ x5 true ((fieldAddr PP 27 (DV.ptr (List.length σ) 0) 1).bind fun v => some (v, (σ ++ [Row.mix z1]))) (σ ++ [Row.mix z1]) fun x7 σ1 =>
    G _ x5 true ((load PP 25 x7 σ1).bind fun v => some (v, σ1)) σ1 fun x8 σ2 =>
    G _ x5 true ((pureFn CC (DV.fn 19 []) [x8] σ2).bind fun v => some (v, σ2)) σ2 fun x9 σ3 =>
    (pickV x5 x9 (DV.p (PV.bool false))).bind fun x10 =>
    G _ x10 true ((fieldAddr PP 27 (DV.ptr (List.length σ) 0) 2).bind fun v => some (v, σ3)) σ3 fun x12 σ4 =>
    G _ x10 true ((load PP 22 x12 σ4).bind fun v => some (v, σ4)) σ4 fun x13 σ5 =>
    G _ x10 true ((len PP 22 x13 σ5).bind fun v => some (v, σ5)) σ5 fun x14 σ6 =>
    G _ x10 true ((binOp PP .leq 3 x14 (DV.p (PV.int IntKind.i64 (45)))).bind fun v => some (v, σ6)) σ6 fun x15 σ7 =>
    (pickV x10 x15 (DV.p (PV.bool false))).bind fun x16 =>
    G _ x16 true ((fieldAddr PP 27 (DV.ptr (List.length σ) 0) 3).bind fun v => some (v, σ7)) σ7 fun x18 σ8 =>
    G _ x16 true ((load PP 22 x18 σ8).bind fun v => some (v, σ8)) σ8 fun x19 σ9 =>
    G _ x16 true ((len PP 22 x19 σ9).bind fun v => some (v, σ9)) σ9 fun x20 σ10 =>
    G _ x16 true ((binOp PP .leq 3 x20 (DV.p (PV.int IntKind.i64 (45)))).bind fun v => some (v, σ10)) σ10 fun x21 σ11 =>
    (pickV x16 x21 (DV.p (PV.bool false))).bind fun x22 =>
    some (x22, σ11) := by kernel_rfl
theorem F11_call {lo : Nat} {x0 : DV} {σ : Store} {r : DV × Store} (h : F11 guardT lo x0 σ = some r) : CC lo 11 [x0] σ = some r :=
  callL_run Go.Proofs.Try.func11 (by decide +kernel) rfl (by decide +kernel) h
noncomputable def c3_0 : Code := bodyOf Go.Proofs.Try.f3
noncomputable def a3_0 : Ann := (pol 3).ann
noncomputable def c3_1 : Code := Code.fstC c3_0
noncomputable def a3_1 : Ann := Ann.left a3_0
noncomputable def c3_2 : Code := Code.sndC c3_0
noncomputable def a3_2 : Ann := Ann.right a3_0
noncomputable def c3_3 : Code := Code.fstC c3_2
noncomputable def a3_3 : Ann := Ann.left a3_2
noncomputable def c3_10 : Code := Code.sndC c3_2
noncomputable def a3_10 : Ann := Ann.right a3_2
noncomputable def c3_4 : Code := Code.fstC c3_3
noncomputable def a3_4 : Ann := Ann.left a3_3
noncomputable def c3_5 : Code := Code.sndC c3_3
noncomputable def a3_5 : Ann := Ann.right a3_3
noncomputable def c3_6 : Code := Code.fstC c3_5
noncomputable def a3_6 : Ann := Ann.left a3_5
noncomputable def c3_9 : Code := Code.sndC c3_5
noncomputable def a3_9 : Ann := Ann.right a3_5
noncomputable def c3_7 : Code := Code.fstC c3_6
noncomputable def a3_7 : Ann := Ann.left a3_6
noncomputable def c3_8 : Code := Code.sndC c3_6
noncomputable def a3_8 : Ann := Ann.right a3_6
noncomputable def c3_11 : Code := Code.fstC c3_10
noncomputable def a3_11 : Ann := Ann.left a3_10
noncomputable def c3_18 : Code := Code.sndC c3_10
noncomputable def a3_18 : Ann := Ann.right a3_10
noncomputable def c3_12 : Code := Code.fstC c3_11
noncomputable def a3_12 : Ann := Ann.left a3_11
noncomputable def c3_13 : Code := Code.sndC c3_11
noncomputable def a3_13 : Ann := Ann.right a3_11
noncomputable def c3_14 : Code := Code.fstC c3_13
noncomputable def a3_14 : Ann := Ann.left a3_13
noncomputable def c3_17 : Code := Code.sndC c3_13
noncomputable def a3_17 : Ann := Ann.right a3_13
noncomputable def c3_15 : Code := Code.fstC c3_14
noncomputable def a3_15 : Ann := Ann.left a3_14
noncomputable def c3_16 : Code := Code.sndC c3_14
noncomputable def a3_16 : Ann := Ann.right a3_14
noncomputable def c3_19 : Code := Code.fstC c3_18
noncomputable def a3_19 : Ann := Ann.left a3_18
noncomputable def c3_20 : Code := Code.sndC c3_18
noncomputable def a3_20 : Ann := Ann.right a3_18
noncomputable def c3_21 : Code := Code.fstC c3_20
noncomputable def a3_21 : Ann := Ann.left a3_20
noncomputable def c3_22 : Code := Code.sndC c3_20
noncomputable def a3_22 : Ann := Ann.right a3_20
noncomputable def c3_23 : Code := Code.fstC c3_22
noncomputable def a3_23 : Ann := Ann.left a3_22
noncomputable def c3_28 : Code := Code.sndC c3_22
noncomputable def a3_28 : Ann := Ann.right a3_22
noncomputable def c3_24 : Code := Code.fstC c3_23
noncomputable def a3_24 : Ann := Ann.left a3_23
noncomputable def c3_25 : Code := Code.sndC c3_23
noncomputable def a3_25 : Ann := Ann.right a3_23
noncomputable def c3_26 : Code := Code.fstC c3_25
noncomputable def a3_26 : Ann := Ann.left a3_25
noncomputable def c3_27 : Code := Code.sndC c3_25
noncomputable def a3_27 : Ann := Ann.right a3_25
noncomputable def c3_29 : Code := Code.fstC c3_28
noncomputable def a3_29 : Ann := Ann.left a3_28
noncomputable def c3_36 : Code := Code.sndC c3_28
noncomputable def a3_36 : Ann := Ann.right a3_28
noncomputable def c3_30 : Code := Code.fstC c3_29
noncomputable def a3_30 : Ann := Ann.left a3_29
noncomputable def c3_31 : Code := Code.sndC c3_29
noncomputable def a3_31 : Ann := Ann.right a3_29
noncomputable def c3_32 : Code := Code.fstC c3_31
noncomputable def a3_32 : Ann := Ann.left a3_31
noncomputable def c3_35 : Code := Code.sndC c3_31
noncomputable def a3_35 : Ann := Ann.right a3_31
noncomputable def c3_33 : Code := Code.fstC c3_32
noncomputable def a3_33 : Ann := Ann.left a3_32
noncomputable def c3_34 : Code := Code.sndC c3_32
noncomputable def a3_34 : Ann := Ann.right a3_32
noncomputable def c3_37 : Code := Code.fstC c3_36
noncomputable def a3_37 : Ann := Ann.left a3_36
noncomputable def c3_38 : Code := Code.sndC c3_36
noncomputable def a3_38 : Ann := Ann.right a3_36
noncomputable def c3_39 : Code := Code.fstC c3_38
noncomputable def a3_39 : Ann := Ann.left a3_38
noncomputable def c3_46 : Code := Code.sndC c3_38
noncomputable def a3_46 : Ann := Ann.right a3_38
noncomputable def c3_40 : Code := Code.fstC c3_39
noncomputable def a3_40 : Ann := Ann.left a3_39
noncomputable def c3_41 : Code := Code.sndC c3_39
noncomputable def a3_41 : Ann := Ann.right a3_39
noncomputable def c3_42 : Code := Code.fstC c3_41
noncomputable def a3_42 : Ann := Ann.left a3_41
noncomputable def c3_45 : Code := Code.sndC c3_41
noncomputable def a3_45 : Ann := Ann.right a3_41
noncomputable def c3_43 : Code := Code.fstC c3_42
noncomputable def a3_43 : Ann := Ann.left a3_42
noncomputable def c3_44 : Code := Code.sndC c3_42
noncomputable def a3_44 : Ann := Ann.right a3_42
noncomputable def c3_47 : Code := Code.fstC c3_46
noncomputable def a3_47 : Ann := Ann.left a3_46
noncomputable def c3_48 : Code := Code.sndC c3_46
noncomputable def a3_48 : Ann := Ann.right a3_46
def f3_J0_fr (x0 x1 x2 x4 x5 x6 x7 x10 x11 x12 x13 x14 x15 x16 x17 x18 x19 x20 x21 x22 x23 x24 x25 x26 x27 x28 x29 x30 x31 x32 x33 x34 : DV) : Frame := [x0, x1, x2, ud, x4, x5, x6, x7, ud, ud, x10, x11, x12, x13, x14, x15, x16, x17, x18, x19, x20, x21, x22, x23, x24, x25, x26, x27, x28, x29, x30, x31, x32, x33, x34, ud, ud, ud, ud, ud, ud, ud, ud, ud, ud, ud, ud, ud, ud, ud, ud, ud, ud, ud, ud, ud, ud, ud, ud, ud, ud, ud, ud, ud, ud, ud, ud]
noncomputable def f3_J0 (G : GuardT) (lo : Nat) (x0 x1 x2 x4 x5 x6 x7 x10 x11 x12 x13 x14 x15 x16 x17 x18 x19 x20 x21 x22 x23 x24 x25 x26 x27 x28 x29 x30 x31 x32 x33 x34 : DV) (σ : Store) : Option (DV × Store) :=
  (seqC G PP (pol 3) CC lo c3_28 a3_28 (finR PP Go.Proofs.Try.f3.results.toList)) .normal (f3_J0_fr x0 x1 x2 x4 x5 x6 x7 x10 x11 x12 x13 x14 x15 x16 x17 x18 x19 x20 x21 x22 x23 x24 x25 x26 x27 x28 x29 x30 x31 x32 x33 x34) σ
noncomputable def F3 (G : GuardT) (lo : Nat) (x0 x1 : DV) (σ : Store) : Option (DV × Store) :=
  codeF G PP (pol 3) CC lo c3_0 a3_0 [x0, x1, ud, ud, ud, ud, ud, ud, ud, ud, ud, ud, ud, ud, ud, ud, ud, ud, ud, ud, ud, ud, ud, ud, ud, ud, ud, ud, ud, ud, ud, ud, ud, ud, ud, ud, ud, ud, ud, ud, ud, ud, ud, ud, ud, ud, ud, ud, ud, ud, ud, ud, ud, ud, ud, ud, ud, ud, ud, ud, ud, ud, ud, ud, ud, ud, ud] σ (finR PP Go.Proofs.Try.f3.results.toList)
theorem f3_J0_eq (G : GuardT) (lo : Nat) (x0 x1 x2 x4 x5 x6 x7 x10 x11 x12 x13 x14 x15 x16 x17 x18 x19 x20 x21 x22 x23 x24 x25 x26 x27 x28 x29 x30 x31 x32 x33 x34 : DV) (σ : Store) : f3_J0 G lo x0 x1 x2 x4 x5 x6 x7 x10 x11 x12 x13 x14 x15 x16 x17 x18 x19 x20 x21 x22 x23 x24 x25 x26 x27 x28 x29 x30 x31 x32 x33 x34 σ =
    (binOp PP .neq 3 x7 (DV.p (PV.int IntKind.i64 (0)))).bind fun x36 =>
    condK x36
     (
      (binOp PP .eql 3 x6 x7).bind fun x39 =>
      G _ x39 true (some (x5, σ)) σ fun x41 σ4 =>
      G _ x39 true ((len PP 22 x41 σ4).bind fun v => some (v, σ4)) σ4 fun x42 σ5 =>
      G _ x39 true ((binOp PP .eql 3 x42 (DV.p (PV.int IntKind.i64 (0)))).bind fun v => some (v, σ5)) σ5 fun x43 σ6 =>
      (pickV x39 x43 (DV.p (PV.bool false))).bind fun x44 =>
      some (x44, σ6)
     )
     (
      (load PP 27 x2 σ).bind fun x46 =>
      (pureFn CC (DV.fn 17 []) [x46, x1] σ).bind fun x48 =>
      (extractV x48 0).bind fun x49 =>
      (extractV x48 1).bind fun x50 =>
      (unOp .not x50).bind fun x52 =>
      condK x52
       (
        (binOp PP .eql 30 x6 (DV.p (PV.int IntKind.i64 (25)))).bind fun x54 =>
        G _ x54 true (some (x5, σ)) σ fun x56 σ7 =>
        G _ x54 true ((len PP 22 x56 σ7).bind fun v => some (v, σ7)) σ7 fun x57 σ8 =>
        G _ x54 true ((binOp PP .eql 3 x57 (DV.p (PV.int IntKind.i64 (0)))).bind fun v => some (v, σ8)) σ8 fun x58 σ9 =>
        (pickV x54 x58 (DV.p (PV.bool false))).bind fun x59 =>
        some (x59, σ9)
       )
       (
        (binOp PP .eql 30 x6 (DV.p (PV.int IntKind.i64 (0)))).bind fun x61 =>
        G _ x61 true (some (x5, σ)) σ fun x63 σ10 =>
        G _ x61 true (some (x49, σ10)) σ10 fun x64 σ11 =>
        G _ x61 true ((pureFn CC (DV.fn 18 []) [x63, x64] σ11).bind fun v => some (v, σ11)) σ11 fun x65 σ12 =>
        (pickV x61 x65 (DV.p (PV.bool false))).bind fun x66 =>
        some (x66, σ12)
       )
     ) := by kernel_rfl
theorem F3_eq (G : GuardT) (lo : Nat) (x0 x1 : DV) (σ : Store) : F3 G lo x0 x1 σ =
    (boxV x0).bind fun z2 =>
    (pureFn CC (DV.fn 10 []) [] (σ ++ [Row.mix z2])).bind fun x10 =>
    (unOp .not x10).bind fun x11 =>
    condK x11
     (
      some ((DV.p (PV.bool false)), (σ ++ [Row.mix z2]))
     )
     (
      (load PP 27 (DV.ptr (List.length σ) 0) (σ ++ [Row.mix z2])).bind fun x12 =>
      (pureFn CC (DV.fn 11 []) [x12] (σ ++ [Row.mix z2])).bind fun x13 =>
      (unOp .not x13).bind fun x14 =>
      G _ x14 false (some (x1, (σ ++ [Row.mix z2]))) (σ ++ [Row.mix z2]) fun x16 σ1 =>
      G _ x14 false ((len PP 22 x16 σ1).bind fun v => some (v, σ1)) σ1 fun x17 σ2 =>
      G _ x14 false ((binOp PP .gtr 3 x17 (DV.p (PV.int IntKind.i64 (62)))).bind fun v => some (v, σ2)) σ2 fun x18 σ3 =>
      (pickV x14 (DV.p (PV.bool true)) x18).bind fun x19 =>
      condK x19
       (
        some ((DV.p (PV.bool true)), σ3)
       )
       (
        (load PP 27 (DV.ptr (List.length σ) 0) σ3).bind fun x21 =>
        (pureFn CC (DV.fn 13 []) [x21] σ3).bind fun x22 =>
        (pureFn CC (DV.fn 14 []) [x1] σ3).bind fun x24 =>
        (pureFn CC (DV.fn 12 []) [x22, x24] σ3).bind fun x25 =>
        (extractV x25 0).bind fun x26 =>
        (extractV x25 1).bind fun x27 =>
        (load PP 27 (DV.ptr (List.length σ) 0) σ3).bind fun x28 =>
        (pureFn CC (DV.fn 15 []) [x28] σ3).bind fun x29 =>
        (binOp PP .eql 3 x29 (DV.p (PV.int IntKind.i64 (0)))).bind fun x31 =>
        condK x31
         (
          (load PP 27 (DV.ptr (List.length σ) 0) σ3).bind fun x32 =>
          (pureFn CC (DV.fn 16 []) [x32, x1] σ3).bind fun x34 =>
          f3_J0 G lo x0 x1 (DV.ptr (List.length σ) 0) (DV.p (PV.bool false)) x26 x27 x34 x10 x11 x12 x13 x14 x14 x16 x17 x18 x19 x25 x21 x22 x1 x24 x25 x26 x27 x28 x29 x29 x31 x32 x1 x34 σ3
         )
         (
          f3_J0 G lo x0 x1 (DV.ptr (List.length σ) 0) (DV.p (PV.bool false)) x26 x27 x29 x10 x11 x12 x13 x14 x14 x16 x17 x18 x19 x25 x21 x22 x1 x24 x25 x26 x27 x28 x29 x29 x31 ud ud ud σ3
         )
       )
     ) := by kernel_rfl
theorem F3_call {lo : Nat} {x0 x1 : DV} {σ : Store} {r : DV × Store} (h : F3 guardT lo x0 x1 σ = some r) : CC lo 3 [x0, x1] σ = some r :=
  callL_run Go.Proofs.Try.func3 (by decide +kernel) rfl (by decide +kernel) h
end Go.D
end
/- Equations of functions 12, 17, printed by gen.py. -/
section
set_option linter.unusedVariables false
set_option maxRecDepth 10000
namespace Go.D
noncomputable def c12_0 : Code := bodyOf Go.Proofs.Try.f12
noncomputable def a12_0 : Ann := (pol 12).ann
noncomputable def c12_1 : Code := Code.fstC c12_0
noncomputable def a12_1 : Ann := Ann.left a12_0
noncomputable def c12_2 : Code := Code.sndC c12_0
noncomputable def a12_2 : Ann := Ann.right a12_0
noncomputable def c12_3 : Code := Code.fstC c12_2
noncomputable def a12_3 : Ann := Ann.left a12_2
noncomputable def c12_12 : Code := Code.sndC c12_2
noncomputable def a12_12 : Ann := Ann.right a12_2
noncomputable def c12_4 : Code := Code.fstC c12_3
noncomputable def a12_4 : Ann := Ann.left a12_3
noncomputable def c12_5 : Code := Code.sndC c12_3
noncomputable def a12_5 : Ann := Ann.right a12_3
noncomputable def c12_6 : Code := Code.fstC c12_5
noncomputable def a12_6 : Ann := Ann.left a12_5
noncomputable def c12_7 : Code := Code.sndC c12_5
noncomputable def a12_7 : Ann := Ann.right a12_5
noncomputable def c12_8 : Code := Code.fstC c12_7
noncomputable def a12_8 : Ann := Ann.left a12_7
noncomputable def c12_11 : Code := Code.sndC c12_7
noncomputable def a12_11 : Ann := Ann.right a12_7
noncomputable def c12_9 : Code := Code.fstC c12_8
noncomputable def a12_9 : Ann := Ann.left a12_8
noncomputable def c12_10 : Code := Code.sndC c12_8
noncomputable def a12_10 : Ann := Ann.right a12_8
noncomputable def c12_13 : Code := Code.fstC c12_12
noncomputable def a12_13 : Ann := Ann.left a12_12
noncomputable def c12_22 : Code := Code.sndC c12_12
noncomputable def a12_22 : Ann := Ann.right a12_12
noncomputable def c12_14 : Code := Code.fstC c12_13
noncomputable def a12_14 : Ann := Ann.left a12_13
noncomputable def c12_15 : Code := Code.sndC c12_13
noncomputable def a12_15 : Ann := Ann.right a12_13
noncomputable def c12_16 : Code := Code.fstC c12_15
noncomputable def a12_16 : Ann := Ann.left a12_15
noncomputable def c12_17 : Code := Code.sndC c12_15
noncomputable def a12_17 : Ann := Ann.right a12_15
noncomputable def c12_18 : Code := Code.fstC c12_17
noncomputable def a12_18 : Ann := Ann.left a12_17
noncomputable def c12_21 : Code := Code.sndC c12_17
noncomputable def a12_21 : Ann := Ann.right a12_17
noncomputable def c12_19 : Code := Code.fstC c12_18
noncomputable def a12_19 : Ann := Ann.left a12_18
noncomputable def c12_20 : Code := Code.sndC c12_18
noncomputable def a12_20 : Ann := Ann.right a12_18
noncomputable def c12_23 : Code := Code.fstC c12_22
noncomputable def a12_23 : Ann := Ann.left a12_22
noncomputable def c12_24 : Code := Code.sndC c12_22
noncomputable def a12_24 : Ann := Ann.right a12_22
noncomputable def c12_25 : Code := Code.fstC c12_24
noncomputable def a12_25 : Ann := Ann.left a12_24
noncomputable def c12_26 : Code := Code.sndC c12_24
noncomputable def a12_26 : Ann := Ann.right a12_24
noncomputable def c12_27 : Code := Code.fstC c12_26
noncomputable def a12_27 : Ann := Ann.left a12_26
noncomputable def c12_70 : Code := Code.sndC c12_26
noncomputable def a12_70 : Ann := Ann.right a12_26
noncomputable def c12_28 : Code := Code.fstC c12_27
noncomputable def a12_28 : Ann := Ann.left a12_27
noncomputable def c12_29 : Code := Code.sndC c12_27
noncomputable def a12_29 : Ann := Ann.right a12_27
noncomputable def c12_30 : Code := Code.fstC c12_29
noncomputable def a12_30 : Ann := Ann.left a12_29
noncomputable def c12_31 : Code := Code.fstC c12_30
noncomputable def a12_31 : Ann := .nil
noncomputable def c12_34 : Code := Code.sndC c12_30
noncomputable def a12_34 : Ann := Ann.left a12_30
noncomputable def c12_32 : Code := Code.fstC c12_31
noncomputable def a12_32 : Ann := Ann.left a12_31
noncomputable def c12_33 : Code := Code.sndC c12_31
noncomputable def a12_33 : Ann := Ann.right a12_31
noncomputable def c12_35 : Code := Code.fstC c12_34
noncomputable def a12_35 : Ann := Ann.left a12_34
noncomputable def c12_36 : Code := Code.fstC c12_35
noncomputable def a12_36 : Ann := Ann.left a12_35
noncomputable def c12_37 : Code := Code.sndC c12_35
noncomputable def a12_37 : Ann := Ann.right a12_35
noncomputable def c12_38 : Code := Code.fstC c12_37
noncomputable def a12_38 : Ann := Ann.left a12_37
noncomputable def c12_39 : Code := Code.sndC c12_37
noncomputable def a12_39 : Ann := Ann.right a12_37
noncomputable def c12_40 : Code := Code.fstC c12_39
noncomputable def a12_40 : Ann := Ann.left a12_39
noncomputable def c12_41 : Code := Code.fstC c12_40
noncomputable def a12_41 : Ann := Ann.left a12_40
noncomputable def c12_42 : Code := Code.fstC c12_41
noncomputable def a12_42 : Ann := Ann.left a12_41
noncomputable def c12_43 : Code := Code.sndC c12_41
noncomputable def a12_43 : Ann := Ann.right a12_41
noncomputable def c12_44 : Code := Code.fstC c12_43
noncomputable def a12_44 : Ann := Ann.left a12_43
noncomputable def c12_47 : Code := Code.sndC c12_43
noncomputable def a12_47 : Ann := Ann.right a12_43
noncomputable def c12_45 : Code := Code.fstC c12_44
noncomputable def a12_45 : Ann := Ann.left a12_44
noncomputable def c12_46 : Code := Code.sndC c12_44
noncomputable def a12_46 : Ann := Ann.right a12_44
noncomputable def c12_48 : Code := Code.fstC c12_47
noncomputable def a12_48 : Ann := Ann.left a12_47
noncomputable def c12_69 : Code := Code.sndC c12_47
noncomputable def a12_69 : Ann := Ann.right a12_47
noncomputable def c12_49 : Code := Code.fstC c12_48
noncomputable def a12_49 : Ann := Ann.left a12_48
noncomputable def c12_50 : Code := Code.fstC c12_49
noncomputable def a12_50 : Ann := Ann.left a12_49
noncomputable def c12_51 : Code := Code.sndC c12_49
noncomputable def a12_51 : Ann := Ann.right a12_49
noncomputable def c12_52 : Code := Code.fstC c12_51
noncomputable def a12_52 : Ann := Ann.left a12_51
noncomputable def c12_53 : Code := Code.sndC c12_51
noncomputable def a12_53 : Ann := Ann.right a12_51
noncomputable def c12_54 : Code := Code.fstC c12_53
noncomputable def a12_54 : Ann := Ann.left a12_53
noncomputable def c12_68 : Code := Code.sndC c12_53
noncomputable def a12_68 : Ann := Ann.right a12_53
noncomputable def c12_55 : Code := Code.fstC c12_54
noncomputable def a12_55 : Ann := Ann.left a12_54
noncomputable def c12_56 : Code := Code.sndC c12_54
noncomputable def a12_56 : Ann := Ann.right a12_54
noncomputable def c12_57 : Code := Code.fstC c12_56
noncomputable def a12_57 : Ann := Ann.left a12_56
noncomputable def c12_58 : Code := Code.fstC c12_57
noncomputable def a12_58 : Ann := Ann.left a12_57
noncomputable def c12_59 : Code := Code.fstC c12_58
noncomputable def a12_59 : Ann := Ann.left a12_58
noncomputable def c12_64 : Code := Code.sndC c12_58
noncomputable def a12_64 : Ann := Ann.right a12_58
noncomputable def c12_60 : Code := Code.fstC c12_59
noncomputable def a12_60 : Ann := Ann.left a12_59
noncomputable def c12_61 : Code := Code.sndC c12_59
noncomputable def a12_61 : Ann := Ann.right a12_59
noncomputable def c12_62 : Code := Code.fstC c12_61
noncomputable def a12_62 : Ann := Ann.left a12_61
noncomputable def c12_63 : Code := Code.sndC c12_61
noncomputable def a12_63 : Ann := Ann.right a12_61
noncomputable def c12_65 : Code := Code.fstC c12_64
noncomputable def a12_65 : Ann := Ann.left a12_64
noncomputable def c12_67 : Code := Code.sndC c12_64
noncomputable def a12_67 : Ann := Ann.right a12_64
noncomputable def c12_66 : Code := Code.fstC c12_65
noncomputable def a12_66 : Ann := Ann.left a12_65
noncomputable def c12_71 : Code := Code.fstC c12_70
noncomputable def a12_71 : Ann := Ann.left a12_70
noncomputable def c12_72 : Code := Code.sndC c12_70
noncomputable def a12_72 : Ann := Ann.right a12_70
noncomputable def c12_73 : Code := Code.fstC c12_72
noncomputable def a12_73 : Ann := Ann.left a12_72
noncomputable def c12_124 : Code := Code.sndC c12_72
noncomputable def a12_124 : Ann := Ann.right a12_72
noncomputable def c12_74 : Code := Code.fstC c12_73
noncomputable def a12_74 : Ann := Ann.left a12_73
noncomputable def c12_75 : Code := Code.sndC c12_73
noncomputable def a12_75 : Ann := Ann.right a12_73
noncomputable def c12_76 : Code := Code.fstC c12_75
noncomputable def a12_76 : Ann := Ann.left a12_75
noncomputable def c12_77 : Code := Code.fstC c12_76
noncomputable def a12_77 : Ann := Ann.left a12_76
noncomputable def c12_78 : Code := Code.fstC c12_77
noncomputable def a12_78 : Ann := Ann.left a12_77
noncomputable def c12_79 : Code := Code.sndC c12_77
noncomputable def a12_79 : Ann := Ann.right a12_77
noncomputable def c12_80 : Code := Code.fstC c12_79
noncomputable def a12_80 : Ann := Ann.left a12_79
noncomputable def c12_83 : Code := Code.sndC c12_79
noncomputable def a12_83 : Ann := Ann.right a12_79
noncomputable def c12_81 : Code := Code.fstC c12_80
noncomputable def a12_81 : Ann := Ann.left a12_80
noncomputable def c12_82 : Code := Code.sndC c12_80
noncomputable def a12_82 : Ann := Ann.right a12_80
noncomputable def c12_84 : Code := Code.fstC c12_83
noncomputable def a12_84 : Ann := Ann.left a12_83
noncomputable def c12_123 : Code := Code.sndC c12_83
noncomputable def a12_123 : Ann := Ann.right a12_83
noncomputable def c12_85 : Code := Code.fstC c12_84
noncomputable def a12_85 : Ann := Ann.left a12_84
noncomputable def c12_86 : Code := Code.fstC c12_85
noncomputable def a12_86 : Ann := Ann.left a12_85
noncomputable def c12_87 : Code := Code.sndC c12_85
noncomputable def a12_87 : Ann := Ann.right a12_85
noncomputable def c12_88 : Code := Code.fstC c12_87
noncomputable def a12_88 : Ann := Ann.left a12_87
noncomputable def c12_89 : Code := Code.sndC c12_87
noncomputable def a12_89 : Ann := Ann.right a12_87
noncomputable def c12_90 : Code := Code.fstC c12_89
noncomputable def a12_90 : Ann := Ann.left a12_89
noncomputable def c12_114 : Code := Code.sndC c12_89
noncomputable def a12_114 : Ann := Ann.right a12_89
noncomputable def c12_91 : Code := Code.fstC c12_90
noncomputable def a12_91 : Ann := Ann.left a12_90
noncomputable def c12_92 : Code := Code.sndC c12_90
noncomputable def a12_92 : Ann := Ann.right a12_90
noncomputable def c12_93 : Code := Code.fstC c12_92
noncomputable def a12_93 : Ann := Ann.left a12_92
noncomputable def c12_94 : Code := Code.fstC c12_93
noncomputable def a12_94 : Ann := Ann.left a12_93
noncomputable def c12_95 : Code := Code.fstC c12_94
noncomputable def a12_95 : Ann := Ann.left a12_94
noncomputable def c12_96 : Code := Code.sndC c12_94
noncomputable def a12_96 : Ann := Ann.right a12_94
noncomputable def c12_97 : Code := Code.fstC c12_96
noncomputable def a12_97 : Ann := Ann.left a12_96
noncomputable def c12_100 : Code := Code.sndC c12_96
noncomputable def a12_100 : Ann := Ann.right a12_96
noncomputable def c12_98 : Code := Code.fstC c12_97
noncomputable def a12_98 : Ann := Ann.left a12_97
noncomputable def c12_99 : Code := Code.sndC c12_97
noncomputable def a12_99 : Ann := Ann.right a12_97
noncomputable def c12_101 : Code := Code.fstC c12_100
noncomputable def a12_101 : Ann := Ann.left a12_100
noncomputable def c12_113 : Code := Code.sndC c12_100
noncomputable def a12_113 : Ann := Ann.right a12_100
noncomputable def c12_102 : Code := Code.fstC c12_101
noncomputable def a12_102 : Ann := Ann.left a12_101
noncomputable def c12_103 : Code := Code.fstC c12_102
noncomputable def a12_103 : Ann := Ann.left a12_102
noncomputable def c12_104 : Code := Code.sndC c12_102
noncomputable def a12_104 : Ann := Ann.right a12_102
noncomputable def c12_105 : Code := Code.fstC c12_104
noncomputable def a12_105 : Ann := Ann.left a12_104
noncomputable def c12_106 : Code := Code.sndC c12_104
noncomputable def a12_106 : Ann := Ann.right a12_104
noncomputable def c12_107 : Code := Code.fstC c12_106
noncomputable def a12_107 : Ann := Ann.left a12_106
noncomputable def c12_108 : Code := Code.sndC c12_106
noncomputable def a12_108 : Ann := Ann.right a12_106
noncomputable def c12_109 : Code := Code.fstC c12_108
noncomputable def a12_109 : Ann := Ann.left a12_108
noncomputable def c12_112 : Code := Code.sndC c12_108
noncomputable def a12_112 : Ann := Ann.right a12_108
noncomputable def c12_110 : Code := Code.fstC c12_109
noncomputable def a12_110 : Ann := Ann.left a12_109
noncomputable def c12_111 : Code := Code.sndC c12_109
noncomputable def a12_111 : Ann := Ann.right a12_109
noncomputable def c12_115 : Code := Code.fstC c12_114
noncomputable def a12_115 : Ann := Ann.left a12_114
noncomputable def c12_122 : Code := Code.sndC c12_114
noncomputable def a12_122 : Ann := Ann.right a12_114
noncomputable def c12_116 : Code := Code.fstC c12_115
noncomputable def a12_116 : Ann := Ann.left a12_115
noncomputable def c12_117 : Code := Code.sndC c12_115
noncomputable def a12_117 : Ann := Ann.right a12_115
noncomputable def c12_118 : Code := Code.fstC c12_117
noncomputable def a12_118 : Ann := Ann.left a12_117
noncomputable def c12_121 : Code := Code.sndC c12_117
noncomputable def a12_121 : Ann := Ann.right a12_117
noncomputable def c12_119 : Code := Code.fstC c12_118
noncomputable def a12_119 : Ann := Ann.left a12_118
noncomputable def c12_120 : Code := Code.sndC c12_118
noncomputable def a12_120 : Ann := Ann.right a12_118
noncomputable def c12_125 : Code := Code.fstC c12_124
noncomputable def a12_125 : Ann := Ann.left a12_124
noncomputable def c12_126 : Code := Code.sndC c12_124
noncomputable def a12_126 : Ann := Ann.right a12_124
noncomputable def f12_R0 (G : GuardT) (lo : Nat) (x0 x1 x2 x3 x4 x5 x6 x7 x8 x9 x21 x22 x23 x24 x26 x27 x28 x29 x30 x31 x33 x34 x35 x36 x37 x38 x39 : DV) (xs : List DV) (σ : Store) (K' : Ex → Store → Option (DV × Store)) : Option (DV × Store) :=
  roundC G PP (pol 12) CC lo c12_31 c12_34 (Ann.left a12_30) [40, 41] [x0, x1, x2, x3, x4, x5, x6, x7, x8, x9, ud, ud, ud, ud, ud, ud, ud, ud, ud, ud, ud, x21, x22, x23, x24, ud, x26, x27, x28, x29, x30, x31, ud, x33, x34, x35, x36, x37, x38, x39, ud, ud, ud, ud, ud, ud, ud, ud, ud, ud, ud, ud, ud, ud, ud, ud, ud, ud, ud, ud, ud, ud, ud, ud, ud, ud, ud, ud, ud, ud, ud, ud, ud, ud, ud, ud, ud, ud, ud, ud, ud, ud, ud, ud, ud, ud, ud, ud, ud, ud, ud, ud, ud, ud, ud, ud, ud, ud, ud, ud, ud, ud, ud, ud, ud, ud, ud, ud, ud, ud, ud, ud, ud, ud, ud, ud, ud, ud, ud, ud, ud, ud, ud, ud, ud, ud, ud, ud, ud, ud, ud, ud, ud, ud, ud, ud, ud, ud, ud, ud, ud, ud, ud, ud, ud, ud, ud, ud, ud, ud, ud, ud, ud, ud, ud, ud, ud, ud, ud, ud] xs σ K'
noncomputable def f12_L0 (G : GuardT) (lo : Nat) (K' : Ex → Store → Option (DV × Store)) (x2 x3 x8 x9 x10 x11 x53 x54 : DV) (σ : Store) : Option (DV × Store) :=
  codeF G PP (pol 12) CC lo (.loop c12_41) a12_40 [ud, ud, x2, x3, ud, ud, ud, ud, x8, x9, x10, x11, ud, ud, ud, ud, ud, ud, ud, ud, ud, ud, ud, ud, ud, ud, ud, ud, ud, ud, ud, ud, ud, ud, ud, ud, ud, ud, ud, ud, ud, ud, ud, ud, ud, ud, ud, ud, ud, ud, ud, ud, ud, x53, x54, ud, ud, ud, ud, ud, ud, ud, ud, ud, ud, ud, ud, ud, ud, ud, ud, ud, ud, ud, ud, ud, ud, ud, ud, ud, ud, ud, ud, ud, ud, ud, ud, ud, ud, ud, ud, ud, ud, ud, ud, ud, ud, ud, ud, ud, ud, ud, ud, ud, ud, ud, ud, ud, ud, ud, ud, ud, ud, ud, ud, ud, ud, ud, ud, ud, ud, ud, ud, ud, ud, ud, ud, ud, ud, ud, ud, ud, ud, ud, ud, ud, ud, ud, ud, ud, ud, ud, ud, ud, ud, ud, ud, ud, ud, ud, ud, ud, ud, ud, ud, ud, ud, ud, ud, ud] σ
   (blockC 2 a12_39 (blockC 1 a12_34 (endC K')))
noncomputable def f12_L1 (G : GuardT) (lo : Nat) (K' : Ex → Store → Option (DV × Store)) (x2 x3 x8 x9 x10 x11 x12 x13 x14 x53 x54 : DV) (σ : Store) : Option (DV × Store) :=
  codeF G PP (pol 12) CC lo (.loop c12_58) a12_57 [ud, ud, x2, x3, ud, ud, ud, ud, x8, x9, x10, x11, x12, x13, x14, ud, ud, ud, ud, ud, ud, ud, ud, ud, ud, ud, ud, ud, ud, ud, ud, ud, ud, ud, ud, ud, ud, ud, ud, ud, ud, ud, ud, ud, ud, ud, ud, ud, ud, ud, ud, ud, ud, x53, x54, ud, ud, ud, ud, ud, ud, ud, ud, ud, ud, ud, ud, ud, ud, ud, ud, ud, ud, ud, ud, ud, ud, ud, ud, ud, ud, ud, ud, ud, ud, ud, ud, ud, ud, ud, ud, ud, ud, ud, ud, ud, ud, ud, ud, ud, ud, ud, ud, ud, ud, ud, ud, ud, ud, ud, ud, ud, ud, ud, ud, ud, ud, ud, ud, ud, ud, ud, ud, ud, ud, ud, ud, ud, ud, ud, ud, ud, ud, ud, ud, ud, ud, ud, ud, ud, ud, ud, ud, ud, ud, ud, ud, ud, ud, ud, ud, ud, ud, ud, ud, ud, ud, ud, ud, ud] σ
   (blockC 4 a12_56 (seqC G PP (pol 12) CC lo c12_68 a12_68 (blockC 3 a12_48 (seqC G PP (pol 12) CC lo c12_69 a12_69 (loopC G PP (pol 12) CC lo c12_41 a12_40 (blockC 2 a12_39 (blockC 1 a12_34 (endC K'))))))))
noncomputable def f12_X0 (G : GuardT) (lo : Nat) (ex : Ex) (x0 x1 x2 x3 x4 x5 x6 x7 x8 x9 x21 x22 x23 x24 x26 x27 x28 x29 x30 x31 x33 x34 x35 x36 x37 x38 x39 : DV) (σ : Store) : Option (DV × Store) :=
  (blockC 0 a12_29 (seqC G PP (pol 12) CC lo c12_70 a12_70 (finR PP Go.Proofs.Try.f12.results.toList))) ex [x0, x1, x2, x3, x4, x5, x6, x7, x8, x9, ud, ud, ud, ud, ud, ud, ud, ud, ud, ud, ud, x21, x22, x23, x24, ud, x26, x27, x28, x29, x30, x31, ud, x33, x34, x35, x36, x37, x38, x39, ud, ud, ud, ud, ud, ud, ud, ud, ud, ud, ud, ud, ud, ud, ud, ud, ud, ud, ud, ud, ud, ud, ud, ud, ud, ud, ud, ud, ud, ud, ud, ud, ud, ud, ud, ud, ud, ud, ud, ud, ud, ud, ud, ud, ud, ud, ud, ud, ud, ud, ud, ud, ud, ud, ud, ud, ud, ud, ud, ud, ud, ud, ud, ud, ud, ud, ud, ud, ud, ud, ud, ud, ud, ud, ud, ud, ud, ud, ud, ud, ud, ud, ud, ud, ud, ud, ud, ud, ud, ud, ud, ud, ud, ud, ud, ud, ud, ud, ud, ud, ud, ud, ud, ud, ud, ud, ud, ud, ud, ud, ud, ud, ud, ud, ud, ud, ud, ud, ud, ud] σ
noncomputable def f12_L2 (G : GuardT) (lo : Nat) (x2 x8 x9 x15 x109 x110 : DV) (σ : Store) : Option (DV × Store) :=
  codeF G PP (pol 12) CC lo (.loop c12_77) a12_76 [ud, ud, x2, ud, ud, ud, ud, ud, x8, x9, ud, ud, ud, ud, ud, x15, ud, ud, ud, ud, ud, ud, ud, ud, ud, ud, ud, ud, ud, ud, ud, ud, ud, ud, ud, ud, ud, ud, ud, ud, ud, ud, ud, ud, ud, ud, ud, ud, ud, ud, ud, ud, ud, ud, ud, ud, ud, ud, ud, ud, ud, ud, ud, ud, ud, ud, ud, ud, ud, ud, ud, ud, ud, ud, ud, ud, ud, ud, ud, ud, ud, ud, ud, ud, ud, ud, ud, ud, ud, ud, ud, ud, ud, ud, ud, ud, ud, ud, ud, ud, ud, ud, ud, ud, ud, ud, ud, ud, ud, x109, x110, ud, ud, ud, ud, ud, ud, ud, ud, ud, ud, ud, ud, ud, ud, ud, ud, ud, ud, ud, ud, ud, ud, ud, ud, ud, ud, ud, ud, ud, ud, ud, ud, ud, ud, ud, ud, ud, ud, ud, ud, ud, ud, ud, ud, ud, ud, ud, ud, ud] σ
   (blockC 6 a12_75 (seqC G PP (pol 12) CC lo c12_124 a12_124 (finR PP Go.Proofs.Try.f12.results.toList)))
noncomputable def f12_L3 (G : GuardT) (lo : Nat) (x2 x8 x9 x15 x16 x17 x109 x110 x116 x117 x118 : DV) (σ : Store) : Option (DV × Store) :=
  codeF G PP (pol 12) CC lo (.loop c12_94) a12_93 [ud, ud, x2, ud, ud, ud, ud, ud, x8, x9, ud, ud, ud, ud, ud, x15, x16, x17, ud, ud, ud, ud, ud, ud, ud, ud, ud, ud, ud, ud, ud, ud, ud, ud, ud, ud, ud, ud, ud, ud, ud, ud, ud, ud, ud, ud, ud, ud, ud, ud, ud, ud, ud, ud, ud, ud, ud, ud, ud, ud, ud, ud, ud, ud, ud, ud, ud, ud, ud, ud, ud, ud, ud, ud, ud, ud, ud, ud, ud, ud, ud, ud, ud, ud, ud, ud, ud, ud, ud, ud, ud, ud, ud, ud, ud, ud, ud, ud, ud, ud, ud, ud, ud, ud, ud, ud, ud, ud, ud, x109, x110, ud, ud, ud, ud, ud, x116, x117, x118, ud, ud, ud, ud, ud, ud, ud, ud, ud, ud, ud, ud, ud, ud, ud, ud, ud, ud, ud, ud, ud, ud, ud, ud, ud, ud, ud, ud, ud, ud, ud, ud, ud, ud, ud, ud, ud, ud, ud, ud, ud] σ
   (blockC 8 a12_92 (seqC G PP (pol 12) CC lo c12_114 a12_114 (blockC 7 a12_84 (seqC G PP (pol 12) CC lo c12_123 a12_123 (loopC G PP (pol 12) CC lo c12_77 a12_76 (blockC 6 a12_75 (seqC G PP (pol 12) CC lo c12_124 a12_124 (finR PP Go.Proofs.Try.f12.results.toList))))))))
def f12_J0_fr (x2 x8 x9 x15 x17 x109 x110 : DV) : Frame := [ud, ud, x2, ud, ud, ud, ud, ud, x8, x9, ud, ud, ud, ud, ud, x15, ud, x17, ud, ud, ud, ud, ud, ud, ud, ud, ud, ud, ud, ud, ud, ud, ud, ud, ud, ud, ud, ud, ud, ud, ud, ud, ud, ud, ud, ud, ud, ud, ud, ud, ud, ud, ud, ud, ud, ud, ud, ud, ud, ud, ud, ud, ud, ud, ud, ud, ud, ud, ud, ud, ud, ud, ud, ud, ud, ud, ud, ud, ud, ud, ud, ud, ud, ud, ud, ud, ud, ud, ud, ud, ud, ud, ud, ud, ud, ud, ud, ud, ud, ud, ud, ud, ud, ud, ud, ud, ud, ud, ud, x109, x110, ud, ud, ud, ud, ud, ud, ud, ud, ud, ud, ud, ud, ud, ud, ud, ud, ud, ud, ud, ud, ud, ud, ud, ud, ud, ud, ud, ud, ud, ud, ud, ud, ud, ud, ud, ud, ud, ud, ud, ud, ud, ud, ud, ud, ud, ud, ud, ud, ud]
noncomputable def f12_J0 (G : GuardT) (lo : Nat) (x2 x8 x9 x15 x17 x109 x110 : DV) (σ : Store) : Option (DV × Store) :=
  (seqC G PP (pol 12) CC lo c12_114 a12_114 (blockC 7 a12_84 (seqC G PP (pol 12) CC lo c12_123 a12_123 (loopC G PP (pol 12) CC lo c12_77 a12_76 (blockC 6 a12_75 (seqC G PP (pol 12) CC lo c12_124 a12_124 (finR PP Go.Proofs.Try.f12.results.toList))))))) .normal (f12_J0_fr x2 x8 x9 x15 x17 x109 x110) σ
noncomputable def F12 (G : GuardT) (lo : Nat) (x0 x1 : DV) (σ : Store) : Option (DV × Store) :=
  codeF G PP (pol 12) CC lo c12_0 a12_0 [x0, x1, ud, ud, ud, ud, ud, ud, ud, ud, ud, ud, ud, ud, ud, ud, ud, ud, ud, ud, ud, ud, ud, ud, ud, ud, ud, ud, ud, ud, ud, ud, ud, ud, ud, ud, ud, ud, ud, ud, ud, ud, ud, ud, ud, ud, ud, ud, ud, ud, ud, ud, ud, ud, ud, ud, ud, ud, ud, ud, ud, ud, ud, ud, ud, ud, ud, ud, ud, ud, ud, ud, ud, ud, ud, ud, ud, ud, ud, ud, ud, ud, ud, ud, ud, ud, ud, ud, ud, ud, ud, ud, ud, ud, ud, ud, ud, ud, ud, ud, ud, ud, ud, ud, ud, ud, ud, ud, ud, ud, ud, ud, ud, ud, ud, ud, ud, ud, ud, ud, ud, ud, ud, ud, ud, ud, ud, ud, ud, ud, ud, ud, ud, ud, ud, ud, ud, ud, ud, ud, ud, ud, ud, ud, ud, ud, ud, ud, ud, ud, ud, ud, ud, ud, ud, ud, ud, ud, ud, ud] σ (finR PP Go.Proofs.Try.f12.results.toList)
theorem f12_R0_eq (G : GuardT) (lo : Nat) (x0 x1 x2 x3 x4 x5 x6 x7 x8 x9 x21 x22 x23 x24 x26 x27 x28 x29 x30 x31 x33 x34 x35 x36 x37 x38 x39 : DV) (x40 x41 : DV) (σ : Store) (K' : Ex → Store → Option (DV × Store)) : f12_R0 G lo x0 x1 x2 x3 x4 x5 x6 x7 x8 x9 x21 x22 x23 x24 x26 x27 x28 x29 x30 x31 x33 x34 x35 x36 x37 x38 x39 [x40, x41] σ K' =
    (load PP 84 x9 σ).bind fun x42 =>
    (fieldAddr PP 27 x2 1).bind fun x44 =>
    (fieldAddr PP 25 x44 0).bind fun x45 =>
    (load PP 3 x45 σ).bind fun x46 =>
    (makeSlice PP false 88 x46 x46 σ).bind fun r47_4 =>
    (indexAddr PP 84 x42 x40).bind fun x48 =>
    (store PP lo 88 x48 r47_4.1 r47_4.2).bind fun σ5 =>
    (load PP 84 x9 σ5).bind fun x49 =>
    (indexAddr PP 84 x49 x40).bind fun x51 =>
    (load PP 88 x51 σ5).bind fun x52 =>
    (len PP 88 x52 σ5).bind fun x53 =>
    f12_L0 G lo K' x2 x3 x8 x9 x40 x41 x53 (DV.p (PV.int IntKind.i64 (0))) σ5 := by kernel_rfl
theorem f12_L0_eq (G : GuardT) (hG : GuardOk G) (lo : Nat) (K' : Ex → Store → Option (DV × Store)) (x2 x3 x8 x9 x10 x11 x53 x54 : DV) (σ : Store) : f12_L0 G lo K' x2 x3 x8 x9 x10 x11 x53 x54 σ =
    (binOp PP .lss 3 x54 x53).bind fun x55 =>
    condK x55
     (
      (load PP 22 x3 σ).bind fun x58 =>
      (len PP 22 x58 σ).bind fun x59 =>
      (binOp PP .sub 3 x59 (DV.p (PV.int IntKind.i64 (1)))).bind fun x60 =>
      (binOp PP .eql 3 x10 x60).bind fun x61 =>
      f12_L1 G lo K' x2 x3 x8 x9 x10 x11 x54 x61 (DV.p (PV.int IntKind.i64 (0))) x53 x54 σ
     )
     (
      K' .normal σ
     ) := (loopF_eq G hG).trans (by kernel_rfl)
theorem f12_L1_eq (G : GuardT) (hG : GuardOk G) (lo : Nat) (K' : Ex → Store → Option (DV × Store)) (x2 x3 x8 x9 x10 x11 x12 x13 x14 x53 x54 : DV) (σ : Store) : f12_L1 G lo K' x2 x3 x8 x9 x10 x11 x12 x13 x14 x53 x54 σ =
    (fieldAddr PP 27 x2 1).bind fun x63 =>
    (fieldAddr PP 25 x63 0).bind fun x64 =>
    (load PP 3 x64 σ).bind fun x65 =>
    (binOp PP .lss 3 x14 x65).bind fun x66 =>
    G _ x66 true (some (x13, σ)) σ fun x68 σ6 =>
    G _ x66 true ((unOp .not x68).bind fun v => some (v, σ6)) σ6 fun x69 σ7 =>
    (pickV x66 x69 (DV.p (PV.bool false))).bind fun x70 =>
    condK x70
     (
      (load PP 82 x8 σ7).bind fun x73 =>
      (pureFn CC (DV.fn 45 []) [x73, x12, x14] σ7).bind fun x76 =>
      G _ x76 true ((load PP 84 x9 σ7).bind fun v => some (v, σ7)) σ7 fun x78 σ8 =>
      G _ x76 true (some (x10, σ8)) σ8 fun x79 σ9 =>
      G _ x76 true ((binOp PP .add 3 x79 (DV.p (PV.int IntKind.i64 (1)))).bind fun v => some (v, σ9)) σ9 fun x80 σ10 =>
      G _ x76 true ((indexAddr PP 84 x78 x80).bind fun v => some (v, σ10)) σ10 fun x81 σ11 =>
      G _ x76 true ((load PP 88 x81 σ11).bind fun v => some (v, σ11)) σ11 fun x82 σ12 =>
      G _ x76 true (some (x14, σ12)) σ12 fun x83 σ13 =>
      G _ x76 true ((indexAddr PP 88 x82 x83).bind fun v => some (v, σ13)) σ13 fun x84 σ14 =>
      G _ x76 true ((load PP 4 x84 σ14).bind fun v => some (v, σ14)) σ14 fun x85 σ15 =>
      (pickV x76 x85 (DV.p (PV.bool false))).bind fun x86 =>
      (binOp PP .add 3 x14 (DV.p (PV.int IntKind.i64 (1)))).bind fun x72 =>
      f12_L1 G lo K' x2 x3 x8 x9 x10 x11 x12 x86 x72 x53 x54 σ15
     )
     (
      (load PP 84 x9 σ7).bind fun x87 =>
      (indexAddr PP 84 x87 x10).bind fun x89 =>
      (load PP 88 x89 σ7).bind fun x90 =>
      G _ x13 true ((fieldAddr PP 27 x2 2).bind fun v => some (v, σ7)) σ7 fun x94 σ16 =>
      G _ x13 true ((load PP 22 x94 σ16).bind fun v => some (v, σ16)) σ16 fun x95 σ17 =>
      G _ x13 true (some (x11, σ17)) σ17 fun x96 σ18 =>
      G _ x13 true ((indexAddr PP 22 x95 x96).bind fun v => some (v, σ18)) σ18 fun x97 σ19 =>
      G _ x13 true ((load PP 3 x97 σ19).bind fun v => some (v, σ19)) σ19 fun x98 σ20 =>
      G _ x13 true ((fieldAddr PP 27 x2 3).bind fun v => some (v, σ20)) σ20 fun x99 σ21 =>
      G _ x13 true ((load PP 22 x99 σ21).bind fun v => some (v, σ21)) σ21 fun x100 σ22 =>
      G _ x13 true (some (x12, σ22)) σ22 fun x101 σ23 =>
      G _ x13 true ((indexAddr PP 22 x100 x101).bind fun v => some (v, σ23)) σ23 fun x102 σ24 =>
      G _ x13 true ((load PP 3 x102 σ24).bind fun v => some (v, σ24)) σ24 fun x103 σ25 =>
      G _ x13 true ((binOp PP .eql 3 x98 x103).bind fun v => some (v, σ25)) σ25 fun x104 σ26 =>
      (pickV x13 x104 (DV.p (PV.bool false))).bind fun x105 =>
      (indexAddr PP 88 x90 x12).bind fun x106 =>
      (store PP lo 4 x106 x105 σ26).bind fun σ27 =>
      (binOp PP .add 3 x54 (DV.p (PV.int IntKind.i64 (1)))).bind fun x107 =>
      f12_L0 G lo K' x2 x3 x8 x9 x10 x11 x53 x107 σ27
     ) := (loopF_eq G hG).trans (by kernel_rfl)
theorem f12_X0_normal (G : GuardT) (lo : Nat) (x0 x1 x2 x3 x4 x5 x6 x7 x8 x9 x21 x22 x23 x24 x26 x27 x28 x29 x30 x31 x33 x34 x35 x36 x37 x38 x39 : DV) (σ : Store) : f12_X0 G lo .normal x0 x1 x2 x3 x4 x5 x6 x7 x8 x9 x21 x22 x23 x24 x26 x27 x28 x29 x30 x31 x33 x34 x35 x36 x37 x38 x39 σ =
    (load PP 22 x3 σ).bind fun x108 =>
    (len PP 22 x108 σ).bind fun x109 =>
    f12_L2 G lo x2 x8 x9 (DV.p PV.nilsl) x109 (DV.p (PV.int IntKind.i64 (0))) σ := by kernel_rfl
theorem f12_L2_eq (G : GuardT) (hG : GuardOk G) (lo : Nat) (x2 x8 x9 x15 x109 x110 : DV) (σ : Store) : f12_L2 G lo x2 x8 x9 x15 x109 x110 σ =
    (binOp PP .lss 3 x110 x109).bind fun x111 =>
    condK x111
     (
      (load PP 84 x9 σ).bind fun x113 =>
      (indexAddr PP 84 x113 x110).bind fun x115 =>
      (load PP 88 x115 σ).bind fun x116 =>
      (len PP 88 x116 σ).bind fun x117 =>
      f12_L3 G lo x2 x8 x9 x15 x110 (DV.p (PV.int IntKind.i64 (-1))) x109 x110 x116 x117 (DV.p (PV.int IntKind.i64 (0))) σ
     )
     (
      some ((DV.tuple [x15, (DV.p (PV.int IntKind.i64 (0)))]), σ)
     ) := (loopF_eq G hG).trans (by kernel_rfl)
theorem f12_L3_gen (G : GuardT) (hG : GuardOk G) (lo : Nat) (N0 : Frame → Store → Option (DV × Store)) (x2 x8 x9 x15 x16 x17 x109 x110 x116 x117 x118 : DV) (σ : Store) : codeF G PP (pol 12) CC lo (.loop c12_94) a12_93 [ud, ud, x2, ud, ud, ud, ud, ud, x8, x9, ud, ud, ud, ud, ud, x15, x16, x17, ud, ud, ud, ud, ud, ud, ud, ud, ud, ud, ud, ud, ud, ud, ud, ud, ud, ud, ud, ud, ud, ud, ud, ud, ud, ud, ud, ud, ud, ud, ud, ud, ud, ud, ud, ud, ud, ud, ud, ud, ud, ud, ud, ud, ud, ud, ud, ud, ud, ud, ud, ud, ud, ud, ud, ud, ud, ud, ud, ud, ud, ud, ud, ud, ud, ud, ud, ud, ud, ud, ud, ud, ud, ud, ud, ud, ud, ud, ud, ud, ud, ud, ud, ud, ud, ud, ud, ud, ud, ud, ud, x109, x110, ud, ud, ud, ud, ud, x116, x117, x118, ud, ud, ud, ud, ud, ud, ud, ud, ud, ud, ud, ud, ud, ud, ud, ud, ud, ud, ud, ud, ud, ud, ud, ud, ud, ud, ud, ud, ud, ud, ud, ud, ud, ud, ud, ud, ud, ud, ud, ud, ud] σ
   (blockC 8 a12_92 (splitC N0 (seqC G PP (pol 12) CC lo c12_114 a12_114 (blockC 7 a12_84 (seqC G PP (pol 12) CC lo c12_123 a12_123 (loopC G PP (pol 12) CC lo c12_77 a12_76 (blockC 6 a12_75 (seqC G PP (pol 12) CC lo c12_124 a12_124 (finR PP Go.Proofs.Try.f12.results.toList))))))))) =
    (binOp PP .lss 3 x118 x117).bind fun x119 =>
    condK x119
     (
      (indexAddr PP 88 x116 x118).bind fun x121 =>
      (load PP 4 x121 σ).bind fun x122 =>
      (binOp PP .eql 3 x16 (DV.p (PV.int IntKind.i64 (0)))).bind fun x124 =>
      G _ x124 true ((fieldAddr PP 27 x2 1).bind fun v => some (v, σ)) σ fun x126 σ28 =>
      G _ x124 true ((fieldAddr PP 25 x126 1).bind fun v => some (v, σ28)) σ28 fun x127 σ29 =>
      G _ x124 true ((load PP 22 x127 σ29).bind fun v => some (v, σ29)) σ29 fun x128 σ30 =>
      G _ x124 true (some (x118, σ30)) σ30 fun x129 σ31 =>
      G _ x124 true ((pureFn CC (DV.fn 46 []) [x128, x129] σ31).bind fun v => some (v, σ31)) σ31 fun x130 σ32 =>
      (pickV x124 x130 (DV.p (PV.bool false))).bind fun x131 =>
      G _ x131 false (some (x16, σ32)) σ32 fun x133 σ33 =>
      G _ x131 false ((binOp PP .gtr 3 x133 (DV.p (PV.int IntKind.i64 (0)))).bind fun v => some (v, σ33)) σ33 fun x134 σ34 =>
      G _ x131 false (some (x134, σ34)) σ34 fun x135 σ35 =>
      G _ x135 true ((load PP 82 x8 σ35).bind fun v => some (v, σ35)) σ35 fun x136 σ36 =>
      G _ x135 true (some (x15, σ36)) σ36 fun x137 σ37 =>
      G _ x135 true (some (x16, σ37)) σ37 fun x138 σ38 =>
      G _ x135 true ((binOp PP .sub 3 x138 (DV.p (PV.int IntKind.i64 (1)))).bind fun v => some (v, σ38)) σ38 fun x139 σ39 =>
      G _ x135 true ((indexAddr PP 22 x137 x139).bind fun v => some (v, σ39)) σ39 fun x140 σ40 =>
      G _ x135 true ((load PP 3 x140 σ40).bind fun v => some (v, σ40)) σ40 fun x141 σ41 =>
      G _ x135 true (some (x118, σ41)) σ41 fun x142 σ42 =>
      G _ x135 true ((pureFn CC (DV.fn 45 []) [x136, x141, x142] σ42).bind fun v => some (v, σ42)) σ42 fun x143 σ43 =>
      G _ x131 false ((pickV x135 x143 (DV.p (PV.bool false))).bind fun v => some (v, σ43)) σ43 fun x144 σ44 =>
      (pickV x131 (DV.p (PV.bool true)) x144).bind fun x145 =>
      G _ x122 true (some (x145, σ44)) σ44 fun x148 σ45 =>
      (pickV x122 x148 (DV.p (PV.bool false))).bind fun x149 =>
      condK x149
       (
        N0 (f12_J0_fr x2 x8 x9 x15 x118 x109 x110) σ45
       )
       (
        (binOp PP .add 3 x118 (DV.p (PV.int IntKind.i64 (1)))).bind fun x151 =>
        codeF G PP (pol 12) CC lo (.loop c12_94) a12_93 [ud, ud, x2, ud, ud, ud, ud, ud, x8, x9, ud, ud, ud, ud, ud, x15, x16, x17, ud, ud, ud, ud, ud, ud, ud, ud, ud, ud, ud, ud, ud, ud, ud, ud, ud, ud, ud, ud, ud, ud, ud, ud, ud, ud, ud, ud, ud, ud, ud, ud, ud, ud, ud, ud, ud, ud, ud, ud, ud, ud, ud, ud, ud, ud, ud, ud, ud, ud, ud, ud, ud, ud, ud, ud, ud, ud, ud, ud, ud, ud, ud, ud, ud, ud, ud, ud, ud, ud, ud, ud, ud, ud, ud, ud, ud, ud, ud, ud, ud, ud, ud, ud, ud, ud, ud, ud, ud, ud, ud, x109, x110, ud, ud, ud, ud, ud, x116, x117, x151, ud, ud, ud, ud, ud, ud, ud, ud, ud, ud, ud, ud, ud, ud, ud, ud, ud, ud, ud, ud, ud, ud, ud, ud, ud, ud, ud, ud, ud, ud, ud, ud, ud, ud, ud, ud, ud, ud, ud, ud, ud] σ45 (blockC 8 a12_92 (splitC N0 (seqC G PP (pol 12) CC lo c12_114 a12_114 (blockC 7 a12_84 (seqC G PP (pol 12) CC lo c12_123 a12_123 (loopC G PP (pol 12) CC lo c12_77 a12_76 (blockC 6 a12_75 (seqC G PP (pol 12) CC lo c12_124 a12_124 (finR PP Go.Proofs.Try.f12.results.toList)))))))))
       )
     )
     (
      N0 (f12_J0_fr x2 x8 x9 x15 x17 x109 x110) σ
     ) := (loopF_eq G hG).trans (by kernel_rfl)
theorem f12_L3_eq (G : GuardT) (hG : GuardOk G) (lo : Nat) (x2 x8 x9 x15 x16 x17 x109 x110 x116 x117 x118 : DV) (σ : Store) : f12_L3 G lo x2 x8 x9 x15 x16 x17 x109 x110 x116 x117 x118 σ =
    (binOp PP .lss 3 x118 x117).bind fun x119 =>
    condK x119
     (
      (indexAddr PP 88 x116 x118).bind fun x121 =>
      (load PP 4 x121 σ).bind fun x122 =>
      (binOp PP .eql 3 x16 (DV.p (PV.int IntKind.i64 (0)))).bind fun x124 =>
      G _ x124 true ((fieldAddr PP 27 x2 1).bind fun v => some (v, σ)) σ fun x126 σ28 =>
      G _ x124 true ((fieldAddr PP 25 x126 1).bind fun v => some (v, σ28)) σ28 fun x127 σ29 =>
      G _ x124 true ((load PP 22 x127 σ29).bind fun v => some (v, σ29)) σ29 fun x128 σ30 =>
      G _ x124 true (some (x118, σ30)) σ30 fun x129 σ31 =>
      G _ x124 true ((pureFn CC (DV.fn 46 []) [x128, x129] σ31).bind fun v => some (v, σ31)) σ31 fun x130 σ32 =>
      (pickV x124 x130 (DV.p (PV.bool false))).bind fun x131 =>
      G _ x131 false (some (x16, σ32)) σ32 fun x133 σ33 =>
      G _ x131 false ((binOp PP .gtr 3 x133 (DV.p (PV.int IntKind.i64 (0)))).bind fun v => some (v, σ33)) σ33 fun x134 σ34 =>
      G _ x131 false (some (x134, σ34)) σ34 fun x135 σ35 =>
      G _ x135 true ((load PP 82 x8 σ35).bind fun v => some (v, σ35)) σ35 fun x136 σ36 =>
      G _ x135 true (some (x15, σ36)) σ36 fun x137 σ37 =>
      G _ x135 true (some (x16, σ37)) σ37 fun x138 σ38 =>
      G _ x135 true ((binOp PP .sub 3 x138 (DV.p (PV.int IntKind.i64 (1)))).bind fun v => some (v, σ38)) σ38 fun x139 σ39 =>
      G _ x135 true ((indexAddr PP 22 x137 x139).bind fun v => some (v, σ39)) σ39 fun x140 σ40 =>
      G _ x135 true ((load PP 3 x140 σ40).bind fun v => some (v, σ40)) σ40 fun x141 σ41 =>
      G _ x135 true (some (x118, σ41)) σ41 fun x142 σ42 =>
      G _ x135 true ((pureFn CC (DV.fn 45 []) [x136, x141, x142] σ42).bind fun v => some (v, σ42)) σ42 fun x143 σ43 =>
      G _ x131 false ((pickV x135 x143 (DV.p (PV.bool false))).bind fun v => some (v, σ43)) σ43 fun x144 σ44 =>
      (pickV x131 (DV.p (PV.bool true)) x144).bind fun x145 =>
      G _ x122 true (some (x145, σ44)) σ44 fun x148 σ45 =>
      (pickV x122 x148 (DV.p (PV.bool false))).bind fun x149 =>
      condK x149
       (
        f12_J0 G lo x2 x8 x9 x15 x118 x109 x110 σ45
       )
       (
        (binOp PP .add 3 x118 (DV.p (PV.int IntKind.i64 (1)))).bind fun x151 =>
        f12_L3 G lo x2 x8 x9 x15 x16 x17 x109 x110 x116 x117 x151 σ45
       )
     )
     (
      f12_J0 G lo x2 x8 x9 x15 x17 x109 x110 σ
     ) := by
  have h := f12_L3_gen (N0 := (seqC G PP (pol 12) CC lo c12_114 a12_114 (blockC 7 a12_84 (seqC G PP (pol 12) CC lo c12_123 a12_123 (loopC G PP (pol 12) CC lo c12_77 a12_76 (blockC 6 a12_75 (seqC G PP (pol 12) CC lo c12_124 a12_124 (finR PP Go.Proofs.Try.f12.results.toList))))))) .normal) G hG lo x2 x8 x9 x15 x16 x17 x109 x110 x116 x117 x118 σ
  simp only [splitC_eta] at h
  exact h
theorem f12_J0_eq (G : GuardT) (lo : Nat) (x2 x8 x9 x15 x17 x109 x110 : DV) (σ : Store) : f12_J0 G lo x2 x8 x9 x15 x17 x109 x110 σ =
    (binOp PP .lss 3 x17 (DV.p (PV.int IntKind.i64 (0)))).bind fun x153 =>
    condK x153
     (
      some ((DV.tuple [(DV.p PV.nilsl), (DV.p (PV.int IntKind.i64 (25)))]), σ)
     )
     (
      (buildSlice PP none 22 1 [(0, x17)] σ).bind fun r156_46 =>
      (append PP lo false 22 22 x15 r156_46.1 r156_46.2).bind fun r157_47 =>
      (binOp PP .add 3 x110 (DV.p (PV.int IntKind.i64 (1)))).bind fun x158 =>
      f12_L2 G lo x2 x8 x9 r157_47.1 x109 x158 r157_47.2
     ) := by kernel_rfl
theorem F12_eq (G : GuardT) (lo : Nat) (x0 x1 : DV) (σ : Store) : F12 G lo x0 x1 σ =
    (boxV x0).bind fun z2 =>
    (boxV x1).bind fun z3 =>
    (load PP 27 (DV.ptr (List.length σ) 0) ((σ ++ [Row.mix z2]) ++ [Row.mix z3])).bind fun x21 =>
    (pureFn CC (DV.fn 41 []) [x21] ((σ ++ [Row.mix z2]) ++ [Row.mix z3])).bind fun x22 =>
    (binOp PP .neq 30 x22 (DV.p (PV.int IntKind.i64 (0)))).bind fun x24 =>
    condK x24
     (
      some ((DV.tuple [(DV.p PV.nilsl), x22]), ((σ ++ [Row.mix z2]) ++ [Row.mix z3]))
     )
     (
      (fieldAddr PP 27 (DV.ptr (List.length σ) 0) 0).bind fun x26 =>
      (load PP 25 x26 ((σ ++ [Row.mix z2]) ++ [Row.mix z3])).bind fun x27 =>
      (load PP 22 (DV.ptr (List.length (σ ++ [Row.mix z2])) 0) ((σ ++ [Row.mix z2]) ++ [Row.mix z3])).bind fun x28 =>
      (pureFn CC (DV.fn 42 []) [x27, x28] ((σ ++ [Row.mix z2]) ++ [Row.mix z3])).bind fun x29 =>
      (binOp PP .neq 30 x29 (DV.p (PV.int IntKind.i64 (0)))).bind fun x31 =>
      condK x31
       (
        some ((DV.tuple [(DV.p PV.nilsl), x29]), ((σ ++ [Row.mix z2]) ++ [Row.mix z3]))
       )
       (
        (load PP 27 (DV.ptr (List.length σ) 0) ((σ ++ [Row.mix z2]) ++ [Row.mix z3])).bind fun x33 =>
        (pureFn CC (DV.fn 43 []) [x33] ((σ ++ [Row.mix z2]) ++ [Row.mix z3])).bind fun x34 =>
        (zeroOf PP 82).bind fun z8 =>
        (store PP lo 82 (DV.ptr (List.length ((σ ++ [Row.mix z2]) ++ [Row.mix z3])) 0) x34 (((σ ++ [Row.mix z2]) ++ [Row.mix z3]) ++ [Row.mix z8])).bind fun σ1 =>
        (load PP 22 (DV.ptr (List.length (σ ++ [Row.mix z2])) 0) σ1).bind fun x35 =>
        (len PP 22 x35 σ1).bind fun x36 =>
        (makeSlice PP true 84 x36 x36 σ1).bind fun r37_2 =>
        (zeroOf PP 84).bind fun z9 =>
        (store PP lo 84 (DV.ptr (List.length r37_2.2) 0) r37_2.1 (r37_2.2 ++ [Row.mix z9])).bind fun σ3 =>
        (load PP 22 (DV.ptr (List.length (σ ++ [Row.mix z2])) 0) σ3).bind fun x38 =>
        (pureFn CC (DV.fn 44 []) [x38] σ3).bind fun x39 =>
        rangeK (pol 12) x39 2 true true (fun xs ρ K' => f12_R0 G lo x0 x1 (DV.ptr (List.length σ) 0) (DV.ptr (List.length (σ ++ [Row.mix z2])) 0) (DV.p PV.nilsl) (DV.p (PV.int IntKind.i64 (0))) x22 x29 (DV.ptr (List.length ((σ ++ [Row.mix z2]) ++ [Row.mix z3])) 0) (DV.ptr (List.length r37_2.2) 0) x21 x22 x22 x24 x26 x27 x28 x29 x29 x31 x33 x34 x35 x36 r37_2.1 x38 x39 xs ρ K') σ3 fun ex ρ => f12_X0 G lo ex x0 x1 (DV.ptr (List.length σ) 0) (DV.ptr (List.length (σ ++ [Row.mix z2])) 0) (DV.p PV.nilsl) (DV.p (PV.int IntKind.i64 (0))) x22 x29 (DV.ptr (List.length ((σ ++ [Row.mix z2]) ++ [Row.mix z3])) 0) (DV.ptr (List.length r37_2.2) 0) x21 x22 x22 x24 x26 x27 x28 x29 x29 x31 x33 x34 x35 x36 r37_2.1 x38 x39 ρ
       )
     ) := by kernel_rfl
theorem F12_call {lo : Nat} {x0 x1 : DV} {σ : Store} {r : DV × Store} (h : F12 guardT lo x0 x1 σ = some r) : CC lo 12 [x0, x1] σ = some r :=
  callL_run Go.Proofs.Try.func12 (by decide +kernel) rfl (by decide +kernel) h
noncomputable def c17_0 : Code := bodyOf Go.Proofs.Try.f17
noncomputable def a17_0 : Ann := (pol 17).ann
noncomputable def c17_1 : Code := Code.fstC c17_0
noncomputable def a17_1 : Ann := Ann.left a17_0
noncomputable def c17_2 : Code := Code.sndC c17_0
noncomputable def a17_2 : Ann := Ann.right a17_0
noncomputable def c17_3 : Code := Code.fstC c17_2
noncomputable def a17_3 : Ann := Ann.left a17_2
noncomputable def c17_4 : Code := Code.sndC c17_2
noncomputable def a17_4 : Ann := Ann.right a17_2
noncomputable def c17_5 : Code := Code.fstC c17_4
noncomputable def a17_5 : Ann := Ann.left a17_4
noncomputable def c17_51 : Code := Code.sndC c17_4
noncomputable def a17_51 : Ann := Ann.right a17_4
noncomputable def c17_6 : Code := Code.fstC c17_5
noncomputable def a17_6 : Ann := Ann.left a17_5
noncomputable def c17_7 : Code := Code.sndC c17_5
noncomputable def a17_7 : Ann := Ann.right a17_5
noncomputable def c17_8 : Code := Code.fstC c17_7
noncomputable def a17_8 : Ann := Ann.left a17_7
noncomputable def c17_9 : Code := Code.fstC c17_8
noncomputable def a17_9 : Ann := Ann.left a17_8
noncomputable def c17_10 : Code := Code.fstC c17_9
noncomputable def a17_10 : Ann := Ann.left a17_9
noncomputable def c17_15 : Code := Code.sndC c17_9
noncomputable def a17_15 : Ann := Ann.right a17_9
noncomputable def c17_11 : Code := Code.fstC c17_10
noncomputable def a17_11 : Ann := Ann.left a17_10
noncomputable def c17_12 : Code := Code.sndC c17_10
noncomputable def a17_12 : Ann := Ann.right a17_10
noncomputable def c17_13 : Code := Code.fstC c17_12
noncomputable def a17_13 : Ann := Ann.left a17_12
noncomputable def c17_14 : Code := Code.sndC c17_12
noncomputable def a17_14 : Ann := Ann.right a17_12
noncomputable def c17_16 : Code := Code.fstC c17_15
noncomputable def a17_16 : Ann := Ann.left a17_15
noncomputable def c17_50 : Code := Code.sndC c17_15
noncomputable def a17_50 : Ann := Ann.right a17_15
noncomputable def c17_17 : Code := Code.fstC c17_16
noncomputable def a17_17 : Ann := Ann.left a17_16
noncomputable def c17_18 : Code := Code.fstC c17_17
noncomputable def a17_18 : Ann := Ann.left a17_17
noncomputable def c17_19 : Code := Code.sndC c17_17
noncomputable def a17_19 : Ann := Ann.right a17_17
noncomputable def c17_20 : Code := Code.fstC c17_19
noncomputable def a17_20 : Ann := Ann.left a17_19
noncomputable def c17_21 : Code := Code.sndC c17_19
noncomputable def a17_21 : Ann := Ann.right a17_19
noncomputable def c17_22 : Code := Code.fstC c17_21
noncomputable def a17_22 : Ann := Ann.left a17_21
noncomputable def c17_23 : Code := Code.fstC c17_22
noncomputable def a17_23 : Ann := Ann.left a17_22
noncomputable def c17_24 : Code := Code.fstC c17_23
noncomputable def a17_24 : Ann := Ann.left a17_23
noncomputable def c17_29 : Code := Code.sndC c17_23
noncomputable def a17_29 : Ann := Ann.right a17_23
noncomputable def c17_25 : Code := Code.fstC c17_24
noncomputable def a17_25 : Ann := Ann.left a17_24
noncomputable def c17_26 : Code := Code.sndC c17_24
noncomputable def a17_26 : Ann := Ann.right a17_24
noncomputable def c17_27 : Code := Code.fstC c17_26
noncomputable def a17_27 : Ann := Ann.left a17_26
noncomputable def c17_28 : Code := Code.sndC c17_26
noncomputable def a17_28 : Ann := Ann.right a17_26
noncomputable def c17_30 : Code := Code.fstC c17_29
noncomputable def a17_30 : Ann := Ann.left a17_29
noncomputable def c17_49 : Code := Code.sndC c17_29
noncomputable def a17_49 : Ann := Ann.right a17_29
noncomputable def c17_31 : Code := Code.fstC c17_30
noncomputable def a17_31 : Ann := Ann.left a17_30
noncomputable def c17_32 : Code := Code.fstC c17_31
noncomputable def a17_32 : Ann := Ann.left a17_31
noncomputable def c17_33 : Code := Code.sndC c17_31
noncomputable def a17_33 : Ann := Ann.right a17_31
noncomputable def c17_34 : Code := Code.fstC c17_33
noncomputable def a17_34 : Ann := Ann.left a17_33
noncomputable def c17_48 : Code := Code.sndC c17_33
noncomputable def a17_48 : Ann := Ann.right a17_33
noncomputable def c17_35 : Code := Code.fstC c17_34
noncomputable def a17_35 : Ann := Ann.left a17_34
noncomputable def c17_36 : Code := Code.sndC c17_34
noncomputable def a17_36 : Ann := Ann.right a17_34
noncomputable def c17_37 : Code := Code.fstC c17_36
noncomputable def a17_37 : Ann := Ann.left a17_36
noncomputable def c17_38 : Code := Code.fstC c17_37
noncomputable def a17_38 : Ann := Ann.left a17_37
noncomputable def c17_39 : Code := Code.fstC c17_38
noncomputable def a17_39 : Ann := Ann.left a17_38
noncomputable def c17_44 : Code := Code.sndC c17_38
noncomputable def a17_44 : Ann := Ann.right a17_38
noncomputable def c17_40 : Code := Code.fstC c17_39
noncomputable def a17_40 : Ann := Ann.left a17_39
noncomputable def c17_41 : Code := Code.sndC c17_39
noncomputable def a17_41 : Ann := Ann.right a17_39
noncomputable def c17_42 : Code := Code.fstC c17_41
noncomputable def a17_42 : Ann := Ann.left a17_41
noncomputable def c17_43 : Code := Code.sndC c17_41
noncomputable def a17_43 : Ann := Ann.right a17_41
noncomputable def c17_45 : Code := Code.fstC c17_44
noncomputable def a17_45 : Ann := Ann.left a17_44
noncomputable def c17_47 : Code := Code.sndC c17_44
noncomputable def a17_47 : Ann := Ann.right a17_44
noncomputable def c17_46 : Code := Code.fstC c17_45
noncomputable def a17_46 : Ann := Ann.left a17_45
noncomputable def c17_52 : Code := Code.fstC c17_51
noncomputable def a17_52 : Ann := Ann.left a17_51
noncomputable def c17_53 : Code := Code.sndC c17_51
noncomputable def a17_53 : Ann := Ann.right a17_51
noncomputable def c17_54 : Code := Code.fstC c17_53
noncomputable def a17_54 : Ann := Ann.left a17_53
noncomputable def c17_97 : Code := Code.sndC c17_53
noncomputable def a17_97 : Ann := Ann.right a17_53
noncomputable def c17_55 : Code := Code.fstC c17_54
noncomputable def a17_55 : Ann := Ann.left a17_54
noncomputable def c17_56 : Code := Code.sndC c17_54
noncomputable def a17_56 : Ann := Ann.right a17_54
noncomputable def c17_57 : Code := Code.fstC c17_56
noncomputable def a17_57 : Ann := Ann.left a17_56
noncomputable def c17_58 : Code := Code.fstC c17_57
noncomputable def a17_58 : Ann := Ann.left a17_57
noncomputable def c17_59 : Code := Code.fstC c17_58
noncomputable def a17_59 : Ann := Ann.left a17_58
noncomputable def c17_64 : Code := Code.sndC c17_58
noncomputable def a17_64 : Ann := Ann.right a17_58
noncomputable def c17_60 : Code := Code.fstC c17_59
noncomputable def a17_60 : Ann := Ann.left a17_59
noncomputable def c17_61 : Code := Code.sndC c17_59
noncomputable def a17_61 : Ann := Ann.right a17_59
noncomputable def c17_62 : Code := Code.fstC c17_61
noncomputable def a17_62 : Ann := Ann.left a17_61
noncomputable def c17_63 : Code := Code.sndC c17_61
noncomputable def a17_63 : Ann := Ann.right a17_61
noncomputable def c17_65 : Code := Code.fstC c17_64
noncomputable def a17_65 : Ann := Ann.left a17_64
noncomputable def c17_96 : Code := Code.sndC c17_64
noncomputable def a17_96 : Ann := Ann.right a17_64
noncomputable def c17_66 : Code := Code.fstC c17_65
noncomputable def a17_66 : Ann := Ann.left a17_65
noncomputable def c17_67 : Code := Code.fstC c17_66
noncomputable def a17_67 : Ann := Ann.left a17_66
noncomputable def c17_68 : Code := Code.sndC c17_66
noncomputable def a17_68 : Ann := Ann.right a17_66
noncomputable def c17_69 : Code := Code.fstC c17_68
noncomputable def a17_69 : Ann := Ann.left a17_68
noncomputable def c17_87 : Code := Code.sndC c17_68
noncomputable def a17_87 : Ann := Ann.right a17_68
noncomputable def c17_70 : Code := Code.fstC c17_69
noncomputable def a17_70 : Ann := Ann.left a17_69
noncomputable def c17_71 : Code := Code.sndC c17_69
noncomputable def a17_71 : Ann := Ann.right a17_69
noncomputable def c17_72 : Code := Code.fstC c17_71
noncomputable def a17_72 : Ann := Ann.left a17_71
noncomputable def c17_73 : Code := Code.fstC c17_72
noncomputable def a17_73 : Ann := Ann.left a17_72
noncomputable def c17_74 : Code := Code.fstC c17_73
noncomputable def a17_74 : Ann := Ann.left a17_73
noncomputable def c17_79 : Code := Code.sndC c17_73
noncomputable def a17_79 : Ann := Ann.right a17_73
noncomputable def c17_75 : Code := Code.fstC c17_74
noncomputable def a17_75 : Ann := Ann.left a17_74
noncomputable def c17_76 : Code := Code.sndC c17_74
noncomputable def a17_76 : Ann := Ann.right a17_74
noncomputable def c17_77 : Code := Code.fstC c17_76
noncomputable def a17_77 : Ann := Ann.left a17_76
noncomputable def c17_78 : Code := Code.sndC c17_76
noncomputable def a17_78 : Ann := Ann.right a17_76
noncomputable def c17_80 : Code := Code.fstC c17_79
noncomputable def a17_80 : Ann := Ann.left a17_79
noncomputable def c17_86 : Code := Code.sndC c17_79
noncomputable def a17_86 : Ann := Ann.right a17_79
noncomputable def c17_81 : Code := Code.fstC c17_80
noncomputable def a17_81 : Ann := Ann.left a17_80
noncomputable def c17_82 : Code := Code.fstC c17_81
noncomputable def a17_82 : Ann := Ann.left a17_81
noncomputable def c17_83 : Code := Code.sndC c17_81
noncomputable def a17_83 : Ann := Ann.right a17_81
noncomputable def c17_84 : Code := Code.fstC c17_83
noncomputable def a17_84 : Ann := Ann.left a17_83
noncomputable def c17_85 : Code := Code.sndC c17_83
noncomputable def a17_85 : Ann := Ann.right a17_83
noncomputable def c17_88 : Code := Code.fstC c17_87
noncomputable def a17_88 : Ann := Ann.left a17_87
noncomputable def c17_95 : Code := Code.sndC c17_87
noncomputable def a17_95 : Ann := Ann.right a17_87
noncomputable def c17_89 : Code := Code.fstC c17_88
noncomputable def a17_89 : Ann := Ann.left a17_88
noncomputable def c17_90 : Code := Code.sndC c17_88
noncomputable def a17_90 : Ann := Ann.right a17_88
noncomputable def c17_91 : Code := Code.fstC c17_90
noncomputable def a17_91 : Ann := Ann.left a17_90
noncomputable def c17_94 : Code := Code.sndC c17_90
noncomputable def a17_94 : Ann := Ann.right a17_90
noncomputable def c17_92 : Code := Code.fstC c17_91
noncomputable def a17_92 : Ann := Ann.left a17_91
noncomputable def c17_93 : Code := Code.sndC c17_91
noncomputable def a17_93 : Ann := Ann.right a17_91
noncomputable def c17_98 : Code := Code.fstC c17_97
noncomputable def a17_98 : Ann := Ann.left a17_97
noncomputable def c17_99 : Code := Code.sndC c17_97
noncomputable def a17_99 : Ann := Ann.right a17_97
noncomputable def f17_L0 (G : GuardT) (lo : Nat) (x1 x2 x6 x7 : DV) (σ : Store) : Option (DV × Store) :=
  codeF G PP (pol 17) CC lo (.loop c17_9) a17_8 [ud, x1, x2, ud, ud, ud, x6, x7, ud, ud, ud, ud, ud, ud, ud, ud, ud, ud, ud, ud, ud, ud, ud, ud, ud, ud, ud, ud, ud, ud, ud, ud, ud, ud, ud, ud, ud, ud, ud, ud, ud, ud, ud, ud, ud, ud, ud, ud, ud, ud, ud, ud, ud, ud, ud, ud, ud, ud, ud, ud, ud, ud, ud, ud, ud, ud, ud, ud, ud, ud, ud, ud, ud, ud, ud, ud, ud, ud, ud, ud, ud, ud, ud, ud, ud, ud, ud, ud, ud, ud, ud, ud, ud, ud, ud, ud, ud, ud, ud, ud, ud, ud, ud, ud, ud, ud, ud, ud, ud, ud, ud, ud, ud, ud, ud, ud, ud, ud, ud, ud, ud, ud, ud, ud, ud, ud, ud, ud, ud, ud, ud, ud, ud, ud, ud, ud, ud, ud, ud, ud, ud, ud, ud, ud, ud, ud, ud, ud] σ
   (blockC 0 a17_7 (seqC G PP (pol 17) CC lo c17_51 a17_51 (finR PP Go.Proofs.Try.f17.results.toList)))
noncomputable def f17_L1 (G : GuardT) (lo : Nat) (x1 x2 x6 x7 x8 : DV) (σ : Store) : Option (DV × Store) :=
  codeF G PP (pol 17) CC lo (.loop c17_23) a17_22 [ud, x1, x2, ud, ud, ud, x6, x7, x8, ud, ud, ud, ud, ud, ud, ud, ud, ud, ud, ud, ud, ud, ud, ud, ud, ud, ud, ud, ud, ud, ud, ud, ud, ud, ud, ud, ud, ud, ud, ud, ud, ud, ud, ud, ud, ud, ud, ud, ud, ud, ud, ud, ud, ud, ud, ud, ud, ud, ud, ud, ud, ud, ud, ud, ud, ud, ud, ud, ud, ud, ud, ud, ud, ud, ud, ud, ud, ud, ud, ud, ud, ud, ud, ud, ud, ud, ud, ud, ud, ud, ud, ud, ud, ud, ud, ud, ud, ud, ud, ud, ud, ud, ud, ud, ud, ud, ud, ud, ud, ud, ud, ud, ud, ud, ud, ud, ud, ud, ud, ud, ud, ud, ud, ud, ud, ud, ud, ud, ud, ud, ud, ud, ud, ud, ud, ud, ud, ud, ud, ud, ud, ud, ud, ud, ud, ud, ud, ud] σ
   (blockC 2 a17_21 (blockC 1 a17_16 (seqC G PP (pol 17) CC lo c17_50 a17_50 (loopC G PP (pol 17) CC lo c17_9 a17_8 (blockC 0 a17_7 (seqC G PP (pol 17) CC lo c17_51 a17_51 (finR PP Go.Proofs.Try.f17.results.toList)))))))
noncomputable def f17_L2 (G : GuardT) (lo : Nat) (x1 x2 x6 x7 x8 x9 x10 : DV) (σ : Store) : Option (DV × Store) :=
  codeF G PP (pol 17) CC lo (.loop c17_38) a17_37 [ud, x1, x2, ud, ud, ud, x6, x7, x8, x9, x10, ud, ud, ud, ud, ud, ud, ud, ud, ud, ud, ud, ud, ud, ud, ud, ud, ud, ud, ud, ud, ud, ud, ud, ud, ud, ud, ud, ud, ud, ud, ud, ud, ud, ud, ud, ud, ud, ud, ud, ud, ud, ud, ud, ud, ud, ud, ud, ud, ud, ud, ud, ud, ud, ud, ud, ud, ud, ud, ud, ud, ud, ud, ud, ud, ud, ud, ud, ud, ud, ud, ud, ud, ud, ud, ud, ud, ud, ud, ud, ud, ud, ud, ud, ud, ud, ud, ud, ud, ud, ud, ud, ud, ud, ud, ud, ud, ud, ud, ud, ud, ud, ud, ud, ud, ud, ud, ud, ud, ud, ud, ud, ud, ud, ud, ud, ud, ud, ud, ud, ud, ud, ud, ud, ud, ud, ud, ud, ud, ud, ud, ud, ud, ud, ud, ud, ud, ud] σ
   (blockC 4 a17_36 (seqC G PP (pol 17) CC lo c17_48 a17_48 (blockC 3 a17_30 (seqC G PP (pol 17) CC lo c17_49 a17_49 (loopC G PP (pol 17) CC lo c17_23 a17_22 (blockC 2 a17_21 (blockC 1 a17_16 (seqC G PP (pol 17) CC lo c17_50 a17_50 (loopC G PP (pol 17) CC lo c17_9 a17_8 (blockC 0 a17_7 (seqC G PP (pol 17) CC lo c17_51 a17_51 (finR PP Go.Proofs.Try.f17.results.toList))))))))))))
noncomputable def f17_L3 (G : GuardT) (lo : Nat) (x1 x2 x6 x11 x12 : DV) (σ : Store) : Option (DV × Store) :=
  codeF G PP (pol 17) CC lo (.loop c17_58) a17_57 [ud, x1, x2, ud, ud, ud, x6, ud, ud, ud, ud, x11, x12, ud, ud, ud, ud, ud, ud, ud, ud, ud, ud, ud, ud, ud, ud, ud, ud, ud, ud, ud, ud, ud, ud, ud, ud, ud, ud, ud, ud, ud, ud, ud, ud, ud, ud, ud, ud, ud, ud, ud, ud, ud, ud, ud, ud, ud, ud, ud, ud, ud, ud, ud, ud, ud, ud, ud, ud, ud, ud, ud, ud, ud, ud, ud, ud, ud, ud, ud, ud, ud, ud, ud, ud, ud, ud, ud, ud, ud, ud, ud, ud, ud, ud, ud, ud, ud, ud, ud, ud, ud, ud, ud, ud, ud, ud, ud, ud, ud, ud, ud, ud, ud, ud, ud, ud, ud, ud, ud, ud, ud, ud, ud, ud, ud, ud, ud, ud, ud, ud, ud, ud, ud, ud, ud, ud, ud, ud, ud, ud, ud, ud, ud, ud, ud, ud, ud] σ
   (blockC 6 a17_56 (seqC G PP (pol 17) CC lo c17_97 a17_97 (finR PP Go.Proofs.Try.f17.results.toList)))
noncomputable def f17_L4 (G : GuardT) (lo : Nat) (x1 x2 x6 x11 x12 x13 x14 : DV) (σ : Store) : Option (DV × Store) :=
  codeF G PP (pol 17) CC lo (.loop c17_73) a17_72 [ud, x1, x2, ud, ud, ud, x6, ud, ud, ud, ud, x11, x12, x13, x14, ud, ud, ud, ud, ud, ud, ud, ud, ud, ud, ud, ud, ud, ud, ud, ud, ud, ud, ud, ud, ud, ud, ud, ud, ud, ud, ud, ud, ud, ud, ud, ud, ud, ud, ud, ud, ud, ud, ud, ud, ud, ud, ud, ud, ud, ud, ud, ud, ud, ud, ud, ud, ud, ud, ud, ud, ud, ud, ud, ud, ud, ud, ud, ud, ud, ud, ud, ud, ud, ud, ud, ud, ud, ud, ud, ud, ud, ud, ud, ud, ud, ud, ud, ud, ud, ud, ud, ud, ud, ud, ud, ud, ud, ud, ud, ud, ud, ud, ud, ud, ud, ud, ud, ud, ud, ud, ud, ud, ud, ud, ud, ud, ud, ud, ud, ud, ud, ud, ud, ud, ud, ud, ud, ud, ud, ud, ud, ud, ud, ud, ud, ud, ud] σ
   (blockC 8 a17_71 (seqC G PP (pol 17) CC lo c17_87 a17_87 (blockC 7 a17_65 (seqC G PP (pol 17) CC lo c17_96 a17_96 (loopC G PP (pol 17) CC lo c17_58 a17_57 (blockC 6 a17_56 (seqC G PP (pol 17) CC lo c17_97 a17_97 (finR PP Go.Proofs.Try.f17.results.toList))))))))
def f17_J0_fr (x1 x2 x6 x11 x12 x13 x14 x103 x104 x107 x108 x109 x110 x111 x112 x113 x114 x115 x116 x117 x118 x119 x120 x121 x122 x123 x124 x125 x126 x127 x128 x129 x130 x131 x132 x133 x134 x135 x136 x137 x138 x139 x140 : DV) : Frame := [ud, x1, x2, ud, ud, ud, x6, ud, ud, ud, ud, x11, x12, x13, x14, ud, ud, ud, ud, ud, ud, ud, ud, ud, ud, ud, ud, ud, ud, ud, ud, ud, ud, ud, ud, ud, ud, ud, ud, ud, ud, ud, ud, ud, ud, ud, ud, ud, ud, ud, ud, ud, ud, ud, ud, ud, ud, ud, ud, ud, ud, ud, ud, ud, ud, ud, ud, ud, ud, ud, ud, ud, ud, ud, ud, ud, ud, ud, ud, ud, ud, ud, ud, ud, ud, ud, ud, ud, ud, ud, ud, ud, ud, ud, ud, ud, ud, ud, ud, ud, ud, ud, ud, x103, x104, ud, ud, x107, x108, x109, x110, x111, x112, x113, x114, x115, x116, x117, x118, x119, x120, x121, x122, x123, x124, x125, x126, x127, x128, x129, x130, x131, x132, x133, x134, x135, x136, x137, x138, x139, x140, ud, ud, ud, ud, ud, ud, ud]
noncomputable def f17_J0 (G : GuardT) (lo : Nat) (x1 x2 x6 x11 x12 x13 x14 x103 x104 x107 x108 x109 x110 x111 x112 x113 x114 x115 x116 x117 x118 x119 x120 x121 x122 x123 x124 x125 x126 x127 x128 x129 x130 x131 x132 x133 x134 x135 x136 x137 x138 x139 x140 : DV) (σ : Store) : Option (DV × Store) :=
  (blockC 9 a17_80 (seqC G PP (pol 17) CC lo c17_86 a17_86 (loopC G PP (pol 17) CC lo c17_73 a17_72 (blockC 8 a17_71 (seqC G PP (pol 17) CC lo c17_87 a17_87 (blockC 7 a17_65 (seqC G PP (pol 17) CC lo c17_96 a17_96 (loopC G PP (pol 17) CC lo c17_58 a17_57 (blockC 6 a17_56 (seqC G PP (pol 17) CC lo c17_97 a17_97 (finR PP Go.Proofs.Try.f17.results.toList))))))))))) .normal (f17_J0_fr x1 x2 x6 x11 x12 x13 x14 x103 x104 x107 x108 x109 x110 x111 x112 x113 x114 x115 x116 x117 x118 x119 x120 x121 x122 x123 x124 x125 x126 x127 x128 x129 x130 x131 x132 x133 x134 x135 x136 x137 x138 x139 x140) σ
noncomputable def F17 (G : GuardT) (lo : Nat) (x0 x1 : DV) (σ : Store) : Option (DV × Store) :=
  codeF G PP (pol 17) CC lo c17_0 a17_0 [x0, x1, ud, ud, ud, ud, ud, ud, ud, ud, ud, ud, ud, ud, ud, ud, ud, ud, ud, ud, ud, ud, ud, ud, ud, ud, ud, ud, ud, ud, ud, ud, ud, ud, ud, ud, ud, ud, ud, ud, ud, ud, ud, ud, ud, ud, ud, ud, ud, ud, ud, ud, ud, ud, ud, ud, ud, ud, ud, ud, ud, ud, ud, ud, ud, ud, ud, ud, ud, ud, ud, ud, ud, ud, ud, ud, ud, ud, ud, ud, ud, ud, ud, ud, ud, ud, ud, ud, ud, ud, ud, ud, ud, ud, ud, ud, ud, ud, ud, ud, ud, ud, ud, ud, ud, ud, ud, ud, ud, ud, ud, ud, ud, ud, ud, ud, ud, ud, ud, ud, ud, ud, ud, ud, ud, ud, ud, ud, ud, ud, ud, ud, ud, ud, ud, ud, ud, ud, ud, ud, ud, ud, ud, ud, ud, ud, ud, ud] σ (finR PP Go.Proofs.Try.f17.results.toList)
theorem f17_L0_eq (G : GuardT) (hG : GuardOk G) (lo : Nat) (x1 x2 x6 x7 : DV) (σ : Store) : f17_L0 G lo x1 x2 x6 x7 σ =
    (binOp PP .geq 3 x7 (DV.p (PV.int IntKind.i64 (0)))).bind fun x22 =>
    condK x22
     (
      (fieldAddr PP 27 x2 1).bind fun x27 =>
      (fieldAddr PP 25 x27 0).bind fun x28 =>
      (load PP 3 x28 σ).bind fun x29 =>
      (makeSlice PP false 88 x29 x29 σ).bind fun r30_2 =>
      (indexAddr PP 84 x6 x7).bind fun x31 =>
      (store PP lo 88 x31 r30_2.1 r30_2.2).bind fun σ3 =>
      f17_L1 G lo x1 x2 x6 x7 (DV.p (PV.int IntKind.i64 (0))) σ3
     )
     (
      f17_L3 G lo x1 x2 x6 (DV.p PV.nilsl) (DV.p (PV.int IntKind.i64 (0))) σ
     ) := (loopF_eq G hG).trans (by kernel_rfl)
theorem f17_L1_eq (G : GuardT) (hG : GuardOk G) (lo : Nat) (x1 x2 x6 x7 x8 : DV) (σ : Store) : f17_L1 G lo x1 x2 x6 x7 x8 σ =
    (fieldAddr PP 27 x2 1).bind fun x33 =>
    (fieldAddr PP 25 x33 0).bind fun x34 =>
    (load PP 3 x34 σ).bind fun x35 =>
    (binOp PP .lss 3 x8 x35).bind fun x36 =>
    condK x36
     (
      (len PP 22 x1 σ).bind fun x41 =>
      (binOp PP .sub 3 x41 (DV.p (PV.int IntKind.i64 (1)))).bind fun x42 =>
      (binOp PP .eql 3 x7 x42).bind fun x43 =>
      f17_L2 G lo x1 x2 x6 x7 x8 x43 (DV.p (PV.int IntKind.i64 (0))) σ
     )
     (
      (binOp PP .sub 3 x7 (DV.p (PV.int IntKind.i64 (1)))).bind fun x24 =>
      f17_L0 G lo x1 x2 x6 x24 σ
     ) := (loopF_eq G hG).trans (by kernel_rfl)
theorem f17_L2_eq (G : GuardT) (hG : GuardOk G) (lo : Nat) (x1 x2 x6 x7 x8 x9 x10 : DV) (σ : Store) : f17_L2 G lo x1 x2 x6 x7 x8 x9 x10 σ =
    (fieldAddr PP 27 x2 1).bind fun x45 =>
    (fieldAddr PP 25 x45 0).bind fun x46 =>
    (load PP 3 x46 σ).bind fun x47 =>
    (binOp PP .lss 3 x10 x47).bind fun x48 =>
    G _ x48 true (some (x9, σ)) σ fun x50 σ4 =>
    G _ x48 true ((unOp .not x50).bind fun v => some (v, σ4)) σ4 fun x51 σ5 =>
    (pickV x48 x51 (DV.p (PV.bool false))).bind fun x52 =>
    condK x52
     (
      (binOp PP .add 3 x7 (DV.p (PV.int IntKind.i64 (1)))).bind fun x57 =>
      (indexAddr PP 84 x6 x57).bind fun x58 =>
      (load PP 88 x58 σ5).bind fun x59 =>
      (indexAddr PP 88 x59 x10).bind fun x61 =>
      (load PP 4 x61 σ5).bind fun x62 =>
      G _ x62 true ((fieldAddr PP 27 x2 1).bind fun v => some (v, σ5)) σ5 fun x64 σ6 =>
      G _ x62 true ((load PP 25 x64 σ6).bind fun v => some (v, σ6)) σ6 fun x65 σ7 =>
      G _ x62 true (some (x8, σ7)) σ7 fun x66 σ8 =>
      G _ x62 true (some (x10, σ8)) σ8 fun x67 σ9 =>
      G _ x62 true ((pureFn CC (DV.fn 50 []) [x65, x66, x67] σ9).bind fun v => some (v, σ9)) σ9 fun x68 σ10 =>
      (pickV x62 x68 (DV.p (PV.bool false))).bind fun x69 =>
      (binOp PP .add 3 x10 (DV.p (PV.int IntKind.i64 (1)))).bind fun x54 =>
      f17_L2 G lo x1 x2 x6 x7 x8 x69 x54 σ10
     )
     (
      (indexAddr PP 84 x6 x7).bind fun x72 =>
      (load PP 88 x72 σ5).bind fun x73 =>
      G _ x9 true ((fieldAddr PP 27 x2 2).bind fun v => some (v, σ5)) σ5 fun x77 σ11 =>
      G _ x9 true ((load PP 22 x77 σ11).bind fun v => some (v, σ11)) σ11 fun x78 σ12 =>
      G _ x9 true (some (x1, σ12)) σ12 fun x79 σ13 =>
      G _ x9 true (some (x7, σ13)) σ13 fun x80 σ14 =>
      G _ x9 true ((indexAddr PP 22 x79 x80).bind fun v => some (v, σ14)) σ14 fun x81 σ15 =>
      G _ x9 true ((load PP 3 x81 σ15).bind fun v => some (v, σ15)) σ15 fun x82 σ16 =>
      G _ x9 true ((indexAddr PP 22 x78 x82).bind fun v => some (v, σ16)) σ16 fun x83 σ17 =>
      G _ x9 true ((load PP 3 x83 σ17).bind fun v => some (v, σ17)) σ17 fun x84 σ18 =>
      G _ x9 true ((fieldAddr PP 27 x2 3).bind fun v => some (v, σ18)) σ18 fun x85 σ19 =>
      G _ x9 true ((load PP 22 x85 σ19).bind fun v => some (v, σ19)) σ19 fun x86 σ20 =>
      G _ x9 true (some (x8, σ20)) σ20 fun x87 σ21 =>
      G _ x9 true ((indexAddr PP 22 x86 x87).bind fun v => some (v, σ21)) σ21 fun x88 σ22 =>
      G _ x9 true ((load PP 3 x88 σ22).bind fun v => some (v, σ22)) σ22 fun x89 σ23 =>
      G _ x9 true ((binOp PP .eql 3 x84 x89).bind fun v => some (v, σ23)) σ23 fun x90 σ24 =>
      (pickV x9 x90 (DV.p (PV.bool false))).bind fun x91 =>
      (indexAddr PP 88 x73 x8).bind fun x92 =>
      (store PP lo 4 x92 x91 σ24).bind fun σ25 =>
      (binOp PP .add 3 x8 (DV.p (PV.int IntKind.i64 (1)))).bind fun x38 =>
      f17_L1 G lo x1 x2 x6 x7 x38 σ25
     ) := (loopF_eq G hG).trans (by kernel_rfl)
theorem f17_L3_eq (G : GuardT) (hG : GuardOk G) (lo : Nat) (x1 x2 x6 x11 x12 : DV) (σ : Store) : f17_L3 G lo x1 x2 x6 x11 x12 σ =
    (len PP 22 x1 σ).bind fun x95 =>
    (binOp PP .lss 3 x12 x95).bind fun x96 =>
    condK x96
     (
      (fieldAddr PP 27 x2 1).bind fun x99 =>
      (fieldAddr PP 25 x99 0).bind fun x100 =>
      (load PP 3 x100 σ).bind fun x101 =>
      (binOp PP .sub 3 x101 (DV.p (PV.int IntKind.i64 (1)))).bind fun x102 =>
      f17_L4 G lo x1 x2 x6 x11 x12 (DV.p (PV.int IntKind.i64 (-1))) x102 σ
     )
     (
      some ((DV.tuple [x11, (DV.p (PV.bool true))]), σ)
     ) := (loopF_eq G hG).trans (by kernel_rfl)
theorem f17_L4_eq (G : GuardT) (hG : GuardOk G) (lo : Nat) (x1 x2 x6 x11 x12 x13 x14 : DV) (σ : Store) : f17_L4 G lo x1 x2 x6 x11 x12 x13 x14 σ =
    (binOp PP .geq 3 x14 (DV.p (PV.int IntKind.i64 (0)))).bind fun x104 =>
    condK x104
     (
      (indexAddr PP 84 x6 x12).bind fun x109 =>
      (load PP 88 x109 σ).bind fun x110 =>
      (indexAddr PP 88 x110 x14).bind fun x112 =>
      (load PP 4 x112 σ).bind fun x113 =>
      G _ x113 true (some (x12, σ)) σ fun x115 σ26 =>
      G _ x113 true ((binOp PP .eql 3 x115 (DV.p (PV.int IntKind.i64 (0)))).bind fun v => some (v, σ26)) σ26 fun x116 σ27 =>
      G _ x113 true (some (x116, σ27)) σ27 fun x117 σ28 =>
      G _ x117 true ((fieldAddr PP 27 x2 1).bind fun v => some (v, σ28)) σ28 fun x118 σ29 =>
      G _ x117 true ((fieldAddr PP 25 x118 1).bind fun v => some (v, σ29)) σ29 fun x119 σ30 =>
      G _ x117 true ((load PP 22 x119 σ30).bind fun v => some (v, σ30)) σ30 fun x120 σ31 =>
      G _ x117 true (some (x14, σ31)) σ31 fun x121 σ32 =>
      G _ x117 true ((pureFn CC (DV.fn 49 []) [x120, x121] σ32).bind fun v => some (v, σ32)) σ32 fun x122 σ33 =>
      G _ x113 true ((pickV x117 x122 (DV.p (PV.bool false))).bind fun v => some (v, σ33)) σ33 fun x123 σ34 =>
      G _ x113 true (some (x123, σ34)) σ34 fun x124 σ35 =>
      G _ x124 false (some (x12, σ35)) σ35 fun x125 σ36 =>
      G _ x124 false ((binOp PP .gtr 3 x125 (DV.p (PV.int IntKind.i64 (0)))).bind fun v => some (v, σ36)) σ36 fun x126 σ37 =>
      G _ x124 false (some (x126, σ37)) σ37 fun x127 σ38 =>
      G _ x127 true ((fieldAddr PP 27 x2 1).bind fun v => some (v, σ38)) σ38 fun x128 σ39 =>
      G _ x127 true ((load PP 25 x128 σ39).bind fun v => some (v, σ39)) σ39 fun x129 σ40 =>
      G _ x127 true (some (x11, σ40)) σ40 fun x130 σ41 =>
      G _ x127 true (some (x12, σ41)) σ41 fun x131 σ42 =>
      G _ x127 true ((binOp PP .sub 3 x131 (DV.p (PV.int IntKind.i64 (1)))).bind fun v => some (v, σ42)) σ42 fun x132 σ43 =>
      G _ x127 true ((indexAddr PP 22 x130 x132).bind fun v => some (v, σ43)) σ43 fun x133 σ44 =>
      G _ x127 true ((load PP 3 x133 σ44).bind fun v => some (v, σ44)) σ44 fun x134 σ45 =>
      G _ x127 true (some (x14, σ45)) σ45 fun x135 σ46 =>
      G _ x127 true ((pureFn CC (DV.fn 50 []) [x129, x134, x135] σ46).bind fun v => some (v, σ46)) σ46 fun x136 σ47 =>
      G _ x124 false ((pickV x127 x136 (DV.p (PV.bool false))).bind fun v => some (v, σ47)) σ47 fun x137 σ48 =>
      G _ x113 true ((pickV x124 (DV.p (PV.bool true)) x137).bind fun v => some (v, σ48)) σ48 fun x138 σ49 =>
      (pickV x113 x138 (DV.p (PV.bool false))).bind fun x139 =>
      condK x139
       (
        f17_J0 G lo x1 x2 x6 x11 x12 x14 x14 x14 x104 x6 x12 x109 x110 x14 x112 x113 x113 x115 x116 x117 x118 x119 x120 x121 x122 x123 x124 x125 x126 x127 x128 x129 x130 x131 x132 x133 x134 x135 x136 x137 x138 x139 x14 σ49
       )
       (
        f17_J0 G lo x1 x2 x6 x11 x12 x13 x14 x14 x104 x6 x12 x109 x110 x14 x112 x113 x113 x115 x116 x117 x118 x119 x120 x121 x122 x123 x124 x125 x126 x127 x128 x129 x130 x131 x132 x133 x134 x135 x136 x137 x138 x139 ud σ49
       )
     )
     (
      (binOp PP .lss 3 x13 (DV.p (PV.int IntKind.i64 (0)))).bind fun x142 =>
      condK x142
       (
        some ((DV.tuple [(DV.p PV.nilsl), (DV.p (PV.bool false))]), σ)
       )
       (
        (buildSlice PP none 22 1 [(0, x13)] σ).bind fun r145_50 =>
        (append PP lo false 22 22 x11 r145_50.1 r145_50.2).bind fun r146_51 =>
        (binOp PP .add 3 x12 (DV.p (PV.int IntKind.i64 (1)))).bind fun x98 =>
        f17_L3 G lo x1 x2 x6 r146_51.1 x98 r146_51.2
       )
     ) := (loopF_eq G hG).trans (by kernel_rfl)
theorem f17_J0_eq (G : GuardT) (lo : Nat) (x1 x2 x6 x11 x12 x13 x14 x103 x104 x107 x108 x109 x110 x111 x112 x113 x114 x115 x116 x117 x118 x119 x120 x121 x122 x123 x124 x125 x126 x127 x128 x129 x130 x131 x132 x133 x134 x135 x136 x137 x138 x139 x140 : DV) (σ : Store) : f17_J0 G lo x1 x2 x6 x11 x12 x13 x14 x103 x104 x107 x108 x109 x110 x111 x112 x113 x114 x115 x116 x117 x118 x119 x120 x121 x122 x123 x124 x125 x126 x127 x128 x129 x130 x131 x132 x133 x134 x135 x136 x137 x138 x139 x140 σ =
    (binOp PP .sub 3 x14 (DV.p (PV.int IntKind.i64 (1)))).bind fun x106 =>
    f17_L4 G lo x1 x2 x6 x11 x12 x13 x106 σ := by kernel_rfl
theorem F17_eq (G : GuardT) (lo : Nat) (x0 x1 : DV) (σ : Store) : F17 G lo x0 x1 σ =
    (boxV x0).bind fun z2 =>
    (len PP 22 x1 (σ ++ [Row.mix z2])).bind fun x16 =>
    (makeSlice PP true 84 x16 x16 (σ ++ [Row.mix z2])).bind fun r17_1 =>
    (len PP 22 x1 r17_1.2).bind fun x19 =>
    (binOp PP .sub 3 x19 (DV.p (PV.int IntKind.i64 (1)))).bind fun x20 =>
    f17_L0 G lo x1 (DV.ptr (List.length σ) 0) r17_1.1 x20 r17_1.2 := by kernel_rfl
theorem F17_call {lo : Nat} {x0 x1 : DV} {σ : Store} {r : DV × Store} (h : F17 guardT lo x0 x1 σ = some r) : CC lo 17 [x0, x1] σ = some r :=
  callL_run Go.Proofs.Try.func17 (by decide +kernel) rfl (by decide +kernel) h
end Go.D
end
/- Equations of functions 10, printed by gen.py. -/
section
set_option linter.unusedVariables false
set_option maxRecDepth 10000
namespace Go.D
noncomputable def c10_0 : Code := bodyOf Go.Proofs.Try.f10
noncomputable def a10_0 : Ann := (pol 10).ann
noncomputable def c10_1 : Code := Code.fstC c10_0
noncomputable def a10_1 : Ann := Ann.left a10_0
noncomputable def c10_2 : Code := Code.sndC c10_0
noncomputable def a10_2 : Ann := Ann.right a10_0
noncomputable def c10_3 : Code := Code.fstC c10_2
noncomputable def a10_3 : Ann := Ann.left a10_2
noncomputable def c10_4 : Code := Code.sndC c10_2
noncomputable def a10_4 : Ann := Ann.right a10_2
noncomputable def c10_5 : Code := Code.fstC c10_4
noncomputable def a10_5 : Ann := Ann.left a10_4
noncomputable def c10_6 : Code := Code.sndC c10_4
noncomputable def a10_6 : Ann := Ann.right a10_4
noncomputable def c10_7 : Code := Code.fstC c10_6
noncomputable def a10_7 : Ann := Ann.left a10_6
noncomputable def c10_8 : Code := Code.sndC c10_6
noncomputable def a10_8 : Ann := Ann.right a10_6
noncomputable def c10_9 : Code := Code.fstC c10_8
noncomputable def a10_9 : Ann := Ann.left a10_8
noncomputable def c10_10 : Code := Code.sndC c10_8
noncomputable def a10_10 : Ann := Ann.right a10_8
noncomputable def c10_11 : Code := Code.fstC c10_10
noncomputable def a10_11 : Ann := Ann.left a10_10
noncomputable def c10_12 : Code := Code.sndC c10_10
noncomputable def a10_12 : Ann := Ann.right a10_10
noncomputable def c10_13 : Code := Code.fstC c10_12
noncomputable def a10_13 : Ann := Ann.left a10_12
noncomputable def c10_20 : Code := Code.sndC c10_12
noncomputable def a10_20 : Ann := Ann.right a10_12
noncomputable def c10_14 : Code := Code.fstC c10_13
noncomputable def a10_14 : Ann := Ann.left a10_13
noncomputable def c10_15 : Code := Code.sndC c10_13
noncomputable def a10_15 : Ann := Ann.right a10_13
noncomputable def c10_16 : Code := Code.fstC c10_15
noncomputable def a10_16 : Ann := Ann.left a10_15
noncomputable def c10_19 : Code := Code.sndC c10_15
noncomputable def a10_19 : Ann := Ann.right a10_15
noncomputable def c10_17 : Code := Code.fstC c10_16
noncomputable def a10_17 : Ann := Ann.left a10_16
noncomputable def c10_18 : Code := Code.sndC c10_16
noncomputable def a10_18 : Ann := Ann.right a10_16
noncomputable def c10_21 : Code := Code.fstC c10_20
noncomputable def a10_21 : Ann := Ann.left a10_20
noncomputable def c10_22 : Code := Code.sndC c10_20
noncomputable def a10_22 : Ann := Ann.right a10_20
noncomputable def F10 (G : GuardT) (lo : Nat) (σ : Store) : Option (DV × Store) :=
  codeF G PP (pol 10) CC lo c10_0 a10_0 [ud, ud, ud, ud, ud, ud, ud, ud, ud, ud, ud, ud, ud, ud, ud, ud, ud, ud, ud, ud, ud, ud, ud, ud, ud, ud, ud, ud, ud, ud, ud, ud, ud, ud, ud, ud, ud, ud, ud, ud, ud, ud, ud, ud, ud, ud, ud, ud, ud, ud, ud, ud, ud, ud, ud, ud, ud, ud, ud, ud, ud, ud, ud, ud, ud, ud, ud, ud, ud, ud, ud, ud, ud, ud, ud, ud, ud, ud, ud, ud, ud, ud, ud, ud, ud, ud, ud, ud, ud, ud, ud, ud, ud, ud, ud, ud, ud, ud, ud, ud] σ (finR PP Go.Proofs.Try.f10.results.toList)
theorem F10_eq (G : GuardT) (lo : Nat) (σ : Store) : F10 G lo σ =
    (pureFn CC (DV.fn 38 []) [] σ).bind fun x12 =>
    (buildSlice PP none 22 3 [(0, (DV.p (PV.int IntKind.i64 (0)))), (1, (DV.p (PV.int IntKind.i64 (0)))), (2, (DV.p (PV.int IntKind.i64 (1))))] σ).bind fun r13_1 =>
    (pureFn CC (DV.fn 23 []) [x12, r13_1.1] r13_1.2).bind fun x14 =>
    (extractV x14 0).bind fun x15 =>
    (extractV x14 1).bind fun x16 =>
    (zeroOf PP 47).bind fun z1 =>
    (store PP lo 47 (DV.ptr (List.length r13_1.2) 0) x15 (r13_1.2 ++ [Row.mix z1])).bind fun σ2 =>
    (pureFn CC (DV.fn 38 []) [] σ2).bind fun x18 =>
    (buildSlice PP none 22 3 [(0, (DV.p (PV.int IntKind.i64 (0)))), (1, (DV.p (PV.int IntKind.i64 (1)))), (2, (DV.p (PV.int IntKind.i64 (1))))] σ2).bind fun r19_3 =>
    (pureFn CC (DV.fn 23 []) [x18, r19_3.1] r19_3.2).bind fun x20 =>
    (extractV x20 0).bind fun x21 =>
    (extractV x20 1).bind fun x22 =>
    (zeroOf PP 47).bind fun z3 =>
    (store PP lo 47 (DV.ptr (List.length r19_3.2) 0) x21 (r19_3.2 ++ [Row.mix z3])).bind fun σ4 =>
    (pureFn CC (DV.fn 38 []) [] σ4).bind fun x24 =>
    (pureFn CC (DV.fn 24 []) [x24] σ4).bind fun x25 =>
    (extractV x25 0).bind fun x26 =>
    (extractV x25 1).bind fun x27 =>
    (pureFn CC (DV.fn 39 []) [] σ4).bind fun x29 =>
    (pureFn CC (DV.fn 29 []) [x29] σ4).bind fun x30 =>
    (extractV x30 0).bind fun x31 =>
    (extractV x30 1).bind fun x32 =>
    (pureFn CC (DV.fn 38 []) [] σ4).bind fun x34 =>
    (buildSlice PP none 22 3 [(0, (DV.p (PV.int IntKind.i64 (0)))), (1, (DV.p (PV.int IntKind.i64 (1)))), (2, (DV.p (PV.int IntKind.i64 (2))))] σ4).bind fun r35_5 =>
    (pureFn CC (DV.fn 12 []) [x34, r35_5.1] r35_5.2).bind fun x36 =>
    (extractV x36 0).bind fun x37 =>
    (extractV x36 1).bind fun x38 =>
    (binOp PP .neq 30 x16 (DV.p (PV.int IntKind.i64 (0)))).bind fun x40 =>
    G _ x40 false (some (x22, r35_5.2)) r35_5.2 fun x42 σ6 =>
    G _ x40 false ((binOp PP .neq 30 x42 (DV.p (PV.int IntKind.i64 (31)))).bind fun v => some (v, σ6)) σ6 fun x43 σ7 =>
    (pickV x40 (DV.p (PV.bool true)) x43).bind fun x44 =>
    G _ x44 false (some (x27, σ7)) σ7 fun x46 σ8 =>
    G _ x44 false ((binOp PP .neq 30 x46 (DV.p (PV.int IntKind.i64 (0)))).bind fun v => some (v, σ8)) σ8 fun x47 σ9 =>
    (pickV x44 (DV.p (PV.bool true)) x47).bind fun x48 =>
    G _ x48 false (some (x32, σ9)) σ9 fun x50 σ10 =>
    G _ x48 false ((binOp PP .neq 30 x50 (DV.p (PV.int IntKind.i64 (0)))).bind fun v => some (v, σ10)) σ10 fun x51 σ11 =>
    (pickV x48 (DV.p (PV.bool true)) x51).bind fun x52 =>
    G _ x52 false (some (x38, σ11)) σ11 fun x54 σ12 =>
    G _ x52 false ((binOp PP .neq 30 x54 (DV.p (PV.int IntKind.i64 (0)))).bind fun v => some (v, σ12)) σ12 fun x55 σ13 =>
    (pickV x52 (DV.p (PV.bool true)) x55).bind fun x56 =>
    G _ x56 false (some (x31, σ13)) σ13 fun x58 σ14 =>
    G _ x56 false ((len PP 61 x58 σ14).bind fun v => some (v, σ14)) σ14 fun x59 σ15 =>
    G _ x56 false ((binOp PP .neq 3 x59 (DV.p (PV.int IntKind.i64 (6)))).bind fun v => some (v, σ15)) σ15 fun x60 σ16 =>
    (pickV x56 (DV.p (PV.bool true)) x60).bind fun x61 =>
    condK x61
     (
      some ((DV.p (PV.bool false)), σ16)
     )
     (
      (load PP 47 (DV.ptr (List.length r19_3.2) 0) σ16).bind fun x62 =>
      (buildSlice PP none 22 2 [(0, (DV.p (PV.int IntKind.i64 (0)))), (1, (DV.p (PV.int IntKind.i64 (1))))] σ16).bind fun r63_17 =>
      (build PP 47 [(0, (DV.p (PV.int IntKind.i64 (0)))), (1, (DV.p (PV.int IntKind.i64 (1)))), (2, r63_17.1)]).bind fun x64 =>
      (pureFn CC (DV.fn 40 []) [x62, x64] r63_17.2).bind fun x65 =>
      G _ x65 true (some (x26, r63_17.2)) r63_17.2 fun x67 σ18 =>
      G _ x65 true ((buildSlice PP none 22 2 [(0, (DV.p (PV.int IntKind.i64 (0)))), (1, (DV.p (PV.int IntKind.i64 (0))))] σ18).bind fun r => some (r.1, r.2)) σ18 fun x68 σ19 =>
      G _ x65 true ((buildSlice PP none 22 2 [(0, (DV.p (PV.int IntKind.i64 (1)))), (1, (DV.p (PV.int IntKind.i64 (0))))] σ19).bind fun r => some (r.1, r.2)) σ19 fun x69 σ20 =>
      G _ x65 true ((buildSlice PP none 22 2 [(0, (DV.p (PV.int IntKind.i64 (2)))), (1, (DV.p (PV.int IntKind.i64 (1))))] σ20).bind fun r => some (r.1, r.2)) σ20 fun x70 σ21 =>
      G _ x65 true ((buildSlice PP none 51 3 [(0, x68), (1, x69), (2, x70)] σ21).bind fun r => some (r.1, r.2)) σ21 fun x71 σ22 =>
      G _ x65 true ((pureFn CC (DV.fn 27 []) [x67, x71] σ22).bind fun v => some (v, σ22)) σ22 fun x72 σ23 =>
      (pickV x65 x72 (DV.p (PV.bool false))).bind fun x73 =>
      G _ x73 true (some (x31, σ23)) σ23 fun x75 σ24 =>
      G _ x73 true ((indexAddr PP 61 x75 (DV.p (PV.int IntKind.i64 (0)))).bind fun v => some (v, σ24)) σ24 fun x76 σ25 =>
      G _ x73 true ((fieldAddr PP 77 x76 2).bind fun v => some (v, σ25)) σ25 fun x77 σ26 =>
      G _ x73 true ((load PP 3 x77 σ26).bind fun v => some (v, σ26)) σ26 fun x78 σ27 =>
      G _ x73 true ((binOp PP .eql 3 x78 (DV.p (PV.int IntKind.i64 (3)))).bind fun v => some (v, σ27)) σ27 fun x79 σ28 =>
      (pickV x73 x79 (DV.p (PV.bool false))).bind fun x80 =>
      G _ x80 true (some (x31, σ28)) σ28 fun x82 σ29 =>
      G _ x80 true ((indexAddr PP 61 x82 (DV.p (PV.int IntKind.i64 (2)))).bind fun v => some (v, σ29)) σ29 fun x83 σ30 =>
      G _ x80 true ((fieldAddr PP 77 x83 2).bind fun v => some (v, σ30)) σ30 fun x84 σ31 =>
      G _ x80 true ((load PP 3 x84 σ31).bind fun v => some (v, σ31)) σ31 fun x85 σ32 =>
      G _ x80 true ((binOp PP .eql 3 x85 (DV.p (PV.int IntKind.i64 (2)))).bind fun v => some (v, σ32)) σ32 fun x86 σ33 =>
      (pickV x80 x86 (DV.p (PV.bool false))).bind fun x87 =>
      G _ x87 true (some (x31, σ33)) σ33 fun x89 σ34 =>
      G _ x87 true ((indexAddr PP 61 x89 (DV.p (PV.int IntKind.i64 (5)))).bind fun v => some (v, σ34)) σ34 fun x90 σ35 =>
      G _ x87 true ((fieldAddr PP 77 x90 2).bind fun v => some (v, σ35)) σ35 fun x91 σ36 =>
      G _ x87 true ((load PP 3 x91 σ36).bind fun v => some (v, σ36)) σ36 fun x92 σ37 =>
      G _ x87 true ((binOp PP .eql 3 x92 (DV.p (PV.int IntKind.i64 (1)))).bind fun v => some (v, σ37)) σ37 fun x93 σ38 =>
      (pickV x87 x93 (DV.p (PV.bool false))).bind fun x94 =>
      G _ x94 true (some (x37, σ38)) σ38 fun x96 σ39 =>
      G _ x94 true ((buildSlice PP none 22 3 [(0, (DV.p (PV.int IntKind.i64 (0)))), (1, (DV.p (PV.int IntKind.i64 (0)))), (2, (DV.p (PV.int IntKind.i64 (1))))] σ39).bind fun r => some (r.1, r.2)) σ39 fun x97 σ40 =>
      G _ x94 true ((pureFn CC (DV.fn 18 []) [x96, x97] σ40).bind fun v => some (v, σ40)) σ40 fun x98 σ41 =>
      (pickV x94 x98 (DV.p (PV.bool false))).bind fun x99 =>
      some (x99, σ41)
     ) := by kernel_rfl
theorem F10_call {lo : Nat} {σ : Store} {r : DV × Store} (h : F10 guardT lo σ = some r) : CC lo 10 [] σ = some r :=
  callL_run Go.Proofs.Try.func10 (by decide +kernel) rfl (by decide +kernel) h
end Go.D
end
/- What the small functions answer. -/
section
set_option linter.unusedVariables false
set_option linter.unusedSimpArgs false
namespace Go.D

def inR (n a b : Int) : Bool := decide (n ≥ a) && decide (n ≤ b)

theorem S53 (n a b : Int) (σ : Store) : pureV CC 53 [.p (pI n), .p (pI a), .p (pI b)] σ = some (.p (.bool (inR n a b))) := by
  refine pureV_free rfl rfl (F53_call (r := (.p (.bool (inR n a b)), [])) ?_) rfl
  rw [F53_eq]
  simp only [b_geq, b_leq, obind, inR]
  by_cases h : n ≥ a <;> simp [h, guard_tt, guard_ft, b_leq, pickV_true, pickV_false]

theorem S22 (n a b : Int) (σ : Store) : pureV CC 22 [.p (pI n), .p (pI a), .p (pI b)] σ = some (.p (.bool (inR n a b))) := by
  refine pureV_free rfl rfl (F22_call (r := (.p (.bool (inR n a b)), [])) ?_) rfl
  rw [F22_eq]
  simp only [b_geq, b_leq, obind, inR]
  by_cases h : n ≥ a <;> simp [h, guard_tt, guard_ft, b_leq, pickV_true, pickV_false]

theorem S56 (b : Bool) (e : Int) (σ : Store) : pureV CC 56 [.p (.bool b), .p (pI e)] σ = some (.p (pI (if b then 0 else e))) := by
  refine pureV_free rfl rfl (F56_call (r := (.p (pI (if b then 0 else e)), [])) ?_) rfl
  rw [F56_eq]
  cases b <;> rfl

theorem S87 (n : Int) (σ : Store) : pureV CC 87 [.p (pI n)] σ = some (.p (.bool false)) := by
  refine pureV_free rfl rfl (F87_call (r := (.p (.bool false), [])) ?_) rfl
  rw [F87_eq]
  simp [b_neq]

def cmpI (a b : Int) : Int := if a < b then -1 else if a > b then 1 else 0

theorem S68 (a b : Int) (σ : Store) : pureV CC 68 [.p (pI a), .p (pI b)] σ = some (.p (pI (cmpI a b))) := by
  refine pureV_free rfl rfl (F68_call (r := (.p (pI (cmpI a b)), [])) ?_) rfl
  rw [F68_eq]
  simp only [pureFn_fn, List.append_nil, S87, obind, condK_false, b_lss, b_gtr, cmpI]
  by_cases h : a < b
  · simp [h, condK_true, condK_if]
  · by_cases h2 : a > b <;> simp [h, h2, condK_true, condK_if]

theorem S88 (b : Bool) (σ : Store) : pureV CC 88 [.p (.bool b)] σ = some (.p (pI (if b then 1 else 0))) := by
  refine pureV_free rfl rfl (F88_call (r := (.p (pI (if b then 1 else 0)), [])) ?_) rfl
  rw [F88_eq]
  cases b <;> rfl

theorem S75 (n : Int) (σ : Store) : pureV CC 75 [.p (pI n)] σ = some (.p (.bool (!inR n 0 10000))) := by
  refine pureV_free rfl rfl (F75_call (r := (.p (.bool (!inR n 0 10000)), [])) ?_) rfl
  rw [F75_eq]
  simp only [pureFn_fn, List.append_nil, S53, obind, not_bool]

/-! ### First index -/
def idxFrom {α : Type} (q : α → Bool) : List α → Nat → Int
  | [], _ => -1
  | a :: l, i => if q a then (i : Int) else idxFrom q l (i + 1)

theorem idxFrom_ge {α : Type} (q : α → Bool) : ∀ (l : List α) (i : Nat), decide (idxFrom q l i ≥ 0) = l.any q
  | [], i => rfl
  | a :: l, i => by
    unfold idxFrom
    cases h : q a with
    | true => simp [h]
    | false => simp only [Bool.false_eq_true, if_false, idxFrom_ge q l, List.any_cons, h, Bool.false_or]

theorem drop_cons {α : Type} {l : List α} {i : Nat} (h : i < l.length) : l.drop i = l[i] :: l.drop (i + 1) := List.drop_eq_getElem_cons h

theorem L83 {o : Option (List Int)} {f : FuncId} {caps : List DV} {σ : Store} {lo : Nat} {q : Int → Bool} (hl : (L o).length ≤ 1000) (hq : ∀ v, pureV CC f (.p (pI v) :: caps) σ = some (.p (.bool (q v)))) :
    ∀ (k i : Nat), (L o).length - i = k → i ≤ (L o).length → f83_L0 guardT lo (.p (eSl o)) (.fn f caps) (.p (pI ((L o).length : Nat))) (.p (pI (i : Nat))) σ = some (.p (pI (idxFrom q ((L o).drop i) i)), σ)
  | 0, i, hk, hi => by
    have : i = (L o).length := by omega
    rw [f83_L0_eq guardT rfl]
    subst this
    simp [b_lss, condK_false, idxFrom]
  | k + 1, i, hk, hi => by
    have h : i < (L o).length := by omega
    have h' : (i : Int) < ((L o).length : Nat) := by omega
    rw [f83_L0_eq guardT rfl]
    simp only [b_lss, obind, h', decide_true, condK_true, idx22 h, load3, load1_ints h, pureFn_fn, List.singleton_append, hq]
    rw [drop_cons h]
    cases hqv : q (L o)[i] with
    | true => simp [condK_true, idxFrom, hqv]
    | false =>
      simp only [condK_false, b_add, obind, wrap_succ (show i ≤ 1000000 by omega), idxFrom, hqv, Bool.false_eq_true, if_false]
      exact L83 hl hq k (i + 1) (by omega) (by omega)

theorem fn_view (f : FuncId) (caps : List DV) : view (.fn f caps) = .fn f caps := rfl
theorem sl_view (o : Option (List Int)) : view (.p (eSl o)) = .p (eSl o) := by simp [view, viewCell, loosen_sl]
theorem es_view (o : Option (List Edg)) : view (.p (eEs o)) = .p (eEs o) := by simp [view, viewCell, loosen_es]

/-- The stores at which a closure is called. -/
abbrev AtSt (caps : List DV) (σ σ0 : Store) : Prop := (σ0 = [] ∧ caps.all rowFree1 = true) ∨ σ0 = σ

theorem S83 {o : Option (List Int)} {f : FuncId} {caps : List DV} {σ : Store} {q : Int → Bool} (hl : (L o).length ≤ 1000) (hq : ∀ σ0, AtSt caps σ σ0 → ∀ v, pureV CC f (.p (pI v) :: caps) σ0 = some (.p (.bool (q v)))) :
    pureV CC 83 [.p (eSl o), .fn f caps] σ = some (.p (pI (idxFrom q (L o) 0))) := by
  refine pureV_any (by simp [sl_view, fn_view]) fun lo σ0 hs => ⟨_, σ0, F83_call (r := (.p (pI (idxFrom q (L o) 0)), σ0)) ?_, rfl⟩
  have hat : AtSt caps σ σ0 := by
    rcases hs with ⟨h1, _, h3⟩ | ⟨h1, _, _⟩
    · exact .inl ⟨h1, by simpa [rowFree] using (by simpa [rowFree] using h3 : _ ∧ _).2⟩
    · exact .inr h1
  rw [F83_eq]
  simp only [len22, obind]
  have := L83 (lo := lo) hl (hq σ0 hat) _ 0 rfl (Nat.zero_le _)
  simpa using this

theorem S51 {o : Option (List Int)} {f : FuncId} {caps : List DV} {σ : Store} {q : Int → Bool} (hl : (L o).length ≤ 1000) (hq : ∀ σ0, AtSt caps σ σ0 → ∀ v, pureV CC f (.p (pI v) :: caps) σ0 = some (.p (.bool (q v)))) :
    pureV CC 51 [.p (eSl o), .fn f caps] σ = some (.p (.bool ((L o).any q))) := by
  refine pureV_any (by simp [sl_view, fn_view]) fun lo σ0 hs => ⟨_, σ0, F51_call (r := (.p (.bool ((L o).any q)), σ0)) ?_, rfl⟩
  have hat : ∀ σ1, AtSt caps σ0 σ1 → AtSt caps σ σ1 := by
    intro σ1 h
    rcases hs with ⟨h1, _, h3⟩ | ⟨h1, _, _⟩
    · rcases h with h | h
      · exact .inl h
      · exact .inl ⟨h.trans h1, by simpa [rowFree] using (by simpa [rowFree] using h3 : _ ∧ _).2⟩
    · rw [← h1]; exact h
  rw [F51_eq]
  simp only [pureFn_fn, List.append_nil, S83 hl fun σ1 h => hq σ1 (hat σ1 h), obind, b_geq, idxFrom_ge]

end Go.D
end
/- What the functions on graphs answer. -/
section
set_option linter.unusedVariables false
set_option linter.unusedSimpArgs false
namespace Go.D

theorem load1_getD {l : List Int} {i : Nat} (h : i < l.length) (σ : Store) : load1 (.pptr (eInts l) i) σ = some (.p (pI (l.getD i 0))) := by
  rw [load1_ints h, List.getD_eq_getElem?_getD, List.getElem?_eq_getElem h]; rfl
theorem wrap_pred {i : Nat} (h : 0 < i) (h2 : i ≤ 1000000) : IntKind.wrap .i64 ((i : Int) - 1) = ((i - 1 : Nat) : Int) := by
  rw [wrap_ok] <;> omega

/-! ### Is a number in a list? -/
theorem L81 {o : Option (List Int)} {v : Int} {σ : Store} {lo : Nat} (hl : (L o).length ≤ 1000) :
    ∀ (k i : Nat), (L o).length - i = k → i ≤ (L o).length → f81_L0 guardT lo (.p (eSl o)) (.p (pI v)) (.p (pI ((L o).length : Nat))) (.p (pI (i : Nat))) σ = some (.p (pI (idxFrom (fun a => decide (v = a)) ((L o).drop i) i)), σ)
  | 0, i, hk, hi => by
    have : i = (L o).length := by omega
    rw [f81_L0_eq guardT rfl]
    subst this
    simp [b_lss, condK_false, idxFrom]
  | k + 1, i, hk, hi => by
    have h : i < (L o).length := by omega
    have h' : (i : Int) < ((L o).length : Nat) := by omega
    rw [f81_L0_eq guardT rfl]
    simp only [b_lss, obind, h', decide_true, condK_true, idx22 h, load3, load1_ints h, b_eql]
    rw [drop_cons h]
    by_cases hqv : v = (L o)[i]
    · simp [condK_true, idxFrom, hqv]
    · simp only [hqv, decide_false, condK_false, b_add, obind, wrap_succ (show i ≤ 1000000 by omega), idxFrom, Bool.false_eq_true, if_false]
      exact L81 hl k (i + 1) (by omega) (by omega)

theorem S81 {o : Option (List Int)} {v : Int} {σ : Store} (hl : (L o).length ≤ 1000) : pureV CC 81 [.p (eSl o), .p (pI v)] σ = some (.p (pI (idxFrom (fun a => decide (v = a)) (L o) 0))) := by
  refine pureV_free (by simp [sl_view]; rfl) rfl (F81_call (r := (.p (pI (idxFrom (fun a => decide (v = a)) (L o) 0)), [])) ?_) rfl
  rw [F81_eq]
  simp only [len22, obind]
  have := L81 (lo := 0) (σ := []) (v := v) hl _ 0 rfl (Nat.zero_le _)
  simpa using this

def hasI (l : List Int) (v : Int) : Bool := l.any fun a => decide (v = a)

theorem S46 {o : Option (List Int)} {v : Int} {σ : Store} (hl : (L o).length ≤ 1000) : pureV CC 46 [.p (eSl o), .p (pI v)] σ = some (.p (.bool (hasI (L o) v))) := by
  refine pureV_free (by simp [sl_view]; rfl) rfl (F46_call (r := (.p (.bool (hasI (L o) v)), [])) ?_) rfl
  rw [F46_eq]
  simp only [pureFn_fn, List.append_nil, S81 hl, obind, b_geq, idxFrom_ge, hasI]

theorem L49 {o : Option (List Int)} {v : Int} {σ : Store} {lo : Nat} (hl : (L o).length ≤ 1000) :
    ∀ (k i : Nat), (L o).length - i = k → i ≤ (L o).length → f49_L0 guardT lo (.p (eSl o)) (.p (pI v)) (.p (pI (i : Nat))) σ = some (.p (.bool (hasI ((L o).drop i) v)), σ)
  | 0, i, hk, hi => by
    have : i = (L o).length := by omega
    rw [f49_L0_eq guardT rfl]
    subst this
    simp [len22, b_lss, condK_false, hasI]
  | k + 1, i, hk, hi => by
    have h : i < (L o).length := by omega
    have h' : (i : Int) < ((L o).length : Nat) := by omega
    rw [f49_L0_eq guardT rfl]
    simp only [len22, b_lss, obind, h', decide_true, condK_true, idx22 h, load3, load1_ints h, b_eql]
    rw [drop_cons h]
    by_cases hqv : (L o)[i] = v
    · simp [condK_true, hasI, hqv]
    · have hqv' : ¬ v = (L o)[i] := fun e => hqv e.symm
      simp only [hqv, decide_false, condK_false, b_add, obind, wrap_succ (show i ≤ 1000000 by omega), hasI, List.any_cons, hqv', Bool.false_or]
      exact L49 hl k (i + 1) (by omega) (by omega)

theorem S49 {o : Option (List Int)} {v : Int} {σ : Store} (hl : (L o).length ≤ 1000) : pureV CC 49 [.p (eSl o), .p (pI v)] σ = some (.p (.bool (hasI (L o) v))) := by
  refine pureV_free (by simp [sl_view]; rfl) rfl (F49_call (r := (.p (.bool (hasI (L o) v)), [])) ?_) rfl
  rw [F49_eq]
  have := L49 (lo := 0) (σ := []) (v := v) hl _ 0 rfl (Nat.zero_le _)
  simpa using this

/-! ### Steps compared -/
def edgD (e : Edg) : List DV := [.p (pI e.f), .p (pI e.t), .p (pI e.a)]
def orL : List Int → Int
  | [] => 0
  | a :: l => if a = 0 then orL l else a
def ordE (a b : Edg) : Int := orL [cmpI a.f b.f, cmpI a.t b.t, cmpI a.a b.a]

theorem pureV_view {call : CallF} {f : FuncId} {args args' : List DV} {σ : Store} (h : args.map view = args') (h2 : args'.map view = args') : pureV call f args σ = pureV call f args' σ := by
  unfold pureV
  rw [h, h2]

theorem L67 {o : Option (List Int)} {σ : Store} {lo : Nat} (hl : (L o).length ≤ 1000) :
    ∀ (k i : Nat), (L o).length - i = k → i ≤ (L o).length → f67_L0 guardT lo (.p (pI 0)) (.p (eSl o)) (.p (pI ((L o).length : Nat))) (.p (pI (i : Nat))) σ = some (.p (pI (orL ((L o).drop i))), σ)
  | 0, i, hk, hi => by
    have : i = (L o).length := by omega
    rw [f67_L0_eq guardT rfl]
    subst this
    simp [b_lss, condK_false, orL]
  | k + 1, i, hk, hi => by
    have h : i < (L o).length := by omega
    have h' : (i : Int) < ((L o).length : Nat) := by omega
    rw [f67_L0_eq guardT rfl]
    simp only [b_lss, obind, h', decide_true, condK_true, idx22 h, load3, load1_ints h, b_neq]
    rw [drop_cons h]
    by_cases hqv : (L o)[i] = 0
    · simp only [hqv, decide_true, Bool.not_true, condK_false, b_add, obind, wrap_succ (show i ≤ 1000000 by omega), orL, if_true]
      exact L67 hl k (i + 1) (by omega) (by omega)
    · simp [condK_true, orL, hqv]

theorem S67 {o : Option (List Int)} {σ : Store} (hl : (L o).length ≤ 1000) : pureV CC 67 [.p (eSl o)] σ = some (.p (pI (orL (L o)))) := by
  refine pureV_free (by simp [sl_view]) rfl (F67_call (r := (.p (pI (orL (L o))), [])) ?_) rfl
  rw [F67_eq]
  simp only [len22, obind]
  have := L67 (lo := 0) (σ := []) hl _ 0 rfl (Nat.zero_le _)
  simpa using this

theorem box_edg (e : Edg) : boxV (.agg (edgD e)) = some (edgD e) := rfl
theorem bs22_3 (x y z : Int) (σ : Store) : buildSlice PP none 22 3 [(0, .p (pI x)), (1, .p (pI y)), (2, .p (pI z))] σ = some (.p (.sl true 3 (eInts [x, y, z])), σ) := Eq.trans (by kernel_rfl) rfl
theorem sl3_view (x y z : Int) : view (.p (.sl true 3 (eInts [x, y, z]))) = .p (eSl (some [x, y, z])) := rfl

theorem get_snoc {σ : Store} {r : Row} : (σ ++ [r])[σ.length]? = some r := by simp
theorem get_old {σ : Store} {r : Row} {i : Nat} {x : Row} (h : σ[i]? = some x) : (σ ++ [r])[i]? = some x := by
  rw [List.getElem?_append_left (List.getElem?_eq_some_iff.1 h).1]; exact h

theorem S91 (a b : Edg) (σ : Store) : pureV CC 91 [.agg (edgD a), .agg (edgD b)] σ = some (.p (pI (ordE a b))) := by
  refine pureV_free rfl rfl (F91_call (r := (.p (pI (ordE a b)), [.mix (edgD a), .mix (edgD b)])) ?_) rfl
  rw [F91_eq]
  have g0 : ([Row.mix (edgD a), Row.mix (edgD b)] : Store)[0]? = some (.mix (edgD a)) := rfl
  have g1 : ([Row.mix (edgD a), Row.mix (edgD b)] : Store)[1]? = some (.mix (edgD b)) := rfl
  simp only [box_edg, obind, List.length_nil, List.nil_append, List.length_cons, List.cons_append, fa100_0, fa100_1, fa100_2, shift_ptr, load3, Nat.zero_add,
    load1_ptr (off := 0) g0 rfl, load1_ptr (off := 1) g0 rfl, load1_ptr (off := 2) g0 rfl, load1_ptr (off := 0) g1 rfl, load1_ptr (off := 1) g1 rfl, load1_ptr (off := 2) g1 rfl, pureFn_fn, List.append_nil, S68, bs22_3]
  rw [pureV_view (args' := [.p (eSl (some [cmpI a.f b.f, cmpI a.t b.t, cmpI a.a b.a]))]) (by simp [sl3_view]) (by simp [sl_view]), S67 (by simp)]
  rfl

theorem S82 (e : Edg) (σ : Store) : pureV CC 82 [.agg (edgD e)] σ = some (.p (eSl (some [e.f, e.t, e.a]))) := by
  refine pureV_free rfl rfl (F82_call (r := (.p (.sl true 3 (eInts [e.f, e.t, e.a])), [.mix (edgD e)])) ?_) rfl
  rw [F82_eq]
  have g0 : ([Row.mix (edgD e)] : Store)[0]? = some (.mix (edgD e)) := rfl
  simp only [box_edg, obind, List.length_nil, List.nil_append, fa100_0, fa100_1, fa100_2, shift_ptr, load3, Nat.zero_add,
    load1_ptr (off := 0) g0 rfl, load1_ptr (off := 1) g0 rfl, load1_ptr (off := 2) g0 rfl, bs22_3]

def firstI : List Int → List Int → Int
  | a :: xs, b :: ys => if a = b then firstI xs ys else if a < b then -1 else 1
  | xs, ys => (if xs.length > ys.length then 1 else 0) - (if xs.length < ys.length then 1 else 0)

theorem firstI_nil (xs ys : List Int) (h : xs = [] ∨ ys = []) : firstI xs ys = (if xs.length > ys.length then 1 else 0) - (if xs.length < ys.length then 1 else 0) := by
  rcases h with rfl | rfl
  · unfold firstI; rfl
  · cases xs <;> rfl

theorem L70 {a b : Option (List Int)} {σ : Store} {lo : Nat} (ha : (L a).length ≤ 1000) (hb : (L b).length ≤ 1000) :
    ∀ (k i : Nat), (L a).length - i = k → i ≤ (L a).length → i ≤ (L b).length → f70_L0 guardT lo (.p (eSl a)) (.p (eSl b)) (.p (pI (i : Nat))) σ = some (.p (pI (firstI ((L a).drop i) ((L b).drop i))), σ) := by
  have fin : ∀ (i : Nat), i ≤ (L a).length → i ≤ (L b).length → ((L a).length ≤ i ∨ (L b).length ≤ i) → (
      (len PP 22 (.p (eSl a)) σ).bind fun x40 =>
      (len PP 22 (.p (eSl b)) σ).bind fun x42 =>
      (binOp PP .gtr 3 x40 x42).bind fun x43 =>
      (pureFn CC (DV.fn 88 []) [x43] σ).bind fun x44 =>
      (len PP 22 (.p (eSl a)) σ).bind fun x46 =>
      (len PP 22 (.p (eSl b)) σ).bind fun x48 =>
      (binOp PP .lss 3 x46 x48).bind fun x49 =>
      (pureFn CC (DV.fn 88 []) [x49] σ).bind fun x50 =>
      (binOp PP .sub 3 x44 x50).bind fun x51 =>
      some (x51, σ)) = some (.p (pI (firstI ((L a).drop i) ((L b).drop i))), σ) := by
    intro i h1 h2 h
    rw [firstI_nil _ _ (h.imp (fun h => List.drop_eq_nil_of_le h) fun h => List.drop_eq_nil_of_le h)]
    simp only [len22, obind, b_gtr, b_lss, pureFn_fn, List.append_nil, S88, b_sub, List.length_drop, decide_eq_true_eq]
    have e1 : ((((L a).length : Nat) : Int) > ((L b).length : Nat)) ↔ (L a).length - i > (L b).length - i := by omega
    have e2 : ((((L a).length : Nat) : Int) < ((L b).length : Nat)) ↔ (L a).length - i < (L b).length - i := by omega
    simp only [e1, e2]
    rw [wrap_ok]
    · split <;> split <;> simp
    · split <;> split <;> simp
  intro k
  induction k with
  | zero =>
    intro i hk hi hj
    have h' : ¬ (i : Int) < ((L a).length : Nat) := by omega
    rw [f70_L0_eq guardT rfl]
    simp only [len22 a, b_lss, obind, h', decide_false, guard_ft, pickV_false, condK_false]
    have := fin i hi hj (.inl (by omega))
    simpa only [len22 a, b_lss, obind] using this
  | succ k ih =>
    intro i hk hi hj
    have h : i < (L a).length := by omega
    have h' : (i : Int) < ((L a).length : Nat) := by omega
    rw [f70_L0_eq guardT rfl]
    simp only [len22 a, b_lss, obind, h', decide_true, guard_tt, len22 b, pickV_true]
    by_cases hb2 : i < (L b).length
    · have hb' : (i : Int) < ((L b).length : Nat) := by omega
      simp only [hb', decide_true, condK_true, idx22 h, idx22 hb2, load3, load1_ints h, load1_ints hb2, obind, b_neq]
      rw [drop_cons h, drop_cons hb2]
      by_cases e : (L a)[i] = (L b)[i]
      · simp only [e, decide_true, Bool.not_true, condK_false, b_add, obind, wrap_succ (show i ≤ 1000000 by omega), firstI, if_true]
        exact ih (i + 1) (by omega) (by omega) (by omega)
      · simp only [e, decide_false, Bool.not_false, condK_true, pureFn_fn, List.append_nil, b_lss, S88, obind, b_mul, b_sub, firstI, if_false, decide_eq_true_eq]
        by_cases e2 : (L a)[i] < (L b)[i]
        · simp [e2, wrap_ok]
        · simp [e2, wrap_ok]
    · have hb' : ¬ (i : Int) < ((L b).length : Nat) := by omega
      simp only [hb', decide_false, condK_false]
      have := fin i hi hj (.inr (by omega))
      simpa only [len22 a, len22 b, b_lss, obind] using this

theorem S70 {a b : Option (List Int)} {σ : Store} (ha : (L a).length ≤ 1000) (hb : (L b).length ≤ 1000) : pureV CC 70 [.p (eSl a), .p (eSl b)] σ = some (.p (pI (firstI (L a) (L b)))) := by
  refine pureV_free (by simp [sl_view]) rfl (F70_call (r := (.p (pI (firstI (L a) (L b))), [])) ?_) rfl
  rw [F70_eq]
  have := L70 (lo := 0) (σ := []) ha hb _ 0 rfl (Nat.zero_le _) (Nat.zero_le _)
  simpa using this

end Go.D
end
/- What the functions on graphs answer: right graphs, errors of pairs. -/
section
set_option linter.unusedVariables false
set_option linter.unusedSimpArgs false
namespace Go.D

theorem load100_D {l : List Edg} {i : Nat} (h : i < l.length) (σ : Store) : (loadN σ 3 (.pptr (eEdgs l) (i * 3))).map DV.agg = some (.agg (edgD (l.getD i default))) := by
  rw [load100_edgs h, List.getD_eq_getElem?_getD, List.getElem?_eq_getElem h]; rfl

/-! ### First index among steps -/
theorem L64 {o : Option (List Edg)} {f : FuncId} {caps : List DV} {σ : Store} {lo : Nat} {q : Edg → Bool} (hl : (L o).length ≤ 10000) (hq : ∀ e, pureV CC f (.agg (edgD e) :: caps) σ = some (.p (.bool (q e)))) :
    ∀ (k i : Nat), (L o).length - i = k → i ≤ (L o).length → f64_L0 guardT lo (.p (eEs o)) (.fn f caps) (.p (pI ((L o).length : Nat))) (.p (pI (i : Nat))) σ = some (.p (pI (idxFrom q ((L o).drop i) i)), σ)
  | 0, i, hk, hi => by
    have : i = (L o).length := by omega
    rw [f64_L0_eq guardT rfl]
    subst this
    simp [b_lss, condK_false, idxFrom]
  | k + 1, i, hk, hi => by
    have h : i < (L o).length := by omega
    have h' : (i : Int) < ((L o).length : Nat) := by omega
    rw [f64_L0_eq guardT rfl]
    have e0 : (L o).getD i default = (L o)[i] := by rw [List.getD_eq_getElem?_getD, List.getElem?_eq_getElem h]; rfl
    simp only [b_lss, obind, h', decide_true, condK_true, idx23 h, load100, load100_D h, e0, pureFn_fn, List.singleton_append, hq]
    rw [drop_cons h]
    cases hqv : q (L o)[i] with
    | true => simp [condK_true, idxFrom, hqv]
    | false =>
      simp only [condK_false, b_add, obind, wrap_succ (show i ≤ 1000000 by omega), idxFrom, hqv, Bool.false_eq_true, if_false]
      exact L64 hl hq k (i + 1) (by omega) (by omega)

theorem S64 {o : Option (List Edg)} {f : FuncId} {caps : List DV} {σ : Store} {q : Edg → Bool} (hl : (L o).length ≤ 10000) (hq : ∀ σ0, AtSt caps σ σ0 → ∀ e, pureV CC f (.agg (edgD e) :: caps) σ0 = some (.p (.bool (q e)))) :
    pureV CC 64 [.p (eEs o), .fn f caps] σ = some (.p (pI (idxFrom q (L o) 0))) := by
  refine pureV_any (by simp [es_view, fn_view]) fun lo σ0 hs => ⟨_, σ0, F64_call (r := (.p (pI (idxFrom q (L o) 0)), σ0)) ?_, rfl⟩
  have hat : AtSt caps σ σ0 := by
    rcases hs with ⟨h1, _, h3⟩ | ⟨h1, _, _⟩
    · exact .inl ⟨h1, by simpa [rowFree] using (by simpa [rowFree] using h3 : _ ∧ _).2⟩
    · exact .inr h1
  rw [F64_eq]
  simp only [len23, obind]
  have := L64 (lo := lo) hl (hq σ0 hat) _ 0 rfl (Nat.zero_le _)
  simpa using this

theorem S78 {o : Option (List Edg)} {f : FuncId} {caps : List DV} {σ : Store} {q : Edg → Bool} (hl : (L o).length ≤ 10000) (hq : ∀ σ0, AtSt caps σ σ0 → ∀ e, pureV CC f (.agg (edgD e) :: caps) σ0 = some (.p (.bool (q e)))) :
    pureV CC 78 [.p (eEs o), .fn f caps] σ = some (.p (.bool ((L o).any q))) := by
  refine pureV_any (by simp [es_view, fn_view]) fun lo σ0 hs => ⟨_, σ0, F78_call (r := (.p (.bool ((L o).any q)), σ0)) ?_, rfl⟩
  have hat : ∀ σ1, AtSt caps σ0 σ1 → AtSt caps σ σ1 := by
    intro σ1 h
    rcases hs with ⟨h1, _, h3⟩ | ⟨h1, _, _⟩
    · rcases h with h | h
      · exact .inl h
      · exact .inl ⟨h.trans h1, by simpa [rowFree] using (by simpa [rowFree] using h3 : _ ∧ _).2⟩
    · rw [← h1]; exact h
  rw [F78_eq]
  simp only [pureFn_fn, List.append_nil, S64 hl fun σ1 h => hq σ1 (hat σ1 h), obind, b_geq, idxFrom_ge]

/-! ### Right graphs -/
abbrev pred (n : Int) : Int := IntKind.wrap .i64 (n - 1)

theorem S90 {σ : Store} {r : Nat} {g : Gr} {v : Int} (h : σ[r]? = some (.mix (eGr g))) : pureV CC 90 [.p (pI v), .ptr r 0] σ = some (.p (.bool (inR v 0 (pred g.n)))) := by
  refine pureV_rows rfl rfl (F90_call (r := (.p (.bool (inR v 0 (pred g.n))), σ)) ?_) rfl
  rw [F90_eq]
  simp only [fa25_0, shift_ptr, obind, load3, load1_ptr (off := 0 + 0) h rfl, b_sub, pureFn_fn, List.append_nil, S53]

def okI (n : Int) (l : List Int) (i : Nat) : Bool := inR (l.getD i 0) 0 (pred n) && (decide (i = 0) || decide (l.getD (i - 1) 0 < l.getD i 0))
def okE (n : Int) (l : List Edg) (i : Nat) : Bool := inR (l.getD i default).f 0 (pred n) && (inR (l.getD i default).t 0 (pred n) && (inR (l.getD i default).a 0 11 && (decide (i = 0) || decide (ordE (l.getD (i - 1) default) (l.getD i default) < 0))))
def allFrom (p : Nat → Bool) : Nat → Nat → Bool
  | _, 0 => true
  | i, k + 1 => p i && allFrom p (i + 1) k
def isG (g : Gr) : Bool := inR g.n 0 400 && decide ((L g.edges).length ≤ 2000) && allFrom (okI g.n (L g.init)) 0 (L g.init).length && allFrom (okE g.n (L g.edges)) 0 (L g.edges).length

theorem L76_0 {g : Gr} {σ : Store} {lo : Nat} (hg : σ[0]? = some (.mix (eGr g))) (hl : (L g.init).length ≤ 1000) :
    ∀ (k i : Nat) (b : Bool), (L g.init).length - i = k → i ≤ (L g.init).length → f76_L0 guardT lo (.ptr 0 0) (.fn 90 [.ptr 0 0]) (.p (.bool b)) (.p (eSl g.init)) (.p (pI ((L g.init).length : Nat))) (.p (pI (i : Nat))) σ =
      f76_L1 guardT lo (.ptr 0 0) (.fn 90 [.ptr 0 0]) (.p (.bool (b && allFrom (okI g.n (L g.init)) i k))) (.p (eEs g.edges)) (.p (pI ((L g.edges).length : Nat))) (.p (pI (0 : Nat))) σ
  | 0, i, b, hk, hi => by
    have : ¬ (i : Int) < ((L g.init).length : Nat) := by omega
    rw [f76_L0_eq guardT rfl]
    simp only [b_lss, obind, this, decide_false, condK_false, fa25_2, shift_ptr, load23, load1_ptr (off := 0 + 2) hg rfl, len23, allFrom, Bool.and_true]
    rfl
  | k + 1, i, b, hk, hi => by
    have h : i < (L g.init).length := by omega
    have h' : (i : Int) < ((L g.init).length : Nat) := by omega
    rw [f76_L0_eq guardT rfl]
    simp only [b_lss, obind, h', decide_true, condK_true, idx22 h, load3, load1_getD h]
    have ih := fun b => L76_0 (lo := lo) hg hl k (i + 1) b (by omega) (by omega)
    cases b with
    | false =>
      simp only [guard_ft, guard_sk, pickV_false, obind, b_add, wrap_succ (show i ≤ 1000000 by omega), Bool.false_and]
      rw [ih]
      simp
    | true =>
      simp only [guard_tt, pureFn_fn, List.singleton_append, S90 hg, obind, pickV_true, allFrom, okI]
      cases hst : inR ((L g.init).getD i 0) 0 (pred g.n) with
      | false =>
        simp only [guard_ft, guard_sk, pickV_false, obind, b_add, wrap_succ (show i ≤ 1000000 by omega), Bool.false_and, Bool.and_false]
        rw [ih]
        simp
      | true =>
        simp only [guard_tt, b_eql, obind]
        by_cases h0 : i = 0
        · have hd : decide ((i : Int) = 0) = true := by simp [h0]
          simp only [hd, guard_tf, guard_sk, obind, pickV_true, b_add, wrap_succ (show i ≤ 1000000 by omega)]
          rw [ih]
          simp [h0]
        · have h0' : ¬ (i : Int) = 0 := by omega
          simp only [h0', decide_false, guard_ff, obind, fa25_1, shift_ptr, load22, load1_ptr (off := 0 + 1) hg rfl, b_sub, wrap_pred (show 0 < i by omega) (show i ≤ 1000000 by omega), idx22 (show i - 1 < (L g.init).length by omega), load3, load1_getD (show i - 1 < (L g.init).length by omega), b_lss, pickV_false, pickV_true, b_add, wrap_succ (show i ≤ 1000000 by omega)]
          rw [ih]
          simp [h0]

theorem store_new100 (σ : Store) (e : Edg) (z : List DV) (hz : z.length = 3) : store PP 0 100 (.ptr σ.length 0) (.agg (edgD e)) (σ ++ [.mix z]) = some (σ ++ [.mix (edgD e)]) := by
  have hone : (edgD e).all DV.one = true := rfl
  have hs : splice z 0 (edgD e) = edgD e := by
    match z, hz with
    | [a, b, c], _ => rfl
  simp [store, s100, DV.cells, storeN, hone, edgD, hz]
  exact ⟨⟨rfl, rfl, rfl⟩, by simpa [edgD] using hs⟩

theorem L76_1 {g : Gr} (hl : (L g.edges).length ≤ 10000) :
    ∀ (k i : Nat) (b : Bool) (σ : Store), σ[0]? = some (.mix (eGr g)) → (L g.edges).length - i = k → i ≤ (L g.edges).length → ∃ σ', f76_L1 guardT 0 (.ptr 0 0) (.fn 90 [.ptr 0 0]) (.p (.bool b)) (.p (eEs g.edges)) (.p (pI ((L g.edges).length : Nat))) (.p (pI (i : Nat))) σ =
      some (.p (.bool (b && allFrom (okE g.n (L g.edges)) i k)), σ')
  | 0, i, b, σ, hg, hk, hi => by
    have : ¬ (i : Int) < ((L g.edges).length : Nat) := by omega
    refine ⟨σ, ?_⟩
    rw [f76_L1_eq guardT rfl]
    simp only [b_lss, obind, this, decide_false, condK_false, allFrom, Bool.and_true]
  | k + 1, i, b, σ, hg, hk, hi => by
    have h : i < (L g.edges).length := by omega
    have h' : (i : Int) < ((L g.edges).length : Nat) := by omega
    rw [f76_L1_eq guardT rfl]
    have hg1 : (σ ++ [Row.mix (edgD ((L g.edges).getD i default))])[0]? = some (.mix (eGr g)) := get_old hg
    have hx : (σ ++ [Row.mix (edgD ((L g.edges).getD i default))])[σ.length]? = some (.mix (edgD ((L g.edges).getD i default))) := get_snoc
    have ih := fun b => L76_1 hl k (i + 1) b _ hg1 (by omega) (by omega)
    simp only [b_lss, obind, h', decide_true, condK_true, idx23 h, load100, load100_D h, zero100, store_new100 σ ((L g.edges).getD i default) [.p (pI 0), .p (pI 0), .p (pI 0)] rfl]
    generalize hρ : σ ++ [Row.mix (edgD ((L g.edges).getD i default))] = ρ at *
    have w : IntKind.wrap .i64 ((i : Int) + 1) = ((i + 1 : Nat) : Int) := wrap_succ (by omega)
    cases b with
    | false =>
      simp only [guard_ft, guard_sk, pickV_false, obind, b_add, w, Bool.false_and]
      obtain ⟨σ', h1⟩ := ih false
      exact ⟨σ', by rw [h1]; simp⟩
    | true =>
      simp only [guard_tt, fa100_0, fa100_1, fa100_2, shift_ptr, obind, load3, load1_ptr (off := 0 + 0) hx rfl, pureFn_fn, List.singleton_append, S90 hg1, pickV_true, allFrom, okE]
      cases h1 : inR ((L g.edges).getD i default).f 0 (pred g.n) with
      | false =>
        simp only [guard_ft, guard_sk, pickV_false, obind, b_add, w, Bool.false_and, Bool.and_false]
        obtain ⟨σ', h1⟩ := ih false
        exact ⟨σ', by rw [h1]; simp⟩
      | true =>
        simp only [guard_tt, obind, load1_ptr (off := 0 + 1) hx rfl, pureFn_fn, List.singleton_append, S90 hg1, pickV_true]
        cases h2 : inR ((L g.edges).getD i default).t 0 (pred g.n) with
        | false =>
          simp only [guard_ft, guard_sk, pickV_false, obind, b_add, w, Bool.false_and, Bool.and_false, Bool.true_and]
          obtain ⟨σ', h1⟩ := ih false
          exact ⟨σ', by rw [h1]; simp⟩
        | true =>
          simp only [guard_tt, obind, load1_ptr (off := 0 + 2) hx rfl, pureFn_fn, List.append_nil, S53, pickV_true]
          cases h3 : inR ((L g.edges).getD i default).a 0 11 with
          | false =>
            simp only [guard_ft, guard_sk, pickV_false, obind, b_add, w, Bool.false_and, Bool.and_false, Bool.true_and]
            obtain ⟨σ', h1⟩ := ih false
            exact ⟨σ', by rw [h1]; simp⟩
          | true =>
            simp only [guard_tt, b_eql, obind]
            by_cases h0 : i = 0
            · have hd : decide ((i : Int) = 0) = true := by simp [h0]
              simp only [hd, guard_tf, guard_sk, obind, pickV_true, b_add, w]
              obtain ⟨σ', h1⟩ := ih true
              exact ⟨σ', by rw [h1]; simp [h0]⟩
            · have h0' : ¬ (i : Int) = 0 := by omega
              have hi1 : i - 1 < (L g.edges).length := by omega
              simp only [h0', decide_false, guard_ff, obind, fa25_2, shift_ptr, load23, load1_ptr (off := 0 + 2) hg1 rfl, b_sub, wrap_pred (show 0 < i by omega) (show i ≤ 1000000 by omega), idx23 hi1, load100_D hi1,
                loadN_ptr (off := 0) (n := 3) (vs := edgD ((L g.edges).getD i default)) hx rfl (by simp [edgD]), omap, pureFn_fn, List.append_nil, S91, b_lss, pickV_false, pickV_true, b_add, w]
              obtain ⟨σ', h1⟩ := ih (decide (ordE ((L g.edges).getD (i - 1) default) ((L g.edges).getD i default) < 0))
              exact ⟨σ', by rw [h1]; simp [h0]⟩

theorem box_gr (g : Gr) : boxV (.agg (eGr g)) = some (eGr g) := rfl
theorem gr_view (g : Gr) : view (.agg (eGr g)) = .agg (eGr g) := by simp [view, viewCell, eGr, loosen_sl, loosen_es, loosen]

/-- Of a right graph all is looked at; a wrong one is one. -/
theorem S76 {g : Gr} {σ : Store} (hl : (L g.init).length ≤ 1000) (hl2 : (L g.edges).length ≤ 10000) : pureV CC 76 [.agg (eGr g)] σ = some (.p (.bool (isG g))) := by
  have g0 : ([Row.mix (eGr g)] : Store)[0]? = some (.mix (eGr g)) := rfl
  have key : ∀ b, ∃ σ', f76_L0 guardT 0 (.ptr 0 0) (.fn 90 [.ptr 0 0]) (.p (.bool b)) (.p (eSl g.init)) (.p (pI ((L g.init).length : Nat))) (.p (pI (0 : Nat))) [Row.mix (eGr g)] = some (.p (.bool (b && allFrom (okI g.n (L g.init)) 0 (L g.init).length && allFrom (okE g.n (L g.edges)) 0 (L g.edges).length)), σ') := by
    intro b
    rw [L76_0 g0 hl _ 0 b rfl (Nat.zero_le _)]
    exact L76_1 hl2 _ 0 _ _ g0 rfl (Nat.zero_le _)
  refine pureV_any (by simp [gr_view]) fun lo σ0 hs => ?_
  rcases hs with ⟨rfl, rfl, _⟩ | ⟨_, _, h⟩
  case inr => exact absurd h (by simp [rowFree, rowFree1, eGr])
  have hF : ∃ σ', F76 guardT 0 (.agg (eGr g)) [] = some (.p (.bool (isG g)), σ') := by
    rw [F76_eq]
    simp only [box_gr, obind, List.length_nil, List.nil_append, fa25_0, fa25_1, fa25_2, shift_ptr, load3, load22, load23, load1_ptr (off := 0 + 0) g0 rfl, load1_ptr (off := 0 + 1) g0 rfl, load1_ptr (off := 0 + 2) g0 rfl, pureFn_fn, List.append_nil, S53, len22, len23]
    cases h1 : inR g.n 0 400 with
    | false =>
      simp only [guard_ft, guard_sk, pickV_false, obind, load1_ptr (off := 0 + 1) g0 rfl, len22]
      obtain ⟨σ', h⟩ := key false
      exact ⟨σ', by simpa [isG, h1] using h⟩
    | true =>
      simp only [guard_tt, pickV_true, obind, load1_ptr (off := 0 + 2) g0 rfl, len23, b_leq, load1_ptr (off := 0 + 1) g0 rfl, len22]
      obtain ⟨σ', h⟩ := key (decide (((L g.edges).length : Int) ≤ 2000))
      refine ⟨σ', ?_⟩
      have e : decide (((L g.edges).length : Int) ≤ 2000) = decide ((L g.edges).length ≤ 2000) := by
        simp only [decide_eq_decide]; omega
      rw [e] at h ⊢
      simpa [isG, h1, Bool.and_assoc] using h
  obtain ⟨σ', h⟩ := hF
  exact ⟨_, σ', F76_call h, rfl⟩

end Go.D
end
/- The reference's right graphs; errors of pairs, in the program and in the reference. -/
section
set_option linter.unusedVariables false
set_option linter.unusedSimpArgs false
namespace Go.D

theorem allFrom_iff {p : Nat → Bool} : ∀ (k i : Nat), allFrom p i k = true ↔ ∀ j, i ≤ j → j < i + k → p j = true
  | 0, i => by simp [allFrom]; omega
  | k + 1, i => by
    simp only [allFrom, Bool.and_eq_true, allFrom_iff k (i + 1)]
    constructor
    · rintro ⟨h1, h2⟩ j hj hk
      rcases Nat.eq_or_lt_of_le hj with e | e
      · rw [← e]; exact h1
      · exact h2 j e (by omega)
    · intro h
      exact ⟨h i (Nat.le_refl _) (by omega), fun j hj hk => h j (by omega) (by omega)⟩

theorem ordE_first (a b : Edg) : decide (firstI [a.f, a.t, a.a] [b.f, b.t, b.a] ≥ 0) = !decide (ordE a b < 0) := by
  simp only [firstI, ordE, orL, cmpI, List.length_nil]
  by_cases h1 : a.f < b.f
  · have : ¬ a.f = b.f := by omega
    simp [h1, this]
  · by_cases h2 : a.f > b.f
    · have : ¬ a.f = b.f := by omega
      simp [h1, h2, this]
    · have e1 : a.f = b.f := by omega
      by_cases h3 : a.t < b.t
      · have : ¬ a.t = b.t := by omega
        simp [h3, this, e1]
      · by_cases h4 : a.t > b.t
        · have : ¬ a.t = b.t := by omega
          simp [h3, h4, this, e1]
        · have e2 : a.t = b.t := by omega
          by_cases h5 : a.a < b.a
          · have : ¬ a.a = b.a := by omega
            simp [h5, this, e1, e2]
          · by_cases h6 : a.a > b.a
            · have : ¬ a.a = b.a := by omega
              simp [h5, h6, this, e1, e2]
            · have e3 : a.a = b.a := by omega
              simp [e1, e2, e3]

theorem L48_1 {g : Gr} (hl : (L g.edges).length ≤ 10000) :
    ∀ (k i : Nat) (σ : Store), σ[0]? = some (.mix (eGr g)) → (L g.edges).length - i = k → i ≤ (L g.edges).length → ∃ σ', f48_L1 guardT 0 (.ptr 0 0) (.p (pI (i : Nat))) σ =
      some (.p (.bool (allFrom (okE g.n (L g.edges)) i k)), σ')
  | 0, i, σ, hg, hk, hi => by
    have : ¬ (i : Int) < ((L g.edges).length : Nat) := by omega
    refine ⟨σ, ?_⟩
    rw [f48_L1_eq guardT rfl]
    simp only [fa25_2, shift_ptr, load23, load1_ptr (off := 0 + 2) hg rfl, len23, b_lss, obind, this, decide_false, condK_false, allFrom]
  | k + 1, i, σ, hg, hk, hi => by
    have h : i < (L g.edges).length := by omega
    have h' : (i : Int) < ((L g.edges).length : Nat) := by omega
    rw [f48_L1_eq guardT rfl]
    have hg1 : (σ ++ [Row.mix (edgD ((L g.edges).getD i default))])[0]? = some (.mix (eGr g)) := get_old hg
    have hx : (σ ++ [Row.mix (edgD ((L g.edges).getD i default))])[σ.length]? = some (.mix (edgD ((L g.edges).getD i default))) := get_snoc
    have ih := L48_1 hl k (i + 1) _ hg1 (by omega) (by omega)
    simp only [fa25_2, shift_ptr, load23, load1_ptr (off := 0 + 2) hg rfl, len23, b_lss, obind, h', decide_true, condK_true, idx23 h, load100, load100_D h, zero100, store_new100 σ ((L g.edges).getD i default) [.p (pI 0), .p (pI 0), .p (pI 0)] rfl]
    generalize hρ : σ ++ [Row.mix (edgD ((L g.edges).getD i default))] = ρ at *
    have w : IntKind.wrap .i64 ((i : Int) + 1) = ((i + 1 : Nat) : Int) := wrap_succ (by omega)
    simp only [fa100_0, fa100_1, fa100_2, fa25_0, shift_ptr, obind, load3, load1_ptr (off := 0 + 0) hx rfl, load1_ptr (off := 0 + 0) hg1 rfl, b_sub, pureFn_fn, List.append_nil, S22, not_bool, allFrom, okE]
    cases h1 : inR ((L g.edges).getD i default).f 0 (pred g.n) with
    | false => exact ⟨ρ, by simp only [Bool.not_false, guard_tf, guard_sk, pickV_true, obind, condK_true, Bool.false_and]⟩
    | true =>
      simp only [Bool.not_true, guard_ff, obind, load1_ptr (off := 0 + 1) hx rfl, load1_ptr (off := 0 + 0) hg1 rfl, b_sub, pureFn_fn, List.append_nil, S22, not_bool, pickV_false, shift_ptr, fa25_0, load3]
      cases h2 : inR ((L g.edges).getD i default).t 0 (pred g.n) with
      | false => exact ⟨ρ, by simp only [Bool.not_false, guard_tf, guard_sk, pickV_true, obind, condK_true, Bool.false_and, Bool.and_false]⟩
      | true =>
        simp only [Bool.not_true, guard_ff, obind, load1_ptr (off := 0 + 2) hx rfl, pureFn_fn, List.append_nil, S22, not_bool, pickV_false, shift_ptr, load3]
        cases h3 : inR ((L g.edges).getD i default).a 0 11 with
        | false => exact ⟨ρ, by simp only [Bool.not_false, guard_tf, guard_sk, pickV_true, obind, condK_true, Bool.false_and, Bool.and_false]⟩
        | true =>
          simp only [Bool.not_true, guard_ff, obind, b_gtr, pickV_false]
          by_cases h0 : i = 0
          · have hd : decide ((i : Int) > 0) = false := by simp [h0]
            simp only [hd, guard_ft, guard_sk, pickV_false, obind, condK_false, b_add, w]
            obtain ⟨σ', h4⟩ := ih
            exact ⟨σ', by rw [h4]; simp [h0]⟩
          · have hd : decide ((i : Int) > 0) = true := by simp; omega
            have hi1 : i - 1 < (L g.edges).length := by omega
            simp only [hd, guard_tt, obind, load1_ptr (off := 0 + 2) hg1 rfl, shift_ptr, load23, b_sub, wrap_pred (show 0 < i by omega) (show i ≤ 1000000 by omega), idx23 hi1, load100_D hi1, pureFn_fn, List.append_nil, S82,
              loadN_ptr (off := 0) (n := 3) (vs := edgD ((L g.edges).getD i default)) hx rfl (by simp [edgD]), omap]
            rw [S70 (by simp) (by simp)]
            simp only [obind, b_geq, pickV_true, Option.getD_some, ordE_first]
            cases h5 : decide (ordE ((L g.edges).getD (i - 1) default) ((L g.edges).getD i default) < 0) with
            | false => exact ⟨ρ, by simp only [Bool.not_false, condK_true]; simp [h0]⟩
            | true =>
              simp only [Bool.not_true, condK_false, b_add, obind, w]
              obtain ⟨σ', h4⟩ := ih
              exact ⟨σ', by rw [h4]; simp [h0]⟩

end Go.D
end
/- The reference's right graphs: the end of it. -/
section
set_option linter.unusedVariables false
set_option linter.unusedSimpArgs false
namespace Go.D

theorem L48_0 {g : Gr} {σ : Store} (hg : σ[0]? = some (.mix (eGr g))) (hl : (L g.init).length ≤ 1000) :
    ∀ (k i : Nat), (L g.init).length - i = k → i ≤ (L g.init).length → f48_L0 guardT 0 (.ptr 0 0) (.p (pI (i : Nat))) σ =
      bif allFrom (okI g.n (L g.init)) i k then f48_L1 guardT 0 (.ptr 0 0) (.p (pI (0 : Nat))) σ else some (.p (.bool false), σ)
  | 0, i, hk, hi => by
    have : ¬ (i : Int) < ((L g.init).length : Nat) := by omega
    rw [f48_L0_eq guardT rfl]
    simp only [fa25_1, shift_ptr, load22, load1_ptr (off := 0 + 1) hg rfl, len22, b_lss, obind, this, decide_false, condK_false, allFrom, cond_true]
    rfl
  | k + 1, i, hk, hi => by
    have h : i < (L g.init).length := by omega
    have h' : (i : Int) < ((L g.init).length : Nat) := by omega
    have ih := L48_0 hg hl k (i + 1) (by omega) (by omega)
    rw [f48_L0_eq guardT rfl]
    simp only [fa25_0, fa25_1, shift_ptr, load22, load1_ptr (off := 0 + 1) hg rfl, len22, b_lss, obind, h', decide_true, condK_true, idx22 h, load3, load1_getD h, load1_ptr (off := 0 + 0) hg rfl, b_sub, pureFn_fn, List.append_nil, S22, not_bool, allFrom, okI]
    cases hst : inR ((L g.init).getD i 0) 0 (pred g.n) with
    | false => simp only [Bool.not_false, guard_tf, guard_sk, pickV_true, obind, condK_true, Bool.false_and, cond_false]
    | true =>
      simp only [Bool.not_true, guard_ff, obind, b_gtr]
      by_cases h0 : i = 0
      · have hd : decide ((i : Int) > 0) = false := by simp [h0]
        simp only [hd, guard_ft, guard_sk, obind, pickV_false, condK_false, b_add, wrap_succ (show i ≤ 1000000 by omega)]
        rw [ih]
        simp [h0]
      · have hd : decide ((i : Int) > 0) = true := by simp; omega
        have hi1 : i - 1 < (L g.init).length := by omega
        simp only [hd, guard_tt, obind, fa25_1, shift_ptr, load22, load1_ptr (off := 0 + 1) hg rfl, idx22 h, load3, load1_getD h, b_sub, wrap_pred (show 0 < i by omega) (show i ≤ 1000000 by omega), idx22 hi1, load1_getD hi1, b_leq, pickV_false, pickV_true]
        by_cases hlt : (L g.init).getD (i - 1) 0 < (L g.init).getD i 0
        · have hle : ¬ (L g.init).getD i 0 ≤ (L g.init).getD (i - 1) 0 := by omega
          simp only [hle, hlt, decide_false, decide_true, condK_false, b_add, obind, wrap_succ (show i ≤ 1000000 by omega), Bool.or_true, Bool.true_and]
          exact ih
        · have hle : (L g.init).getD i 0 ≤ (L g.init).getD (i - 1) 0 := by omega
          simp only [hle, hlt, decide_false, decide_true, condK_true, Bool.or_false, h0, Bool.true_and, Bool.false_and, cond_false]

theorem init_le {g : Gr} (hn : inR g.n 0 400 = true) (h : allFrom (okI g.n (L g.init)) 0 (L g.init).length = true) : ((L g.init).length : Int) ≤ g.n := by
  have h1 := (allFrom_iff _ _).1 h
  have hn' : 0 ≤ g.n ∧ g.n ≤ 400 := by simpa [inR] using hn
  have hp : pred g.n = g.n - 1 := wrap_ok (by omega) (by omega)
  have key : ∀ i, i < (L g.init).length → (i : Int) ≤ (L g.init).getD i 0 ∧ (L g.init).getD i 0 ≤ g.n - 1 := by
    intro i
    induction i with
    | zero =>
      intro hi
      have := h1 0 (Nat.le_refl _) (by omega)
      simp only [okI, hp, inR, Bool.and_eq_true, decide_eq_true_eq] at this
      omega
    | succ i ih =>
      intro hi
      have h2 := h1 (i + 1) (by omega) (by omega)
      have h3 := ih (by omega)
      simp only [okI, hp, inR, Bool.and_eq_true, Bool.or_eq_true, decide_eq_true_eq, Nat.add_sub_cancel] at h2
      omega
  rcases Nat.eq_zero_or_pos (L g.init).length with e | e
  · omega
  · have := key ((L g.init).length - 1) (by omega)
    omega

theorem S48 {g : Gr} {σ : Store} (hl : (L g.init).length ≤ 1000) (hl2 : (L g.edges).length ≤ 10000) : pureV CC 48 [.agg (eGr g)] σ = some (.p (.bool (isG g))) := by
  have g0 : ([Row.mix (eGr g)] : Store)[0]? = some (.mix (eGr g)) := rfl
  refine pureV_any (by simp [gr_view]) fun lo σ0 hs => ?_
  rcases hs with ⟨rfl, rfl, _⟩ | ⟨_, _, h⟩
  case inr => exact absurd h (by simp [rowFree, rowFree1, eGr])
  have hF : ∃ σ', F48 guardT 0 (.agg (eGr g)) [] = some (.p (.bool (isG g)), σ') := by
    rw [F48_eq]
    simp only [box_gr, obind, List.length_nil, List.nil_append, fa25_0, fa25_1, fa25_2, shift_ptr, load3, load22, load23, load1_ptr (off := 0 + 0) g0 rfl, pureFn_fn, List.append_nil, S22, not_bool]
    cases h1 : inR g.n 0 400 with
    | false => exact ⟨[Row.mix (eGr g)], by simp only [Bool.not_false, guard_tf, guard_sk, pickV_true, obind, condK_true, isG, h1, Bool.false_and]⟩
    | true =>
      simp only [Bool.not_true, guard_ff, obind, load1_ptr (off := 0 + 1) g0 rfl, load1_ptr (off := 0 + 0) g0 rfl, len22, b_gtr, pickV_false]
      by_cases h2 : ((L g.init).length : Int) > g.n
      · have hf : isG g = false := by
          cases hx : isG g with
          | false => rfl
          | true =>
            simp only [isG, Bool.and_eq_true] at hx
            have := init_le hx.1.1.1 hx.1.2
            omega
        exact ⟨[Row.mix (eGr g)], by simp only [h2, decide_true, guard_tf, guard_sk, pickV_true, obind, condK_true, hf]⟩
      · simp only [h2, decide_false, guard_ff, obind, load1_ptr (off := 0 + 2) g0 rfl, len23, b_gtr, pickV_false]
        by_cases h3 : (L g.edges).length ≤ 2000
        · have h3' : ¬ ((L g.edges).length : Int) > 2000 := by omega
          simp only [h3', decide_false, condK_false]
          obtain ⟨σ', h4⟩ := L48_1 hl2 _ 0 _ g0 rfl (Nat.zero_le _)
          have h5 : f48_L0 guardT 0 (.ptr 0 0) (.p (pI 0)) [Row.mix (eGr g)] = bif allFrom (okI g.n (L g.init)) 0 (L g.init).length then f48_L1 guardT 0 (.ptr 0 0) (.p (pI (0 : Nat))) [Row.mix (eGr g)] else some (.p (.bool false), [Row.mix (eGr g)]) := L48_0 g0 hl _ 0 rfl (Nat.zero_le _)
          rw [h5]
          cases h6 : allFrom (okI g.n (L g.init)) 0 (L g.init).length with
          | false => exact ⟨[Row.mix (eGr g)], by simp [isG, h6]⟩
          | true =>
            rw [cond_true, h4]
            exact ⟨σ', by simp [isG, h1, h3, h6]⟩
        · have h3' : ((L g.edges).length : Int) > 2000 := by omega
          exact ⟨[Row.mix (eGr g)], by simp only [h3', decide_true, condK_true]; simp [isG, h3]⟩
  obtain ⟨σ', h⟩ := hF
  exact ⟨_, σ', F48_call h, rfl⟩

end Go.D
end
/- Errors of pairs, in the program and in the reference. -/
section
set_option linter.unusedVariables false
set_option linter.unusedSimpArgs false
namespace Go.D

structure Small (p : Pair) : Prop where
  li : (L p.lo.init).length ≤ 1000
  le : (L p.lo.edges).length ≤ 10000
  ui : (L p.up.init).length ≤ 1000
  ue : (L p.up.edges).length ≤ 10000
  ll : (L p.ll).length ≤ 1000
  ul : (L p.ul).length ≤ 1000

theorem len122 (o : Option (List Int)) (σ : Store) : len PP 122 (.p (eSl o)) σ = some (.p (.int .i64 ((L o).length : Nat))) := by cases o <;> simp [len, u122, eSl]
theorem idx122 {o : Option (List Int)} {i : Nat} (h : i < (L o).length) : indexAddr PP 122 (.p (eSl o)) (.p (.int .i64 (i : Nat))) = some (.pptr (eInts (L o)) i) := by
  cases o with
  | none => simp at h
  | some l =>
    have h2 : (0 : Int) ≤ (i : Int) ∧ (i : Int) < (l.length : Nat) := by simp at h; omega
    simp [indexAddr, u122, s30, eSl, h2]

theorem L54 {o : Option (List Int)} {σ : Store} {lo : Nat} (hl : (L o).length ≤ 1000) :
    ∀ (k i : Nat), (L o).length - i = k → i ≤ (L o).length → f54_L0 guardT lo (.p (eSl o)) (.p (pI ((L o).length : Nat))) (.p (pI (i : Nat))) σ = some (.p (pI (orL ((L o).drop i))), σ)
  | 0, i, hk, hi => by
    have : i = (L o).length := by omega
    rw [f54_L0_eq guardT rfl]
    subst this
    simp [b_lss, condK_false, orL]
  | k + 1, i, hk, hi => by
    have h : i < (L o).length := by omega
    have h' : (i : Int) < ((L o).length : Nat) := by omega
    rw [f54_L0_eq guardT rfl]
    simp only [b_lss, obind, h', decide_true, condK_true, idx122 h, load30, load1_ints h, b_neq]
    rw [drop_cons h]
    by_cases hqv : (L o)[i] = 0
    · simp only [hqv, decide_true, Bool.not_true, condK_false, b_add, obind, wrap_succ (show i ≤ 1000000 by omega), orL, if_true]
      exact L54 hl k (i + 1) (by omega) (by omega)
    · simp [condK_true, orL, hqv]

theorem S54 {o : Option (List Int)} {σ : Store} (hl : (L o).length ≤ 1000) : pureV CC 54 [.p (eSl o)] σ = some (.p (pI (orL (L o)))) := by
  refine pureV_free (by simp [sl_view]) rfl (F54_call (r := (.p (pI (orL (L o))), [])) ?_) rfl
  rw [F54_eq]
  simp only [len122, obind]
  have := L54 (lo := 0) (σ := []) hl _ 0 rfl (Nat.zero_le _)
  simpa using this

theorem bs122_4 (x y z u : Int) (σ : Store) : buildSlice PP none 122 4 [(0, .p (pI x)), (1, .p (pI y)), (2, .p (pI z)), (3, .p (pI u))] σ = some (.p (.sl true 4 (eInts [x, y, z, u])), σ) := Eq.trans (by kernel_rfl) rfl
theorem bs122_3 (x y z : Int) (σ : Store) : buildSlice PP none 122 3 [(0, .p (pI x)), (1, .p (pI y)), (2, .p (pI z))] σ = some (.p (.sl true 3 (eInts [x, y, z])), σ) := Eq.trans (by kernel_rfl) rfl

theorem S54t {l : List Int} {n : Nat} {σ : Store} (hn : n = l.length) (hl : l.length ≤ 1000) : pureV CC 54 [.p (.sl true n (eInts l))] σ = some (.p (pI (orL l))) := by
  rw [pureV_view (args' := [.p (eSl (some l))]) (by subst hn; simp [view, viewCell, loosen, loosens_ints, eSl]) (by simp [sl_view])]
  exact S54 (o := some l) hl

/-- The error of a pair. -/
def badL (l : List Int) : Bool := l.any fun n => !inR n 0 10000
def e1P (p : Pair) : Int := if isG p.lo && isG p.up then 0 else 5
def e2P (p : Pair) : Int := if decide (p.lo.n ≤ 40) && decide (p.up.n ≤ 40) then 0 else 2
def e3P (p : Pair) : Int := if decide (((L p.ll).length : Int) = p.lo.n) && decide (((L p.ul).length : Int) = p.up.n) then 0 else 6
def e4P (p : Pair) : Int := if !badL (L p.ll) && !badL (L p.ul) then 0 else 3
def errP (p : Pair) : Int := orL [e1P p, e2P p, e3P p, e4P p]

theorem box_pair (p : Pair) : boxV (.agg (ePair p)) = some (ePair p) := rfl
theorem pair_view (p : Pair) : view (.agg (ePair p)) = .agg (ePair p) := by simp [view, viewCell, ePair, loosen_sl, loosen_es, loosen]

section
variable {p : Pair} {σ : Store} {r : Nat} (h : σ[r]? = some (.mix (ePair p)))
include h
theorem pr_lo : loadN σ 3 (.ptr r 0) = some (eGr p.lo) := loadN_ptr h rfl (by simp [ePair])
theorem pr_up : loadN σ 3 (.ptr r 3) = some (eGr p.up) := loadN_ptr h rfl (by simp [ePair])
theorem pr_all : loadN σ 8 (.ptr r 0) = some (ePair p) := loadN_ptr h rfl (by simp [ePair])
theorem pr_0 : load1 (.ptr r 0) σ = some (.p (pI p.lo.n)) := load1_ptr h rfl
theorem pr_1 : load1 (.ptr r 1) σ = some (.p (eSl p.lo.init)) := load1_ptr h rfl
theorem pr_2 : load1 (.ptr r 2) σ = some (.p (eEs p.lo.edges)) := load1_ptr h rfl
theorem pr_3 : load1 (.ptr r 3) σ = some (.p (pI p.up.n)) := load1_ptr h rfl
theorem pr_4 : load1 (.ptr r 4) σ = some (.p (eSl p.up.init)) := load1_ptr h rfl
theorem pr_5 : load1 (.ptr r 5) σ = some (.p (eEs p.up.edges)) := load1_ptr h rfl
theorem pr_6 : load1 (.ptr r 6) σ = some (.p (eSl p.ll)) := load1_ptr h rfl
theorem pr_7 : load1 (.ptr r 7) σ = some (.p (eSl p.ul)) := load1_ptr h rfl
end

theorem S41 {p : Pair} {σ : Store} (hp : Small p) : pureV CC 41 [.agg (ePair p)] σ = some (.p (pI (errP p))) := by
  refine pureV_any (by simp [pair_view]) fun lo σ0 hs => ?_
  rcases hs with ⟨rfl, rfl, _⟩ | ⟨_, _, h⟩
  case inr => exact absurd h (by simp [rowFree, rowFree1, ePair])
  have g0 : ([Row.mix (ePair p)] : Store)[0]? = some (.mix (ePair p)) := rfl
  have hb : ∀ (o : Option (List Int)) (σ : Store), (L o).length ≤ 1000 → pureV CC 51 [.p (eSl o), .fn 75 []] σ = some (.p (.bool (badL (L o)))) := fun o σ hl => S51 hl fun σ0 _ v => S75 v σ0
  have hF : F41 guardT 0 (.agg (ePair p)) [] = some (.p (pI (errP p)), [Row.mix (ePair p)]) := by
    rw [F41_eq]
    simp only [box_pair, obind, List.length_nil, List.nil_append, fa27_0, fa27_1, fa27_2, fa27_3, fa25_0, shift_ptr, Nat.zero_add, Nat.add_zero, load3, load22, load25, pr_lo g0, omap, pureFn_fn, List.append_nil, S76 hp.li hp.le]
    have hfin : ∀ a b c d : Int, (buildSlice PP none 122 4 [(0, .p (pI a)), (1, .p (pI b)), (2, .p (pI c)), (3, .p (pI d))] [Row.mix (ePair p)]).bind (fun r => (pureV CC 54 [r.1] r.2).bind fun x55 => some (x55, r.2)) = some (.p (pI (orL [a, b, c, d])), [Row.mix (ePair p)]) := by
      intro a b c d
      rw [bs122_4]
      rw [obind, S54t (l := [a, b, c, d]) (n := 4) rfl (by simp)]
      rfl
    cases h1 : isG p.lo <;> simp only [guard_tt, guard_ft, guard_sk, obind, pickV_true, pickV_false, fa27_0, fa27_1, fa27_2, fa27_3, fa25_0, shift_ptr, Nat.zero_add, Nat.add_zero, load3, load22, load25, pureFn_fn, List.append_nil, omap, pr_0 g0, pr_3 g0, pr_6 g0, pr_7 g0, pr_up g0, len22, b_leq, b_eql, not_bool, Bool.not_true, Bool.not_false, S56, S76 hp.ui hp.ue, hb _ _ hp.ll, hb _ _ hp.ul] <;>
      cases h2 : decide (p.lo.n ≤ 40) <;> simp only [guard_tt, guard_ft, guard_sk, obind, pickV_true, pickV_false, fa27_0, fa27_1, fa27_2, fa27_3, fa25_0, shift_ptr, Nat.zero_add, Nat.add_zero, load3, load22, load25, pureFn_fn, List.append_nil, omap, pr_0 g0, pr_3 g0, pr_6 g0, pr_7 g0, pr_up g0, len22, b_leq, b_eql, not_bool, Bool.not_true, Bool.not_false, S56, S76 hp.ui hp.ue, hb _ _ hp.ll, hb _ _ hp.ul] <;>
      cases h3 : decide (((L p.ll).length : Int) = p.lo.n) <;> simp only [guard_tt, guard_ft, guard_sk, obind, pickV_true, pickV_false, fa27_0, fa27_1, fa27_2, fa27_3, fa25_0, shift_ptr, Nat.zero_add, Nat.add_zero, load3, load22, load25, pureFn_fn, List.append_nil, omap, pr_0 g0, pr_3 g0, pr_6 g0, pr_7 g0, pr_up g0, len22, b_leq, b_eql, not_bool, Bool.not_true, Bool.not_false, S56, S76 hp.ui hp.ue, hb _ _ hp.ll, hb _ _ hp.ul] <;>
      cases h4 : badL (L p.ll) <;> simp only [guard_tt, guard_ft, guard_sk, obind, pickV_true, pickV_false, fa27_0, fa27_1, fa27_2, fa27_3, fa25_0, shift_ptr, Nat.zero_add, Nat.add_zero, load3, load22, load25, pureFn_fn, List.append_nil, omap, pr_0 g0, pr_3 g0, pr_6 g0, pr_7 g0, pr_up g0, len22, b_leq, b_eql, not_bool, Bool.not_true, Bool.not_false, S56, S76 hp.ui hp.ue, hb _ _ hp.ll, hb _ _ hp.ul, hfin, errP, e1P, e2P, e3P, e4P, h1, h2, h3, h4, Bool.true_and, Bool.false_and]
  exact ⟨_, _, F41_call hF, rfl⟩

end Go.D
end
/- The reference's errors of pairs; errors of paths. -/
section
set_option linter.unusedVariables false
set_option linter.unusedSimpArgs false
namespace Go.D

theorem L15_1 {p : Pair} {σ : Store} (h0 : σ[0]? = some (.mix (ePair p))) (hl : (L p.ul).length ≤ 1000) :
    ∀ (k i : Nat), (L p.ul).length - i = k → i ≤ (L p.ul).length → f15_L1 guardT 0 (.ptr 0 0) (.p (pI (i : Nat))) σ = some (.p (pI (bif badL ((L p.ul).drop i) then 3 else 0)), σ)
  | 0, i, hk, hi => by
    have : i = (L p.ul).length := by omega
    rw [f15_L1_eq guardT rfl]
    subst this
    simp [fa27_3, shift_ptr, load22, pr_7 h0, len22, b_lss, condK_false, badL]
  | k + 1, i, hk, hi => by
    have h : i < (L p.ul).length := by omega
    have h' : (i : Int) < ((L p.ul).length : Nat) := by omega
    rw [f15_L1_eq guardT rfl]
    simp only [fa27_3, shift_ptr, Nat.zero_add, load22, pr_7 h0, len22, b_lss, obind, h', decide_true, condK_true, idx22 h, load3, load1_ints h, pureFn_fn, List.append_nil, S22, not_bool]
    rw [drop_cons h]
    cases hqv : inR (L p.ul)[i] 0 10000 with
    | false => simp only [Bool.not_false, condK_true, badL, List.any_cons, hqv, Bool.true_or, cond_true]
    | true =>
      simp only [Bool.not_true, condK_false, b_add, obind, wrap_succ (show i ≤ 1000000 by omega), badL, List.any_cons, hqv, Bool.false_or]
      exact L15_1 h0 hl k (i + 1) (by omega) (by omega)

theorem L15_0 {p : Pair} {σ : Store} (h0 : σ[0]? = some (.mix (ePair p))) (hl : (L p.ll).length ≤ 1000) :
    ∀ (k i : Nat), (L p.ll).length - i = k → i ≤ (L p.ll).length → f15_L0 guardT 0 (.ptr 0 0) (.p (pI (i : Nat))) σ = bif badL ((L p.ll).drop i) then some (.p (pI 3), σ) else f15_L1 guardT 0 (.ptr 0 0) (.p (pI (0 : Nat))) σ
  | 0, i, hk, hi => by
    have : i = (L p.ll).length := by omega
    rw [f15_L0_eq guardT rfl]
    subst this
    simp [fa27_2, shift_ptr, load22, pr_6 h0, len22, b_lss, condK_false, badL]
  | k + 1, i, hk, hi => by
    have h : i < (L p.ll).length := by omega
    have h' : (i : Int) < ((L p.ll).length : Nat) := by omega
    rw [f15_L0_eq guardT rfl]
    simp only [fa27_2, shift_ptr, Nat.zero_add, load22, pr_6 h0, len22, b_lss, obind, h', decide_true, condK_true, idx22 h, load3, load1_ints h, pureFn_fn, List.append_nil, S22, not_bool]
    rw [drop_cons h]
    cases hqv : inR (L p.ll)[i] 0 10000 with
    | false => simp only [Bool.not_false, condK_true, badL, List.any_cons, hqv, Bool.true_or, cond_true]
    | true =>
      simp only [Bool.not_true, condK_false, b_add, obind, wrap_succ (show i ≤ 1000000 by omega), badL, List.any_cons, hqv, Bool.false_or]
      exact L15_0 h0 hl k (i + 1) (by omega) (by omega)

theorem S15 {p : Pair} {σ : Store} (hp : Small p) : pureV CC 15 [.agg (ePair p)] σ = some (.p (pI (errP p))) := by
  refine pureV_any (by simp [pair_view]) fun lo σ0 hs => ?_
  rcases hs with ⟨rfl, rfl, _⟩ | ⟨_, _, h⟩
  case inr => exact absurd h (by simp [rowFree, rowFree1, ePair])
  have g0 : ([Row.mix (ePair p)] : Store)[0]? = some (.mix (ePair p)) := rfl
  have hF : F15 guardT 0 (.agg (ePair p)) [] = some (.p (pI (errP p)), [Row.mix (ePair p)]) := by
    rw [F15_eq]
    simp only [box_pair, obind, List.length_nil, List.nil_append, fa27_0, fa27_1, fa27_2, fa27_3, fa25_0, shift_ptr, Nat.zero_add, Nat.add_zero, load3, load22, load25, pr_lo g0, omap, pureFn_fn, List.append_nil, S48 hp.li hp.le, not_bool]
    cases h1 : isG p.lo with
    | false => simp only [Bool.not_false, guard_tf, guard_sk, obind, pickV_true, condK_true, errP, e1P, h1, Bool.false_and, orL]; rfl
    | true =>
      simp only [Bool.not_true, guard_ff, obind, pickV_false, pr_up g0, omap, S48 hp.ui hp.ue, not_bool]
      cases h2 : isG p.up with
      | false => simp only [Bool.not_false, condK_true, errP, e1P, h1, h2, Bool.and_false, orL]; rfl
      | true =>
        simp only [Bool.not_true, condK_false, pr_0 g0, obind, b_gtr]
        have he1 : e1P p = 0 := by simp [e1P, h1, h2]
        by_cases h3 : p.lo.n > 40
        · have : ¬ p.lo.n ≤ 40 := by omega
          simp only [h3, decide_true, guard_tf, guard_sk, obind, pickV_true, condK_true]
          simp [errP, he1, e2P, this, orL]
        · have h3' : p.lo.n ≤ 40 := by omega
          simp only [h3, decide_false, guard_ff, obind, pickV_false, shift_ptr, Nat.add_zero, pr_3 g0, b_gtr]
          by_cases h4 : p.up.n > 40
          · have : ¬ p.up.n ≤ 40 := by omega
            simp only [h4, decide_true, condK_true]
            simp [errP, he1, e2P, this, orL]
          · have h4' : p.up.n ≤ 40 := by omega
            have he2 : e2P p = 0 := by simp [e2P, h3', h4']
            simp only [h4, decide_false, condK_false, pr_6 g0, obind, len22, pr_0 g0, b_neq]
            by_cases h5 : ((L p.ll).length : Int) = p.lo.n
            · simp only [h5, decide_true, Bool.not_true, guard_ff, obind, pickV_false, pr_7 g0, len22, shift_ptr, Nat.add_zero, pr_3 g0, b_neq]
              by_cases h6 : ((L p.ul).length : Int) = p.up.n
              · have he3 : e3P p = 0 := by simp [e3P, h5, h6]
                simp only [h6, decide_true, Bool.not_true, condK_false]
                have e := L15_0 g0 hp.ll _ 0 rfl (Nat.zero_le _)
                have e' := L15_1 g0 hp.ul _ 0 rfl (Nat.zero_le _)
                simp only [List.drop_zero] at e e'
                have e2 : f15_L0 guardT 0 (.ptr 0 0) (.p (pI 0)) [Row.mix (ePair p)] = bif badL (L p.ll) then some (.p (pI 3), [Row.mix (ePair p)]) else f15_L1 guardT 0 (.ptr 0 0) (.p (pI (0 : Nat))) [Row.mix (ePair p)] := e
                rw [e2, e']
                cases h7 : badL (L p.ll) <;> cases h8 : badL (L p.ul) <;> simp [errP, he1, he2, he3, e4P, h7, h8, orL]
              · simp only [h6, decide_false, Bool.not_false, condK_true]
                simp [errP, he1, he2, e3P, h6, orL]
            · simp only [h5, decide_false, Bool.not_false, guard_tf, guard_sk, obind, pickV_true, condK_true]
              simp [errP, he1, he2, e3P, h5, orL]
  exact ⟨_, _, F15_call hF, rfl⟩

/-! ### Errors of paths -/
theorem S77 {σ : Store} {r : Nat} {g : Gr} {v : Int} (h : σ[r]? = some (.mix (eGr g))) : pureV CC 77 [.p (pI v), .ptr r 0] σ = some (.p (.bool (!inR v 0 (pred g.n)))) := by
  refine pureV_rows rfl rfl (F77_call (r := (.p (.bool (!inR v 0 (pred g.n))), σ)) ?_) rfl
  rw [F77_eq]
  simp only [fa25_0, shift_ptr, obind, load3, load1_ptr (off := 0 + 0) h rfl, b_sub, pureFn_fn, List.append_nil, S53, not_bool]

def stepB (s t : Int) (e : Edg) : Bool := decide (e.f = s) && decide (e.t = t)
theorem S79 {σ : Store} {r1 r2 : Nat} {s t : Int} {e : Edg} (h1 : σ[r1]? = some (.mix [.p (pI s)])) (h2 : σ[r2]? = some (.mix [.p (pI t)])) : pureV CC 79 [.agg (edgD e), .ptr r1 0, .ptr r2 0] σ = some (.p (.bool (stepB s t e))) := by
  refine pureV_rows rfl rfl (F79_call (r := (.p (.bool (stepB s t e)), σ ++ [.mix (edgD e)])) ?_) rfl
  rw [F79_eq]
  have hx : (σ ++ [Row.mix (edgD e)])[σ.length]? = some (.mix (edgD e)) := get_snoc
  have h1' : (σ ++ [Row.mix (edgD e)])[r1]? = some (.mix [.p (pI s)]) := get_old h1
  have h2' : (σ ++ [Row.mix (edgD e)])[r2]? = some (.mix [.p (pI t)]) := get_old h2
  simp only [box_edg, obind, fa100_0, fa100_1, shift_ptr, load3, load1_ptr (off := 0 + 0) hx rfl, load1_ptr (off := 0) h1' rfl, b_eql, stepB]
  by_cases e1 : e.f = s
  · simp only [e1, decide_true, guard_tt, obind, load1_ptr (off := 0 + 1) hx rfl, load1_ptr (off := 0) h2' rfl, b_eql, pickV_true, Bool.true_and]
  · simp only [e1, decide_false, guard_ft, guard_sk, obind, pickV_false, Bool.false_and]

def follows (g : Gr) (s t : Int) : Bool := decide (s = t) || (L g.edges).any (stepB s t)

theorem L50 {g : Gr} {s t : Int} {σ : Store} {lo : Nat} (h0 : σ[0]? = some (.mix (eGr g))) (hl : (L g.edges).length ≤ 10000) :
    ∀ (k i : Nat), (L g.edges).length - i = k → i ≤ (L g.edges).length → f50_L0 guardT lo (.p (pI s)) (.p (pI t)) (.ptr 0 0) (.p (pI (i : Nat))) σ = some (.p (.bool (((L g.edges).drop i).any (stepB s t))), σ)
  | 0, i, hk, hi => by
    have : i = (L g.edges).length := by omega
    rw [f50_L0_eq guardT rfl]
    subst this
    simp [fa25_2, shift_ptr, load23, load1_ptr (off := 2) h0 rfl, len23, b_lss, condK_false]
  | k + 1, i, hk, hi => by
    have h : i < (L g.edges).length := by omega
    have h' : (i : Int) < ((L g.edges).length : Nat) := by omega
    obtain ⟨g1, g2, g3⟩ := edgs_get (L g.edges) i h
    rw [f50_L0_eq guardT rfl]
    simp only [fa25_2, fa100_0, shift_ptr, shift_pptr, Nat.zero_add, Nat.add_zero, load23, load1_ptr (off := 2) h0 rfl, len23, b_lss, obind, h', decide_true, condK_true, idx23 h, load3, load1_pptr g1, b_eql]
    rw [drop_cons h]
    by_cases e1 : (L g.edges)[i].f = s
    · simp only [e1, decide_true, guard_tt, obind, load1_ptr (off := 2) h0 rfl, idx23 h, fa100_1, shift_pptr, load1_pptr g2, b_eql, pickV_true]
      by_cases e2 : (L g.edges)[i].t = t
      · simp only [e2, decide_true, condK_true, List.any_cons, stepB, e1, Bool.true_and, Bool.true_or]
      · simp only [e2, decide_false, condK_false, b_add, obind, wrap_succ (show i ≤ 1000000 by omega), List.any_cons, stepB, Bool.and_false, Bool.false_or]
        exact L50 h0 hl k (i + 1) (by omega) (by omega)
    · simp only [e1, decide_false, guard_ft, guard_sk, obind, pickV_false, condK_false, b_add, wrap_succ (show i ≤ 1000000 by omega), List.any_cons, stepB, Bool.false_and, Bool.false_or]
      exact L50 h0 hl k (i + 1) (by omega) (by omega)

theorem S50 {g : Gr} {s t : Int} {σ : Store} (hl : (L g.edges).length ≤ 10000) : pureV CC 50 [.agg (eGr g), .p (pI s), .p (pI t)] σ = some (.p (.bool (follows g s t))) := by
  refine pureV_any (by simp [gr_view]; exact ⟨rfl, rfl⟩) fun lo σ0 hs => ?_
  rcases hs with ⟨rfl, rfl, _⟩ | ⟨_, _, h⟩
  case inr => exact absurd h (by simp [rowFree, rowFree1, eGr])
  have g0 : ([Row.mix (eGr g)] : Store)[0]? = some (.mix (eGr g)) := rfl
  have hF : F50 guardT 0 (.agg (eGr g)) (.p (pI s)) (.p (pI t)) [] = some (.p (.bool (follows g s t)), [Row.mix (eGr g)]) := by
    rw [F50_eq]
    simp only [box_gr, obind, List.length_nil, List.nil_append, b_eql, follows]
    by_cases e : s = t
    · simp [e, condK_true]
    · simp only [e, decide_false, condK_false, Bool.false_or]
      have := L50 (s := s) (t := t) (lo := 0) g0 hl _ 0 rfl (Nat.zero_le _)
      simpa using this
  exact ⟨_, _, F50_call hF, rfl⟩

end Go.D
end
/- Errors of paths, in the program and in the reference. -/
section
set_option linter.unusedVariables false
set_option linter.unusedSimpArgs false
namespace Go.D

def badN (g : Gr) (v : Int) : Bool := !inR v 0 (pred g.n)
def okStep (g : Gr) (l : List Int) (i : Nat) : Bool := follows g (l.getD i 0) (l.getD (i + 1) 0)
def rightPath (g : Gr) (l : List Int) : Bool := hasI (L g.init) (l.getD 0 0) && allFrom (okStep g l) 0 (l.length - 1)
def errPath (g : Gr) (l : List Int) : Int :=
  if l.length = 0 then 1 else if l.length > 60 then 2 else bif l.any (badN g) then 3 else bif rightPath g l then 0 else 14

theorem idx22_0 {o : Option (List Int)} (h : 0 < (L o).length) : indexAddr PP 22 (.p (eSl o)) (.p (.int .i64 0)) = some (.pptr (eInts (L o)) 0) := idx22 (i := 0) h
theorem slice22_1 {o : Option (List Int)} (h : 0 < (L o).length) : sliceOp PP 22 (.p (eSl o)) (some (.p (.int .i64 1))) none none = some (.p (eSl (some ((L o).drop 1)))) := by
  cases o with
  | none => simp at h
  | some l =>
    have h1 : (1 : Int) ≤ (l.length : Nat) := by simp at h; omega
    have e : (List.take (l.length - 1) (List.drop 1 (eInts l))) = eInts (l.drop 1) := by
      simp only [eInts, ← List.map_drop]
      rw [List.take_of_length_le (by simp)]
    simp [sliceOp, u22, s3, eSl, bound, h1] at e ⊢
    exact e
theorem loadP_pptr (pl : FPol) (d : Option Tmp) (t : TypeId) (cs : List PV) (off : Nat) (σ : Store) : loadP PP pl d t (.pptr cs off) σ = load PP t (.pptr cs off) σ := by simp [loadP, isPptr]

theorem store3_a (σ : Store) (a b c : Int) : store PP 0 3 (.ptr σ.length 0) (.p (pI a)) ((σ ++ [.mix [.p (pI b)]]) ++ [.mix [.p (pI c)]]) = some ((σ ++ [.mix [.p (pI a)]]) ++ [.mix [.p (pI c)]]) := by
  have h1 : ((σ ++ [Row.mix [.p (pI b)]]) ++ [Row.mix [.p (pI c)]])[σ.length]? = some (.mix [.p (pI b)]) := by simp
  simp only [store, s3, DV.cells, storeN, h1]
  simp [DV.one, splice]
theorem store3_b (σ : Store) (a b c d : Int) : store PP 0 3 (.ptr (σ ++ [Row.mix [.p (pI d)]]).length 0) (.p (pI b)) ((σ ++ [.mix [.p (pI a)]]) ++ [.mix [.p (pI c)]]) = some ((σ ++ [.mix [.p (pI a)]]) ++ [.mix [.p (pI b)]]) := by
  have h1 : ((σ ++ [Row.mix [.p (pI a)]]) ++ [Row.mix [.p (pI c)]])[(σ ++ [Row.mix [.p (pI d)]]).length]? = some (.mix [.p (pI c)]) := by simp
  simp only [store, s3, DV.cells, storeN, h1]
  simp [DV.one, splice]

theorem L42 {g : Gr} {o : Option (List Int)} (hl : (L o).length ≤ 1000) (he : (L g.edges).length ≤ 10000) :
    ∀ (k i : Nat) (b : Bool) (σ : Store), σ[0]? = some (.mix (eGr g)) → (L o).length - 1 - i = k → i ≤ (L o).length - 1 →
      ∃ σ', f42_L0 guardT 0 (.p (eSl o)) (.ptr 0 0) (.p (.bool b)) (.p (pI ((L o).length - 1 : Nat))) (.p (pI (i : Nat))) σ = some (.p (pI (bif b && allFrom (okStep g (L o)) i k then 0 else 14)), σ')
  | 0, i, b, σ, h0, hk, hi => by
    have : ¬ (i : Int) < ((L o).length - 1 : Nat) := by omega
    refine ⟨σ, ?_⟩
    rw [f42_L0_eq guardT rfl]
    simp only [b_lss, obind, this, decide_false, condK_false, pureFn_fn, List.append_nil, S56, allFrom, Bool.and_true]
    cases b <;> rfl
  | k + 1, i, b, σ, h0, hk, hi => by
    have h : i < (L o).length := by omega
    have h1 : i + 1 < (L o).length := by omega
    have h' : (i : Int) < ((L o).length - 1 : Nat) := by omega
    rw [f42_L0_eq guardT rfl]
    have w : IntKind.wrap .i64 ((i : Int) + 1) = ((i + 1 : Nat) : Int) := wrap_succ (by omega)
    have g0 : ((σ ++ [Row.mix [.p (pI ((L o).getD i 0))]]) ++ [Row.mix [.p (pI ((L o).getD (i + 1) 0))]])[0]? = some (.mix (eGr g)) := get_old (get_old h0)
    have g1 : ((σ ++ [Row.mix [.p (pI ((L o).getD i 0))]]) ++ [Row.mix [.p (pI ((L o).getD (i + 1) 0))]])[σ.length]? = some (.mix [.p (pI ((L o).getD i 0))]) := get_old get_snoc
    have g2 : ((σ ++ [Row.mix [.p (pI ((L o).getD i 0))]]) ++ [Row.mix [.p (pI ((L o).getD (i + 1) 0))]])[(σ ++ [Row.mix [DV.p (pI 0)]]).length]? = some (.mix [.p (pI ((L o).getD (i + 1) 0))]) := by simp
    have ih := fun b => L42 hl he k (i + 1) b _ g0 (by omega) (by omega)
    simp only [b_lss, obind, h', decide_true, condK_true, idx22 h, loadP_pptr, load3, load1_getD h, b_add, w, idx22 h1, load1_getD h1, zero3, store3_a, store3_b]
    generalize hρ : (σ ++ [Row.mix [.p (pI ((L o).getD i 0))]]) ++ [Row.mix [.p (pI ((L o).getD (i + 1) 0))]] = ρ at *
    generalize hm : (σ ++ [Row.mix [DV.p (pI 0)]]).length = m at *
    cases b with
    | false =>
      simp only [guard_ft, guard_sk, obind, pickV_false, Bool.false_and]
      obtain ⟨σ', h2⟩ := ih false
      exact ⟨σ', by rw [h2]; simp⟩
    | true =>
      simp only [guard_tt, obind, load1_ptr (off := 0) g1 rfl, load1_ptr (off := 0) g2 rfl, b_eql, allFrom, okStep, follows]
      by_cases e : (L o).getD i 0 = (L o).getD (i + 1) 0
      · simp only [e, decide_true, guard_tf, guard_sk, obind, pickV_true]
        obtain ⟨σ', h2⟩ := ih true
        exact ⟨σ', by rw [h2]; simp⟩
      · simp only [e, decide_false, guard_ff, obind, fa25_2, shift_ptr, Nat.zero_add, load23, load1_ptr (off := 2) g0 rfl, pureFn_fn, List.append_nil]
        rw [S78 (q := stepB ((L o).getD i 0) ((L o).getD (i + 1) 0)) he (by
          rintro σ0 (⟨_, hb⟩ | rfl) e
          · simp [rowFree1] at hb
          · exact S79 g1 g2)]
        simp only [obind, pickV_false, pickV_true]
        obtain ⟨σ', h2⟩ := ih ((L g.edges).any (stepB ((L o).getD i 0) ((L o).getD (i + 1) 0)))
        exact ⟨σ', by rw [h2]; simp⟩

theorem S42 {g : Gr} {o : Option (List Int)} {σ : Store} (hl : (L o).length ≤ 1000) (hi : (L g.init).length ≤ 1000) (he : (L g.edges).length ≤ 10000) : pureV CC 42 [.agg (eGr g), .p (eSl o)] σ = some (.p (pI (errPath g (L o)))) := by
  refine pureV_any (by simp [gr_view, sl_view]) fun lo σ0 hs => ?_
  rcases hs with ⟨rfl, rfl, _⟩ | ⟨_, _, h⟩
  case inr => exact absurd h (by simp [rowFree, rowFree1, eGr])
  have g0 : ([Row.mix (eGr g)] : Store)[0]? = some (.mix (eGr g)) := rfl
  have hbad : pureV CC 51 [.p (eSl o), .fn 77 [.ptr 0 0]] [Row.mix (eGr g)] = some (.p (.bool ((L o).any (badN g)))) := S51 hl (by
    rintro σ0 (⟨_, hb⟩ | rfl) v
    · simp [rowFree1] at hb
    · exact S77 g0)
  have hfin : ∀ a b c : Int, (buildSlice PP none 122 3 [(0, .p (pI a)), (1, .p (pI b)), (2, .p (pI c))] [Row.mix (eGr g)]) = some (.p (.sl true 3 (eInts [a, b, c])), [Row.mix (eGr g)]) := fun a b c => bs122_3 a b c _
  have hF : ∃ σ', F42 guardT 0 (.agg (eGr g)) (.p (eSl o)) [] = some (.p (pI (errPath g (L o))), σ') := by
    rw [F42_eq]
    simp only [box_gr, obind, List.length_nil, List.nil_append, pureFn_fn, List.append_nil, hbad, len22, b_gtr, b_leq, S56, not_bool, hfin]
    rw [S54t (l := [_, _, _]) (n := 3) rfl (by simp)]
    simp only [obind, b_neq]
    by_cases h1 : (L o).length = 0
    · have h1' : ¬ ((L o).length : Int) > 0 := by omega
      refine ⟨[Row.mix (eGr g)], ?_⟩
      simp [h1, orL, condK_true, errPath]
    · have h1' : ((L o).length : Int) > 0 := by omega
      by_cases h2 : (L o).length > 60
      · have h2' : ¬ ((L o).length : Int) ≤ 60 := by omega
        refine ⟨[Row.mix (eGr g)], ?_⟩
        simp only [h1', h2', decide_true, decide_false, if_true, Bool.false_eq_true, if_false, orL]
        simp [condK_true, errPath, h1, h2]
      · have h2' : ((L o).length : Int) ≤ 60 := by omega
        cases h3 : (L o).any (badN g) with
        | true =>
          refine ⟨[Row.mix (eGr g)], ?_⟩
          simp only [h1', h2', decide_true, if_true, Bool.not_true, Bool.false_eq_true, if_false, orL]
          simp [condK_true, errPath, h1, h2, h3]
        | false =>
          have hpos : 0 < (L o).length := by omega
          simp only [h1', h2', decide_true, if_true, Bool.not_false, orL, Bool.not_true, condK_false, fa25_1, shift_ptr, Nat.zero_add, load22, load1_ptr (off := 1) g0 rfl, obind, idx22_0 hpos, load3, load1_getD hpos, S46 hi, slice22_1 hpos, len22]
          have e : ((L (some ((L o).drop 1))).length : Nat) = (L o).length - 1 := by simp
          rw [e]
          obtain ⟨σ', h4⟩ := L42 hl he _ 0 (hasI (L g.init) ((L o).getD 0 0)) _ g0 rfl (Nat.zero_le _)
          refine ⟨σ', ?_⟩
          have h5 : f42_L0 guardT 0 (.p (eSl o)) (.ptr 0 0) (.p (.bool (hasI (L g.init) ((L o).getD 0 0)))) (.p (pI ((L o).length - 1 : Nat))) (.p (pI 0)) [Row.mix (eGr g)] = _ := h4
          rw [h5]
          simp only [errPath, h1, h2, h3, if_false, cond_false, rightPath, Nat.sub_zero]
  obtain ⟨σ', h⟩ := hF
  exact ⟨_, _, F42_call h, rfl⟩

/-! ### The reference's -/
theorem allFrom_shift {p : Nat → Bool} : ∀ (k i : Nat), allFrom p (i + 1) k = allFrom (fun j => p (j + 1)) i k
  | 0, i => rfl
  | k + 1, i => by simp only [allFrom, allFrom_shift k (i + 1)]

theorem L16_1 {p : Pair} {o : Option (List Int)} {σ : Store} (h0 : σ[0]? = some (.mix (ePair p))) (hl : (L o).length ≤ 1000) (he : (L p.lo.edges).length ≤ 10000) :
    ∀ (k i : Nat), (L o).length - i = k → 1 ≤ i → i ≤ (L o).length → f16_L1 guardT 0 (.p (eSl o)) (.ptr 0 0) (.p (pI (i : Nat))) σ = some (.p (pI (bif allFrom (fun j => okStep p.lo (L o) (j - 1)) i k then 0 else 14)), σ)
  | 0, i, hk, h1, hi => by
    have : ¬ (i : Int) < ((L o).length : Nat) := by omega
    rw [f16_L1_eq guardT rfl]
    simp only [len22, b_lss, obind, this, decide_false, condK_false, allFrom, cond_true]
  | k + 1, i, hk, h1, hi => by
    have h : i < (L o).length := by omega
    have h2 : i - 1 < (L o).length := by omega
    have h' : (i : Int) < ((L o).length : Nat) := by omega
    have e : i - 1 + 1 = i := by omega
    rw [f16_L1_eq guardT rfl]
    simp only [len22, b_lss, obind, h', decide_true, condK_true, fa27_0, shift_ptr, Nat.zero_add, load25, pr_lo h0, omap, b_sub, wrap_pred (show 0 < i by omega) (show i ≤ 1000000 by omega), idx22 h2, load3, load1_getD h2, idx22 h, load1_getD h, pureFn_fn, List.append_nil, S50 he, not_bool, allFrom, okStep, e]
    cases hf : follows p.lo ((L o).getD (i - 1) 0) ((L o).getD i 0) with
    | false => simp only [Bool.not_false, condK_true, Bool.false_and, cond_false]
    | true =>
      simp only [Bool.not_true, condK_false, b_add, obind, wrap_succ (show i ≤ 1000000 by omega), Bool.true_and]
      exact L16_1 h0 hl he k (i + 1) (by omega) (by omega) (by omega)

theorem L16_0 {p : Pair} {o : Option (List Int)} {σ : Store} (h0 : σ[0]? = some (.mix (ePair p))) (hl : (L o).length ≤ 1000) (hpos : 0 < (L o).length) (hi : (L p.lo.init).length ≤ 1000) :
    ∀ (k i : Nat), (L o).length - i = k → i ≤ (L o).length → f16_L0 guardT 0 (.p (eSl o)) (.ptr 0 0) (.p (pI (i : Nat))) σ = bif ((L o).drop i).any (badN p.lo) then some (.p (pI 3), σ) else bif hasI (L p.lo.init) ((L o).getD 0 0) then f16_L1 guardT 0 (.p (eSl o)) (.ptr 0 0) (.p (pI (1 : Nat))) σ else some (.p (pI 14), σ)
  | 0, i, hk, hi' => by
    have : ¬ (i : Int) < ((L o).length : Nat) := by omega
    have hd : (L o).drop i = [] := List.drop_eq_nil_of_le (by omega)
    rw [f16_L0_eq guardT rfl, hd]
    simp only [len22, b_lss, obind, this, decide_false, condK_false, fa27_0, fa25_1, shift_ptr, Nat.zero_add, load22, pr_1 h0, idx22_0 hpos, load3, load1_getD hpos, pureFn_fn, List.append_nil, S49 hi, not_bool, List.any_nil, cond_false]
    cases hasI (L p.lo.init) ((L o).getD 0 0) with
    | false => simp only [Bool.not_false, condK_true, cond_false]
    | true => simp only [Bool.not_true, condK_false, cond_true]; rfl
  | k + 1, i, hk, hi' => by
    have h : i < (L o).length := by omega
    have h' : (i : Int) < ((L o).length : Nat) := by omega
    rw [f16_L0_eq guardT rfl]
    simp only [len22, b_lss, obind, h', decide_true, condK_true, idx22 h, load3, load1_ints h, fa27_0, fa25_0, shift_ptr, Nat.zero_add, pr_0 h0, b_sub, pureFn_fn, List.append_nil, S22, not_bool]
    rw [drop_cons h]
    cases hb : inR (L o)[i] 0 (pred p.lo.n) with
    | false => simp only [Bool.not_false, condK_true, List.any_cons, badN, hb, Bool.true_or, cond_true]
    | true =>
      simp only [Bool.not_true, condK_false, b_add, obind, wrap_succ (show i ≤ 1000000 by omega), List.any_cons, badN, hb, Bool.false_or]
      exact L16_0 h0 hl hpos hi k (i + 1) (by omega) (by omega)

theorem S16 {p : Pair} {o : Option (List Int)} {σ : Store} (hl : (L o).length ≤ 1000) (hi : (L p.lo.init).length ≤ 1000) (he : (L p.lo.edges).length ≤ 10000) : pureV CC 16 [.agg (ePair p), .p (eSl o)] σ = some (.p (pI (errPath p.lo (L o)))) := by
  refine pureV_any (by simp [pair_view, sl_view]) fun lo σ0 hs => ?_
  rcases hs with ⟨rfl, rfl, _⟩ | ⟨_, _, h⟩
  case inr => exact absurd h (by simp [rowFree, rowFree1, ePair])
  have g0 : ([Row.mix (ePair p)] : Store)[0]? = some (.mix (ePair p)) := rfl
  have hF : F16 guardT 0 (.agg (ePair p)) (.p (eSl o)) [] = some (.p (pI (errPath p.lo (L o))), [Row.mix (ePair p)]) := by
    rw [F16_eq]
    simp only [box_pair, obind, List.length_nil, List.nil_append, len22, b_eql, b_gtr]
    by_cases h1 : (L o).length = 0
    · have h1' : ((L o).length : Int) = 0 := by omega
      simp [h1', condK_true, errPath, h1]
    · have h1' : ¬ ((L o).length : Int) = 0 := by omega
      simp only [h1', decide_false, condK_false]
      by_cases h2 : (L o).length > 60
      · have h2' : ((L o).length : Int) > 60 := by omega
        simp only [h2', decide_true, condK_true, errPath, h1, h2, if_true, if_false]
      · have h2' : ¬ ((L o).length : Int) > 60 := by omega
        simp only [h2', decide_false, condK_false]
        have hpos : 0 < (L o).length := by omega
        have e : f16_L0 guardT 0 (.p (eSl o)) (.ptr 0 0) (.p (pI 0)) [Row.mix (ePair p)] = _ := L16_0 g0 hl hpos hi _ 0 rfl (Nat.zero_le _)
        rw [e, L16_1 g0 hl he _ 1 rfl (Nat.le_refl _) hpos, allFrom_shift]
        simp only [Nat.add_sub_cancel, List.drop_zero, errPath, h1, h2, if_false, rightPath]
        cases (L o).any (badN p.lo) <;> cases hasI (L p.lo.init) ((L o).getD 0 0) <;> first | rfl | simp only [cond_false, cond_true, Bool.true_and, Bool.false_and]
  exact ⟨_, _, F16_call hF, rfl⟩

end Go.D
end
