/- Chapter 13: LassoWords' law. -/
import Derived.Test.YtpacancmcjbckaaGreatDoorMd
import Derived.Test.YtpacancmcjbckaaGreatDoorMf
import Derived.Test.YtpacancmcjbckaaGreatDoorMg
import Derived.Test.YtpacancmcjbckaaGreatDoorMc
section
set_option linter.unusedVariables false
set_option linter.unusedSimpArgs false
namespace Go.D
open Las
set_option maxRecDepth 4000
theorem b_eql30 (x y : Int) : binOp PP .eql 30 (.p (.int .i64 x)) (.p (.int .i64 y)) = some (.p (.bool (decide (x = y)))) := Eq.trans (by kernel_rfl) rfl
def awT : Prop := ∀ σ : Store, pureV CC 12 [] σ = some (.p (.bool true))
end Go.D
end
/- The examples of chapter 13: awake answers true. -/
section
set_option linter.unusedVariables false
set_option linter.unusedSimpArgs false
set_option maxRecDepth 100000
namespace Go.D
def exS1 : Store := [.mix [.p (exN [1]), .p (exN [2, 3])]]
def exS2 : Store := [.mix [.p (exN [1]), .p (exN [2, 3])], .mix [.p (.sl false 0 []), .p (exN [0])]]
theorem K48 (σ : Store) : pureV CC 48 [.p (.str lstr0)] σ = some (.tuple [.p exF, .p (pI 12), .p (pI 0)]) := pureV_run run48 rfl rfl
theorem K62a (σ : Store) : pureV CC 62 [.p (.int .i64 0)] σ = some (.p exA0) := pureV_run run62a rfl rfl
theorem K62b (σ : Store) : pureV CC 62 [.p (.int .i64 1)] σ = some (.p exA1) := pureV_run run62b rfl rfl
theorem K63 (σ : Store) : pureV CC 63 [.p .nilsl] σ = some exY := pureV_run run63 rfl rfl
theorem K38a (σ : Store) : pureV CC 38 [.p (.int .i64 8), .p (.sl true 2 [exA0, exA1])] σ = some (.p exU) := by
  rw [pureV_view (args' := [.p (pI 8), .p (.sl false 2 [exA0, exA1])]) rfl rfl]
  exact pureV_run run38a rfl rfl
theorem K38b (σ : Store) : pureV CC 38 [.p (.int .i64 7), .p (.sl true 1 [exA0])] σ = some (.p exB) := by
  rw [pureV_view (args' := [.p (pI 7), .p (.sl false 1 [exA0])]) rfl rfl]
  exact pureV_run run38b rfl rfl
theorem K32 (σ : Store) : pureV CC 32 [.agg [.p (.sl true 3 [.int .i64 1, .int .i64 1, .int .i64 2]), .p (.sl true 3 [.int .i64 3, .int .i64 2, .int .i64 2])]] σ = some (.tuple [.agg [.p (exN [1]), .p (exN [2, 3])], .p (pI 0)]) := by
  rw [pureV_view (args' := [.agg [.p (exN [1, 1, 2]), .p (exN [3, 2, 2])]]) rfl rfl]
  exact pureV_run run32 rfl rfl
theorem K29 (σ : Store) : pureV CC 29 [exL, .agg [.p .nilsl, .p (.sl true 1 [.int .i64 0])]] σ = some (.p (.bool true)) := by
  rw [pureV_view (args' := [exL, .agg [.p .nilsl, .p (exN [0])]]) rfl rfl]
  exact pureV_run run29 rfl rfl
theorem K20 (σ : Store) : pureV CC 20 [.p exU, .agg [.p (.sl true 2 [.int .i64 0, .int .i64 1]), .p (.sl true 2 [.int .i64 2, .int .i64 0])]] σ = some (.tuple [.p (.bool true), .p (pI 0)]) := by
  rw [pureV_view (args' := [.p exU, .agg [.p (exN [0, 1]), .p (exN [2, 0])]]) rfl rfl]
  exact pureV_run run20 rfl rfl
theorem K27 (σ : Store) : pureV CC 27 [exY, .p exB, .p (.int .i64 2)] σ = some (.tuple [exL, .p (pI 0)]) := pureV_run run27 rfl rfl
theorem K33 (σ : Store) : pureV CC 33 [.agg [.p (exN [1]), .p (exN [2, 3])], .agg [.p (.sl true 1 [.int .i64 1]), .p (.sl true 2 [.int .i64 2, .int .i64 3])]] σ = some (.p (.bool true)) := by
  rw [pureV_view (args' := [vWd ⟨some [1], some [2, 3]⟩, vWd ⟨some [1], some [2, 3]⟩]) rfl rfl]
  exact S33 (u := ⟨some [1], some [2, 3]⟩) (w := ⟨some [1], some [2, 3]⟩) (by decide) (by decide) σ
theorem kb64_2 (σ : Store) : buildSlice PP none 64 2 [(0, .p exA0), (1, .p exA1)] σ = some (.p (.sl true 2 [exA0, exA1]), σ) := Eq.trans (by kernel_rfl) rfl
theorem kb64_1 (σ : Store) : buildSlice PP none 64 1 [(0, .p exA0)] σ = some (.p (.sl true 1 [exA0]), σ) := Eq.trans (by kernel_rfl) rfl
theorem kb24_2 (a b : Int) (σ : Store) : buildSlice PP none 24 2 [(0, .p (.int .i64 a)), (1, .p (.int .i64 b))] σ = some (.p (.sl true 2 [.int .i64 a, .int .i64 b]), σ) := Eq.trans (by kernel_rfl) rfl
theorem kb24_3 (a b c : Int) (σ : Store) : buildSlice PP none 24 3 [(0, .p (.int .i64 a)), (1, .p (.int .i64 b)), (2, .p (.int .i64 c))] σ = some (.p (.sl true 3 [.int .i64 a, .int .i64 b, .int .i64 c]), σ) := Eq.trans (by kernel_rfl) rfl
theorem kb52 (p : PV) : build PP 52 [(1, .p p)] = some (.agg [.p .nilsl, .p p]) := Eq.trans (by kernel_rfl) rfl
theorem kz52 : zeroOf PP 52 = some [.p .nilsl, .p .nilsl] := Eq.trans (by kernel_rfl) rfl
theorem ks1 : store PP 0 26 (.ptr 0 0) (.agg [.p (exN [1]), .p (exN [2, 3])]) [.mix [.p .nilsl, .p .nilsl]] = some exS1 := Eq.trans (by kernel_rfl) rfl
theorem ks2 : store PP 0 52 (.ptr 1 0) exL (exS1 ++ [.mix [.p .nilsl, .p .nilsl]]) = some exS2 := Eq.trans (by kernel_rfl) rfl
theorem kl1 : exS1.length = 1 := rfl
theorem kd1 : load PP 26 (.ptr 0 0) exS2 = some (.agg [.p (exN [1]), .p (exN [2, 3])]) := Eq.trans (by kernel_rfl) rfl
theorem kd2 : load PP 52 (.ptr 1 0) exS2 = some exL := Eq.trans (by kernel_rfl) rfl
theorem kln (σ : Store) : len PP 23 (.p exF) σ = some (.p (.int .i64 4)) := Eq.trans (by kernel_rfl) rfl
theorem kx0 (a b : DV) : extractV (.tuple [a, b]) 0 = some a := rfl
theorem kx1 (a b : DV) : extractV (.tuple [a, b]) 1 = some b := rfl
theorem ke0 (a b c : DV) : extractV (.tuple [a, b, c]) 0 = some a := rfl
theorem ke1 (a b c : DV) : extractV (.tuple [a, b, c]) 1 = some b := rfl
theorem ke2 (a b c : DV) : extractV (.tuple [a, b, c]) 2 = some c := rfl
theorem awake_F12 : F12 guardT 0 [] = some (.p (.bool true), exS2) := by
  rw [F12_eq]
  simp only [pureFn_fn, List.append_nil, K48, gG, ke0, ke1, ke2, K62a, K62b, kb64_2, K38a, kb24_2, bld26 (x := .p _) (y := .p _) rfl rfl, K20, kx0, kx1, kb24_3, K32, zero26, List.length_nil, List.nil_append, ks1, kl1, K63, kb64_1, K38b, K27, kz52, ks2,
    b_eql30, eqT (rfl : (0 : Int) = 0), b_eql, eqT (rfl : (12 : Int) = 12), eqT (rfl : (4 : Int) = 4), kln, kd1, bs24_1, K33, kd2, kb52, K29]
theorem awake_true : awT := fun σ => pureV_free rfl rfl (F12_call awake_F12) rfl
end Go.D
end
/- Chapter 13: LassoGraphs' law. -/
section
set_option linter.unusedVariables false
set_option linter.unusedSimpArgs false
set_option maxRecDepth 8000
namespace Go.D
open Las
def ownG (g : Gr) : Gr := ⟨g.n, some (L g.init), some (L g.edges)⟩
def ownX (x : Lb) : Lb := ⟨ownG x.g, some (L x.la), some (L x.st), some (L x.en), some (L x.we), some (L x.sr)⟩
theorem LSm.own {x : Lb} (h : LSm x) : LSm (ownX x) := ⟨h.i, h.e, h.la, h.st, h.en, h.we, h.sr⟩
end Go.D
end
/- Chapter 13: LassoBehaviours' law. -/
section
set_option linter.unusedVariables false
set_option linter.unusedSimpArgs false
set_option maxRecDepth 8000
namespace Go.D
open Las
section
variable {x : Lb} (hx : LSm x) (hk : LbOk x) {p q : DV} {P Q : List Int} (hl : P.length + Q.length ≤ 1000) (h0 : 0 < Q.length) (hin : ∀ i, i < (P ++ Q).length → 0 ≤ (P ++ Q).getD i 0 ∧ (P ++ Q).getD i 0 < x.g.n)
include hx hk hl h0 hin
end
section
variable {x : Lb} (hx : LSm x) (hk : LbOk x)
include hx hk
end
section
variable {x : Lb} (hx : LSm x) (hk : LbOk x) {w : Wd} (hl : (L w.p).length + (L w.l).length ≤ 1000) (h0 : 0 < (L w.l).length) (hin : ∀ i, i < (L w.p ++ L w.l).length → 0 ≤ (L w.p ++ L w.l).getD i 0 ∧ (L w.p ++ L w.l).getD i 0 < x.g.n)
theorem Out.one {σ : Store} {lo sz n : Nat} {cs : List PV} {x : DV} (h : Out σ lo sz n cs x) : x.one = true := by
  rcases h.2 with ⟨_, rfl⟩ | ⟨_, _, _, rfl, _⟩ <;> rfl
def Ap (x y : DV) : Prop := ∀ r v s n c r' v' s' n' c', x = .osl r v s n c → y = .osl r' v' s' n' c' → r ≠ r'
theorem Ap.symm {x y : DV} (h : Ap x y) : Ap y x := fun r v s n c r' v' s' n' c' e1 e2 => (h _ _ _ _ _ _ _ _ _ _ e2 e1).symm
include hx hk hl h0 hin
end
end Go.D
end
/- Chapter 13: Join of the reference. -/
section
set_option linter.unusedVariables false
set_option linter.unusedSimpArgs false
set_option maxRecDepth 8000
namespace Go.D
open Las
theorem Out.pushR {σ : Store} {t e lo0 lo sz b n : Nat} {z : List DV} {cs vs : List PV} {x : DV} (hs : srcType PP t = true) (hu : PP.underlying t = some (.slice e)) (h1 : size? PP e = some sz) (h2 : bytes? PP e = some b) (h3 : zeroOf PP e = some z)
    (h4 : z.length = sz) (hz : 0 < sz) (hb : 0 < b) (hb2 : b ≤ 1000) (hv : vs.length = sz) (ho : Out σ lo sz n cs x) (hn : n ≤ 1000000) (h0 : lo0 ≤ lo) (hlo : lo ≤ σ.length) :
    ∃ x' σ', append PP lo0 false t t x (.p (.sl true 1 vs)) σ = some (x', σ') ∧ Out σ' lo sz (n + 1) (cs ++ vs) x' ∧ Others σ σ' x ∧ σ.length ≤ σ'.length ∧
      ∃ r v c, x' = .osl r v sz (n + 1) c ∧ ((x = .p .nilsl ∧ r = σ.length) ∨ ∃ v0 c0, x = .osl r v0 sz n c0) := by
  have hsrc : source σ sz (.p (.sl true 1 vs)) = some (1, vs.map DV.p) := by simp [source, hv]
  have hz0 : ¬ (z.length ≠ sz ∨ sz = 0) := by omega
  obtain ⟨hc, ho⟩ := ho
  rcases ho with ⟨rfl, rfl⟩ | ⟨hn0, r, ver, rfl, hr, hl⟩
  · refine ⟨.osl σ.length 0 sz 1 vs, σ ++ [.tok 0], ?_, ⟨by simp [hc, hv], .inr ⟨by simp, σ.length, 0, ?_, get_snoc, hlo⟩⟩, ?_, by simp, σ.length, 0, vs, rfl, .inl ⟨rfl, rfl⟩⟩
    · have : b ≤ 140737488355328 := by omega
      simp only [append, hs, hu, h1, h2, h3, hz0, hsrc, appNil]
      simp [this, hb, pures_map, h4, hz, Nat.ne_of_gt hz]
    · have : cs = [] := List.length_eq_zero_iff.1 (by simpa using hc)
      rw [this]; simp
    · intro i row hi _
      exact get_old hi
  · refine ⟨.osl r (ver + 1) sz (n + 1) (cs ++ vs), σ.set r (.tok (ver + 1)), ?_, ⟨by simp [hc, hv, Nat.add_mul], .inr ⟨by simp, r, ver + 1, rfl, ?_, hl⟩⟩, ?_, by simp, r, ver + 1, cs ++ vs, rfl, .inr ⟨ver, cs, rfl⟩⟩
    · have e1 : (n + 1) * b ≤ 140737488355328 := Nat.le_trans (Nat.mul_le_mul (show n + 1 ≤ 1000001 by omega) hb2) (by decide)
      have e2 : n + 1 ≤ 140737488355328 := by omega
      have e3 : lo0 ≤ r := by omega
      simp only [append, hs, hu, h1, h2, h3, hz0, hsrc, appTok]
      simp [e1, e2, hb, hc, e3, hr, pures_map, h4, Nat.ne_of_gt hz]
    · rw [List.getElem?_set_self (get_lt hr)]
    · intro i row hi hne
      rw [List.getElem?_set_ne (fun e => hne _ _ _ _ _ rfl e.symm)]
      exact hi
theorem Others.low {σ σ' : Store} {lo sz n : Nat} {cs : List PV} {x : DV} (h : Others σ σ' x) (ho : Out σ lo sz n cs x) {r : Nat} {row : Row} (hr : r < lo) (hi : σ[r]? = some row) : σ'[r]? = some row := by
  refine h r row hi ?_
  rintro r' ver sz' n' cs' rfl
  rcases ho.2 with ⟨_, h2⟩ | ⟨_, r2, ver2, h2, _, h3⟩
  · cases h2
  · injection h2 with e1
    omega
theorem Ap.push {σ : Store} {lo sz sz' n n' : Nat} {cs : List PV} {x x' y : DV} (hy : Out σ lo sz' n' cs y) (ha : Ap y x) (hx : ∃ r v c, x' = .osl r v sz (n + 1) c ∧ ((x = .p .nilsl ∧ r = σ.length) ∨ ∃ v0 c0, x = .osl r v0 sz n c0)) : Ap y x' := by
  intro r ver s m c r' ver' s' m' c' ey ex
  obtain ⟨r1, v1, c1, e1, h⟩ := hx
  rw [e1] at ex
  injection ex with ex
  rcases h with ⟨_, h⟩ | ⟨v0, c0, h⟩
  · rcases hy.2 with ⟨_, e⟩ | ⟨_, r2, v2, e, k1, _⟩
    · rw [e] at ey; cases ey
    · rw [e] at ey
      injection ey with ey
      have := get_lt k1
      omega
  · rw [← ex]
    exact ha _ _ _ _ _ _ _ _ _ _ ey h
theorem Out.low {σ σ' : Store} {lo sz n : Nat} {cs : List PV} {x : DV} (h : Out σ lo sz n cs x) (hk : ∀ (r v : Nat), σ[r]? = some (Row.tok v) → σ'[r]? = some (Row.tok v)) : Out σ' lo sz n cs x := by
  obtain ⟨h1, h2⟩ := h
  refine ⟨h1, ?_⟩
  rcases h2 with h2 | ⟨h0, r', v, h2, h3, h4⟩
  · exact .inl h2
  · exact .inr ⟨h0, r', v, h2, hk _ _ h3, h4⟩
section
variable {x0 x1 : DV}
end
end Go.D
end
/- Equations of functions 108, 109, 146, 147, 148, 149, 150, printed by gen.py. -/
section
set_option linter.unusedVariables false
set_option maxRecDepth 10000
namespace Go.D
open Go.Proofs
noncomputable section
variable (G : GuardT) (lo : Nat) {σ : Store} {r : DV × Store}
open _root_.Go.D.Code (fstC sndC)
open _root_.Go.D.Ann (left right)
def lpstr0 : ByteArray := ⟨#[33]⟩
def lpstr1 : ByteArray := ⟨#[91, 93]⟩
def lpstr2 : ByteArray := ⟨#[60, 62]⟩
def lpstr3 : ByteArray := ⟨#[116, 114, 117, 101]⟩
def lpstr4 : ByteArray := ⟨#[112]⟩
def lpstr5 : ByteArray := ⟨#[40]⟩
def lpstr6 : ByteArray := ⟨#[32]⟩
def lpstr7 : ByteArray := ⟨#[41]⟩
def c108_0 : Code := bodyOf Tryz.f108
def a108_0 : Ann := (pol 108).ann
def a108_5 : Ann := right (left (right a108_0))
def a108_6 : Ann := left a108_5
def c108_7 : Code := fstC (fstC (sndC (fstC (sndC c108_0))))
def c108_29 : Code := sndC (sndC c108_0)
def a108_29 : Ann := right (right a108_0)
def f108_L0 (x0 x9 x10 x11 : DV) (σ : Store) : RS :=
 codeF G PP (pol 108) CC lo (.loop c108_7) a108_6 (x0 :: zn 8 (x9 :: x10 :: x11 :: zn 42 [])) σ
 (blockC 0 a108_5 (seqC G PP (pol 108) CC lo c108_29 a108_29 (finR PP Tryz.f108.results.toList)))
def F108 (x0 : DV) (σ : Store) : RS :=
 codeF G PP (pol 108) CC lo c108_0 a108_0 (x0 :: zn 53 []) σ (finR PP Tryz.f108.results.toList)
theorem f108_L0_eq (G : GuardT) (hG : GuardOk G) (lo : Nat) (x0 x9 x10 x11 : DV) (σ : Store) : f108_L0 G lo x0 x9 x10 x11 σ =
 (binOp PP .lss 3 x11 x10).bind fun x12 =>
 condK x12
 (
 (indexAddr PP 174 x9 x11).bind fun x13 =>
 (load PP 173 x13 σ).bind fun x14 =>
 (zeroOf PP 173).bind fun z4 =>
 (store PP lo 173 (DV.ptr (List.length σ) 0) x14 (σ ++ [Row.mix z4])).bind fun σ2 =>
 (fieldAddr PP 173 (DV.ptr (List.length σ) 0) 0).bind fun x16 =>
 (load PP 9 x16 σ2).bind fun x17 =>
 (index PP 9 x17 I0).bind fun x18 =>
 (pureFn CC (DV.fn 146 []) [x0, x18] σ2).bind fun x19 =>
 condK x19
 (
 (fieldAddr PP 173 (DV.ptr (List.length σ) 0) 0).bind fun x21 =>
 (load PP 9 x21 σ2).bind fun x22 =>
 (plainFn CC lo (DV.fn 147 []) [x0, x22] σ2).bind fun r23_3 =>
 (plainFn CC lo (DV.fn 108 []) [x0] r23_3.2).bind fun r25_4 =>
 (fieldAddr PP 173 (DV.ptr (List.length σ) 0) 1).bind fun x27 =>
 (load PP 3 x27 r25_4.2).bind fun x28 =>
 (buildSlice PP none 24 1 [(0, r25_4.1)] r25_4.2).bind fun r30_5 =>
 (build PP 67 [(0, x28), (2, r30_5.1)]).bind fun x31 =>
 (plainFn CC lo (DV.fn 148 []) [x0, x31] r30_5.2).bind fun r32_6 =>
 some (r32_6.1, r32_6.2)
 )
 (
 (binOp PP .add 3 x11 I1).bind fun x33 =>
 f108_L0 G lo x0 x9 x10 x33 σ2
 )
 )
 (
 (pureFn CC (DV.fn 146 []) [x0, (DV.p (PV.int IntKind.u8 (116)))] σ).bind fun x36 =>
 condK x36
 (
 (plainFn CC lo (DV.fn 147 []) [x0, (DV.p (PV.str lpstr3))] σ).bind fun r38_7 =>
 (build PP 67 []).bind fun x40 =>
 (plainFn CC lo (DV.fn 148 []) [x0, x40] r38_7.2).bind fun r41_8 =>
 some (r41_8.1, r41_8.2)
 )
 (
 (pureFn CC (DV.fn 146 []) [x0, (DV.p (PV.int IntKind.u8 (112)))] σ).bind fun x44 =>
 condK x44
 (
 (plainFn CC lo (DV.fn 149 []) [x0] σ).bind fun r46_9 =>
 some (r46_9.1, r46_9.2)
 )
 (
 (pureFn CC (DV.fn 146 []) [x0, (DV.p (PV.int IntKind.u8 (40)))] σ).bind fun x49 =>
 condK x49
 (
 (plainFn CC lo (DV.fn 150 []) [x0] σ).bind fun r51_10 =>
 some (r51_10.1, r51_10.2)
 )
 (
 (plainFn CC lo (DV.fn 109 []) [x0] σ).bind fun r53_11 =>
 some (I0, r53_11.2)
 )
 )
 )
 ) := (loopF_eq G hG).trans (by kernel_rfl)
theorem F108_eq (G : GuardT) (lo : Nat) (x0 : DV) (σ : Store) : F108 G lo x0 σ =
 (build PP 173 [(0, (DV.p (PV.str lpstr0))), (1, (DV.p (PV.int IntKind.i64 (2))))]).bind fun x6 =>
 (build PP 173 [(0, (DV.p (PV.str lpstr1))), (1, (DV.p (PV.int IntKind.i64 (6))))]).bind fun x7 =>
 (build PP 173 [(0, (DV.p (PV.str lpstr2))), (1, (DV.p (PV.int IntKind.i64 (7))))]).bind fun x8 =>
 (buildSlice PP none 174 3 [(0, x6), (1, x7), (2, x8)] σ).bind fun r9_1 =>
 (len PP 174 r9_1.1 r9_1.2).bind fun x10 =>
 f108_L0 G lo x0 r9_1.1 x10 I0 r9_1.2 := by kernel_rfl
theorem F108_call {lo : Nat} {x0 : DV} (h : F108 guardT lo x0 σ = some r) : CC lo 108 [x0] σ = some r :=
 callL_run Tryz.func108 (by decide +kernel) rfl (by decide +kernel) h
def c109_0 : Code := bodyOf Tryz.f109
def a109_0 : Ann := (pol 109).ann
def F109 (x0 : DV) (σ : Store) : RS :=
 codeF G PP (pol 109) CC lo c109_0 a109_0 (x0 :: zn 13 []) σ (finR PP Tryz.f109.results.toList)
theorem F109_eq (G : GuardT) (lo : Nat) (x0 : DV) (σ : Store) : F109 G lo x0 σ =
 (nilCheckV x0).bind fun x3 =>
 (fieldAddr PP 149 x3 2).bind fun x4 =>
 (load PP 3 x4 σ).bind fun x5 =>
 (binOp PP .eql 3 x5 (DV.p (PV.int IntKind.i64 (-1)))).bind fun x6 =>
 condK x6
 (
 (nilCheckV x0).bind fun x9 =>
 (fieldAddr PP 149 x9 1).bind fun x10 =>
 (load PP 3 x10 σ).bind fun x11 =>
 (nilCheckV x0).bind fun x12 =>
 (fieldAddr PP 149 x12 2).bind fun x13 =>
 (store PP lo 3 x13 x11 σ).bind fun σ1 =>
 some ((DV.tuple []), σ1)
 )
 (
 some ((DV.tuple []), σ)
 ) := by kernel_rfl
theorem F109_call {lo : Nat} {x0 : DV} (h : F109 guardT lo x0 σ = some r) : CC lo 109 [x0] σ = some r :=
 callL_run Tryz.func109 (by decide +kernel) rfl (by decide +kernel) h
def c146_0 : Code := bodyOf Tryz.f146
def a146_0 : Ann := (pol 146).ann
def F146 (x0 x1 : DV) (σ : Store) : RS :=
 codeF G PP (pol 146) CC lo c146_0 a146_0 (x0 :: x1 :: zn 33 []) σ (finR PP Tryz.f146.results.toList)
theorem F146_eq (G : GuardT) (lo : Nat) (x0 x1 : DV) (σ : Store) : F146 G lo x0 x1 σ =
 (nilCheckV x0).bind fun x6 =>
 (fieldAddr PP 149 x6 2).bind fun x7 =>
 (load PP 3 x7 σ).bind fun x8 =>
 (binOp PP .eql 3 x8 (DV.p (PV.int IntKind.i64 (-1)))).bind fun x9 =>
 G _ x9 true (some (x0, σ)) σ fun x11 σ1 =>
 G _ x9 true ((nilCheckV x11).bind fun v => some (v, σ1)) σ1 fun x12 σ2 =>
 G _ x9 true ((fieldAddr PP 149 x12 1).bind fun v => some (v, σ2)) σ2 fun x13 σ3 =>
 G _ x9 true ((load PP 3 x13 σ3).bind fun v => some (v, σ3)) σ3 fun x14 σ4 =>
 G _ x9 true (some (x0, σ4)) σ4 fun x15 σ5 =>
 G _ x9 true ((nilCheckV x15).bind fun v => some (v, σ5)) σ5 fun x16 σ6 =>
 G _ x9 true ((fieldAddr PP 149 x16 0).bind fun v => some (v, σ6)) σ6 fun x17 σ7 =>
 G _ x9 true ((load PP 9 x17 σ7).bind fun v => some (v, σ7)) σ7 fun x18 σ8 =>
 G _ x9 true ((len PP 9 x18 σ8).bind fun v => some (v, σ8)) σ8 fun x19 σ9 =>
 G _ x9 true ((binOp PP .lss 3 x14 x19).bind fun v => some (v, σ9)) σ9 fun x20 σ10 =>
 (pickV x9 x20 (DV.p (PV.bool false))).bind fun x21 =>
 G _ x21 true (some (x0, σ10)) σ10 fun x23 σ11 =>
 G _ x21 true ((nilCheckV x23).bind fun v => some (v, σ11)) σ11 fun x24 σ12 =>
 G _ x21 true ((fieldAddr PP 149 x24 0).bind fun v => some (v, σ12)) σ12 fun x25 σ13 =>
 G _ x21 true ((load PP 9 x25 σ13).bind fun v => some (v, σ13)) σ13 fun x26 σ14 =>
 G _ x21 true (some (x0, σ14)) σ14 fun x27 σ15 =>
 G _ x21 true ((nilCheckV x27).bind fun v => some (v, σ15)) σ15 fun x28 σ16 =>
 G _ x21 true ((fieldAddr PP 149 x28 1).bind fun v => some (v, σ16)) σ16 fun x29 σ17 =>
 G _ x21 true ((load PP 3 x29 σ17).bind fun v => some (v, σ17)) σ17 fun x30 σ18 =>
 G _ x21 true ((index PP 9 x26 x30).bind fun v => some (v, σ18)) σ18 fun x31 σ19 =>
 G _ x21 true (some (x1, σ19)) σ19 fun x32 σ20 =>
 G _ x21 true ((binOp PP .eql 5 x31 x32).bind fun v => some (v, σ20)) σ20 fun x33 σ21 =>
 (pickV x21 x33 (DV.p (PV.bool false))).bind fun x34 =>
 some (x34, σ21) := by kernel_rfl
theorem F146_call {lo : Nat} {x0 x1 : DV} (h : F146 guardT lo x0 x1 σ = some r) : CC lo 146 [x0, x1] σ = some r :=
 callL_run Tryz.func146 (by decide +kernel) rfl (by decide +kernel) h
def c147_0 : Code := bodyOf Tryz.f147
def a147_0 : Ann := (pol 147).ann
def a147_2 : Ann := right a147_0
def a147_3 : Ann := left a147_2
def c147_4 : Code := fstC (fstC (sndC c147_0))
def f147_L0 (x0 x7 x8 x9 : DV) (σ : Store) : RS :=
 codeF G PP (pol 147) CC lo (.loop c147_4) a147_3 (x0 :: zn 6 (x7 :: x8 :: x9 :: zn 17 [])) σ
 (blockC 0 a147_2 (finR PP Tryz.f147.results.toList))
def F147 (x0 x1 : DV) (σ : Store) : RS :=
 codeF G PP (pol 147) CC lo c147_0 a147_0 (x0 :: x1 :: zn 25 []) σ (finR PP Tryz.f147.results.toList)
theorem f147_L0_eq (G : GuardT) (hG : GuardOk G) (lo : Nat) (x0 x7 x8 x9 : DV) (σ : Store) : f147_L0 G lo x0 x7 x8 x9 σ =
 (binOp PP .lss 3 x9 x8).bind fun x10 =>
 condK x10
 (
 (indexAddr PP 187 x7 x9).bind fun x11 =>
 (load PP 5 x11 σ).bind fun x12 =>
 (pureFn CC (DV.fn 146 []) [x0, x12] σ).bind fun x15 =>
 (unOp .not x15).bind fun x16 =>
 condK x16
 (
 (plainFn CC lo (DV.fn 109 []) [x0] σ).bind fun r18_1 =>
 some ((DV.tuple []), r18_1.2)
 )
 (
 (nilCheckV x0).bind fun x20 =>
 (fieldAddr PP 149 x20 1).bind fun x21 =>
 (load PP 3 x21 σ).bind fun x22 =>
 (binOp PP .add 3 x22 I1).bind fun x23 =>
 (nilCheckV x0).bind fun x24 =>
 (fieldAddr PP 149 x24 1).bind fun x25 =>
 (store PP lo 3 x25 x23 σ).bind fun σ2 =>
 (binOp PP .add 3 x9 I1).bind fun x26 =>
 f147_L0 G lo x0 x7 x8 x26 σ2
 )
 )
 (
 some ((DV.tuple []), σ)
 ) := (loopF_eq G hG).trans (by kernel_rfl)
theorem F147_eq (G : GuardT) (lo : Nat) (x0 x1 : DV) (σ : Store) : F147 G lo x0 x1 σ =
 (convert PP 9 187 x1).bind fun x7 =>
 (len PP 187 x7 σ).bind fun x8 =>
 f147_L0 G lo x0 x7 x8 I0 σ := by kernel_rfl
theorem F147_call {lo : Nat} {x0 x1 : DV} (h : F147 guardT lo x0 x1 σ = some r) : CC lo 147 [x0, x1] σ = some r :=
 callL_run Tryz.func147 (by decide +kernel) rfl (by decide +kernel) h
def c148_0 : Code := bodyOf Tryz.f148
def a148_0 : Ann := (pol 148).ann
def F148 (x0 x1 : DV) (σ : Store) : RS :=
 codeF G PP (pol 148) CC lo c148_0 a148_0 (x0 :: x1 :: zn 19 []) σ (finR PP Tryz.f148.results.toList)
theorem F148_eq (G : GuardT) (lo : Nat) (x0 x1 : DV) (σ : Store) : F148 G lo x0 x1 σ =
 (boxP x1).bind fun x3 =>
 (nilCheckV x0).bind fun x7 =>
 (fieldAddr PP 149 x7 3).bind fun x8 =>
 (load PP 23 x8 σ).bind fun x9 =>
 (load PP 67 x3 σ).bind fun x10 =>
 (buildSlice PP none 23 1 [(0, x10)] σ).bind fun r11_1 =>
 (append PP lo false 23 23 x9 r11_1.1 r11_1.2).bind fun r12_2 =>
 (nilCheckV x0).bind fun x13 =>
 (fieldAddr PP 149 x13 3).bind fun x14 =>
 (store PP lo 23 x14 r12_2.1 r12_2.2).bind fun σ3 =>
 (nilCheckV x0).bind fun x16 =>
 (fieldAddr PP 149 x16 3).bind fun x17 =>
 (load PP 23 x17 σ3).bind fun x18 =>
 (len PP 23 x18 σ3).bind fun x19 =>
 (binOp PP .sub 3 x19 I1).bind fun x20 =>
 some (x20, σ3) := by kernel_rfl
theorem F148_call {lo : Nat} {x0 x1 : DV} (h : F148 guardT lo x0 x1 σ = some r) : CC lo 148 [x0, x1] σ = some r :=
 callL_run Tryz.func148 (by decide +kernel) rfl (by decide +kernel) h
def c149_0 : Code := bodyOf Tryz.f149
def a149_0 : Ann := (pol 149).ann
def a149_7 : Ann := left (right (right (right a149_0)))
def a149_8 : Ann := left a149_7
def c149_9 : Code := fstC (fstC (fstC (sndC (sndC (sndC c149_0)))))
def c149_17 : Code := sndC (sndC (sndC (sndC c149_0)))
def a149_17 : Ann := right (right (right (right a149_0)))
def f149_L0 (x0 x3 : DV) (σ : Store) : RS :=
 codeF G PP (pol 149) CC lo (.loop c149_9) a149_8 (x0 :: Z :: Z :: x3 :: zn 90 []) σ
 (blockC 0 a149_7 (seqC G PP (pol 149) CC lo c149_17 a149_17 (finR PP Tryz.f149.results.toList)))
def F149 (x0 : DV) (σ : Store) : RS :=
 codeF G PP (pol 149) CC lo c149_0 a149_0 (x0 :: zn 93 []) σ (finR PP Tryz.f149.results.toList)
theorem f149_L0_eq (G : GuardT) (hG : GuardOk G) (lo : Nat) (x0 x3 : DV) (σ : Store) : f149_L0 G lo x0 x3 σ =
 (nilCheckV x0).bind fun x13 =>
 (fieldAddr PP 149 x13 1).bind fun x14 =>
 (load PP 3 x14 σ).bind fun x15 =>
 (nilCheckV x0).bind fun x17 =>
 (fieldAddr PP 149 x17 0).bind fun x18 =>
 (load PP 9 x18 σ).bind fun x19 =>
 (len PP 9 x19 σ).bind fun x20 =>
 (binOp PP .lss 3 x15 x20).bind fun x21 =>
 G _ x21 true (some (x0, σ)) σ fun x23 σ2 =>
 G _ x21 true ((nilCheckV x23).bind fun v => some (v, σ2)) σ2 fun x24 σ3 =>
 G _ x21 true ((fieldAddr PP 149 x24 1).bind fun v => some (v, σ3)) σ3 fun x25 σ4 =>
 G _ x21 true ((load PP 3 x25 σ4).bind fun v => some (v, σ4)) σ4 fun x26 σ5 =>
 G _ x21 true (some (x3, σ5)) σ5 fun x27 σ6 =>
 G _ x21 true ((binOp PP .add 3 x27 (DV.p (PV.int IntKind.i64 (2)))).bind fun v => some (v, σ6)) σ6 fun x28 σ7 =>
 G _ x21 true ((binOp PP .lss 3 x26 x28).bind fun v => some (v, σ7)) σ7 fun x29 σ8 =>
 (pickV x21 x29 (DV.p (PV.bool false))).bind fun x30 =>
 G _ x30 true (some (x0, σ8)) σ8 fun x32 σ9 =>
 G _ x30 true ((nilCheckV x32).bind fun v => some (v, σ9)) σ9 fun x33 σ10 =>
 G _ x30 true ((fieldAddr PP 149 x33 0).bind fun v => some (v, σ10)) σ10 fun x34 σ11 =>
 G _ x30 true ((load PP 9 x34 σ11).bind fun v => some (v, σ11)) σ11 fun x35 σ12 =>
 G _ x30 true (some (x0, σ12)) σ12 fun x36 σ13 =>
 G _ x30 true ((nilCheckV x36).bind fun v => some (v, σ13)) σ13 fun x37 σ14 =>
 G _ x30 true ((fieldAddr PP 149 x37 1).bind fun v => some (v, σ14)) σ14 fun x38 σ15 =>
 G _ x30 true ((load PP 3 x38 σ15).bind fun v => some (v, σ15)) σ15 fun x39 σ16 =>
 G _ x30 true ((index PP 9 x35 x39).bind fun v => some (v, σ16)) σ16 fun x40 σ17 =>
 G _ x30 true ((convert PP 5 3 x40).bind fun v => some (v, σ17)) σ17 fun x41 σ18 =>
 G _ x30 true ((pureFn CC (DV.fn 65 []) [x41, (DV.p (PV.int IntKind.i64 (48))), (DV.p (PV.int IntKind.i64 (57)))] σ18).bind fun v => some (v, σ18)) σ18 fun x42 σ19 =>
 (pickV x30 x42 (DV.p (PV.bool false))).bind fun x43 =>
 G _ x43 true (some (x0, σ19)) σ19 fun x45 σ20 =>
 G _ x43 true ((nilCheckV x45).bind fun v => some (v, σ20)) σ20 fun x46 σ21 =>
 G _ x43 true ((fieldAddr PP 149 x46 1).bind fun v => some (v, σ21)) σ21 fun x47 σ22 =>
 G _ x43 true ((load PP 3 x47 σ22).bind fun v => some (v, σ22)) σ22 fun x48 σ23 =>
 G _ x43 true (some (x3, σ23)) σ23 fun x49 σ24 =>
 G _ x43 true ((binOp PP .eql 3 x48 x49).bind fun v => some (v, σ24)) σ24 fun x50 σ25 =>
 G _ x43 true (some (x50, σ25)) σ25 fun x51 σ26 =>
 G _ x51 false (some (x0, σ26)) σ26 fun x52 σ27 =>
 G _ x51 false ((nilCheckV x52).bind fun v => some (v, σ27)) σ27 fun x53 σ28 =>
 G _ x51 false ((fieldAddr PP 149 x53 0).bind fun v => some (v, σ28)) σ28 fun x54 σ29 =>
 G _ x51 false ((load PP 9 x54 σ29).bind fun v => some (v, σ29)) σ29 fun x55 σ30 =>
 G _ x51 false (some (x3, σ30)) σ30 fun x56 σ31 =>
 G _ x51 false ((index PP 9 x55 x56).bind fun v => some (v, σ31)) σ31 fun x57 σ32 =>
 G _ x51 false ((binOp PP .neq 5 x57 (DV.p (PV.int IntKind.u8 (48)))).bind fun v => some (v, σ32)) σ32 fun x58 σ33 =>
 G _ x43 true ((pickV x51 (DV.p (PV.bool true)) x58).bind fun v => some (v, σ33)) σ33 fun x59 σ34 =>
 (pickV x43 x59 (DV.p (PV.bool false))).bind fun x60 =>
 condK x60
 (
 (nilCheckV x0).bind fun x62 =>
 (fieldAddr PP 149 x62 1).bind fun x63 =>
 (load PP 3 x63 σ34).bind fun x64 =>
 (binOp PP .add 3 x64 I1).bind fun x65 =>
 (nilCheckV x0).bind fun x66 =>
 (fieldAddr PP 149 x66 1).bind fun x67 =>
 (store PP lo 3 x67 x65 σ34).bind fun σ35 =>
 f149_L0 G lo x0 x3 σ35
 )
 (
 (nilCheckV x0).bind fun x69 =>
 (fieldAddr PP 149 x69 1).bind fun x70 =>
 (load PP 3 x70 σ34).bind fun x71 =>
 (binOp PP .eql 3 x71 x3).bind fun x73 =>
 condK x73
 (
 (plainFn CC lo (DV.fn 109 []) [x0] σ34).bind fun r75_36 =>
 some (I0, r75_36.2)
 )
 (
 (nilCheckV x0).bind fun x78 =>
 (fieldAddr PP 149 x78 0).bind fun x79 =>
 (load PP 9 x79 σ34).bind fun x80 =>
 (nilCheckV x0).bind fun x83 =>
 (fieldAddr PP 149 x83 1).bind fun x84 =>
 (load PP 3 x84 σ34).bind fun x85 =>
 (sliceOp PP 9 x80 (some x3) (some x85) none).bind fun x86 =>
 (pureFn CC (DV.fn 170 []) [x86] σ34).bind fun x87 =>
 (extractV x87 0).bind fun x88 =>
 (extractV x87 1).bind fun x89 =>
 (build PP 67 [(0, I1), (1, x88)]).bind fun x92 =>
 (plainFn CC lo (DV.fn 148 []) [x0, x92] σ34).bind fun r93_37 =>
 some (r93_37.1, r93_37.2)
 )
 ) := (loopF_eq G hG).trans (by kernel_rfl)
theorem F149_eq (G : GuardT) (lo : Nat) (x0 : DV) (σ : Store) : F149 G lo x0 σ =
 (plainFn CC lo (DV.fn 147 []) [x0, (DV.p (PV.str lpstr4))] σ).bind fun r7_1 =>
 (nilCheckV x0).bind fun x9 =>
 (fieldAddr PP 149 x9 1).bind fun x10 =>
 (load PP 3 x10 r7_1.2).bind fun x11 =>
 f149_L0 G lo x0 x11 r7_1.2 := by kernel_rfl
theorem F149_call {lo : Nat} {x0 : DV} (h : F149 guardT lo x0 σ = some r) : CC lo 149 [x0] σ = some r :=
 callL_run Tryz.func149 (by decide +kernel) rfl (by decide +kernel) h
def c150_0 : Code := bodyOf Tryz.f150
def a150_0 : Ann := (pol 150).ann
def a150_13 : Ann := right (left (right (right (right (right (right a150_0))))))
def a150_14 : Ann := left a150_13
def c150_15 : Code := fstC (fstC (sndC (fstC (sndC (sndC (sndC (sndC (sndC c150_0))))))))
def a150_22 : Ann := left (right (right (left a150_14)))
def c150_30 : Code := sndC (sndC (sndC c150_15))
def a150_30 : Ann := right (right (right (left a150_14)))
def c150_31 : Code := sndC (sndC (sndC (sndC (sndC (sndC c150_0)))))
def a150_31 : Ann := right (right (right (right (right (right a150_0)))))
def f150_L0 (x0 x3 x4 x14 x15 x16 : DV) (σ : Store) : RS :=
 codeF G PP (pol 150) CC lo (.loop c150_15) a150_14 (x0 :: Z :: Z :: x3 :: x4 :: zn 9 (x14 :: x15 :: x16 :: zn 26 [])) σ
 (blockC 0 a150_13 (seqC G PP (pol 150) CC lo c150_31 a150_31 (finR PP Tryz.f150.results.toList)))
def f150_J0_fr (x0 x3 x4 x6 x14 x15 x16 x17 x18 x19 x20 x21 x22 x23 x24 x25 : DV) : Frame := (x0 :: Z :: Z :: x3 :: x4 :: Z :: x6 :: zn 7 (x14 :: x15 :: x16 :: x17 :: x18 :: x19 :: x20 :: x21 :: x22 :: x23 :: x24 :: x25 :: zn 17 []))
def f150_J0 (x0 x3 x4 x6 x14 x15 x16 x17 x18 x19 x20 x21 x22 x23 x24 x25 : DV) (σ : Store) : RS :=
 (blockC 1 a150_22 (seqC G PP (pol 150) CC lo c150_30 a150_30 (loopC G PP (pol 150) CC lo c150_15 a150_14 (blockC 0 a150_13 (seqC G PP (pol 150) CC lo c150_31 a150_31 (finR PP Tryz.f150.results.toList)))))) .normal (f150_J0_fr x0 x3 x4 x6 x14 x15 x16 x17 x18 x19 x20 x21 x22 x23 x24 x25) σ
def F150 (x0 : DV) (σ : Store) : RS :=
 codeF G PP (pol 150) CC lo c150_0 a150_0 (x0 :: zn 42 []) σ (finR PP Tryz.f150.results.toList)
theorem f150_L0_eq (G : GuardT) (hG : GuardOk G) (lo : Nat) (x0 x3 x4 x14 x15 x16 : DV) (σ : Store) : f150_L0 G lo x0 x3 x4 x14 x15 x16 σ =
 (binOp PP .lss 3 x16 x15).bind fun x17 =>
 condK x17
 (
 (indexAddr PP 24 x14 x16).bind fun x18 =>
 (load PP 3 x18 σ).bind fun x19 =>
 (pureFn CC (DV.fn 102 []) [x19] σ).bind fun x22 =>
 (index PP 9 x22 I0).bind fun x23 =>
 (pureFn CC (DV.fn 146 []) [x0, x23] σ).bind fun x24 =>
 condK x24
 (
 f150_J0 G lo x0 x3 x19 x19 x14 x15 x16 x17 x18 x19 x0 x19 x22 x23 x24 x19 σ
 )
 (
 f150_J0 G lo x0 x3 x4 x19 x14 x15 x16 x17 x18 x19 x0 x19 x22 x23 x24 Z σ
 )
 )
 (
 (pureFn CC (DV.fn 102 []) [x4] σ).bind fun x29 =>
 (binOp PP .add 9 x29 (DV.p (PV.str lpstr6))).bind fun x30 =>
 (plainFn CC lo (DV.fn 147 []) [x0, x30] σ).bind fun r31_5 =>
 (plainFn CC lo (DV.fn 108 []) [x0] r31_5.2).bind fun r33_6 =>
 (plainFn CC lo (DV.fn 147 []) [x0, (DV.p (PV.str lpstr7))] r33_6.2).bind fun r35_7 =>
 (buildSlice PP none 24 2 [(0, x3), (1, r33_6.1)] r35_7.2).bind fun r40_8 =>
 (build PP 67 [(0, x4), (2, r40_8.1)]).bind fun x41 =>
 (plainFn CC lo (DV.fn 148 []) [x0, x41] r40_8.2).bind fun r42_9 =>
 some (r42_9.1, r42_9.2)
 ) := (loopF_eq G hG).trans (by kernel_rfl)
theorem f150_J0_eq (G : GuardT) (lo : Nat) (x0 x3 x4 x6 x14 x15 x16 x17 x18 x19 x20 x21 x22 x23 x24 x25 : DV) (σ : Store) : f150_J0 G lo x0 x3 x4 x6 x14 x15 x16 x17 x18 x19 x20 x21 x22 x23 x24 x25 σ =
 (binOp PP .add 3 x16 I1).bind fun x26 =>
 f150_L0 G lo x0 x3 x4 x14 x15 x26 σ := by kernel_rfl
theorem F150_eq (G : GuardT) (lo : Nat) (x0 : DV) (σ : Store) : F150 G lo x0 σ =
 (plainFn CC lo (DV.fn 147 []) [x0, (DV.p (PV.str lpstr5))] σ).bind fun r9_1 =>
 (plainFn CC lo (DV.fn 108 []) [x0] r9_1.2).bind fun r11_2 =>
 (plainFn CC lo (DV.fn 147 []) [x0, (DV.p (PV.str lpstr6))] r11_2.2).bind fun r13_3 =>
 (buildSlice PP none 24 4 [(0, (DV.p (PV.int IntKind.i64 (3)))), (1, (DV.p (PV.int IntKind.i64 (4)))), (2, (DV.p (PV.int IntKind.i64 (5)))), (3, (DV.p (PV.int IntKind.i64 (8))))] r13_3.2).bind fun r14_4 =>
 (len PP 24 r14_4.1 r14_4.2).bind fun x15 =>
 f150_L0 G lo x0 r11_2.1 (DV.p (PV.int IntKind.i64 (9))) r14_4.1 x15 I0 r14_4.2 := by kernel_rfl
theorem F150_call {lo : Nat} {x0 : DV} (h : F150 guardT lo x0 σ = some r) : CC lo 150 [x0] σ = some r :=
 callL_run Tryz.func150 (by decide +kernel) rfl (by decide +kernel) h
end
end Go.D
end
/- Chapter 13: the reference's Guarded. -/
section
set_option linter.unusedVariables false
set_option linter.unusedSimpArgs false
set_option maxRecDepth 8000
namespace Go.D
open Las
section
variable {f : Fm} {o : OI} (hf : FSm f) (hk : Ok (L f)) (ho : (L o).length ≤ 1000)
include hf hk ho
end
end Go.D
end
/- Chapter 13: IsGuarded of the program: whose operand each node is. -/
section
set_option linter.unusedVariables false
set_option linter.unusedSimpArgs false
set_option maxRecDepth 8000
namespace Go.D
open Las
namespace Las
def upd (U : List Int) (i : Nat) : List Int → List Int
  | [] => U
  | v :: us => upd (U.set v.toNat (i : Nat)) i us
def UpTo (F : List Nd) (i : Nat) (U : List Int) : Prop := U.length = F.length ∧ ∀ c, c < F.length → (∀ r, r < i → chd F r c → U.getD c 0 = r) ∧ ((∀ r, r < i → ¬ chd F r c) → U.getD c 0 = -1)
end Las
section
variable {f : Fm} (hf : FSm f) (hk : Ok (L f)) {u : Nat} (hu : 0 < u)
include hf hk hu
end
end Go.D
end
/- Chapter 13: IsGuarded of the program. -/
section
set_option linter.unusedVariables false
set_option linter.unusedSimpArgs false
set_option maxRecDepth 8000
namespace Go.D
open Las
namespace Las
theorem UpTo.cases {F : List Nd} {U : List Int} (hu : UpTo F F.length U) {c : Nat} (hc : c < F.length) : (∃ p, p < F.length ∧ chd F p c ∧ U.getD c 0 = p) ∨ ((∀ p, p < F.length → ¬ chd F p c) ∧ U.getD c 0 = -1) := by
  obtain ⟨h1, h2⟩ := hu.2 c hc
  by_cases h : ∃ p, p < F.length ∧ chd F p c
  · obtain ⟨p, p1, p2⟩ := h
    exact .inl ⟨p, p1, p2, h1 p p1 p2⟩
  · have h' : ∀ p, p < F.length → ¬ chd F p c := fun p p1 p2 => h ⟨p, p1, p2⟩
    exact .inr ⟨h', h2 h'⟩
end Las
end Go.D
end
/- Chapter 13: IsGuarded of the program; LassoGuards' law. -/
section
set_option linter.unusedVariables false
set_option linter.unusedSimpArgs false
set_option maxRecDepth 8000
namespace Go.D
open Las
theorem load23 (x : DV) (σ : Store) : load PP 23 x σ = load1 x σ := Eq.trans (by kernel_rfl) rfl
section
variable {f : Fm} (hk : Ok (L f)) {u : Nat} {U : List Int} (hU : UpTo (L f) (L f).length U)
include hk hU
end
end Go.D
end
/- Chapter 13: the program's reader of formulas: its row; what comes next; characters that must come. -/
section
set_option linter.unusedVariables false
set_option linter.unusedSimpArgs false
set_option maxRecDepth 8000
namespace Go.D
open Las
def eSt : OI → PV
  | none => .nilsl
  | some l => .sl true l.length (eInts l)
def eNt (x : Nd) : List PV := [pI x.k, pI x.n, eSt x.a]
def eTs : List Nd → List PV
  | [] => []
  | x :: l => eNt x ++ eTs l
theorem eTs_app (l m : List Nd) : eTs (l ++ m) = eTs l ++ eTs m := by
  induction l with
  | nil => rfl
  | cons x l ih => simp [eTs, ih]
theorem eTs_loose (l : List Nd) : loosens (eTs l) = eNds l := by
  induction l with
  | nil => rfl
  | cons x l ih =>
    obtain ⟨k, n, a⟩ := x
    cases a with
    | none => simp [eTs, eNt, eSt, eNds, loosens, loosen, ih, eSl]
    | some a => simp [eTs, eNt, eSt, eNds, loosens, loosen, ih, eSl, loosens_ints]
structure Rdr (σ : Store) (r : Nat) (s : ByteArray) (p : Nat) (b : Int) (fs : List Nd) (fv : DV) : Prop where
  row : σ[r]? = some (.mix [.p (.str s), N p, .p (.int .i64 b), fv])
  out : Out σ (r + 1) 3 fs.length (eTs fs) fv
def Kp (σ σ' : Store) (r : Nat) : Prop := (∀ (j : Nat) (row : Row), j ≠ r → (∀ v, row ≠ .tok v) → σ[j]? = some row → σ'[j]? = some row) ∧ σ.length ≤ σ'.length
theorem Kp.refl (σ : Store) (r : Nat) : Kp σ σ r := ⟨fun _ _ _ _ h => h, Nat.le_refl _⟩
theorem Kp.trans {σ σ' σ'' : Store} {r : Nat} (h : Kp σ σ' r) (h' : Kp σ' σ'' r) : Kp σ σ'' r := ⟨fun j row h1 h2 h3 => h'.1 j row h1 h2 (h.1 j row h1 h2 h3), Nat.le_trans h.2 h'.2⟩
theorem Kp.snoc (σ : Store) (x : Row) (r : Nat) : Kp σ (σ ++ [x]) r := ⟨fun _ _ _ _ h => get_old h, by simp⟩
theorem Kp.set (σ : Store) (x : Row) (r : Nat) : Kp σ (σ.set r x) r := ⟨fun j row h1 _ h => by rw [List.getElem?_set_ne (Ne.symm h1)]; exact h, by simp⟩
section
variable {σ : Store} {r : Nat} {s : ByteArray} {p : Nat} {b : Int} {fs : List Nd} {fv : DV}
theorem Rdr.lt (h : Rdr σ r s p b fs fv) : r < σ.length := get_lt h.row
theorem Rdr.one (h : Rdr σ r s p b fs fv) : fv.one = true := by
  rcases h.out.2 with ⟨_, rfl⟩ | ⟨_, r', v, rfl, _, _⟩ <;> rfl
theorem Rdr.snoc (h : Rdr σ r s p b fs fv) (x : Row) : Rdr (σ ++ [x]) r s p b fs fv := ⟨get_old h.row, h.out.low fun j v hj => get_old hj⟩
theorem Rdr.set (h : Rdr σ r s p b fs fv) (p' : Nat) (b' : Int) : Rdr (σ.set r (.mix [.p (.str s), N p', .p (.int .i64 b'), fv])) r s p' b' fs fv := by
  refine ⟨by rw [List.getElem?_set_self h.lt], h.out.low fun j v hj => ?_⟩
  have hne : j ≠ r := fun hh => by
    rw [hh, h.row] at hj; injection hj with hj; cases hj
  rw [List.getElem?_set_ne (Ne.symm hne)]; exact hj
theorem Rdr.l0 (h : Rdr σ r s p b fs fv) : load1 (.ptr r 0) σ = some (.p (.str s)) := load1_ptr h.row rfl
theorem Rdr.l1 (h : Rdr σ r s p b fs fv) : load1 (.ptr r 1) σ = some (.p (.int .i64 (p : Nat))) := load1_ptr h.row rfl
theorem Rdr.l2 (h : Rdr σ r s p b fs fv) : load1 (.ptr r 2) σ = some (.p (.int .i64 b)) := load1_ptr h.row rfl
theorem Rdr.l3 (h : Rdr σ r s p b fs fv) : load1 (.ptr r 3) σ = some fv := load1_ptr h.row rfl
theorem Rdr.s1 (h : Rdr σ r s p b fs fv) {lo : Nat} (hlo : lo ≤ r) (q : Nat) : store PP lo 3 (.ptr r 1) (.p (.int .i64 (q : Nat))) σ = some (σ.set r (.mix [.p (.str s), N q, .p (.int .i64 b), fv])) := by
  simp [store, s3, DV.cells, storeN, h.row, hlo, DV.one, splice, N]
theorem Rdr.s2 (h : Rdr σ r s p b fs fv) {lo : Nat} (hlo : lo ≤ r) (q : Int) : store PP lo 3 (.ptr r 2) (.p (.int .i64 q)) σ = some (σ.set r (.mix [.p (.str s), N p, .p (.int .i64 q), fv])) := by
  simp [store, s3, DV.cells, storeN, h.row, hlo, DV.one, splice, N]
theorem s23w : size? PP 23 = some 1 := Eq.trans (by kernel_rfl) rfl
theorem Rdr.s3 (h : Rdr σ r s p b fs fv) {lo : Nat} (hlo : lo ≤ r) {y : DV} (hy : y.one = true) : store PP lo 23 (.ptr r 3) y σ = some (σ.set r (.mix [.p (.str s), N p, .p (.int .i64 b), y])) := by
  cases y <;> first | (exfalso; simp [DV.one] at hy; done) | simp [store, s23w, DV.cells, storeN, h.row, hlo, DV.one, splice, N]
end
theorem fa149_0 (x : DV) : fieldAddr PP 149 x 0 = shiftPtr x 0 := Eq.trans (by kernel_rfl) rfl
theorem fa149_1 (x : DV) : fieldAddr PP 149 x 1 = shiftPtr x 1 := Eq.trans (by kernel_rfl) rfl
theorem fa149_2 (x : DV) : fieldAddr PP 149 x 2 = shiftPtr x 2 := Eq.trans (by kernel_rfl) rfl
theorem fa149_3 (x : DV) : fieldAddr PP 149 x 3 = shiftPtr x 3 := Eq.trans (by kernel_rfl) rfl
theorem load9 (x : DV) (σ : Store) : load PP 9 x σ = load1 x σ := Eq.trans (by kernel_rfl) rfl
theorem load5 (x : DV) (σ : Store) : load PP 5 x σ = load1 x σ := Eq.trans (by kernel_rfl) rfl
theorem u5b : PP.underlying 5 = some (.int .u8) := Eq.trans (by kernel_rfl) rfl
theorem u187 : PP.underlying 187 = some (.slice 5) := Eq.trans (by kernel_rfl) rfl
theorem s5b : size? PP 5 = some 1 := Eq.trans (by kernel_rfl) rfl
theorem cv187 (t : ByteArray) : convert PP 9 187 (.p (.str t)) = some (.p (.sl false t.size (bytesPV t))) := by
  simp [convert, u9s, u187, u5b]
theorem len187 (b : Bool) (n : Nat) (cs : List PV) (σ : Store) : len PP 187 (.p (.sl b n cs)) σ = some (.p (.int .i64 (n : Nat))) := by
  simp [len, u187]
theorem idx187 {b : Bool} {n i : Nat} {cs : List PV} (h : i < n) : indexAddr PP 187 (.p (.sl b n cs)) (.p (.int .i64 (i : Nat))) = some (.pptr cs i) := by
  simp [indexAddr, u187, s5b, h]
theorem ld187 {t : ByteArray} {i : Nat} (h : i < t.size) (σ : Store) : load1 (.pptr (bytesPV t) i) σ = some (.p (.int .u8 ((bs t).getD i 0))) := by
  refine load1_pptr ?_ σ
  have hl : i < t.data.toList.length := h
  unfold bytesPV bs
  rw [List.getElem?_map, List.getElem?_eq_getElem hl, List.getD_eq_getElem?_getD, List.getElem?_map, List.getElem?_eq_getElem hl]
  rfl
structure Plc (s : ByteArray) (p : Nat) (rem : List Int) : Prop where
  sm : s.size ≤ 400
  le : p ≤ s.size
  eq : rem = (bs s).drop p
theorem Plc.len {s : ByteArray} {p : Nat} {rem : List Int} (h : Plc s p rem) : rem.length = s.size - p := by rw [h.eq, List.length_drop, bs_len]
theorem Plc.cons {s : ByteArray} {p : Nat} {c : Int} {rem : List Int} (h : Plc s p (c :: rem)) : p < s.size ∧ (bs s).getD p 0 = c ∧ Plc s (p + 1) rem := by
  have hl := h.len
  rw [List.length_cons] at hl
  have hlt : p < (bs s).length := by rw [bs_len]; omega
  have he := h.eq
  rw [List.drop_eq_getElem_cons hlt] at he
  injection he with h1 h2
  refine ⟨by omega, ?_, h.sm, by omega, h2⟩
  rw [List.getD_eq_getElem?_getD, List.getElem?_eq_getElem hlt]; exact h1.symm
theorem Plc.nil {s : ByteArray} {p : Nat} (h : Plc s p []) : p = s.size := by
  have := h.len; have := h.le; simp at *; omega
theorem Plc.at {s : ByteArray} {p : Nat} {rem : List Int} (h : Plc s p rem) : p = s.size - rem.length := by
  have := h.len; have := h.le; omega
def nxc (rem : List Int) (c : Int) : Bool := match rem with
  | [] => false
  | x :: _ => decide (x = c)
section
variable {σ : Store} {r : Nat} {s : ByteArray} {p : Nat} {b : Int} {fs : List Nd} {fv : DV} {rem : List Int}
theorem C109 (h : Rdr σ r s p b fs fv) {lo : Nat} (hlo : lo ≤ r) : ∃ σ', CC lo 109 [.ptr r 0] σ = some (.tuple [], σ') ∧ Rdr σ' r s p (if b = -1 then (p : Int) else b) fs fv ∧ Kp σ σ' r := by
  have l1 := h.l1
  have l2 := h.l2
  by_cases c : b = -1
  · subst c
    refine ⟨_, F109_call ?_, h.set p p, Kp.set _ _ _⟩
    have st := h.s2 hlo (p : Int)
    rw [F109_eq]
    simp (disch := omega) only [gG, nil_ptr, shift_ptr, shift_pptr, Nat.zero_add, Nat.add_zero, pureFn_fn, List.append_nil, List.singleton_append, List.cons_append, List.nil_append, fa149_0, fa149_1, fa149_2, fa149_3, load9, load3, load23, l2, b_eql, eqT (rfl : (-1 : Int) = -1), l1, st]
  · rw [if_neg c]
    refine ⟨σ, F109_call ?_, h, Kp.refl _ _⟩
    rw [F109_eq]
    simp (disch := omega) only [gG, nil_ptr, shift_ptr, shift_pptr, Nat.zero_add, Nat.add_zero, pureFn_fn, List.append_nil, List.singleton_append, List.cons_append, List.nil_append, fa149_0, fa149_1, fa149_2, fa149_3, load9, load3, load23, l2, b_eql, eqF c]
theorem S146 (h : Rdr σ r s p b fs fv) (hp : Plc s p rem) (c : Int) : pureV CC 146 [.ptr r 0, .p (.int .u8 c)] σ = some (.p (.bool (decide (b = -1) && nxc rem c))) := by
  have l0 := h.l0
  have l1 := h.l1
  have l2 := h.l2
  refine pureV_rows rfl rfl (F146_call (r := (.p (.bool (decide (b = -1) && nxc rem c)), σ)) ?_) rfl
  rw [F146_eq]
  by_cases c1 : b = -1
  · subst c1
    cases rem with
    | nil =>
      have := hp.nil
      have hn : ¬ ((p : Nat) : Int) < (s.size : Nat) := by omega
      simp (disch := omega) only [gG, nil_ptr, shift_ptr, shift_pptr, Nat.zero_add, Nat.add_zero, pureFn_fn, List.append_nil, List.singleton_append, List.cons_append, List.nil_append, fa149_0, fa149_1, fa149_2, fa149_3, load9, load3, load23, l2, b_eql, eqT (rfl : (-1 : Int) = -1), l1, l0, str_len, b_lss, ltF hn, nxc, Bool.and_false]
    | cons x rem =>
      obtain ⟨a1, a2, _⟩ := hp.cons
      have hlt : ((p : Nat) : Int) < (s.size : Nat) := by omega
      have ix := str_idx a1
      rw [a2] at ix
      simp (disch := omega) only [gG, nil_ptr, shift_ptr, shift_pptr, Nat.zero_add, Nat.add_zero, pureFn_fn, List.append_nil, List.singleton_append, List.cons_append, List.nil_append, fa149_0, fa149_1, fa149_2, fa149_3, load9, load3, load23, l2, b_eql, eqT (rfl : (-1 : Int) = -1), l1, l0, str_len, b_lss, ltT hlt, ix, u8_eq, nxc, Bool.true_and]
  · simp (disch := omega) only [gG, nil_ptr, shift_ptr, shift_pptr, Nat.zero_add, Nat.add_zero, pureFn_fn, List.append_nil, List.singleton_append, List.cons_append, List.nil_append, fa149_0, fa149_1, fa149_2, fa149_3, load9, load3, load23, l2, b_eql, eqF c1, Bool.false_and]
theorem L147 {t : ByteArray} {lo : Nat} (hlo : lo ≤ r) (ht : t.size ≤ 100) : ∀ (d i : Nat) (σ : Store) (p : Nat) (rem : List Int), i + d = t.size → Rdr σ r s p (-1) fs fv → Plc s p rem →
    ∃ σ', f147_L0 guardT lo (.ptr r 0) (.p (.sl false t.size (bytesPV t))) (.p (.int .i64 (t.size : Nat))) (N i) σ = some (.tuple [], σ') ∧ Kp σ σ' r ∧
      Rdr σ' r s (s.size - (tks ((bs t).drop i) rem).2.length) (if (tks ((bs t).drop i) rem).1 = true then -1 else ((s.size - (tks ((bs t).drop i) rem).2.length : Nat) : Int)) fs fv ∧ Plc s (s.size - (tks ((bs t).drop i) rem).2.length) (tks ((bs t).drop i) rem).2
  | 0, i, σ, p, rem, hd, h, hp => by
    have e0 : (bs t).drop i = [] := List.drop_eq_nil_of_le (by rw [bs_len]; omega)
    rw [e0]
    have e1 : tks [] rem = (true, rem) := rfl
    rw [e1]
    have ep := hp.at
    have hn : ¬ ((i : Nat) : Int) < (t.size : Nat) := by omega
    refine ⟨σ, ?_, Kp.refl _ _, ?_, ?_⟩
    · rw [f147_L0_eq guardT rfl]
      simp (disch := omega) only [N, gG, nil_ptr, shift_ptr, shift_pptr, Nat.zero_add, Nat.add_zero, pureFn_fn, List.append_nil, List.singleton_append, List.cons_append, List.nil_append, fa149_0, fa149_1, fa149_2, fa149_3, load9, load3, load23, b_lss, ltF hn]
    · rw [← ep]; exact h
    · rw [← ep]; exact hp
  | d + 1, i, σ, p, rem, hd, h, hp => by
    have hlt : ((i : Nat) : Int) < (t.size : Nat) := by omega
    have hit : i < (bs t).length := by rw [bs_len]; omega
    have e0 : (bs t).drop i = (bs t).getD i 0 :: (bs t).drop (i + 1) := by
      rw [List.drop_eq_getElem_cons hit, List.getD_eq_getElem?_getD, List.getElem?_eq_getElem hit]; rfl
    have ix := idx187 (b := false) (n := t.size) (i := i) (cs := bytesPV t) (by omega)
    have ld := ld187 (t := t) (i := i) (by omega) σ
    have q := S146 h hp ((bs t).getD i 0)
    rw [decide_eq_true rfl, Bool.true_and] at q
    have ep := hp.at
    rw [e0]
    have l1 := h.l1
    cases hn : nxc rem ((bs t).getD i 0) with
    | false =>
      rw [hn] at q
      have e1 : tks ((bs t).getD i 0 :: (bs t).drop (i + 1)) rem = (false, rem) := by
        cases rem with
        | nil => rfl
        | cons x rem =>
          have : ¬ x = (bs t).getD i 0 := by simpa [nxc] using hn
          show (if x = _ then _ else _) = _
          rw [if_neg this]
      rw [e1]
      obtain ⟨σ', c1, c2, c3⟩ := C109 h hlo
      rw [if_pos rfl] at c2
      refine ⟨σ', ?_, c3, ?_, ?_⟩
      · rw [f147_L0_eq guardT rfl]
        simp (disch := omega) only [N, gG, nil_ptr, shift_ptr, shift_pptr, Nat.zero_add, Nat.add_zero, pureFn_fn, List.append_nil, List.singleton_append, List.cons_append, List.nil_append, fa149_0, fa149_1, fa149_2, fa149_3, load9, load3, load23, b_lss, ltT hlt, ix, load5, ld, q, plainFn, c1]
      · rw [← ep, if_neg (by simp)]; exact c2
      · rw [← ep]; exact hp
    | true =>
      rw [hn] at q
      cases rem with
      | nil => exact absurd hn (by simp [nxc])
      | cons x rem =>
        have hx : x = (bs t).getD i 0 := by simpa [nxc] using hn
        have e1 : tks ((bs t).getD i 0 :: (bs t).drop (i + 1)) (x :: rem) = tks ((bs t).drop (i + 1)) rem := by
          show (if x = _ then _ else _) = _
          rw [if_pos hx]
        rw [e1]
        obtain ⟨a1, a2, a3⟩ := hp.cons
        have st := h.s1 hlo (p + 1)
        obtain ⟨σ', r1, r2, r3, r4⟩ := L147 hlo ht d (i + 1) _ (p + 1) rem (by omega) (h.set (p + 1) (-1)) a3
        refine ⟨σ', ?_, (Kp.set _ _ _).trans r2, r3, r4⟩
        rw [← r1, f147_L0_eq guardT rfl]
        have hss := hp.sm
        simp (disch := omega) only [N, gG, nil_ptr, shift_ptr, shift_pptr, Nat.zero_add, Nat.add_zero, pureFn_fn, List.append_nil, List.singleton_append, List.cons_append, List.nil_append, fa149_0, fa149_1, fa149_2, fa149_3, load9, load3, load23, b_lss, ltT hlt, ix, load5, ld, q, l1, add1, st]
end
end Go.D
end
/- Chapter 13: numbers of one or two digits, worked out by the kernel. -/
section
set_option linter.unusedVariables false
set_option linter.unusedSimpArgs false
set_option maxRecDepth 100000
namespace Go.D
noncomputable def runP (k : Nat) (f : FuncId) (args : List DV) (q : DV → Bool) : Bool :=
  match callK PP pol k 0 f args [] with
  | some (v, σ) => match thawAll 0 σ v with
    | some v' => q v'
    | none => false
  | none => false
theorem pureV_runP {k : Nat} {f : FuncId} {args : List DV} {q : DV → Bool} (h : runP k f args q = true) (h1 : args.map view = args) (h2 : args.all rowFree = true) : ∃ r, q r = true ∧ ∀ σ, pureV CC f args σ = some r := by
  unfold runP at h
  split at h
  · rename_i v σ' hc
    split at h
    · rename_i v' ht
      exact ⟨v', h, fun σ => pureV_free h1 h2 (callL_at hc) ht⟩
    · exact absurd h (by simp)
  · exact absurd h (by simp)
def itU (n : Nat) : List UInt8 := if n < 10 then [UInt8.ofNat (48 + n)] else [49, UInt8.ofNat (38 + n)]
def isS (l : List UInt8) : DV → Bool
  | .p (.str s) => s.data.toList == l
  | _ => false
def isA (n : Nat) : DV → Bool
  | .tuple [.p (.int .i64 m), .p .niliface] => m == (n : Int)
  | _ => false
def isB (n : Nat) (b : Bool) : DV → Bool
  | .tuple [.p (.int .i64 m), .p (.bool c)] => m == (n : Int) && b == c
  | _ => false
def d1 (a : Nat) : ByteArray := ⟨⟨[UInt8.ofNat (48 + a)]⟩⟩
def d2 (a b : Nat) : ByteArray := ⟨⟨[UInt8.ofNat (48 + a), UInt8.ofNat (48 + b)]⟩⟩
theorem run101 : ((List.range 12).all fun n => runP 60 101 [.p (.int .i64 (n : Nat))] (isS (itU n))) = true := by decide +kernel
theorem run106 : ((List.range 12).all fun n => runP 60 106 [.p (.int .i64 (n : Nat))] (isS (itU n))) = true := by decide +kernel
theorem run170 : ((List.range 10).all fun a => runP 60 170 [.p (.str (d1 a))] (isA a)) = true := by decide +kernel
theorem run172 : ((List.range 10).all fun a => runP 60 172 [.p (.str (d1 a))] (isB a true)) = true := by decide +kernel
theorem run172e : runP 60 172 [.p (.str ⟨#[]⟩)] (isB 0 false) = true := by decide +kernel
theorem run170_1 : ((List.range 10).all fun b => runP 60 170 [.p (.str (d2 1 b))] (isA (10 * 1 + b))) = true := by decide +kernel
theorem run170_2 : ((List.range 10).all fun b => runP 60 170 [.p (.str (d2 2 b))] (isA (10 * 2 + b))) = true := by decide +kernel
theorem run170_3 : ((List.range 10).all fun b => runP 60 170 [.p (.str (d2 3 b))] (isA (10 * 3 + b))) = true := by decide +kernel
theorem run170_4 : ((List.range 10).all fun b => runP 60 170 [.p (.str (d2 4 b))] (isA (10 * 4 + b))) = true := by decide +kernel
theorem run170_5 : ((List.range 10).all fun b => runP 60 170 [.p (.str (d2 5 b))] (isA (10 * 5 + b))) = true := by decide +kernel
theorem run170_6 : ((List.range 10).all fun b => runP 60 170 [.p (.str (d2 6 b))] (isA (10 * 6 + b))) = true := by decide +kernel
theorem run170_7 : ((List.range 10).all fun b => runP 60 170 [.p (.str (d2 7 b))] (isA (10 * 7 + b))) = true := by decide +kernel
theorem run170_8 : ((List.range 10).all fun b => runP 60 170 [.p (.str (d2 8 b))] (isA (10 * 8 + b))) = true := by decide +kernel
theorem run170_9 : ((List.range 10).all fun b => runP 60 170 [.p (.str (d2 9 b))] (isA (10 * 9 + b))) = true := by decide +kernel
theorem run172_1 : ((List.range 10).all fun b => runP 60 172 [.p (.str (d2 1 b))] (isB (10 * 1 + b) true)) = true := by decide +kernel
theorem run172_2 : ((List.range 10).all fun b => runP 60 172 [.p (.str (d2 2 b))] (isB (10 * 2 + b) true)) = true := by decide +kernel
theorem run172_3 : ((List.range 10).all fun b => runP 60 172 [.p (.str (d2 3 b))] (isB (10 * 3 + b) true)) = true := by decide +kernel
theorem run172_4 : ((List.range 10).all fun b => runP 60 172 [.p (.str (d2 4 b))] (isB (10 * 4 + b) true)) = true := by decide +kernel
theorem run172_5 : ((List.range 10).all fun b => runP 60 172 [.p (.str (d2 5 b))] (isB (10 * 5 + b) true)) = true := by decide +kernel
theorem run172_6 : ((List.range 10).all fun b => runP 60 172 [.p (.str (d2 6 b))] (isB (10 * 6 + b) true)) = true := by decide +kernel
theorem run172_7 : ((List.range 10).all fun b => runP 60 172 [.p (.str (d2 7 b))] (isB (10 * 7 + b) true)) = true := by decide +kernel
theorem run172_8 : ((List.range 10).all fun b => runP 60 172 [.p (.str (d2 8 b))] (isB (10 * 8 + b) true)) = true := by decide +kernel
theorem run172_9 : ((List.range 10).all fun b => runP 60 172 [.p (.str (d2 9 b))] (isB (10 * 9 + b) true)) = true := by decide +kernel
open Las
theorem bs_inj {a b : ByteArray} (h : bs a = bs b) : a = b := by
  unfold bs at h
  have h1 : a.data.toList = b.data.toList := by
    refine (List.map_inj_right (f := fun x : UInt8 => (x.toNat : Int)) fun x y hxy => ?_).1 h
    have : x.toNat = y.toNat := by exact_mod_cast hxy
    exact UInt8.toNat_inj.1 this
  have h2 : a.data = b.data := Array.toList_inj.1 h1
  cases a; cases b; simp only at h2; rw [h2]
theorem bs_d1 : ∀ a : Nat, a < 10 → bs (d1 a) = [48 + (a : Int)] := by decide +kernel
theorem bs_d2 : ∀ a : Nat, a < 10 → ∀ b : Nat, b < 10 → bs (d2 a b) = [48 + (a : Int), 48 + (b : Int)] := by decide +kernel
theorem bs_it : ∀ n : Nat, n < 12 → bs ⟨⟨itU n⟩⟩ = itl n := by decide +kernel
theorem dig_nat {d : Int} (h : dig d = true) : ∃ a : Nat, a < 10 ∧ d = 48 + (a : Int) := by
  have : 48 ≤ d ∧ d ≤ 57 := by simpa [dig] using h
  exact ⟨(d - 48).toNat, by omega, by omega⟩
theorem isA_eq {n : Nat} {v : DV} (h : isA n v = true) : v = .tuple [.p (.int .i64 (n : Nat)), .p .niliface] := by
  unfold isA at h
  split at h
  · have := eq_of_beq h
    rw [this]
  · exact absurd h (by simp)
theorem isB_eq {n : Nat} {b : Bool} {v : DV} (h : isB n b v = true) : v = .tuple [.p (.int .i64 (n : Nat)), .p (.bool b)] := by
  unfold isB at h
  split at h
  · rw [Bool.and_eq_true] at h
    rw [eq_of_beq h.1, eq_of_beq h.2]
  · exact absurd h (by simp)
theorem isS_eq {l : List UInt8} {v : DV} (h : isS l v = true) : v = .p (.str ⟨⟨l⟩⟩) := by
  unfold isS at h
  split at h
  · rename_i s
    have := eq_of_beq h
    cases s with
    | mk d =>
      cases d with
      | mk l' => simp only at this; rw [this]
  · exact absurd h (by simp)
theorem all_get {n : Nat} {f : Nat → Bool} (h : (List.range n).all f = true) {i : Nat} (hi : i < n) : f i = true := List.all_eq_true.1 h i (List.mem_range.2 hi)
theorem S170_1 {t : ByteArray} {d : Int} (h : bs t = [d]) (hd : dig d = true) (σ : Store) : pureV CC 170 [.p (.str t)] σ = some (.tuple [.p (.int .i64 (d - 48)), .p .niliface]) := by
  obtain ⟨a, ha, rfl⟩ := dig_nat hd
  obtain rfl : t = d1 a := bs_inj (h.trans (bs_d1 a ha).symm)
  obtain ⟨v, h1, h2⟩ := pureV_runP (all_get run170 ha) rfl rfl
  rw [h2 σ, isA_eq h1, show (48 + (a : Int) - 48) = (a : Int) by omega]
theorem S172_1 {t : ByteArray} {d : Int} (h : bs t = [d]) (hd : dig d = true) (σ : Store) : pureV CC 172 [.p (.str t)] σ = some (.tuple [.p (.int .i64 (d - 48)), .p (.bool true)]) := by
  obtain ⟨a, ha, rfl⟩ := dig_nat hd
  obtain rfl : t = d1 a := bs_inj (h.trans (bs_d1 a ha).symm)
  obtain ⟨v, h1, h2⟩ := pureV_runP (all_get run172 ha) rfl rfl
  rw [h2 σ, isB_eq h1, show (48 + (a : Int) - 48) = (a : Int) by omega]
theorem S172_0 {t : ByteArray} (h : bs t = []) (σ : Store) : pureV CC 172 [.p (.str t)] σ = some (.tuple [.p (.int .i64 0), .p (.bool false)]) := by
  obtain rfl : t = ⟨#[]⟩ := bs_inj (h.trans rfl)
  obtain ⟨v, h1, h2⟩ := pureV_runP run172e rfl rfl
  rw [h2 σ, isB_eq h1]; rfl
theorem run170_a {a b : Nat} (h1 : 1 ≤ a) (ha : a < 10) (hb : b < 10) : runP 60 170 [.p (.str (d2 a b))] (isA (10 * a + b)) = true := by
  have : a = 1 ∨ a = 2 ∨ a = 3 ∨ a = 4 ∨ a = 5 ∨ a = 6 ∨ a = 7 ∨ a = 8 ∨ a = 9 := by omega
  rcases this with rfl | rfl | rfl | rfl | rfl | rfl | rfl | rfl | rfl
  · exact all_get run170_1 hb
  · exact all_get run170_2 hb
  · exact all_get run170_3 hb
  · exact all_get run170_4 hb
  · exact all_get run170_5 hb
  · exact all_get run170_6 hb
  · exact all_get run170_7 hb
  · exact all_get run170_8 hb
  · exact all_get run170_9 hb
theorem run172_a {a b : Nat} (h1 : 1 ≤ a) (ha : a < 10) (hb : b < 10) : runP 60 172 [.p (.str (d2 a b))] (isB (10 * a + b) true) = true := by
  have : a = 1 ∨ a = 2 ∨ a = 3 ∨ a = 4 ∨ a = 5 ∨ a = 6 ∨ a = 7 ∨ a = 8 ∨ a = 9 := by omega
  rcases this with rfl | rfl | rfl | rfl | rfl | rfl | rfl | rfl | rfl
  · exact all_get run172_1 hb
  · exact all_get run172_2 hb
  · exact all_get run172_3 hb
  · exact all_get run172_4 hb
  · exact all_get run172_5 hb
  · exact all_get run172_6 hb
  · exact all_get run172_7 hb
  · exact all_get run172_8 hb
  · exact all_get run172_9 hb
theorem S170_2 {t : ByteArray} {d e : Int} (h : bs t = [d, e]) (hd : dig d = true) (he : dig e = true) (h0 : d ≠ 48) (σ : Store) : pureV CC 170 [.p (.str t)] σ = some (.tuple [.p (.int .i64 ((d - 48) * 10 + (e - 48))), .p .niliface]) := by
  obtain ⟨a, ha, rfl⟩ := dig_nat hd
  obtain ⟨b, hb, rfl⟩ := dig_nat he
  obtain rfl : t = d2 a b := bs_inj (h.trans (bs_d2 a ha b hb).symm)
  obtain ⟨v, h1, h2⟩ := pureV_runP (run170_a (by omega) ha hb) rfl rfl
  rw [h2 σ, isA_eq h1, show ((48 + (a : Int) - 48) * 10 + (48 + (b : Int) - 48)) = ((10 * a + b : Nat) : Int) by omega]
theorem S172_2 {t : ByteArray} {d e : Int} (h : bs t = [d, e]) (hd : dig d = true) (he : dig e = true) (h0 : d ≠ 48) (σ : Store) : pureV CC 172 [.p (.str t)] σ = some (.tuple [.p (.int .i64 ((d - 48) * 10 + (e - 48))), .p (.bool true)]) := by
  obtain ⟨a, ha, rfl⟩ := dig_nat hd
  obtain ⟨b, hb, rfl⟩ := dig_nat he
  obtain rfl : t = d2 a b := bs_inj (h.trans (bs_d2 a ha b hb).symm)
  obtain ⟨v, h1, h2⟩ := pureV_runP (run172_a (by omega) ha hb) rfl rfl
  rw [h2 σ, isB_eq h1, show ((48 + (a : Int) - 48) * 10 + (48 + (b : Int) - 48)) = ((10 * a + b : Nat) : Int) by omega]
def itB (n : Int) : ByteArray := ⟨⟨itU n.toNat⟩⟩
theorem bs_itB {n : Int} (h0 : 0 ≤ n) (h1 : n ≤ 11) : bs (itB n) = itl n := by
  have := bs_it n.toNat (by omega)
  unfold itB
  rw [this, show ((n.toNat : Nat) : Int) = n by omega]
theorem S101 {n : Int} (h0 : 0 ≤ n) (h1 : n ≤ 11) (σ : Store) : pureV CC 101 [.p (.int .i64 n)] σ = some (.p (.str (itB n))) := by
  obtain ⟨v, h2, h3⟩ := pureV_runP (all_get run101 (show n.toNat < 12 by omega)) rfl rfl
  have e : ((n.toNat : Nat) : Int) = n := by omega
  rw [e] at h3
  rw [h3 σ, isS_eq h2]; rfl
theorem S106 {n : Int} (h0 : 0 ≤ n) (h1 : n ≤ 11) (σ : Store) : pureV CC 106 [.p (.int .i64 n)] σ = some (.p (.str (itB n))) := by
  obtain ⟨v, h2, h3⟩ := pureV_runP (all_get run106 (show n.toNat < 12 by omega)) rfl rfl
  have e : ((n.toNat : Nat) : Int) = n := by omega
  rw [e] at h3
  rw [h3 σ, isS_eq h2]; rfl
end Go.D
end
/- Chapter 13: the program's reader of formulas: must, put, atom. -/
section
set_option linter.unusedVariables false
set_option linter.unusedSimpArgs false
set_option maxRecDepth 8000
namespace Go.D
open Las
section
variable {σ : Store} {r : Nat} {s : ByteArray} {p : Nat} {b : Int} {fs : List Nd} {fv : DV} {rem : List Int}
theorem C147 (h : Rdr σ r s p (-1) fs fv) (hp : Plc s p rem) {lo : Nat} (hlo : lo ≤ r) {t : ByteArray} (ht : t.size ≤ 100) :
    ∃ σ', CC lo 147 [.ptr r 0, .p (.str t)] σ = some (.tuple [], σ') ∧ Kp σ σ' r ∧
      Rdr σ' r s (s.size - (tks (bs t) rem).2.length) (if (tks (bs t) rem).1 = true then -1 else ((s.size - (tks (bs t) rem).2.length : Nat) : Int)) fs fv ∧ Plc s (s.size - (tks (bs t) rem).2.length) (tks (bs t) rem).2 := by
  obtain ⟨σ', a1, a2, a3, a4⟩ := L147 hlo ht t.size 0 σ p rem (by omega) h hp
  rw [List.drop_zero] at a3 a4
  refine ⟨σ', F147_call ?_, a2, a3, a4⟩
  rw [F147_eq, cv187]
  simp only [obind, len187]
  exact a1
theorem C147b (h : Rdr σ r s p b fs fv) (hp : Plc s p rem) (hb : b ≠ -1) {lo : Nat} (hlo : lo ≤ r) {t : ByteArray} (ht : 0 < t.size) :
    ∃ σ', CC lo 147 [.ptr r 0, .p (.str t)] σ = some (.tuple [], σ') ∧ Kp σ σ' r ∧ Rdr σ' r s p b fs fv := by
  obtain ⟨σ', c1, c2, c3⟩ := C109 h hlo
  rw [if_neg hb] at c2
  refine ⟨σ', F147_call ?_, c3, c2⟩
  have hlt : (0 : Int) < (t.size : Nat) := by omega
  have ix := idx187 (b := false) (n := t.size) (i := 0) (cs := bytesPV t) ht
  have ld := ld187 (t := t) (i := 0) ht σ
  have q := S146 h hp ((bs t).getD 0 0)
  rw [decide_eq_false hb, Bool.false_and] at q
  have z0 : (.p (.int .i64 ((0 : Nat) : Int)) : DV) = .p (.int .i64 0) := rfl
  rw [z0] at ix
  rw [F147_eq, cv187]
  simp only [obind, len187]
  rw [f147_L0_eq guardT rfl]
  simp (disch := omega) only [gG, nil_ptr, shift_ptr, shift_pptr, Nat.zero_add, Nat.add_zero, pureFn_fn, List.append_nil, List.singleton_append, List.cons_append, List.nil_append, fa149_0, fa149_1, fa149_2, fa149_3, load9, load3, load23, b_lss, ltT hlt, ix, load5, ld, q, plainFn, c1]
theorem box_nd (a b c : PV) : boxP (.agg [.p a, .p b, .p c]) = some (.pptr [a, b, c] 0) := rfl
theorem nd_ld (a b c : PV) (σ : Store) : (loadN σ 3 (.pptr [a, b, c] 0)).map DV.agg = some (.agg [.p a, .p b, .p c]) := rfl
theorem eTs_snoc (fs : List Nd) (x : Nd) : eTs (fs ++ [x]) = eTs fs ++ eNt x := by
  rw [eTs_app]; simp [eTs]
theorem out_len23 {σ : Store} {lo n : Nat} {cs : List PV} {x : DV} (h : Out σ lo 3 n cs x) (τ : Store) : len PP 23 x τ = some (.p (.int .i64 (n : Nat))) := by
  rcases h.2 with ⟨rfl, rfl⟩ | ⟨_, r, v, rfl, _, _⟩ <;> simp [len, u23]
theorem C148 (h : Rdr σ r s p b fs fv) {lo : Nat} (hlo : lo ≤ r) (hn : fs.length ≤ 1000) {a0 a1 a2 : PV} {x : Nd} (hbs : ∀ σ, buildSlice PP none 23 1 [(0, .agg [.p a0, .p a1, .p a2])] σ = some (.p (.sl true 1 (eNt x)), σ)) :
    ∃ σ' fv', CC lo 148 [.ptr r 0, .agg [.p a0, .p a1, .p a2]] σ = some (.p (.int .i64 (fs.length : Nat)), σ') ∧ Kp σ σ' r ∧ Rdr σ' r s p b (fs ++ [x]) fv' := by
  have l3 := h.l3
  obtain ⟨y, σ1, a1, a2, a3, a4, _⟩ := Out.pushR (lo0 := lo) (vs := eNt x) src23 u23 s67 bytes67 zero67 rfl (by decide) (by decide) (by decide) rfl h.out (by omega) (by omega) (Nat.succ_le_of_lt h.lt)
  have k1 : Kp σ σ1 r := ⟨fun j row h1 h2 h3 => a3.mix h.out h3 h2, a4⟩
  have row1 : σ1[r]? = some (.mix [.p (.str s), N p, .p (.int .i64 b), fv]) := a3.mix h.out h.row (fun v hv => by cases hv)
  have yo : y.one = true := by
    rcases a2.2 with ⟨_, rfl⟩ | ⟨_, r', v, rfl, _, _⟩ <;> rfl
  have st : store PP lo 23 (.ptr r 3) y σ1 = some (σ1.set r (.mix [.p (.str s), N p, .p (.int .i64 b), y])) := by
    cases y <;> first | (exfalso; simp [DV.one] at yo; done) | simp [store, s23w, DV.cells, storeN, row1, hlo, DV.one, splice, N]
  have g2 : (σ1.set r (.mix [.p (.str s), N p, .p (.int .i64 b), y]))[r]? = some (.mix [.p (.str s), N p, .p (.int .i64 b), y]) := by rw [List.getElem?_set_self (get_lt row1)]
  have o2 : Out (σ1.set r (.mix [.p (.str s), N p, .p (.int .i64 b), y])) (r + 1) 3 (fs ++ [x]).length (eTs (fs ++ [x])) y := by
    have e1 : (fs ++ [x]).length = fs.length + 1 := by simp
    rw [e1, eTs_snoc]
    refine a2.low fun j v hj => ?_
    have hne : j ≠ r := fun hh => by rw [hh, row1] at hj; injection hj with hj; cases hj
    rw [List.getElem?_set_ne (Ne.symm hne)]; exact hj
  have l4 : load1 (.ptr r 3) (σ1.set r (.mix [.p (.str s), N p, .p (.int .i64 b), y])) = some y := load1_ptr g2 rfl
  have ln := out_len23 o2
  have el : (((fs ++ [x]).length : Nat) : Int) = ((fs.length + 1 : Nat) : Int) := by simp
  rw [el] at ln
  refine ⟨_, y, F148_call ?_, k1.trans (Kp.set _ _ _), g2, o2⟩
  rw [F148_eq]
  simp (disch := omega) only [gG, nil_ptr, shift_ptr, shift_pptr, Nat.zero_add, Nat.add_zero, pureFn_fn, List.append_nil, List.singleton_append, List.cons_append, List.nil_append, fa149_0, fa149_1, fa149_2, fa149_3, load9, load3, load23, box_nd, l3, load67, nd_ld, hbs, a1, st, l4, ln, sub1, Nat.add_sub_cancel]
end
end Go.D
end
/- Chapter 13: the program's reader of formulas: an atom. -/
section
set_option linter.unusedVariables false
set_option linter.unusedSimpArgs false
set_option maxRecDepth 8000
namespace Go.D
open Las
theorem bs_rng (s : ByteArray) (i : Nat) : 0 ≤ (bs s).getD i 0 ∧ (bs s).getD i 0 ≤ 255 := by
  unfold bs
  rw [List.getD_eq_getElem?_getD, List.getElem?_map]
  cases h : s.data.toList[i]? with
  | none => exact ⟨by simp, by simp⟩
  | some b =>
    have := b.toNat_lt
    show 0 ≤ (b.toNat : Int) ∧ (b.toNat : Int) ≤ 255
    omega
theorem cv53 {n : Int} (h0 : 0 ≤ n) (h1 : n ≤ 255) : convert PP 5 3 (.p (.int .u8 n)) = some (.p (.int .i64 n)) := by
  have : convert PP 5 3 (.p (.int .u8 n)) = some (.p (.int .i64 (IntKind.wrap .i64 n))) := by simp [convert, u5b, u3]
  rw [this]
  congr 3
  exact wrap_small (by omega) (by omega)
theorem inR_dig (c : Int) : inR c 48 57 = dig c := rfl
theorem bld67_1 (n : Int) : build PP 67 [(0, .p (.int .i64 1)), (1, .p (.int .i64 n))] = some (.agg [.p (pI 1), .p (pI n), .p .nilsl]) := Eq.trans (by kernel_rfl) rfl
theorem bs67_1 (n : Int) (σ : Store) : buildSlice PP none 23 1 [(0, .agg [.p (pI 1), .p (pI n), .p .nilsl])] σ = some (.p (.sl true 1 (eNt ⟨1, n, none⟩)), σ) := Eq.trans (by kernel_rfl) rfl
section
variable {σ : Store} {r : Nat} {s : ByteArray} {fs : List Nd} {fv : DV}
theorem stp149 {q fr : Nat} {c : Int} {R : List Int} (h : Rdr σ r s q (-1) fs fv) (hp : Plc s q (c :: R)) (hf : fr ≤ q) (h2 : q < fr + 2) (hd : dig c = true) (h3 : q = fr ∨ (q ≠ fr ∧ (bs s).getD fr 0 ≠ 48)) {lo : Nat} (hlo : lo ≤ r) :
    f149_L0 guardT lo (.ptr r 0) (N fr) σ = f149_L0 guardT lo (.ptr r 0) (N fr) (σ.set r (.mix [.p (.str s), N (q + 1), .p (.int .i64 (-1)), fv])) := by
  obtain ⟨a1, a2, a3⟩ := hp.cons
  have l0 := h.l0
  have l1 := h.l1
  have st := h.s1 hlo (q + 1)
  have hsm := hp.sm
  have ix := str_idx a1
  have ix2 := str_idx (s := s) (i := fr) (by omega)
  have hr := bs_rng s q
  rw [a2] at ix hr
  have cv := cv53 hr.1 hr.2
  have c1 : ((q : Nat) : Int) < (s.size : Nat) := by omega
  have c2 : ((q : Nat) : Int) < ((fr + 2 : Nat) : Int) := by omega
  have ad : binOp PP .add 3 (.p (.int .i64 (fr : Nat))) (.p (.int .i64 2)) = some (.p (.int .i64 ((fr + 2 : Nat) : Int))) := by
    rw [b_add, wrap_ok (by omega) (by omega)]; rfl
  rw [f149_L0_eq guardT rfl]
  rcases h3 with h3 | ⟨h3, h4⟩
  · have e : ((q : Nat) : Int) = (fr : Nat) := by omega
    simp (maxSteps := 1000000) (disch := omega) only [N, gG, nil_ptr, shift_ptr, shift_pptr, Nat.zero_add, Nat.add_zero, pureFn_fn, List.append_nil, List.singleton_append, List.cons_append, List.nil_append, fa149_0, fa149_1, fa149_2, fa149_3, load9, load3, load23, l1, l0, str_len, b_lss, ltT c1, ad, ltT c2, ix, cv, S65, inR_dig, hd, b_eql, eqT e, add1, st]
  · have e : ¬ ((q : Nat) : Int) = (fr : Nat) := by omega
    simp (maxSteps := 1000000) (disch := omega) only [N, gG, nil_ptr, shift_ptr, shift_pptr, Nat.zero_add, Nat.add_zero, pureFn_fn, List.append_nil, List.singleton_append, List.cons_append, List.nil_append, fa149_0, fa149_1, fa149_2, fa149_3, load9, load3, load23, l1, l0, str_len, b_lss, ltT c1, ad, ltT c2, ix, cv, S65, inR_dig, hd, b_eql, eqF e, ix2, u8_ne, eqF h4, add1, st]
theorem end149_0 {fr : Nat} {R : List Int} (h : Rdr σ r s fr (-1) fs fv) (hp : Plc s fr R) (hd : dgH R = false) {lo : Nat} (hlo : lo ≤ r) :
    ∃ σ', f149_L0 guardT lo (.ptr r 0) (N fr) σ = some (.p (.int .i64 0), σ') ∧ Kp σ σ' r ∧ Rdr σ' r s fr (fr : Int) fs fv := by
  obtain ⟨σ', k1, k2, k3⟩ := C109 h hlo
  rw [if_pos rfl] at k2
  refine ⟨σ', ?_, k3, k2⟩
  have l0 := h.l0
  have l1 := h.l1
  have hsm := hp.sm
  have hle := hp.le
  have ad : binOp PP .add 3 (.p (.int .i64 (fr : Nat))) (.p (.int .i64 2)) = some (.p (.int .i64 ((fr + 2 : Nat) : Int))) := by
    rw [b_add, wrap_ok (by omega) (by omega)]; rfl
  rw [f149_L0_eq guardT rfl]
  have e : ((fr : Nat) : Int) = (fr : Nat) := rfl
  cases R with
  | nil =>
    have := hp.nil
    have c1 : ¬ ((fr : Nat) : Int) < (s.size : Nat) := by omega
    simp (maxSteps := 1000000) (disch := omega) only [N, gG, nil_ptr, shift_ptr, shift_pptr, Nat.zero_add, Nat.add_zero, pureFn_fn, List.append_nil, List.singleton_append, List.cons_append, List.nil_append, fa149_0, fa149_1, fa149_2, fa149_3, load9, load3, load23, l1, l0, str_len, b_lss, ltF c1, b_eql, eqT e, plainFn, k1]
  | cons c R =>
    obtain ⟨a1, a2, a3⟩ := hp.cons
    have ix := str_idx a1
    have hr := bs_rng s fr
    rw [a2] at ix hr
    have cv := cv53 hr.1 hr.2
    have c1 : ((fr : Nat) : Int) < (s.size : Nat) := by omega
    have c2 : ((fr : Nat) : Int) < ((fr + 2 : Nat) : Int) := by omega
    have hd' : dig c = false := hd
    simp (maxSteps := 1000000) (disch := omega) only [N, gG, nil_ptr, shift_ptr, shift_pptr, Nat.zero_add, Nat.add_zero, pureFn_fn, List.append_nil, List.singleton_append, List.cons_append, List.nil_append, fa149_0, fa149_1, fa149_2, fa149_3, load9, load3, load23, l1, l0, str_len, b_lss, ltT c1, ad, ltT c2, ix, cv, S65, inR_dig, hd', b_eql, eqT e, plainFn, k1]
theorem end149 {q fr : Nat} {n : Int} {R : List Int} (h : Rdr σ r s q (-1) fs fv) (hp : Plc s q R) (hf : fr < q) (hq : q = fr + 2 ∨ (q = fr + 1 ∧ (dgH R = false ∨ (bs s).getD fr 0 = 48))) (hn : fs.length ≤ 1000)
    (hv : ∀ σ, pureV CC 170 [.p (.str (s.extract fr q))] σ = some (.tuple [.p (.int .i64 n), .p .niliface])) {lo : Nat} (hlo : lo ≤ r) :
    ∃ σ' fv', f149_L0 guardT lo (.ptr r 0) (N fr) σ = some (.p (.int .i64 (fs.length : Nat)), σ') ∧ Kp σ σ' r ∧ Rdr σ' r s q (-1) (fs ++ [⟨1, n, none⟩]) fv' := by
  obtain ⟨σ', fv', k1, k2, k3⟩ := C148 h hlo hn (a0 := pI 1) (a1 := pI n) (a2 := .nilsl) (x := ⟨1, n, none⟩) fun σ => bs67_1 n σ
  refine ⟨σ', fv', ?_, k2, k3⟩
  have l0 := h.l0
  have l1 := h.l1
  have hsm := hp.sm
  have hle := hp.le
  have ad : binOp PP .add 3 (.p (.int .i64 (fr : Nat))) (.p (.int .i64 2)) = some (.p (.int .i64 ((fr + 2 : Nat) : Int))) := by
    rw [b_add, wrap_ok (by omega) (by omega)]; rfl
  have sl := str_sl (s := s) (a := fr) (b := q) (by omega) hle
  have ne : ¬ ((q : Nat) : Int) = (fr : Nat) := by omega
  have x0 : ∀ a b : DV, extractV (.tuple [a, b]) 0 = some a := fun a b => rfl
  have x1 : ∀ a b : DV, extractV (.tuple [a, b]) 1 = some b := fun a b => rfl
  rw [f149_L0_eq guardT rfl]
  cases R with
  | nil =>
    have := hp.nil
    have c1 : ¬ ((q : Nat) : Int) < (s.size : Nat) := by omega
    simp (maxSteps := 1000000) (disch := omega) only [N, gG, nil_ptr, shift_ptr, shift_pptr, Nat.zero_add, Nat.add_zero, pureFn_fn, List.append_nil, List.singleton_append, List.cons_append, List.nil_append, fa149_0, fa149_1, fa149_2, fa149_3, load9, load3, load23, l1, l0, str_len, b_lss, ltF c1, b_eql, eqF ne, sl, hv, x0, x1, bld67_1, plainFn, k1]
  | cons c R =>
    obtain ⟨a1, a2, a3⟩ := hp.cons
    have ix := str_idx a1
    have ix2 := str_idx (s := s) (i := fr) (by omega)
    have hr := bs_rng s q
    rw [a2] at ix hr
    have cv := cv53 hr.1 hr.2
    have c1 : ((q : Nat) : Int) < (s.size : Nat) := by omega
    rcases hq with hq | ⟨hq, hq2⟩
    · have c2 : ¬ ((q : Nat) : Int) < ((fr + 2 : Nat) : Int) := by omega
      simp (maxSteps := 1000000) (disch := omega) only [N, gG, nil_ptr, shift_ptr, shift_pptr, Nat.zero_add, Nat.add_zero, pureFn_fn, List.append_nil, List.singleton_append, List.cons_append, List.nil_append, fa149_0, fa149_1, fa149_2, fa149_3, load9, load3, load23, l1, l0, str_len, b_lss, ltT c1, ad, ltF c2, b_eql, eqF ne, sl, hv, x0, x1, bld67_1, plainFn, k1]
    · have c2 : ((q : Nat) : Int) < ((fr + 2 : Nat) : Int) := by omega
      cases hd : dig c with
      | false =>
        simp (maxSteps := 1000000) (disch := omega) only [N, gG, nil_ptr, shift_ptr, shift_pptr, Nat.zero_add, Nat.add_zero, pureFn_fn, List.append_nil, List.singleton_append, List.cons_append, List.nil_append, fa149_0, fa149_1, fa149_2, fa149_3, load9, load3, load23, l1, l0, str_len, b_lss, ltT c1, ad, ltT c2, ix, cv, S65, inR_dig, hd, b_eql, eqF ne, sl, hv, x0, x1, bld67_1, plainFn, k1]
      | true =>
        have h48 : (bs s).getD fr 0 = 48 := by
          rcases hq2 with hh | hh
          · have : dig c = false := hh
            rw [this] at hd; exact absurd hd (by simp)
          · exact hh
        simp (maxSteps := 1000000) (disch := omega) only [N, gG, nil_ptr, shift_ptr, shift_pptr, Nat.zero_add, Nat.add_zero, pureFn_fn, List.append_nil, List.singleton_append, List.cons_append, List.nil_append, fa149_0, fa149_1, fa149_2, fa149_3, load9, load3, load23, l1, l0, str_len, b_lss, ltT c1, ad, ltT c2, ix, cv, S65, inR_dig, hd, b_eql, eqF ne, ix2, u8_ne, eqT h48, sl, hv, x0, x1, bld67_1, plainFn, k1]
theorem ext_1 {q : Nat} {c : Int} {R : List Int} (hp : Plc s q (c :: R)) : bs (s.extract q (q + 1)) = [c] := by
  rw [bs_ext, List.drop_take, ← hp.eq, show q + 1 - q = 1 by omega]; rfl
theorem ext_2 {q : Nat} {c d : Int} {R : List Int} (hp : Plc s q (c :: d :: R)) : bs (s.extract q (q + 2)) = [c, d] := by
  rw [bs_ext, List.drop_take, ← hp.eq, show q + 2 - q = 2 by omega]; rfl
theorem C149 {p : Nat} {R : List Int} (h : Rdr σ r s p (-1) fs fv) (hp : Plc s p (112 :: R)) {lo : Nat} (hlo : lo ≤ r) (hn : fs.length ≤ 1000) :
    ∃ v σ', CC lo 149 [.ptr r 0] σ = some (.p (.int .i64 v), σ') ∧ Kp σ σ' r ∧
      match atm R with
      | none => Rdr σ' r s (s.size - R.length) ((s.size - R.length : Nat) : Int) fs fv
      | some (n, R') => v = (fs.length : Nat) ∧ Plc s (s.size - R'.length) R' ∧ ∃ fv', Rdr σ' r s (s.size - R'.length) (-1) (fs ++ [⟨1, n, none⟩]) fv' := by
  have et : bs lpstr4 = [112] := by decide
  obtain ⟨σ1, b1, b2, b3, b4⟩ := C147 h hp hlo (t := lpstr4) (by decide)
  have ek : tks (bs lpstr4) (112 :: R) = (true, R) := by rw [et]; rfl
  rw [ek] at b3 b4
  rw [if_pos rfl] at b3
  have hat := b4.at
  generalize hq : s.size - R.length = q at *
  have l1 := b3.l1
  have fin : ∀ v σ', f149_L0 guardT lo (.ptr r 0) (N q) σ1 = some (.p (.int .i64 v), σ') → CC lo 149 [.ptr r 0] σ = some (.p (.int .i64 v), σ') := fun v σ' hh => by
    refine F149_call ?_
    rw [F149_eq]
    simp (disch := omega) only [gG, nil_ptr, shift_ptr, shift_pptr, Nat.zero_add, Nat.add_zero, pureFn_fn, List.append_nil, List.singleton_append, List.cons_append, List.nil_append, fa149_0, fa149_1, fa149_2, fa149_3, load9, load3, load23, plainFn, b1, l1]
    exact hh
  have no : dgH R = false → ∃ v σ', CC lo 149 [.ptr r 0] σ = some (.p (.int .i64 v), σ') ∧ Kp σ σ' r ∧ Rdr σ' r s q (q : Int) fs fv := fun hd => by
    obtain ⟨σ', e1, e2, e3⟩ := end149_0 b3 b4 hd hlo
    exact ⟨0, σ', fin _ _ e1, b2.trans e2, e3⟩
  cases R with
  | nil =>
    have ea : atm [] = none := rfl
    rw [ea]
    exact no rfl
  | cons c R =>
    cases hd : dig c with
    | false =>
      have ea : atm (c :: R) = none := by rw [atm_cons, if_neg (by rw [hd]; simp)]
      rw [ea]
      exact no hd
    | true =>
      obtain ⟨a1, a2, a3⟩ := b4.cons
      have s1 := stp149 b3 b4 (Nat.le_refl _) (by omega) hd (.inl rfl) hlo
      have r1 := b3.set (q + 1) (-1)
      have k1 := Kp.set σ1 (.mix [.p (.str s), N (q + 1), .p (.int .i64 (-1)), fv]) r
      have h170 := fun σ => S170_1 (ext_1 b4) hd σ
      rw [atm_cons, if_pos hd]
      have endq : (dgH R = false ∨ c = 48) → ∃ v σ', CC lo 149 [.ptr r 0] σ = some (.p (.int .i64 v), σ') ∧ Kp σ σ' r ∧ v = (fs.length : Nat) ∧ Plc s (s.size - R.length) R ∧ ∃ fv', Rdr σ' r s (s.size - R.length) (-1) (fs ++ [⟨1, c - 48, none⟩]) fv' := fun hh => by
        obtain ⟨σ', fv', e1, e2, e3⟩ := end149 r1 a3 (Nat.lt_succ_self q) (.inr ⟨rfl, by rw [a2]; exact hh⟩) hn h170 hlo
        have := a3.at
        rw [← this]
        exact ⟨_, σ', fin _ _ (s1.trans e1), b2.trans (k1.trans e2), rfl, a3, fv', e3⟩
      by_cases c48 : c = 48
      · rw [if_pos c48]
        subst c48
        exact endq (.inr rfl)
      · rw [if_neg c48]
        cases R with
        | nil => exact endq (.inl rfl)
        | cons d R =>
          cases hd2 : dig d with
          | false =>
            simp only [hd2, Bool.false_eq_true, if_false]
            exact endq (.inl hd2)
          | true =>
            simp only [hd2, if_true]
            obtain ⟨a4, a5, a6⟩ := a3.cons
            have s2 := stp149 (fr := q) r1 a3 (by omega) (by omega) hd2 (.inr ⟨by omega, by rw [a2]; exact c48⟩) hlo
            have r2 := r1.set (q + 1 + 1) (-1)
            have k2 := Kp.set (σ1.set r (.mix [.p (.str s), N (q + 1), .p (.int .i64 (-1)), fv])) (.mix [.p (.str s), N (q + 1 + 1), .p (.int .i64 (-1)), fv]) r
            have h170' := fun σ => S170_2 (ext_2 b4) hd hd2 c48 σ
            obtain ⟨σ', fv', e1, e2, e3⟩ := end149 r2 a6 (by omega : q < q + 1 + 1) (.inl rfl) hn h170' hlo
            have := a6.at
            rw [← this]
            exact ⟨_, σ', fin _ _ (s1.trans (s2.trans e1)), b2.trans (k1.trans (k2.trans e2)), rfl, a6, fv', e3⟩
end
end Go.D
end
/- Chapter 13: the program's reader of formulas: formula. -/
section
set_option linter.unusedVariables false
set_option linter.unusedSimpArgs false
set_option maxRecDepth 8000
namespace Go.D
open Las
def Fn (σ : Store) (r : Nat) (s : ByteArray) (bd : Nat) (v : Int) : Prd → Prop
  | .err e => ∃ p fs fv, Rdr σ r s p ((s.size - e.length : Nat) : Int) fs fv ∧ p ≤ s.size ∧ fs.length ≤ bd
  | .ok e fs => v = ((fs.length - 1 : Nat) : Int) ∧ Plc s (s.size - e.length) e ∧ ∃ fv, Rdr σ r s (s.size - e.length) (-1) fs fv
def Goes108 (s : ByteArray) (k : Nat) : Prop :=
  ∀ (lo r p : Nat) (rem : List Int) (fs : List Nd) (fv : DV) (σ : Store), Rdr σ r s p (-1) fs fv → Plc s p rem → rem.length < k → fs.length + rem.length ≤ 900 → lo ≤ r →
  ∃ v σ', CC lo 108 [.ptr r 0] σ = some (.p (.int .i64 v), σ') ∧ Kp σ σ' r ∧ Fn σ' r s (fs.length + rem.length) v (prs false k rem fs)
def ITl : List PV := [.str lpstr0, pI 2, .str lpstr1, pI 6, .str lpstr2, pI 7]
def IT : DV := .p (.sl true 3 ITl)
theorem u174 : PP.underlying 174 = some (.slice 173) := Eq.trans (by kernel_rfl) rfl
theorem s173 : size? PP 173 = some 2 := Eq.trans (by kernel_rfl) rfl
theorem zero173 : zeroOf PP 173 = some [.p (.str ⟨#[]⟩), .p (pI 0)] := Eq.trans (by kernel_rfl) rfl
theorem fa173_0 (x : DV) : fieldAddr PP 173 x 0 = shiftPtr x 0 := Eq.trans (by kernel_rfl) rfl
theorem fa173_1 (x : DV) : fieldAddr PP 173 x 1 = shiftPtr x 1 := Eq.trans (by kernel_rfl) rfl
theorem load173 (x : DV) (σ : Store) : load PP 173 x σ = (loadN σ 2 x).map .agg := Eq.trans (by kernel_rfl) rfl
theorem bld173 (t : ByteArray) (k : Int) : build PP 173 [(0, .p (.str t)), (1, .p (.int .i64 k))] = some (.agg [.p (.str t), .p (pI k)]) := Eq.trans (by kernel_rfl) rfl
theorem bs174 (σ : Store) : buildSlice PP none 174 3 [(0, .agg [.p (.str lpstr0), .p (pI 2)]), (1, .agg [.p (.str lpstr1), .p (pI 6)]), (2, .agg [.p (.str lpstr2), .p (pI 7)])] σ = some (IT, σ) := Eq.trans (by kernel_rfl) rfl
theorem lenIT (σ : Store) : len PP 174 IT σ = some (.p (.int .i64 3)) := by simp [len, u174, IT]
theorem ixIT0 : indexAddr PP 174 IT (.p (.int .i64 0)) = some (.pptr ITl 0) := by simp [indexAddr, u174, s173, IT]
theorem ixIT1 : indexAddr PP 174 IT (.p (.int .i64 1)) = some (.pptr ITl 2) := by simp [indexAddr, u174, s173, IT]
theorem ixIT2 : indexAddr PP 174 IT (.p (.int .i64 2)) = some (.pptr ITl 4) := by simp [indexAddr, u174, s173, IT]
theorem ldIT0 (σ : Store) : (loadN σ 2 (.pptr ITl 0)).map DV.agg = some (.agg [.p (.str lpstr0), .p (pI 2)]) := rfl
theorem ldIT1 (σ : Store) : (loadN σ 2 (.pptr ITl 2)).map DV.agg = some (.agg [.p (.str lpstr1), .p (pI 6)]) := rfl
theorem ldIT2 (σ : Store) : (loadN σ 2 (.pptr ITl 4)).map DV.agg = some (.agg [.p (.str lpstr2), .p (pI 7)]) := rfl
theorem st173 {σ : Store} {lo : Nat} {t : ByteArray} {k : Int} (hlo : lo ≤ σ.length) : store PP lo 173 (.ptr σ.length 0) (.agg [.p (.str t), .p (pI k)]) (σ ++ [.mix [.p (.str ⟨#[]⟩), .p (pI 0)]]) = some (σ ++ [.mix [.p (.str t), .p (pI k)]]) := by
  simp [store, s173, DV.cells, storeN, hlo, DV.one, splice]
theorem bld67_k (k v : Int) : build PP 67 [(0, .p (.int .i64 k)), (2, .p (.sl true 1 [.int .i64 v]))] = some (.agg [.p (pI k), .p (pI 0), .p (.sl true 1 [pI v])]) := Eq.trans (by kernel_rfl) rfl
theorem bs67_k (k v : Int) (σ : Store) : buildSlice PP none 23 1 [(0, .agg [.p (pI k), .p (pI 0), .p (.sl true 1 [pI v])])] σ = some (.p (.sl true 1 (eNt ⟨k, 0, some [v]⟩)), σ) := Eq.trans (by kernel_rfl) rfl
theorem bs67_0 (σ : Store) : buildSlice PP none 23 1 [(0, .agg [.p (pI 0), .p (pI 0), .p .nilsl])] σ = some (.p (.sl true 1 (eNt ⟨0, 0, none⟩)), σ) := Eq.trans (by kernel_rfl) rfl
theorem bld67_0 : build PP 67 [] = some (.agg [.p (pI 0), .p (pI 0), .p .nilsl]) := Eq.trans (by kernel_rfl) rfl
theorem Plc.of {s : ByteArray} (hs : s.size ≤ 400) {p : Nat} (hp : p ≤ s.size) : Plc s p ((bs s).drop p) := ⟨hs, hp, rfl⟩
section
variable {σ : Store} {r : Nat} {s : ByteArray} {p : Nat} {b : Int} {fs : List Nd} {fv : DV}
theorem no108 {rem : List Int} (h : Rdr σ r s p b fs fv) (hp : Plc s p rem) {lo : Nat} (hlo : lo ≤ r) :
    ((decide (b = -1) && nxc rem 33) = false → f108_L0 guardT lo (.ptr r 0) IT (.p (.int .i64 3)) (.p (.int .i64 0)) σ = f108_L0 guardT lo (.ptr r 0) IT (.p (.int .i64 3)) (.p (.int .i64 1)) (σ ++ [.mix [.p (.str lpstr0), .p (pI 2)]])) ∧
    ((decide (b = -1) && nxc rem 91) = false → f108_L0 guardT lo (.ptr r 0) IT (.p (.int .i64 3)) (.p (.int .i64 1)) σ = f108_L0 guardT lo (.ptr r 0) IT (.p (.int .i64 3)) (.p (.int .i64 2)) (σ ++ [.mix [.p (.str lpstr1), .p (pI 6)]])) ∧
    ((decide (b = -1) && nxc rem 60) = false → f108_L0 guardT lo (.ptr r 0) IT (.p (.int .i64 3)) (.p (.int .i64 2)) σ = f108_L0 guardT lo (.ptr r 0) IT (.p (.int .i64 3)) (.p (.int .i64 3)) (σ ++ [.mix [.p (.str lpstr2), .p (pI 7)]])) := by
  have hlt := h.lt
  have ld : ∀ (t : ByteArray) (k : Int), load1 (.ptr σ.length 0) (σ ++ [.mix [.p (.str t), .p (pI k)]]) = some (.p (.str t)) := fun t k => load1_ptr get_snoc rfl
  refine ⟨fun hn => ?_, fun hn => ?_, fun hn => ?_⟩
  · have st := st173 (σ := σ) (lo := lo) (t := lpstr0) (k := 2) (by omega)
    have q := S146 (h.snoc (.mix [.p (.str lpstr0), .p (pI 2)])) hp 33
    have ix : index PP 9 (.p (.str lpstr0)) (.p (.int .i64 0)) = some (.p (.int .u8 33)) := Eq.trans (by kernel_rfl) rfl
    have ad : binOp PP .add 3 (.p (.int .i64 0)) (.p (.int .i64 1)) = some (.p (.int .i64 1)) := Eq.trans (by kernel_rfl) rfl
    rw [hn] at q
    rw [f108_L0_eq guardT rfl]
    simp (maxSteps := 1000000) (disch := omega) only [gG, nil_ptr, shift_ptr, shift_pptr, Nat.zero_add, Nat.add_zero, pureFn_fn, List.append_nil, List.singleton_append, List.cons_append, List.nil_append, fa149_0, fa149_1, fa149_2, fa149_3, load9, load3, load23, b_lss, ltT (by decide : (0 : Int) < 3), ixIT0, load173, ldIT0, zero173, st, fa173_0, ld, ix, q, ad]
  · have st := st173 (σ := σ) (lo := lo) (t := lpstr1) (k := 6) (by omega)
    have q := S146 (h.snoc (.mix [.p (.str lpstr1), .p (pI 6)])) hp 91
    have ix : index PP 9 (.p (.str lpstr1)) (.p (.int .i64 0)) = some (.p (.int .u8 91)) := Eq.trans (by kernel_rfl) rfl
    have ad : binOp PP .add 3 (.p (.int .i64 1)) (.p (.int .i64 1)) = some (.p (.int .i64 2)) := Eq.trans (by kernel_rfl) rfl
    rw [hn] at q
    rw [f108_L0_eq guardT rfl]
    simp (maxSteps := 1000000) (disch := omega) only [gG, nil_ptr, shift_ptr, shift_pptr, Nat.zero_add, Nat.add_zero, pureFn_fn, List.append_nil, List.singleton_append, List.cons_append, List.nil_append, fa149_0, fa149_1, fa149_2, fa149_3, load9, load3, load23, b_lss, ltT (by decide : (1 : Int) < 3), ixIT1, load173, ldIT1, zero173, st, fa173_0, ld, ix, q, ad]
  · have st := st173 (σ := σ) (lo := lo) (t := lpstr2) (k := 7) (by omega)
    have q := S146 (h.snoc (.mix [.p (.str lpstr2), .p (pI 7)])) hp 60
    have ix : index PP 9 (.p (.str lpstr2)) (.p (.int .i64 0)) = some (.p (.int .u8 60)) := Eq.trans (by kernel_rfl) rfl
    have ad : binOp PP .add 3 (.p (.int .i64 2)) (.p (.int .i64 1)) = some (.p (.int .i64 3)) := Eq.trans (by kernel_rfl) rfl
    rw [hn] at q
    rw [f108_L0_eq guardT rfl]
    simp (maxSteps := 1000000) (disch := omega) only [gG, nil_ptr, shift_ptr, shift_pptr, Nat.zero_add, Nat.add_zero, pureFn_fn, List.append_nil, List.singleton_append, List.cons_append, List.nil_append, fa149_0, fa149_1, fa149_2, fa149_3, load9, load3, load23, b_lss, ltT (by decide : (2 : Int) < 3), ixIT2, load173, ldIT2, zero173, st, fa173_0, ld, ix, q, ad]
theorem pre108 {lo : Nat} {v : DV} {σ' : Store} (h : f108_L0 guardT lo (.ptr r 0) IT (.p (.int .i64 3)) (.p (.int .i64 0)) σ = some (v, σ')) : CC lo 108 [.ptr r 0] σ = some (v, σ') := by
  refine F108_call ?_
  rw [F108_eq]
  simp only [gG, bld173, bs174, lenIT]
  exact h
def σ3 (σ : Store) : Store := ((σ ++ [.mix [.p (.str lpstr0), .p (pI 2)]]) ++ [.mix [.p (.str lpstr1), .p (pI 6)]]) ++ [.mix [.p (.str lpstr2), .p (pI 7)]]
theorem Kp.s3 (σ : Store) (r : Nat) : Kp σ (σ3 σ) r := (Kp.snoc _ _ _).trans ((Kp.snoc _ _ _).trans (Kp.snoc _ _ _))
theorem Rdr.s3k (h : Rdr σ r s p b fs fv) : Rdr (σ3 σ) r s p b fs fv := ((h.snoc _).snoc _).snoc _
theorem thru108 {rem : List Int} (h : Rdr σ r s p b fs fv) (hp : Plc s p rem) {lo : Nat} (hlo : lo ≤ r) (h1 : (decide (b = -1) && nxc rem 33) = false) (h2 : (decide (b = -1) && nxc rem 91) = false) (h3 : (decide (b = -1) && nxc rem 60) = false) :
    f108_L0 guardT lo (.ptr r 0) IT (.p (.int .i64 3)) (.p (.int .i64 0)) σ = f108_L0 guardT lo (.ptr r 0) IT (.p (.int .i64 3)) (.p (.int .i64 3)) (σ3 σ) := by
  rw [(no108 h hp hlo).1 h1, (no108 (h.snoc _) hp hlo).2.1 h2, (no108 ((h.snoc _).snoc _) hp hlo).2.2 h3]
  rfl
theorem C108b (h : Rdr σ r s p b fs fv) (hs : s.size ≤ 400) (hle : p ≤ s.size) (hb : b ≠ -1) {lo : Nat} (hlo : lo ≤ r) :
    ∃ σ', CC lo 108 [.ptr r 0] σ = some (.p (.int .i64 0), σ') ∧ Kp σ σ' r ∧ Rdr σ' r s p b fs fv := by
  have hp := Plc.of hs hle
  have hf : ∀ c, (decide (b = -1) && nxc ((bs s).drop p) c) = false := fun c => by rw [decide_eq_false hb]; rfl
  have h3 := h.s3k
  obtain ⟨σ', c1, c2, c3⟩ := C109 h3 hlo
  rw [if_neg hb] at c2
  refine ⟨σ', pre108 ?_, (Kp.s3 σ r).trans c3, c2⟩
  rw [thru108 h hp hlo (hf _) (hf _) (hf _), f108_L0_eq guardT rfl]
  have q : ∀ c, pureV CC 146 [.ptr r 0, .p (.int .u8 c)] (σ3 σ) = some (.p (.bool false)) := fun c => by rw [S146 h3 hp c, hf c]
  simp (maxSteps := 1000000) (disch := omega) only [gG, nil_ptr, shift_ptr, shift_pptr, Nat.zero_add, Nat.add_zero, pureFn_fn, List.append_nil, List.singleton_append, List.cons_append, List.nil_append, fa149_0, fa149_1, fa149_2, fa149_3, load9, load3, load23, b_lss, ltF (by decide : ¬ (3 : Int) < 3), q, plainFn, c1]
end
end Go.D
end
/- Chapter 13: the program's reader of formulas: signs with one operand. -/
section
set_option linter.unusedVariables false
set_option linter.unusedSimpArgs false
set_option maxRecDepth 8000
namespace Go.D
open Las
section
variable {σ : Store} {r : Nat} {s : ByteArray} {p : Nat} {fs : List Nd} {fv : DV}
theorem hit108 {k : Nat} (IH : Goes108 s k) {i : Int} {j : Nat} {sb : ByteArray} {kk c : Int} {t' R : List Int} (hi : i < 3) (hx : indexAddr PP 174 IT (.p (.int .i64 i)) = some (.pptr ITl j))
    (hl : ∀ σ, (loadN σ 2 (.pptr ITl j)).map DV.agg = some (.agg [.p (.str sb), .p (pI kk)])) (hb : bs sb = c :: t') (hsz : sb.size ≤ 100) (hix : index PP 9 (.p (.str sb)) (.p (.int .i64 0)) = some (.p (.int .u8 c)))
    (h : Rdr σ r s p (-1) fs fv) (hp : Plc s p (c :: R)) (hk : R.length < k) (hbd : fs.length + R.length + 1 ≤ 900) {lo : Nat} (hlo : lo ≤ r) :
    ∃ v σ', f108_L0 guardT lo (.ptr r 0) IT (.p (.int .i64 3)) (.p (.int .i64 i)) σ = some (.p (.int .i64 v), σ') ∧ Kp σ σ' r ∧ Fn σ' r s (fs.length + R.length + 1) v (aft t' R fun r' => one kk (prs false k r' fs)) := by
  have hlt := h.lt
  have hsm := hp.sm
  have h1 := h.snoc (.mix [.p (.str sb), .p (pI kk)])
  have st := st173 (σ := σ) (lo := lo) (t := sb) (k := kk) (by omega)
  have ld : load1 (.ptr σ.length 0) (σ ++ [.mix [.p (.str sb), .p (pI kk)]]) = some (.p (.str sb)) := load1_ptr get_snoc rfl
  have q := S146 h1 hp c
  have en : nxc (c :: R) c = true := decide_eq_true rfl
  rw [en, decide_eq_true rfl] at q
  obtain ⟨σ2, b1, b2, b3, b4⟩ := C147 h1 hp hlo (t := sb) hsz
  have et : tks (bs sb) (c :: R) = tks t' R := by
    rw [hb]
    show (if c = c then tks t' R else _) = _
    rw [if_pos rfl]
  rw [et] at b3 b4
  have box2 : σ2[σ.length]? = some (.mix [.p (.str sb), .p (pI kk)]) := b2.1 _ _ (by omega) (fun v hv => by cases hv) get_snoc
  have hlen := (tks_len t' R).1
  have kpt := (Kp.snoc σ (.mix [.p (.str sb), .p (pI kk)]) r).trans b2
  -- the end: one more node
  have fin : ∀ (v : Int) (σ3 : Store) (p3 : Nat) (bb : Int) (fs3 : List Nd) (fv3 : DV), CC lo 108 [.ptr r 0] σ2 = some (.p (.int .i64 v), σ3) → Kp σ2 σ3 r → Rdr σ3 r s p3 bb fs3 fv3 → fs3.length ≤ 1000 →
      ∃ σ' fv', f108_L0 guardT lo (.ptr r 0) IT (.p (.int .i64 3)) (.p (.int .i64 i)) σ = some (.p (.int .i64 (fs3.length : Nat)), σ') ∧ Kp σ σ' r ∧ Rdr σ' r s p3 bb (fs3 ++ [⟨kk, 0, some [v]⟩]) fv' := by
    intro v σ3 p3 bb fs3 fv3 d1 d2 d3 d4
    have box3 := d2.1 _ _ (by omega) (fun v hv => by cases hv) box2
    have lk : load1 (.ptr σ.length 1) σ3 = some (.p (.int .i64 kk)) := load1_ptr box3 rfl
    obtain ⟨σ', fv', e1, e2, e3⟩ := C148 d3 hlo d4 (a0 := pI kk) (a1 := pI 0) (a2 := .sl true 1 [pI v]) (x := ⟨kk, 0, some [v]⟩) fun σ => bs67_k kk v σ
    refine ⟨σ', fv', ?_, kpt.trans (d2.trans e2), e3⟩
    rw [f108_L0_eq guardT rfl]
    simp (maxSteps := 1000000) (disch := omega) only [gG, nil_ptr, shift_ptr, shift_pptr, Nat.zero_add, Nat.add_zero, pureFn_fn, List.append_nil, List.singleton_append, List.cons_append, List.nil_append, fa149_0, fa149_1, fa149_2, fa149_3, load9, load3, load23, b_lss, ltT hi, hx, load173, hl, zero173, st, fa173_0, fa173_1, ld, hix, q, Bool.and_self, plainFn, b1, d1, lk, bs24_1, bld67_k, e1]
  unfold aft
  by_cases hok : (tks t' R).1 = true
  · rw [if_pos hok] at b3 ⊢
    dsimp only
    obtain ⟨v, σ3, d1, d2, d3⟩ := IH lo r _ _ fs fv σ2 b3 b4 (by omega) (by omega) hlo
    cases hpr : prs false k (tks t' R).2 fs with
    | err e =>
      rw [hpr] at d3
      obtain ⟨p3, fs3, fv3, f1, f2, f3⟩ := d3
      obtain ⟨σ', fv', g1, g2, g3⟩ := fin v σ3 _ _ _ _ d1 d2 f1 (by omega)
      have res : Fn σ' r s (fs.length + R.length + 1) (fs3.length : Nat) (Prd.err e) := ⟨p3, _, fv', g3, f2, by rw [List.length_append]; show fs3.length + 1 ≤ _; omega⟩
      exact ⟨_, σ', g1, g2, res⟩
    | ok e fs3 =>
      rw [hpr] at d3
      obtain ⟨f1, f2, fv3, f3⟩ := d3
      have ln := prs_ln false k (tks t' R).2 fs
      rw [hpr] at ln
      obtain ⟨n1, n2, n3⟩ := ln
      obtain ⟨σ', fv', g1, g2, g3⟩ := fin v σ3 _ _ _ _ d1 d2 f3 (by omega)
      rw [f1] at g3
      have res : Fn σ' r s (fs.length + R.length + 1) (fs3.length : Nat) (Prd.ok e (fs3 ++ [⟨kk, 0, some [((fs3.length - 1 : Nat) : Int)]⟩])) := by
        refine ⟨?_, f2, fv', g3⟩
        rw [List.length_append]
        show _ = ((fs3.length + 1 - 1 : Nat) : Int)
        omega
      exact ⟨_, σ', g1, g2, res⟩
  · rw [if_neg hok] at b3 ⊢
    obtain ⟨σ3, d1, d2, d3⟩ := C108b b3 hsm (by omega) (by omega) hlo
    obtain ⟨σ', fv', g1, g2, g3⟩ := fin 0 σ3 _ _ _ _ d1 d2 d3 (by omega)
    have res : Fn σ' r s (fs.length + R.length + 1) (fs.length : Nat) (Prd.err (tks t' R).2) := ⟨_, _, fv', g3, by omega, by rw [List.length_append]; show fs.length + 1 ≤ _; omega⟩
    exact ⟨_, σ', g1, g2, res⟩
end
end Go.D
end
/- Equations of functions 8, 45, 47, 48, 49, 50, 100, 101, 102, 106, 107, 144, 145, printed by gen.py. -/
section
set_option linter.unusedVariables false
set_option maxRecDepth 10000
namespace Go.D
open Go.Proofs
noncomputable section
variable (G : GuardT) (lo : Nat) {σ : Store} {r : DV × Store}
open _root_.Go.D.Code (fstC sndC)
open _root_.Go.D.Ann (left right)
def lostr0 : ByteArray := ⟨#[]⟩
def lostr1 : ByteArray := ⟨#[116, 114, 117, 101]⟩
def lostr2 : ByteArray := ⟨#[112]⟩
def lostr3 : ByteArray := ⟨#[33]⟩
def lostr4 : ByteArray := ⟨#[91, 93]⟩
def lostr5 : ByteArray := ⟨#[60, 62]⟩
def lostr6 : ByteArray := ⟨#[40]⟩
def lostr7 : ByteArray := ⟨#[32]⟩
def lostr8 : ByteArray := ⟨#[41]⟩
def lostr9 : ByteArray := ⟨#[38]⟩
def lostr10 : ByteArray := ⟨#[124]⟩
def lostr11 : ByteArray := ⟨#[45, 62]⟩
def lostr12 : ByteArray := ⟨#[126, 62]⟩
def lostr13 : ByteArray := ⟨#[85]⟩
def c8_0 : Code := bodyOf Tryz.f8
def a8_0 : Ann := (pol 8).ann
def c8_60 : Code := sndC (sndC (sndC (sndC (sndC (sndC (sndC (sndC c8_0)))))))
def a8_60 : Ann := right (right (right (right (right (right (right (right a8_0)))))))
def f8_J0_fr (x0 x1 x4 x5 x6 x7 x8 x9 x10 x11 x12 x13 x14 x20 x21 x22 x23 x24 x25 x26 x27 x28 x29 x30 x31 x32 x33 x34 x35 x36 x37 x38 x39 x40 x41 x42 x43 x44 x45 x46 x47 x48 x49 x50 x51 x52 x53 x54 x55 x56 x57 x58 x59 x60 x61 x62 x63 x64 x65 x66 x67 x68 x69 x70 x71 x72 x73 x74 x75 x76 x77 x78 x79 x80 x81 x82 x83 x84 x85 x86 x87 x88 x89 x90 x91 x92 x93 x94 x95 x96 : DV) : Frame := (x0 :: x1 :: Z :: Z :: x4 :: x5 :: x6 :: x7 :: x8 :: x9 :: x10 :: x11 :: x12 :: x13 :: x14 :: zn 5 (x20 :: x21 :: x22 :: x23 :: x24 :: x25 :: x26 :: x27 :: x28 :: x29 :: x30 :: x31 :: x32 :: x33 :: x34 :: x35 :: x36 :: x37 :: x38 :: x39 :: x40 :: x41 :: x42 :: x43 :: x44 :: x45 :: x46 :: x47 :: x48 :: x49 :: x50 :: x51 :: x52 :: x53 :: x54 :: x55 :: x56 :: x57 :: x58 :: x59 :: x60 :: x61 :: x62 :: x63 :: x64 :: x65 :: x66 :: x67 :: x68 :: x69 :: x70 :: x71 :: x72 :: x73 :: x74 :: x75 :: x76 :: x77 :: x78 :: x79 :: x80 :: x81 :: x82 :: x83 :: x84 :: x85 :: x86 :: x87 :: x88 :: x89 :: x90 :: x91 :: x92 :: x93 :: x94 :: x95 :: x96 :: zn 25 []))
def f8_J0 (x0 x1 x4 x5 x6 x7 x8 x9 x10 x11 x12 x13 x14 x20 x21 x22 x23 x24 x25 x26 x27 x28 x29 x30 x31 x32 x33 x34 x35 x36 x37 x38 x39 x40 x41 x42 x43 x44 x45 x46 x47 x48 x49 x50 x51 x52 x53 x54 x55 x56 x57 x58 x59 x60 x61 x62 x63 x64 x65 x66 x67 x68 x69 x70 x71 x72 x73 x74 x75 x76 x77 x78 x79 x80 x81 x82 x83 x84 x85 x86 x87 x88 x89 x90 x91 x92 x93 x94 x95 x96 : DV) (σ : Store) : RS :=
 (seqC G PP (pol 8) CC lo c8_60 a8_60 (finR PP Tryz.f8.results.toList)) .normal (f8_J0_fr x0 x1 x4 x5 x6 x7 x8 x9 x10 x11 x12 x13 x14 x20 x21 x22 x23 x24 x25 x26 x27 x28 x29 x30 x31 x32 x33 x34 x35 x36 x37 x38 x39 x40 x41 x42 x43 x44 x45 x46 x47 x48 x49 x50 x51 x52 x53 x54 x55 x56 x57 x58 x59 x60 x61 x62 x63 x64 x65 x66 x67 x68 x69 x70 x71 x72 x73 x74 x75 x76 x77 x78 x79 x80 x81 x82 x83 x84 x85 x86 x87 x88 x89 x90 x91 x92 x93 x94 x95 x96) σ
def F8 (x0 x1 : DV) (σ : Store) : RS :=
 codeF G PP (pol 8) CC lo c8_0 a8_0 (x0 :: x1 :: zn 120 []) σ (finR PP Tryz.f8.results.toList)
theorem f8_J0_eq (G : GuardT) (lo : Nat) (x0 x1 x4 x5 x6 x7 x8 x9 x10 x11 x12 x13 x14 x20 x21 x22 x23 x24 x25 x26 x27 x28 x29 x30 x31 x32 x33 x34 x35 x36 x37 x38 x39 x40 x41 x42 x43 x44 x45 x46 x47 x48 x49 x50 x51 x52 x53 x54 x55 x56 x57 x58 x59 x60 x61 x62 x63 x64 x65 x66 x67 x68 x69 x70 x71 x72 x73 x74 x75 x76 x77 x78 x79 x80 x81 x82 x83 x84 x85 x86 x87 x88 x89 x90 x91 x92 x93 x94 x95 x96 : DV) (σ : Store) : f8_J0 G lo x0 x1 x4 x5 x6 x7 x8 x9 x10 x11 x12 x13 x14 x20 x21 x22 x23 x24 x25 x26 x27 x28 x29 x30 x31 x32 x33 x34 x35 x36 x37 x38 x39 x40 x41 x42 x43 x44 x45 x46 x47 x48 x49 x50 x51 x52 x53 x54 x55 x56 x57 x58 x59 x60 x61 x62 x63 x64 x65 x66 x67 x68 x69 x70 x71 x72 x73 x74 x75 x76 x77 x78 x79 x80 x81 x82 x83 x84 x85 x86 x87 x88 x89 x90 x91 x92 x93 x94 x95 x96 σ =
 (pureFn CC (DV.fn 48 []) [x1] σ).bind fun x99 =>
 (extractV x99 0).bind fun x100 =>
 (extractV x99 1).bind fun x101 =>
 (extractV x99 2).bind fun x102 =>
 (pureFn CC (DV.fn 50 []) [x1] σ).bind fun x105 =>
 (extractV x105 0).bind fun x106 =>
 (extractV x105 1).bind fun x107 =>
 (extractV x105 2).bind fun x108 =>
 (binOp PP .eql 3 x102 x108).bind fun x111 =>
 G _ x111 true (some (x101, σ)) σ fun x113 σ10 =>
 G _ x111 true (some (x107, σ10)) σ10 fun x114 σ11 =>
 G _ x111 true ((binOp PP .eql 3 x113 x114).bind fun v => some (v, σ11)) σ11 fun x115 σ12 =>
 (pickV x111 x115 (DV.p (PV.bool false))).bind fun x116 =>
 G _ x116 true (some (x100, σ12)) σ12 fun x118 σ13 =>
 G _ x116 true (some (x106, σ13)) σ13 fun x119 σ14 =>
 G _ x116 true ((pureFn CC (DV.fn 49 []) [x118, x119] σ14).bind fun v => some (v, σ14)) σ14 fun x120 σ15 =>
 (pickV x116 x120 (DV.p (PV.bool false))).bind fun x121 =>
 some (x121, σ15) := by kernel_rfl
theorem F8_eq (G : GuardT) (lo : Nat) (x0 x1 : DV) (σ : Store) : F8 G lo x0 x1 σ =
 (pureFn CC (DV.fn 12 []) [] σ).bind fun x20 =>
 (unOp .not x20).bind fun x21 =>
 condK x21
 (
 some ((DV.p (PV.bool false)), σ)
 )
 (
 (pureFn CC (DV.fn 13 []) [x0] σ).bind fun x23 =>
 (unOp .not x23).bind fun x24 =>
 G _ x24 false (some (x1, σ)) σ fun x26 σ1 =>
 G _ x24 false ((len PP 9 x26 σ1).bind fun v => some (v, σ1)) σ1 fun x27 σ2 =>
 G _ x24 false ((binOp PP .gtr 3 x27 (DV.p (PV.int IntKind.i64 (420)))).bind fun v => some (v, σ2)) σ2 fun x28 σ3 =>
 (pickV x24 (DV.p (PV.bool true)) x28).bind fun x29 =>
 condK x29
 (
 some ((DV.p (PV.bool true)), σ3)
 )
 (
 (pureFn CC (DV.fn 19 []) [x0] σ3).bind fun x32 =>
 (pureFn CC (DV.fn 44 []) [x32] σ3).bind fun x33 =>
 (extractV x33 0).bind fun x34 =>
 (extractV x33 1).bind fun x35 =>
 (pureFn CC (DV.fn 19 []) [x0] σ3).bind fun x38 =>
 (pureFn CC (DV.fn 45 []) [x38] σ3).bind fun x39 =>
 (extractV x39 0).bind fun x40 =>
 (extractV x39 1).bind fun x41 =>
 (pureFn CC (DV.fn 46 []) [x0] σ3).bind fun x44 =>
 (extractV x44 0).bind fun x45 =>
 (extractV x44 1).bind fun x46 =>
 (binOp PP .neq 3 x35 x46).bind fun x49 =>
 G _ x49 false (some (x34, σ3)) σ3 fun x51 σ4 =>
 G _ x49 false (some (x45, σ4)) σ4 fun x52 σ5 =>
 G _ x49 false ((binOp PP .neq 3 x51 x52).bind fun v => some (v, σ5)) σ5 fun x53 σ6 =>
 (pickV x49 (DV.p (PV.bool true)) x53).bind fun x54 =>
 G _ x54 false (some (x41, σ6)) σ6 fun x56 σ7 =>
 G _ x54 false (some (x46, σ7)) σ7 fun x57 σ8 =>
 G _ x54 false ((binOp PP .neq 3 x56 x57).bind fun v => some (v, σ8)) σ8 fun x58 σ9 =>
 (pickV x54 (DV.p (PV.bool true)) x58).bind fun x59 =>
 condK x59
 (
 some ((DV.p (PV.bool false)), σ9)
 )
 (
 (binOp PP .neq 3 x46 I0).bind fun x61 =>
 condK x61
 (
 (binOp PP .neq 9 x40 (DV.p (PV.str lostr0))).bind fun x63 =>
 condK x63
 (
 some ((DV.p (PV.bool false)), σ9)
 )
 (
 f8_J0 G lo x0 x1 (DV.p (PV.bool false)) x34 x35 x40 x41 x45 x46 Z Z Z Z x20 x21 x0 x23 x24 x24 x26 x27 x28 x29 x33 x0 x32 x33 x34 x35 x39 x0 x38 x39 x40 x41 x44 x0 x44 x45 x46 x35 x46 x49 x49 x51 x52 x53 x54 x54 x56 x57 x58 x59 x46 x61 x40 x63 Z Z Z Z Z Z Z Z Z Z Z Z Z Z Z Z Z Z Z Z Z Z Z Z Z Z Z Z Z Z Z Z Z σ9
 )
 )
 (
 (len PP 23 x0 σ9).bind fun x66 =>
 (binOp PP .sub 3 x66 I1).bind fun x67 =>
 (pureFn CC (DV.fn 47 []) [x0, x67] σ9).bind fun x68 =>
 (binOp PP .neq 9 x40 x68).bind fun x71 =>
 condK x71
 (
 some ((DV.p (PV.bool false)), σ9)
 )
 (
 (pureFn CC (DV.fn 48 []) [x68] σ9).bind fun x74 =>
 (extractV x74 0).bind fun x75 =>
 (extractV x74 1).bind fun x76 =>
 (extractV x74 2).bind fun x77 =>
 (len PP 9 x68 σ9).bind fun x79 =>
 (binOp PP .leq 3 x79 (DV.p (PV.int IntKind.i64 (400)))).bind fun x80 =>
 G _ x80 true (some (x77, σ9)) σ9 fun x82 σ16 =>
 G _ x80 true ((binOp PP .neq 30 x82 I0).bind fun v => some (v, σ16)) σ16 fun x83 σ17 =>
 G _ x80 true (some (x83, σ17)) σ17 fun x84 σ18 =>
 G _ x84 false (some (x76, σ18)) σ18 fun x85 σ19 =>
 G _ x84 false (some (x68, σ19)) σ19 fun x86 σ20 =>
 G _ x84 false ((len PP 9 x86 σ20).bind fun v => some (v, σ20)) σ20 fun x87 σ21 =>
 G _ x84 false ((binOp PP .neq 3 x85 x87).bind fun v => some (v, σ21)) σ21 fun x88 σ22 =>
 G _ x80 true ((pickV x84 (DV.p (PV.bool true)) x88).bind fun v => some (v, σ22)) σ22 fun x89 σ23 =>
 G _ x80 true (some (x89, σ23)) σ23 fun x90 σ24 =>
 G _ x90 false (some (x75, σ24)) σ24 fun x91 σ25 =>
 G _ x90 false (some (x0, σ25)) σ25 fun x92 σ26 =>
 G _ x90 false ((pureFn CC (DV.fn 49 []) [x91, x92] σ26).bind fun v => some (v, σ26)) σ26 fun x93 σ27 =>
 G _ x90 false ((unOp .not x93).bind fun v => some (v, σ27)) σ27 fun x94 σ28 =>
 G _ x80 true ((pickV x90 (DV.p (PV.bool true)) x94).bind fun v => some (v, σ28)) σ28 fun x95 σ29 =>
 (pickV x80 x95 (DV.p (PV.bool false))).bind fun x96 =>
 condK x96
 (
 some ((DV.p (PV.bool false)), σ29)
 )
 (
 f8_J0 G lo x0 x1 (DV.p (PV.bool false)) x34 x35 x40 x41 x45 x46 x68 x75 x76 x77 x20 x21 x0 x23 x24 x24 x26 x27 x28 x29 x33 x0 x32 x33 x34 x35 x39 x0 x38 x39 x40 x41 x44 x0 x44 x45 x46 x35 x46 x49 x49 x51 x52 x53 x54 x54 x56 x57 x58 x59 x46 x61 Z Z x0 x0 x66 x67 x68 x40 x68 x71 x74 x68 x74 x75 x76 x77 x68 x79 x80 x80 x82 x83 x84 x85 x86 x87 x88 x89 x90 x91 x92 x93 x94 x95 x96 σ29
 )
 )
 )
 )
 )
 ) := by kernel_rfl
theorem F8_call {lo : Nat} {x0 x1 : DV} (h : F8 guardT lo x0 x1 σ = some r) : CC lo 8 [x0, x1] σ = some r :=
 callL_run Tryz.func8 (by decide +kernel) rfl (by decide +kernel) h
def c45_0 : Code := bodyOf Tryz.f45
def a45_0 : Ann := (pol 45).ann
def a45_17 : Ann := right (left (right (right (right a45_0))))
def a45_18 : Ann := left a45_17
def c45_19 : Code := fstC (fstC (sndC (fstC (sndC (sndC (sndC c45_0))))))
def a45_26 : Ann := left (right (right (left a45_18)))
def a45_33 : Ann := right (right (right (left a45_26)))
def c45_55 : Code := sndC (sndC (sndC c45_19))
def a45_55 : Ann := right (right (right (left a45_18)))
def c45_56 : Code := sndC (sndC (sndC (sndC c45_0)))
def a45_56 : Ann := right (right (right (right a45_0)))
def f45_L0 (x5 x14 x15 x16 : DV) (σ : Store) : RS :=
 codeF G PP (pol 45) CC lo (.loop c45_19) a45_18 (zn 5 (x5 :: zn 8 (x14 :: x15 :: x16 :: zn 67 []))) σ
 (blockC 0 a45_17 (seqC G PP (pol 45) CC lo c45_56 a45_56 (finR PP Tryz.f45.results.toList)))
def f45_J0_fr (x5 x7 x8 x14 x15 x16 x17 x18 x19 x20 x21 x22 x23 x24 x25 x26 x27 x28 x29 x30 x31 x32 x33 x34 x35 x36 x37 x38 x39 x40 x41 x42 x43 x44 x45 x46 x47 x48 x49 x50 x51 x52 x53 x54 x55 x56 x57 x58 x59 x60 x61 x62 x63 x64 x65 x66 x67 x68 x69 x70 x71 x72 x73 x74 x75 x76 : DV) : Frame := (zn 5 (x5 :: Z :: x7 :: x8 :: zn 5 (x14 :: x15 :: x16 :: x17 :: x18 :: x19 :: x20 :: x21 :: x22 :: x23 :: x24 :: x25 :: x26 :: x27 :: x28 :: x29 :: x30 :: x31 :: x32 :: x33 :: x34 :: x35 :: x36 :: x37 :: x38 :: x39 :: x40 :: x41 :: x42 :: x43 :: x44 :: x45 :: x46 :: x47 :: x48 :: x49 :: x50 :: x51 :: x52 :: x53 :: x54 :: x55 :: x56 :: x57 :: x58 :: x59 :: x60 :: x61 :: x62 :: x63 :: x64 :: x65 :: x66 :: x67 :: x68 :: x69 :: x70 :: x71 :: x72 :: x73 :: x74 :: x75 :: x76 :: zn 7 [])))
def f45_J0 (x5 x7 x8 x14 x15 x16 x17 x18 x19 x20 x21 x22 x23 x24 x25 x26 x27 x28 x29 x30 x31 x32 x33 x34 x35 x36 x37 x38 x39 x40 x41 x42 x43 x44 x45 x46 x47 x48 x49 x50 x51 x52 x53 x54 x55 x56 x57 x58 x59 x60 x61 x62 x63 x64 x65 x66 x67 x68 x69 x70 x71 x72 x73 x74 x75 x76 : DV) (σ : Store) : RS :=
 (blockC 2 a45_33 (blockC 1 a45_26 (seqC G PP (pol 45) CC lo c45_55 a45_55 (loopC G PP (pol 45) CC lo c45_19 a45_18 (blockC 0 a45_17 (seqC G PP (pol 45) CC lo c45_56 a45_56 (finR PP Tryz.f45.results.toList))))))) .normal (f45_J0_fr x5 x7 x8 x14 x15 x16 x17 x18 x19 x20 x21 x22 x23 x24 x25 x26 x27 x28 x29 x30 x31 x32 x33 x34 x35 x36 x37 x38 x39 x40 x41 x42 x43 x44 x45 x46 x47 x48 x49 x50 x51 x52 x53 x54 x55 x56 x57 x58 x59 x60 x61 x62 x63 x64 x65 x66 x67 x68 x69 x70 x71 x72 x73 x74 x75 x76) σ
def F45 (x0 : DV) (σ : Store) : RS :=
 codeF G PP (pol 45) CC lo c45_0 a45_0 (x0 :: zn 83 []) σ (finR PP Tryz.f45.results.toList)
theorem f45_L0_eq (G : GuardT) (hG : GuardOk G) (lo : Nat) (x5 x14 x15 x16 : DV) (σ : Store) : f45_L0 G lo x5 x14 x15 x16 σ =
 (binOp PP .lss 3 x16 x15).bind fun x17 =>
 condK x17
 (
 (indexAddr PP 23 x14 x16).bind fun x18 =>
 (load PP 67 x18 σ).bind fun x19 =>
 (zeroOf PP 67).bind fun z7 =>
 (store PP lo 67 (DV.ptr (List.length σ) 0) x19 (σ ++ [Row.mix z7])).bind fun σ1 =>
 (fieldAddr PP 67 (DV.ptr (List.length σ) 0) 0).bind fun x21 =>
 (load PP 3 x21 σ1).bind fun x22 =>
 (binOp PP .eql 3 x22 I0).bind fun x40 =>
 condK x40
 (
 (load PP 143 x5 σ1).bind fun x41 =>
 (buildSlice PP none 143 1 [(0, (DV.p (PV.str lostr1)))] σ1).bind fun r42_2 =>
 (append PP lo false 143 143 x41 r42_2.1 r42_2.2).bind fun r43_3 =>
 (store PP lo 143 x5 r43_3.1 r43_3.2).bind fun σ4 =>
 f45_J0 G lo x5 (DV.ptr (List.length σ) 0) (DV.fn 100 [x5, (DV.ptr (List.length σ) 0)]) x14 x15 x16 x17 x18 x19 (DV.fn 100 [x5, (DV.ptr (List.length σ) 0)]) x21 x22 Z Z Z Z Z Z Z Z Z Z Z Z Z Z Z Z x40 x40 x41 r42_2.1 r43_3.1 Z Z Z Z Z Z Z Z Z Z Z Z Z Z Z Z Z Z Z Z Z Z Z Z Z Z Z Z Z Z Z Z Z σ4
 )
 (
 (binOp PP .eql 3 x22 I1).bind fun x45 =>
 condK x45
 (
 (load PP 143 x5 σ1).bind fun x46 =>
 (fieldAddr PP 67 (DV.ptr (List.length σ) 0) 1).bind fun x47 =>
 (load PP 3 x47 σ1).bind fun x48 =>
 (pureFn CC (DV.fn 101 []) [x48] σ1).bind fun x49 =>
 (binOp PP .add 9 (DV.p (PV.str lostr2)) x49).bind fun x50 =>
 (buildSlice PP none 143 1 [(0, x50)] σ1).bind fun r51_5 =>
 (append PP lo false 143 143 x46 r51_5.1 r51_5.2).bind fun r52_6 =>
 (store PP lo 143 x5 r52_6.1 r52_6.2).bind fun σ7 =>
 f45_J0 G lo x5 (DV.ptr (List.length σ) 0) (DV.fn 100 [x5, (DV.ptr (List.length σ) 0)]) x14 x15 x16 x17 x18 x19 (DV.fn 100 [x5, (DV.ptr (List.length σ) 0)]) x21 x22 Z Z Z Z Z Z Z Z Z Z Z Z Z Z Z Z x40 x40 Z Z Z x45 x45 x46 x47 x48 x49 x50 r51_5.1 r52_6.1 Z Z Z Z Z Z Z Z Z Z Z Z Z Z Z Z Z Z Z Z Z Z Z Z σ7
 )
 (
 (binOp PP .eql 3 x22 (DV.p (PV.int IntKind.i64 (2)))).bind fun x54 =>
 condK x54
 (
 (load PP 143 x5 σ1).bind fun x55 =>
 (pureFn CC (DV.fn 100 [x5, (DV.ptr (List.length σ) 0)]) [I0] σ1).bind fun x57 =>
 (binOp PP .add 9 (DV.p (PV.str lostr3)) x57).bind fun x58 =>
 (buildSlice PP none 143 1 [(0, x58)] σ1).bind fun r59_8 =>
 (append PP lo false 143 143 x55 r59_8.1 r59_8.2).bind fun r60_9 =>
 (store PP lo 143 x5 r60_9.1 r60_9.2).bind fun σ10 =>
 f45_J0 G lo x5 (DV.ptr (List.length σ) 0) (DV.fn 100 [x5, (DV.ptr (List.length σ) 0)]) x14 x15 x16 x17 x18 x19 (DV.fn 100 [x5, (DV.ptr (List.length σ) 0)]) x21 x22 Z Z Z Z Z Z Z Z Z Z Z Z Z Z Z Z x40 x40 Z Z Z x45 x45 Z Z Z Z Z Z Z x54 x54 x55 (DV.fn 100 [x5, (DV.ptr (List.length σ) 0)]) x57 x58 r59_8.1 r60_9.1 Z Z Z Z Z Z Z Z Z Z Z Z Z Z Z Z σ10
 )
 (
 (binOp PP .eql 3 x22 (DV.p (PV.int IntKind.i64 (6)))).bind fun x62 =>
 condK x62
 (
 (load PP 143 x5 σ1).bind fun x63 =>
 (pureFn CC (DV.fn 100 [x5, (DV.ptr (List.length σ) 0)]) [I0] σ1).bind fun x65 =>
 (binOp PP .add 9 (DV.p (PV.str lostr4)) x65).bind fun x66 =>
 (buildSlice PP none 143 1 [(0, x66)] σ1).bind fun r67_11 =>
 (append PP lo false 143 143 x63 r67_11.1 r67_11.2).bind fun r68_12 =>
 (store PP lo 143 x5 r68_12.1 r68_12.2).bind fun σ13 =>
 f45_J0 G lo x5 (DV.ptr (List.length σ) 0) (DV.fn 100 [x5, (DV.ptr (List.length σ) 0)]) x14 x15 x16 x17 x18 x19 (DV.fn 100 [x5, (DV.ptr (List.length σ) 0)]) x21 x22 Z Z Z Z Z Z Z Z Z Z Z Z Z Z Z Z x40 x40 Z Z Z x45 x45 Z Z Z Z Z Z Z x54 x54 Z Z Z Z Z Z x62 x62 x63 (DV.fn 100 [x5, (DV.ptr (List.length σ) 0)]) x65 x66 r67_11.1 r68_12.1 Z Z Z Z Z Z Z Z σ13
 )
 (
 (binOp PP .eql 3 x22 (DV.p (PV.int IntKind.i64 (7)))).bind fun x70 =>
 condK x70
 (
 (load PP 143 x5 σ1).bind fun x71 =>
 (pureFn CC (DV.fn 100 [x5, (DV.ptr (List.length σ) 0)]) [I0] σ1).bind fun x73 =>
 (binOp PP .add 9 (DV.p (PV.str lostr5)) x73).bind fun x74 =>
 (buildSlice PP none 143 1 [(0, x74)] σ1).bind fun r75_14 =>
 (append PP lo false 143 143 x71 r75_14.1 r75_14.2).bind fun r76_15 =>
 (store PP lo 143 x5 r76_15.1 r76_15.2).bind fun σ16 =>
 f45_J0 G lo x5 (DV.ptr (List.length σ) 0) (DV.fn 100 [x5, (DV.ptr (List.length σ) 0)]) x14 x15 x16 x17 x18 x19 (DV.fn 100 [x5, (DV.ptr (List.length σ) 0)]) x21 x22 Z Z Z Z Z Z Z Z Z Z Z Z Z Z Z Z x40 x40 Z Z Z x45 x45 Z Z Z Z Z Z Z x54 x54 Z Z Z Z Z Z x62 x62 Z Z Z Z Z Z x70 x70 x71 (DV.fn 100 [x5, (DV.ptr (List.length σ) 0)]) x73 x74 r75_14.1 r76_15.1 σ16
 )
 (
 (load PP 143 x5 σ1).bind fun x23 =>
 (pureFn CC (DV.fn 100 [x5, (DV.ptr (List.length σ) 0)]) [I0] σ1).bind fun x25 =>
 (binOp PP .add 9 (DV.p (PV.str lostr6)) x25).bind fun x26 =>
 (binOp PP .add 9 x26 (DV.p (PV.str lostr7))).bind fun x27 =>
 (fieldAddr PP 67 (DV.ptr (List.length σ) 0) 0).bind fun x28 =>
 (load PP 3 x28 σ1).bind fun x29 =>
 (pureFn CC (DV.fn 102 []) [x29] σ1).bind fun x30 =>
 (binOp PP .add 9 x27 x30).bind fun x31 =>
 (binOp PP .add 9 x31 (DV.p (PV.str lostr7))).bind fun x32 =>
 (pureFn CC (DV.fn 100 [x5, (DV.ptr (List.length σ) 0)]) [I1] σ1).bind fun x34 =>
 (binOp PP .add 9 x32 x34).bind fun x35 =>
 (binOp PP .add 9 x35 (DV.p (PV.str lostr8))).bind fun x36 =>
 (buildSlice PP none 143 1 [(0, x36)] σ1).bind fun r37_17 =>
 (append PP lo false 143 143 x23 r37_17.1 r37_17.2).bind fun r38_18 =>
 (store PP lo 143 x5 r38_18.1 r38_18.2).bind fun σ19 =>
 f45_J0 G lo x5 (DV.ptr (List.length σ) 0) (DV.fn 100 [x5, (DV.ptr (List.length σ) 0)]) x14 x15 x16 x17 x18 x19 (DV.fn 100 [x5, (DV.ptr (List.length σ) 0)]) x21 x22 x23 (DV.fn 100 [x5, (DV.ptr (List.length σ) 0)]) x25 x26 x27 x28 x29 x30 x31 x32 (DV.fn 100 [x5, (DV.ptr (List.length σ) 0)]) x34 x35 x36 r37_17.1 r38_18.1 x40 x40 Z Z Z x45 x45 Z Z Z Z Z Z Z x54 x54 Z Z Z Z Z Z x62 x62 Z Z Z Z Z Z x70 x70 Z Z Z Z Z Z σ19
 )
 )
 )
 )
 )
 )
 (
 (load PP 143 x5 σ).bind fun x78 =>
 (load PP 143 x5 σ).bind fun x79 =>
 (len PP 143 x79 σ).bind fun x80 =>
 (binOp PP .sub 3 x80 I1).bind fun x81 =>
 (indexAddr PP 143 x78 x81).bind fun x82 =>
 (load PP 9 x82 σ).bind fun x83 =>
 some ((DV.tuple [x83, I0]), σ)
 ) := (loopF_eq G hG).trans (by kernel_rfl)
theorem f45_J0_eq (G : GuardT) (lo : Nat) (x5 x7 x8 x14 x15 x16 x17 x18 x19 x20 x21 x22 x23 x24 x25 x26 x27 x28 x29 x30 x31 x32 x33 x34 x35 x36 x37 x38 x39 x40 x41 x42 x43 x44 x45 x46 x47 x48 x49 x50 x51 x52 x53 x54 x55 x56 x57 x58 x59 x60 x61 x62 x63 x64 x65 x66 x67 x68 x69 x70 x71 x72 x73 x74 x75 x76 : DV) (σ : Store) : f45_J0 G lo x5 x7 x8 x14 x15 x16 x17 x18 x19 x20 x21 x22 x23 x24 x25 x26 x27 x28 x29 x30 x31 x32 x33 x34 x35 x36 x37 x38 x39 x40 x41 x42 x43 x44 x45 x46 x47 x48 x49 x50 x51 x52 x53 x54 x55 x56 x57 x58 x59 x60 x61 x62 x63 x64 x65 x66 x67 x68 x69 x70 x71 x72 x73 x74 x75 x76 σ =
 (binOp PP .add 3 x16 I1).bind fun x77 =>
 f45_L0 G lo x5 x14 x15 x77 σ := by kernel_rfl
theorem F45_eq (G : GuardT) (lo : Nat) (x0 : DV) (σ : Store) : F45 G lo x0 σ =
 (pureFn CC (DV.fn 70 []) [x0] σ).bind fun x10 =>
 (binOp PP .neq 30 x10 I0).bind fun x12 =>
 condK x12
 (
 some ((DV.tuple [(DV.p (PV.str lostr0)), x10]), σ)
 )
 (
 (zeroOf PP 143).bind fun z5 =>
 (len PP 23 x0 (σ ++ [Row.mix z5])).bind fun x15 =>
 f45_L0 G lo (DV.ptr (List.length σ) 0) x0 x15 I0 (σ ++ [Row.mix z5])
 ) := by kernel_rfl
theorem F45_call {lo : Nat} {x0 : DV} (h : F45 guardT lo x0 σ = some r) : CC lo 45 [x0] σ = some r :=
 callL_run Tryz.func45 (by decide +kernel) rfl (by decide +kernel) h
def c47_0 : Code := bodyOf Tryz.f47
def a47_0 : Ann := (pol 47).ann
def F47 (x0 x1 : DV) (σ : Store) : RS :=
 codeF G PP (pol 47) CC lo c47_0 a47_0 (x0 :: x1 :: zn 66 []) σ (finR PP Tryz.f47.results.toList)
theorem F47_eq (G : GuardT) (lo : Nat) (x0 x1 : DV) (σ : Store) : F47 G lo x0 x1 σ =
 (indexAddr PP 23 x0 x1).bind fun x8 =>
 (load PP 67 x8 σ).bind fun x9 =>
 (zeroOf PP 67).bind fun z5 =>
 (store PP lo 67 (DV.ptr (List.length σ) 0) x9 (σ ++ [Row.mix z5])).bind fun σ1 =>
 (fieldAddr PP 67 (DV.ptr (List.length σ) 0) 0).bind fun x10 =>
 (load PP 3 x10 σ1).bind fun x11 =>
 (binOp PP .eql 3 x11 I0).bind fun x13 =>
 condK x13
 (
 some ((DV.p (PV.str lostr1)), σ1)
 )
 (
 (binOp PP .eql 3 x11 I1).bind fun x15 =>
 condK x15
 (
 (fieldAddr PP 67 (DV.ptr (List.length σ) 0) 1).bind fun x16 =>
 (load PP 3 x16 σ1).bind fun x17 =>
 (pureFn CC (DV.fn 106 []) [x17] σ1).bind fun x18 =>
 (binOp PP .add 9 (DV.p (PV.str lostr2)) x18).bind fun x19 =>
 some (x19, σ1)
 )
 (
 (binOp PP .eql 3 x11 (DV.p (PV.int IntKind.i64 (2)))).bind fun x21 =>
 condK x21
 (
 (fieldAddr PP 67 (DV.ptr (List.length σ) 0) 2).bind fun x23 =>
 (load PP 24 x23 σ1).bind fun x24 =>
 (indexAddr PP 24 x24 I0).bind fun x25 =>
 (load PP 3 x25 σ1).bind fun x26 =>
 (pureFn CC (DV.fn 47 []) [x0, x26] σ1).bind fun x27 =>
 (binOp PP .add 9 (DV.p (PV.str lostr3)) x27).bind fun x28 =>
 some (x28, σ1)
 )
 (
 (binOp PP .eql 3 x11 (DV.p (PV.int IntKind.i64 (6)))).bind fun x30 =>
 condK x30
 (
 (fieldAddr PP 67 (DV.ptr (List.length σ) 0) 2).bind fun x32 =>
 (load PP 24 x32 σ1).bind fun x33 =>
 (indexAddr PP 24 x33 I0).bind fun x34 =>
 (load PP 3 x34 σ1).bind fun x35 =>
 (pureFn CC (DV.fn 47 []) [x0, x35] σ1).bind fun x36 =>
 (binOp PP .add 9 (DV.p (PV.str lostr4)) x36).bind fun x37 =>
 some (x37, σ1)
 )
 (
 (binOp PP .eql 3 x11 (DV.p (PV.int IntKind.i64 (7)))).bind fun x39 =>
 condK x39
 (
 (fieldAddr PP 67 (DV.ptr (List.length σ) 0) 2).bind fun x41 =>
 (load PP 24 x41 σ1).bind fun x42 =>
 (indexAddr PP 24 x42 I0).bind fun x43 =>
 (load PP 3 x43 σ1).bind fun x44 =>
 (pureFn CC (DV.fn 47 []) [x0, x44] σ1).bind fun x45 =>
 (binOp PP .add 9 (DV.p (PV.str lostr5)) x45).bind fun x46 =>
 some (x46, σ1)
 )
 (
 (fieldAddr PP 67 (DV.ptr (List.length σ) 0) 2).bind fun x48 =>
 (load PP 24 x48 σ1).bind fun x49 =>
 (indexAddr PP 24 x49 I0).bind fun x50 =>
 (load PP 3 x50 σ1).bind fun x51 =>
 (pureFn CC (DV.fn 47 []) [x0, x51] σ1).bind fun x52 =>
 (binOp PP .add 9 (DV.p (PV.str lostr6)) x52).bind fun x53 =>
 (binOp PP .add 9 x53 (DV.p (PV.str lostr7))).bind fun x54 =>
 (fieldAddr PP 67 (DV.ptr (List.length σ) 0) 0).bind fun x55 =>
 (load PP 3 x55 σ1).bind fun x56 =>
 (pureFn CC (DV.fn 107 []) [x56] σ1).bind fun x57 =>
 (binOp PP .add 9 x54 x57).bind fun x58 =>
 (binOp PP .add 9 x58 (DV.p (PV.str lostr7))).bind fun x59 =>
 (fieldAddr PP 67 (DV.ptr (List.length σ) 0) 2).bind fun x61 =>
 (load PP 24 x61 σ1).bind fun x62 =>
 (indexAddr PP 24 x62 I1).bind fun x63 =>
 (load PP 3 x63 σ1).bind fun x64 =>
 (pureFn CC (DV.fn 47 []) [x0, x64] σ1).bind fun x65 =>
 (binOp PP .add 9 x59 x65).bind fun x66 =>
 (binOp PP .add 9 x66 (DV.p (PV.str lostr8))).bind fun x67 =>
 some (x67, σ1)
 )
 )
 )
 )
 ) := by kernel_rfl
theorem F47_call {lo : Nat} {x0 x1 : DV} (h : F47 guardT lo x0 x1 σ = some r) : CC lo 47 [x0, x1] σ = some r :=
 callL_run Tryz.func47 (by decide +kernel) rfl (by decide +kernel) h
def c48_0 : Code := bodyOf Tryz.f48
def a48_0 : Ann := (pol 48).ann
def c48_20 : Code := sndC (sndC (sndC (sndC (sndC c48_0))))
def a48_20 : Ann := right (right (right (right (right a48_0))))
def f48_J0_fr (x0 x2 x3 x4 x5 x7 x8 x9 x10 x11 x12 x13 x14 x15 x16 x17 x18 x19 x20 x21 x22 x23 : DV) : Frame := (x0 :: Z :: x2 :: x3 :: x4 :: x5 :: Z :: x7 :: x8 :: x9 :: x10 :: x11 :: x12 :: x13 :: x14 :: x15 :: x16 :: x17 :: x18 :: x19 :: x20 :: x21 :: x22 :: x23 :: zn 23 [])
def f48_J0 (x0 x2 x3 x4 x5 x7 x8 x9 x10 x11 x12 x13 x14 x15 x16 x17 x18 x19 x20 x21 x22 x23 : DV) (σ : Store) : RS :=
 (seqC G PP (pol 48) CC lo c48_20 a48_20 (finR PP Tryz.f48.results.toList)) .normal (f48_J0_fr x0 x2 x3 x4 x5 x7 x8 x9 x10 x11 x12 x13 x14 x15 x16 x17 x18 x19 x20 x21 x22 x23) σ
def F48 (x0 : DV) (σ : Store) : RS :=
 codeF G PP (pol 48) CC lo c48_0 a48_0 (x0 :: zn 46 []) σ (finR PP Tryz.f48.results.toList)
theorem f48_J0_eq (G : GuardT) (lo : Nat) (x0 x2 x3 x4 x5 x7 x8 x9 x10 x11 x12 x13 x14 x15 x16 x17 x18 x19 x20 x21 x22 x23 : DV) (σ : Store) : f48_J0 G lo x0 x2 x3 x4 x5 x7 x8 x9 x10 x11 x12 x13 x14 x15 x16 x17 x18 x19 x20 x21 x22 x23 σ =
 (nilCheckV x5).bind fun x25 =>
 (fieldAddr PP 149 x25 2).bind fun x26 =>
 (load PP 3 x26 σ).bind fun x27 =>
 (binOp PP .neq 3 x27 (DV.p (PV.int IntKind.i64 (-1)))).bind fun x28 =>
 condK x28
 (
 (nilCheckV x5).bind fun x30 =>
 (fieldAddr PP 149 x30 2).bind fun x31 =>
 (load PP 3 x31 σ).bind fun x32 =>
 some ((DV.tuple [(DV.p PV.nilsl), x32, (DV.p (PV.int IntKind.i64 (8)))]), σ)
 )
 (
 (nilCheckV x5).bind fun x34 =>
 (fieldAddr PP 149 x34 3).bind fun x35 =>
 (load PP 23 x35 σ).bind fun x36 =>
 (pureFn CC (DV.fn 70 []) [x36] σ).bind fun x37 =>
 (binOp PP .neq 30 x37 I0).bind fun x39 =>
 condK x39
 (
 some ((DV.tuple [(DV.p PV.nilsl), I0, x37]), σ)
 )
 (
 (nilCheckV x5).bind fun x42 =>
 (fieldAddr PP 149 x42 3).bind fun x43 =>
 (load PP 23 x43 σ).bind fun x44 =>
 (len PP 9 x0 σ).bind fun x46 =>
 some ((DV.tuple [x44, x46, I0]), σ)
 )
 ) := by kernel_rfl
theorem F48_eq (G : GuardT) (lo : Nat) (x0 : DV) (σ : Store) : F48 G lo x0 σ =
 (len PP 9 x0 σ).bind fun x8 =>
 (binOp PP .gtr 3 x8 (DV.p (PV.int IntKind.i64 (400)))).bind fun x9 =>
 condK x9
 (
 some ((DV.tuple [(DV.p PV.nilsl), I0, (DV.p (PV.int IntKind.i64 (2)))]), σ)
 )
 (
 (build PP 149 [(0, x0), (2, (DV.p (PV.int IntKind.i64 (-1))))]).bind fun x11 =>
 (boxV x11).bind fun z12 =>
 (plainFn CC lo (DV.fn 108 []) [(DV.ptr (List.length σ) 0)] (σ ++ [Row.mix z12])).bind fun r14_1 =>
 (nilCheckV (DV.ptr (List.length σ) 0)).bind fun x16 =>
 (fieldAddr PP 149 x16 1).bind fun x17 =>
 (load PP 3 x17 r14_1.2).bind fun x18 =>
 (len PP 9 x0 r14_1.2).bind fun x20 =>
 (binOp PP .lss 3 x18 x20).bind fun x21 =>
 condK x21
 (
 (plainFn CC lo (DV.fn 109 []) [(DV.ptr (List.length σ) 0)] r14_1.2).bind fun r23_2 =>
 f48_J0 G lo x0 (DV.p PV.nilsl) I0 I0 (DV.ptr (List.length σ) 0) x0 x8 x9 x0 x11 (DV.ptr (List.length σ) 0) (DV.ptr (List.length σ) 0) r14_1.1 (DV.ptr (List.length σ) 0) x16 x17 x18 x0 x20 x21 (DV.ptr (List.length σ) 0) r23_2.1 r23_2.2
 )
 (
 f48_J0 G lo x0 (DV.p PV.nilsl) I0 I0 (DV.ptr (List.length σ) 0) x0 x8 x9 x0 x11 (DV.ptr (List.length σ) 0) (DV.ptr (List.length σ) 0) r14_1.1 (DV.ptr (List.length σ) 0) x16 x17 x18 x0 x20 x21 Z Z r14_1.2
 )
 ) := by kernel_rfl
theorem F48_call {lo : Nat} {x0 : DV} (h : F48 guardT lo x0 σ = some r) : CC lo 48 [x0] σ = some r :=
 callL_run Tryz.func48 (by decide +kernel) rfl (by decide +kernel) h
def c49_0 : Code := bodyOf Tryz.f49
def a49_0 : Ann := (pol 49).ann
def a49_13 : Ann := right (left (right (right a49_0)))
def a49_14 : Ann := left a49_13
def c49_15 : Code := fstC (fstC (sndC (fstC (sndC (sndC c49_0)))))
def c49_31 : Code := sndC (sndC (sndC c49_0))
def a49_31 : Ann := right (right (right a49_0))
def f49_L0 (x0 x1 x5 : DV) (σ : Store) : RS :=
 codeF G PP (pol 49) CC lo (.loop c49_15) a49_14 (x0 :: x1 :: Z :: Z :: Z :: x5 :: zn 49 []) σ
 (blockC 0 a49_13 (seqC G PP (pol 49) CC lo c49_31 a49_31 (finR PP Tryz.f49.results.toList)))
def F49 (x0 x1 : DV) (σ : Store) : RS :=
 codeF G PP (pol 49) CC lo c49_0 a49_0 (x0 :: x1 :: zn 53 []) σ (finR PP Tryz.f49.results.toList)
theorem f49_L0_eq (G : GuardT) (hG : GuardOk G) (lo : Nat) (x0 x1 x5 : DV) (σ : Store) : f49_L0 G lo x0 x1 x5 σ =
 (len PP 23 x0 σ).bind fun x13 =>
 (binOp PP .lss 3 x5 x13).bind fun x14 =>
 condK x14
 (
 (indexAddr PP 23 x0 x5).bind fun x19 =>
 (fieldAddr PP 67 x19 0).bind fun x20 =>
 (load PP 3 x20 σ).bind fun x21 =>
 (indexAddr PP 23 x1 x5).bind fun x24 =>
 (fieldAddr PP 67 x24 0).bind fun x25 =>
 (load PP 3 x25 σ).bind fun x26 =>
 (binOp PP .neq 3 x21 x26).bind fun x27 =>
 G _ x27 false (some (x0, σ)) σ fun x29 σ1 =>
 G _ x27 false (some (x5, σ1)) σ1 fun x30 σ2 =>
 G _ x27 false ((indexAddr PP 23 x29 x30).bind fun v => some (v, σ2)) σ2 fun x31 σ3 =>
 G _ x27 false ((fieldAddr PP 67 x31 1).bind fun v => some (v, σ3)) σ3 fun x32 σ4 =>
 G _ x27 false ((load PP 3 x32 σ4).bind fun v => some (v, σ4)) σ4 fun x33 σ5 =>
 G _ x27 false (some (x1, σ5)) σ5 fun x34 σ6 =>
 G _ x27 false (some (x5, σ6)) σ6 fun x35 σ7 =>
 G _ x27 false ((indexAddr PP 23 x34 x35).bind fun v => some (v, σ7)) σ7 fun x36 σ8 =>
 G _ x27 false ((fieldAddr PP 67 x36 1).bind fun v => some (v, σ8)) σ8 fun x37 σ9 =>
 G _ x27 false ((load PP 3 x37 σ9).bind fun v => some (v, σ9)) σ9 fun x38 σ10 =>
 G _ x27 false ((binOp PP .neq 3 x33 x38).bind fun v => some (v, σ10)) σ10 fun x39 σ11 =>
 (pickV x27 (DV.p (PV.bool true)) x39).bind fun x40 =>
 G _ x40 false (some (x0, σ11)) σ11 fun x42 σ12 =>
 G _ x40 false (some (x5, σ12)) σ12 fun x43 σ13 =>
 G _ x40 false ((indexAddr PP 23 x42 x43).bind fun v => some (v, σ13)) σ13 fun x44 σ14 =>
 G _ x40 false ((fieldAddr PP 67 x44 2).bind fun v => some (v, σ14)) σ14 fun x45 σ15 =>
 G _ x40 false ((load PP 24 x45 σ15).bind fun v => some (v, σ15)) σ15 fun x46 σ16 =>
 G _ x40 false (some (x1, σ16)) σ16 fun x47 σ17 =>
 G _ x40 false (some (x5, σ17)) σ17 fun x48 σ18 =>
 G _ x40 false ((indexAddr PP 23 x47 x48).bind fun v => some (v, σ18)) σ18 fun x49 σ19 =>
 G _ x40 false ((fieldAddr PP 67 x49 2).bind fun v => some (v, σ19)) σ19 fun x50 σ20 =>
 G _ x40 false ((load PP 24 x50 σ20).bind fun v => some (v, σ20)) σ20 fun x51 σ21 =>
 G _ x40 false ((pureFn CC (DV.fn 80 []) [x46, x51] σ21).bind fun v => some (v, σ21)) σ21 fun x52 σ22 =>
 G _ x40 false ((unOp .not x52).bind fun v => some (v, σ22)) σ22 fun x53 σ23 =>
 (pickV x40 (DV.p (PV.bool true)) x53).bind fun x54 =>
 condK x54
 (
 some ((DV.p (PV.bool false)), σ23)
 )
 (
 (binOp PP .add 3 x5 I1).bind fun x16 =>
 f49_L0 G lo x0 x1 x16 σ23
 )
 )
 (
 some ((DV.p (PV.bool true)), σ)
 ) := (loopF_eq G hG).trans (by kernel_rfl)
theorem F49_eq (G : GuardT) (lo : Nat) (x0 x1 : DV) (σ : Store) : F49 G lo x0 x1 σ =
 (len PP 23 x0 σ).bind fun x7 =>
 (len PP 23 x1 σ).bind fun x9 =>
 (binOp PP .neq 3 x7 x9).bind fun x10 =>
 condK x10
 (
 some ((DV.p (PV.bool false)), σ)
 )
 (
 f49_L0 G lo x0 x1 I0 σ
 ) := by kernel_rfl
theorem F49_call {lo : Nat} {x0 x1 : DV} (h : F49 guardT lo x0 x1 σ = some r) : CC lo 49 [x0, x1] σ = some r :=
 callL_run Tryz.func49 (by decide +kernel) rfl (by decide +kernel) h
def c50_0 : Code := bodyOf Tryz.f50
def a50_0 : Ann := (pol 50).ann
def c50_20 : Code := sndC (sndC (sndC (sndC (sndC c50_0))))
def a50_20 : Ann := right (right (right (right (right a50_0))))
def f50_J0_fr (x0 x2 x3 x4 x5 x7 x8 x9 x10 x11 x12 x13 x14 x15 x16 x17 x18 x19 x20 x21 x22 x23 x24 x25 x26 x27 x28 x29 x30 : DV) : Frame := (x0 :: Z :: x2 :: x3 :: x4 :: x5 :: Z :: x7 :: x8 :: x9 :: x10 :: x11 :: x12 :: x13 :: x14 :: x15 :: x16 :: x17 :: x18 :: x19 :: x20 :: x21 :: x22 :: x23 :: x24 :: x25 :: x26 :: x27 :: x28 :: x29 :: x30 :: zn 23 [])
def f50_J0 (x0 x2 x3 x4 x5 x7 x8 x9 x10 x11 x12 x13 x14 x15 x16 x17 x18 x19 x20 x21 x22 x23 x24 x25 x26 x27 x28 x29 x30 : DV) (σ : Store) : RS :=
 (seqC G PP (pol 50) CC lo c50_20 a50_20 (finR PP Tryz.f50.results.toList)) .normal (f50_J0_fr x0 x2 x3 x4 x5 x7 x8 x9 x10 x11 x12 x13 x14 x15 x16 x17 x18 x19 x20 x21 x22 x23 x24 x25 x26 x27 x28 x29 x30) σ
def F50 (x0 : DV) (σ : Store) : RS :=
 codeF G PP (pol 50) CC lo c50_0 a50_0 (x0 :: zn 53 []) σ (finR PP Tryz.f50.results.toList)
theorem f50_J0_eq (G : GuardT) (lo : Nat) (x0 x2 x3 x4 x5 x7 x8 x9 x10 x11 x12 x13 x14 x15 x16 x17 x18 x19 x20 x21 x22 x23 x24 x25 x26 x27 x28 x29 x30 : DV) (σ : Store) : f50_J0 G lo x0 x2 x3 x4 x5 x7 x8 x9 x10 x11 x12 x13 x14 x15 x16 x17 x18 x19 x20 x21 x22 x23 x24 x25 x26 x27 x28 x29 x30 σ =
 (nilCheckV x5).bind fun x32 =>
 (fieldAddr PP 153 x32 2).bind fun x33 =>
 (load PP 3 x33 σ).bind fun x34 =>
 (binOp PP .neq 3 x34 (DV.p (PV.int IntKind.i64 (-1)))).bind fun x35 =>
 condK x35
 (
 (nilCheckV x5).bind fun x37 =>
 (fieldAddr PP 153 x37 2).bind fun x38 =>
 (load PP 3 x38 σ).bind fun x39 =>
 some ((DV.tuple [(DV.p PV.nilsl), x39, (DV.p (PV.int IntKind.i64 (8)))]), σ)
 )
 (
 (nilCheckV x5).bind fun x41 =>
 (fieldAddr PP 153 x41 3).bind fun x42 =>
 (load PP 23 x42 σ).bind fun x43 =>
 (pureFn CC (DV.fn 25 []) [x43] σ).bind fun x44 =>
 (binOp PP .neq 3 x44 I0).bind fun x46 =>
 condK x46
 (
 some ((DV.tuple [(DV.p PV.nilsl), I0, x44]), σ)
 )
 (
 (nilCheckV x5).bind fun x49 =>
 (fieldAddr PP 153 x49 3).bind fun x50 =>
 (load PP 23 x50 σ).bind fun x51 =>
 (len PP 9 x0 σ).bind fun x53 =>
 some ((DV.tuple [x51, x53, I0]), σ)
 )
 ) := by kernel_rfl
theorem F50_eq (G : GuardT) (lo : Nat) (x0 : DV) (σ : Store) : F50 G lo x0 σ =
 (len PP 9 x0 σ).bind fun x8 =>
 (binOp PP .gtr 3 x8 (DV.p (PV.int IntKind.i64 (400)))).bind fun x9 =>
 condK x9
 (
 some ((DV.tuple [(DV.p PV.nilsl), I0, (DV.p (PV.int IntKind.i64 (2)))]), σ)
 )
 (
 (build PP 153 [(0, x0), (2, (DV.p (PV.int IntKind.i64 (-1))))]).bind fun x11 =>
 (boxV x11).bind fun z12 =>
 (plainFn CC lo (DV.fn 110 []) [(DV.ptr (List.length σ) 0)] (σ ++ [Row.mix z12])).bind fun r14_1 =>
 (nilCheckV (DV.ptr (List.length σ) 0)).bind fun x16 =>
 (fieldAddr PP 153 x16 2).bind fun x17 =>
 (load PP 3 x17 r14_1.2).bind fun x18 =>
 (binOp PP .eql 3 x18 (DV.p (PV.int IntKind.i64 (-1)))).bind fun x19 =>
 G _ x19 true (some ((DV.ptr (List.length σ) 0), r14_1.2)) r14_1.2 fun x21 σ2 =>
 G _ x19 true ((nilCheckV x21).bind fun v => some (v, σ2)) σ2 fun x22 σ3 =>
 G _ x19 true ((fieldAddr PP 153 x22 1).bind fun v => some (v, σ3)) σ3 fun x23 σ4 =>
 G _ x19 true ((load PP 3 x23 σ4).bind fun v => some (v, σ4)) σ4 fun x24 σ5 =>
 G _ x19 true (some (x0, σ5)) σ5 fun x25 σ6 =>
 G _ x19 true ((len PP 9 x25 σ6).bind fun v => some (v, σ6)) σ6 fun x26 σ7 =>
 G _ x19 true ((binOp PP .lss 3 x24 x26).bind fun v => some (v, σ7)) σ7 fun x27 σ8 =>
 (pickV x19 x27 (DV.p (PV.bool false))).bind fun x28 =>
 condK x28
 (
 (plainFn CC lo (DV.fn 111 []) [(DV.ptr (List.length σ) 0)] σ8).bind fun r30_9 =>
 f50_J0 G lo x0 (DV.p PV.nilsl) I0 I0 (DV.ptr (List.length σ) 0) x0 x8 x9 x0 x11 (DV.ptr (List.length σ) 0) (DV.ptr (List.length σ) 0) r14_1.1 (DV.ptr (List.length σ) 0) x16 x17 x18 x19 x19 x21 x22 x23 x24 x25 x26 x27 x28 (DV.ptr (List.length σ) 0) r30_9.1 r30_9.2
 )
 (
 f50_J0 G lo x0 (DV.p PV.nilsl) I0 I0 (DV.ptr (List.length σ) 0) x0 x8 x9 x0 x11 (DV.ptr (List.length σ) 0) (DV.ptr (List.length σ) 0) r14_1.1 (DV.ptr (List.length σ) 0) x16 x17 x18 x19 x19 x21 x22 x23 x24 x25 x26 x27 x28 Z Z σ8
 )
 ) := by kernel_rfl
theorem F50_call {lo : Nat} {x0 : DV} (h : F50 guardT lo x0 σ = some r) : CC lo 50 [x0] σ = some r :=
 callL_run Tryz.func50 (by decide +kernel) rfl (by decide +kernel) h
def c100_0 : Code := bodyOf Tryz.f100
def a100_0 : Ann := (pol 100).ann
def F100 (x0 x1 x2 : DV) (σ : Store) : RS :=
 codeF G PP (pol 100) CC lo c100_0 a100_0 (x0 :: x1 :: x2 :: zn 10 []) σ (finR PP Tryz.f100.results.toList)
theorem F100_eq (G : GuardT) (lo : Nat) (x0 x1 x2 : DV) (σ : Store) : F100 G lo x0 x1 x2 σ =
 (load PP 143 x1 σ).bind fun x5 =>
 (fieldAddr PP 67 x2 2).bind fun x6 =>
 (load PP 24 x6 σ).bind fun x7 =>
 (indexAddr PP 24 x7 x0).bind fun x9 =>
 (load PP 3 x9 σ).bind fun x10 =>
 (indexAddr PP 143 x5 x10).bind fun x11 =>
 (load PP 9 x11 σ).bind fun x12 =>
 some (x12, σ) := by kernel_rfl
theorem F100_call {lo : Nat} {x0 x1 x2 : DV} (h : F100 guardT lo x0 x1 x2 σ = some r) : CC lo 100 [x0, x1, x2] σ = some r :=
 callL_run Tryz.func100 (by decide +kernel) rfl (by decide +kernel) h
def c102_0 : Code := bodyOf Tryz.f102
def a102_0 : Ann := (pol 102).ann
def F102 (x0 : DV) (σ : Store) : RS :=
 codeF G PP (pol 102) CC lo c102_0 a102_0 (x0 :: zn 11 []) σ (finR PP Tryz.f102.results.toList)
theorem F102_eq (G : GuardT) (lo : Nat) (x0 : DV) (σ : Store) : F102 G lo x0 σ =
 (binOp PP .eql 3 x0 (DV.p (PV.int IntKind.i64 (3)))).bind fun x5 =>
 condK x5
 (
 some ((DV.p (PV.str lostr9)), σ)
 )
 (
 (binOp PP .eql 3 x0 (DV.p (PV.int IntKind.i64 (4)))).bind fun x7 =>
 condK x7
 (
 some ((DV.p (PV.str lostr10)), σ)
 )
 (
 (binOp PP .eql 3 x0 (DV.p (PV.int IntKind.i64 (5)))).bind fun x9 =>
 condK x9
 (
 some ((DV.p (PV.str lostr11)), σ)
 )
 (
 (binOp PP .eql 3 x0 (DV.p (PV.int IntKind.i64 (8)))).bind fun x11 =>
 condK x11
 (
 some ((DV.p (PV.str lostr12)), σ)
 )
 (
 some ((DV.p (PV.str lostr13)), σ)
 )
 )
 )
 ) := by kernel_rfl
theorem F102_call {lo : Nat} {x0 : DV} (h : F102 guardT lo x0 σ = some r) : CC lo 102 [x0] σ = some r :=
 callL_run Tryz.func102 (by decide +kernel) rfl (by decide +kernel) h
def c107_0 : Code := bodyOf Tryz.f107
def a107_0 : Ann := (pol 107).ann
def F107 (x0 : DV) (σ : Store) : RS :=
 codeF G PP (pol 107) CC lo c107_0 a107_0 (x0 :: zn 11 []) σ (finR PP Tryz.f107.results.toList)
theorem F107_eq (G : GuardT) (lo : Nat) (x0 : DV) (σ : Store) : F107 G lo x0 σ =
 (binOp PP .eql 3 x0 (DV.p (PV.int IntKind.i64 (3)))).bind fun x5 =>
 condK x5
 (
 some ((DV.p (PV.str lostr9)), σ)
 )
 (
 (binOp PP .eql 3 x0 (DV.p (PV.int IntKind.i64 (4)))).bind fun x7 =>
 condK x7
 (
 some ((DV.p (PV.str lostr10)), σ)
 )
 (
 (binOp PP .eql 3 x0 (DV.p (PV.int IntKind.i64 (5)))).bind fun x9 =>
 condK x9
 (
 some ((DV.p (PV.str lostr11)), σ)
 )
 (
 (binOp PP .eql 3 x0 (DV.p (PV.int IntKind.i64 (8)))).bind fun x11 =>
 condK x11
 (
 some ((DV.p (PV.str lostr12)), σ)
 )
 (
 some ((DV.p (PV.str lostr13)), σ)
 )
 )
 )
 ) := by kernel_rfl
theorem F107_call {lo : Nat} {x0 : DV} (h : F107 guardT lo x0 σ = some r) : CC lo 107 [x0] σ = some r :=
 callL_run Tryz.func107 (by decide +kernel) rfl (by decide +kernel) h
end
end Go.D
end
/- Chapter 13: the program's reader of formulas: formulas with two operands, pieces. -/
section
set_option linter.unusedVariables false
set_option linter.unusedSimpArgs false
set_option maxRecDepth 8000
namespace Go.D
open Las
def sgB (k : Int) : ByteArray := if k = 3 then lostr9 else if k = 4 then lostr10 else if k = 5 then lostr11 else if k = 8 then lostr12 else lostr13
theorem bs_sgB (k : Int) : bs (sgB k) = sg k := by
  unfold sgB sg
  split
  · decide
  split
  · decide
  split
  · decide
  split
  · decide
  · decide
theorem S102 (k : Int) (σ : Store) : pureV CC 102 [.p (.int .i64 k)] σ = some (.p (.str (sgB k))) := by
  refine pureV_free rfl rfl (F102_call (r := (.p (.str (sgB k)), [])) ?_) rfl
  rw [F102_eq]
  unfold sgB
  by_cases h3 : k = 3
  · simp only [b_eql, eqT h3, gG, if_pos h3]
  by_cases h4 : k = 4
  · simp only [b_eql, eqF h3, eqT h4, gG, if_neg h3, if_pos h4]
  by_cases h5 : k = 5
  · simp only [b_eql, eqF h3, eqF h4, eqT h5, gG, if_neg h3, if_neg h4, if_pos h5]
  by_cases h8 : k = 8
  · simp only [b_eql, eqF h3, eqF h4, eqF h5, eqT h8, gG, if_neg h3, if_neg h4, if_neg h5, if_pos h8]
  · simp only [b_eql, eqF h3, eqF h4, eqF h5, eqF h8, gG, if_neg h3, if_neg h4, if_neg h5, if_neg h8]
def KLl : List PV := [pI 3, pI 4, pI 5, pI 8]
def KL : DV := .p (.sl true 4 KLl)
theorem bs24_K (σ : Store) : buildSlice PP none 24 4 [(0, .p (.int .i64 3)), (1, .p (.int .i64 4)), (2, .p (.int .i64 5)), (3, .p (.int .i64 8))] σ = some (KL, σ) := Eq.trans (by kernel_rfl) rfl
theorem lenKL (σ : Store) : len PP 24 KL σ = some (.p (.int .i64 4)) := by simp [len, u24, KL]
theorem ixKL {i : Nat} (h : i < 4) : indexAddr PP 24 KL (.p (.int .i64 (i : Nat))) = some (.pptr KLl i) := by
  have : ((i : Nat) : Int) < 4 := by omega
  simp [indexAddr, u24, s3, KL, this]
theorem stp150 {σ : Store} {lo r : Nat} {a : DV} {kd k c : Int} {m : Bool} {i : Nat} (hi : i < 4) (hl : load1 (.pptr KLl i) σ = some (.p (.int .i64 k))) (hc : index PP 9 (.p (.str (sgB k))) (.p (.int .i64 0)) = some (.p (.int .u8 c)))
    (q : pureV CC 146 [.ptr r 0, .p (.int .u8 c)] σ = some (.p (.bool m))) :
    f150_L0 guardT lo (.ptr r 0) a (.p (.int .i64 kd)) KL (.p (.int .i64 4)) (.p (.int .i64 (i : Nat))) σ = f150_L0 guardT lo (.ptr r 0) a (.p (.int .i64 (if m = true then k else kd))) KL (.p (.int .i64 4)) (.p (.int .i64 ((i + 1 : Nat) : Int))) σ := by
  have hlt : ((i : Nat) : Int) < 4 := by omega
  have ix := ixKL hi
  conv => lhs; rw [f150_L0_eq guardT rfl]
  cases m with
  | true => simp (maxSteps := 1000000) (disch := omega) only [gG, nil_ptr, shift_ptr, shift_pptr, Nat.zero_add, Nat.add_zero, pureFn_fn, List.append_nil, List.singleton_append, List.cons_append, List.nil_append, fa149_0, fa149_1, fa149_2, fa149_3, load9, load3, load23, b_lss, ltT hlt, ix, hl, S102, hc, q, f150_J0_eq, add1, if_true]
  | false => simp (maxSteps := 1000000) (disch := omega) only [gG, nil_ptr, shift_ptr, shift_pptr, Nat.zero_add, Nat.add_zero, pureFn_fn, List.append_nil, List.singleton_append, List.cons_append, List.nil_append, fa149_0, fa149_1, fa149_2, fa149_3, load9, load3, load23, b_lss, ltT hlt, ix, hl, S102, hc, q, f150_J0_eq, add1, Bool.false_eq_true, if_false]
def kdv (m : Int → Bool) : Int := if m 126 = true then 8 else if m 45 = true then 5 else if m 124 = true then 4 else if m 38 = true then 3 else 9
theorem loop150 {σ : Store} {lo r : Nat} {a : DV} {m : Int → Bool} (q : ∀ c, pureV CC 146 [.ptr r 0, .p (.int .u8 c)] σ = some (.p (.bool (m c)))) :
    f150_L0 guardT lo (.ptr r 0) a (.p (.int .i64 9)) KL (.p (.int .i64 4)) (.p (.int .i64 0)) σ = f150_L0 guardT lo (.ptr r 0) a (.p (.int .i64 (kdv m))) KL (.p (.int .i64 4)) (.p (.int .i64 4)) σ := by
  have z0 : (.p (.int .i64 0) : DV) = .p (.int .i64 ((0 : Nat) : Int)) := rfl
  rw [z0, stp150 (i := 0) (k := 3) (c := 38) (by decide) rfl (Eq.trans (by kernel_rfl) rfl) (q 38)]
  rw [stp150 (i := 0 + 1) (k := 4) (c := 124) (by decide) rfl (Eq.trans (by kernel_rfl) rfl) (q 124)]
  rw [stp150 (i := 0 + 1 + 1) (k := 5) (c := 45) (by decide) rfl (Eq.trans (by kernel_rfl) rfl) (q 45)]
  rw [stp150 (i := 0 + 1 + 1 + 1) (k := 8) (c := 126) (by decide) rfl (Eq.trans (by kernel_rfl) rfl) (q 126)]
  rfl
theorem bld67_2 (k a b : Int) : build PP 67 [(0, .p (.int .i64 k)), (2, .p (.sl true 2 [.int .i64 a, .int .i64 b]))] = some (.agg [.p (pI k), .p (pI 0), .p (.sl true 2 [pI a, pI b])]) := Eq.trans (by kernel_rfl) rfl
theorem bs67_2 (k a b : Int) (σ : Store) : buildSlice PP none 23 1 [(0, .agg [.p (pI k), .p (pI 0), .p (.sl true 2 [pI a, pI b])])] σ = some (.p (.sl true 1 (eNt ⟨k, 0, some [a, b]⟩)), σ) := Eq.trans (by kernel_rfl) rfl
theorem bs24_2i (a b : Int) (σ : Store) : buildSlice PP none 24 2 [(0, .p (.int .i64 a)), (1, .p (.int .i64 b))] σ = some (.p (.sl true 2 [.int .i64 a, .int .i64 b]), σ) := Eq.trans (by kernel_rfl) rfl
theorem sz_sgB (k : Int) : (sgB k ++ lpstr6).size ≤ 3 ∧ 0 < (sgB k ++ lpstr6).size ∧ (sgB k).size + lpstr6.size ≤ 140737488355328 := by
  unfold sgB
  split
  · decide
  split
  · decide
  split
  · decide
  split
  · decide
  · decide
theorem bs_sg6 (k : Int) : bs (sgB k ++ lpstr6) = sg k ++ [32] := by
  rw [bs_app, bs_sgB]; rfl
theorem ev150 {σ σ1 σ2 σ3 σ4 : Store} {lo r : Nat} {a kd v n : Int} (c1 : CC lo 147 [.ptr r 0, .p (.str (sgB kd ++ lpstr6))] σ = some (.tuple [], σ1)) (c2 : CC lo 108 [.ptr r 0] σ1 = some (.p (.int .i64 v), σ2))
    (c3 : CC lo 147 [.ptr r 0, .p (.str lpstr7)] σ2 = some (.tuple [], σ3)) (c4 : CC lo 148 [.ptr r 0, .agg [.p (pI kd), .p (pI 0), .p (.sl true 2 [pI a, pI v])]] σ3 = some (.p (.int .i64 n), σ4)) :
    f150_L0 guardT lo (.ptr r 0) (.p (.int .i64 a)) (.p (.int .i64 kd)) KL (.p (.int .i64 4)) (.p (.int .i64 4)) σ = some (.p (.int .i64 n), σ4) := by
  have ad := str_add (sz_sgB kd).2.2
  rw [f150_L0_eq guardT rfl]
  simp (maxSteps := 1000000) (disch := omega) only [gG, nil_ptr, shift_ptr, shift_pptr, Nat.zero_add, Nat.add_zero, pureFn_fn, List.append_nil, List.singleton_append, List.cons_append, List.nil_append, fa149_0, fa149_1, fa149_2, fa149_3, load9, load3, load23, b_lss, ltF (by decide : ¬ (4 : Int) < 4), S102, ad, plainFn, c1, c2, c3, bs24_2i, bld67_2, c4]
end Go.D
end
/- Chapter 13: the program's reader of formulas: formulas with two operands; all of it. -/
section
set_option linter.unusedVariables false
set_option linter.unusedSimpArgs false
set_option maxRecDepth 8000
namespace Go.D
open Las
theorem nxc_cons (x : Int) (R : List Int) (c : Int) : nxc (x :: R) c = decide (x = c) := rfl
theorem kdv_sgn {R : List Int} : (∀ k, sgn R = some k → kdv (nxc R) = k) ∧ (sgn R = none → kdv (nxc R) = 9 ∧ tks (sg 9 ++ [32]) R = (false, R)) := by
  cases R with
  | nil => exact ⟨fun k h => absurd h (by simp [sgn]), fun _ => ⟨rfl, rfl⟩⟩
  | cons x R =>
    have e : sgn (x :: R) = if x = 38 then some 3 else if x = 124 then some 4 else if x = 45 then some 5 else if x = 126 then some 8 else if x = 85 then some 9 else none := rfl
    rw [e]
    unfold kdv
    simp only [nxc_cons, decide_eq_true_eq]
    by_cases h1 : x = 38
    · subst h1; exact ⟨fun k h => by simpa using h, fun h => absurd h (by simp)⟩
    by_cases h2 : x = 124
    · subst h2; exact ⟨fun k h => by simpa using h, fun h => absurd h (by simp)⟩
    by_cases h3 : x = 45
    · subst h3; exact ⟨fun k h => by simpa using h, fun h => absurd h (by simp)⟩
    by_cases h4 : x = 126
    · subst h4; exact ⟨fun k h => by simpa using h, fun h => absurd h (by simp)⟩
    by_cases h5 : x = 85
    · subst h5; exact ⟨fun k h => by simpa using h, fun h => absurd h (by simp)⟩
    · rw [if_neg h1, if_neg h2, if_neg h3, if_neg h4, if_neg h5, if_neg h4, if_neg h3, if_neg h2, if_neg h1]
      refine ⟨fun k h => absurd h (by simp), fun _ => ⟨rfl, ?_⟩⟩
      show (if x = 85 then _ else _) = _
      rw [if_neg h5]
section
variable {σ : Store} {r : Nat} {s : ByteArray} {p : Nat} {b : Int} {fs : List Nd} {fv : DV}
theorem tb150 (h : Rdr σ r s p b fs fv) (hs : s.size ≤ 400) (hle : p ≤ s.size) (hb : b ≠ -1) (hn : fs.length ≤ 1000) {lo : Nat} (hlo : lo ≤ r) (a kd : Int) :
    ∃ n σ' fv' x, f150_L0 guardT lo (.ptr r 0) (.p (.int .i64 a)) (.p (.int .i64 kd)) KL (.p (.int .i64 4)) (.p (.int .i64 4)) σ = some (.p (.int .i64 n), σ') ∧ Kp σ σ' r ∧ Rdr σ' r s p b (fs ++ [x]) fv' := by
  obtain ⟨σ1, a1, a2, a3⟩ := C147b h (Plc.of hs hle) hb hlo (sz_sgB kd).2.1
  obtain ⟨σ2, b1, b2, b3⟩ := C108b a3 hs hle hb hlo
  obtain ⟨σ3, c1, c2, c3⟩ := C147b b3 (Plc.of hs hle) hb hlo (t := lpstr7) (by decide)
  obtain ⟨σ4, fv', d1, d2, d3⟩ := C148 c3 hlo hn (x := ⟨kd, 0, some [a, 0]⟩) fun σ => bs67_2 kd a 0 σ
  exact ⟨_, σ4, fv', _, ev150 a1 b1 c1 d1, a2.trans (b2.trans (c2.trans d2)), d3⟩
theorem tb150_0 (h : Rdr σ r s p b fs fv) (hs : s.size ≤ 400) (hle : p ≤ s.size) (hb : b ≠ -1) (hn : fs.length ≤ 1000) {lo : Nat} (hlo : lo ≤ r) (a : Int) :
    ∃ n σ' fv' x, f150_L0 guardT lo (.ptr r 0) (.p (.int .i64 a)) (.p (.int .i64 9)) KL (.p (.int .i64 4)) (.p (.int .i64 0)) σ = some (.p (.int .i64 n), σ') ∧ Kp σ σ' r ∧ Rdr σ' r s p b (fs ++ [x]) fv' := by
  obtain ⟨n, σ', fv', x, h1, h2, h3⟩ := tb150 h hs hle hb hn hlo a (kdv fun c => decide (b = -1) && nxc ((bs s).drop p) c)
  exact ⟨n, σ', fv', x, (loop150 fun c => S146 h (Plc.of hs hle) c).trans h1, h2, h3⟩
theorem pre150 {σ1 σ2 σ3 : Store} {lo : Nat} {a : Int} {v : DV × Store} (c1 : CC lo 147 [.ptr r 0, .p (.str lpstr5)] σ = some (.tuple [], σ1)) (c2 : CC lo 108 [.ptr r 0] σ1 = some (.p (.int .i64 a), σ2))
    (c3 : CC lo 147 [.ptr r 0, .p (.str lpstr6)] σ2 = some (.tuple [], σ3)) (h : f150_L0 guardT lo (.ptr r 0) (.p (.int .i64 a)) (.p (.int .i64 9)) KL (.p (.int .i64 4)) (.p (.int .i64 0)) σ3 = some v) : CC lo 150 [.ptr r 0] σ = some v := by
  refine F150_call ?_
  rw [F150_eq]
  simp only [shift_ptr, shift_pptr, Nat.zero_add, Nat.add_zero, pureFn_fn, List.append_nil, List.singleton_append, List.cons_append, List.nil_append, plainFn, gG, c1, c2, c3, bs24_K, lenKL]
  exact h
theorem C150 {k : Nat} (IH : Goes108 s k) {R : List Int} (h : Rdr σ r s p (-1) fs fv) (hp : Plc s p (40 :: R)) (hk : R.length < k) (hbd : fs.length + R.length + 1 ≤ 900) {lo : Nat} (hlo : lo ≤ r) :
    ∃ v σ', CC lo 150 [.ptr r 0] σ = some (.p (.int .i64 v), σ') ∧ Kp σ σ' r ∧ Fn σ' r s (fs.length + R.length + 1) v (bnd (prs false k R fs) fun r1 f1 => aft [32] r1 fun r2 => match sgn r2 with
      | none => .err r2
      | some kd => aft (sg kd ++ [32]) r2 fun r3 => bnd (prs false k r3 f1) fun r4 f2 => aft [41] r4 fun r5 => .ok r5 (f2 ++ [⟨kd, 0, some [((f1.length - 1 : Nat) : Int), ((f2.length - 1 : Nat) : Int)]⟩])) := by
  have hsm := hp.sm
  have e5 : bs lpstr5 = [40] := by decide
  have e6 : bs lpstr6 = [32] := by decide
  have e7 : bs lpstr7 = [41] := by decide
  obtain ⟨σ1, a1, a2, a3, a4⟩ := C147 h hp hlo (t := lpstr5) (by decide)
  have ek : tks (bs lpstr5) (40 :: R) = (true, R) := by rw [e5]; rfl
  rw [ek] at a3 a4
  rw [if_pos rfl] at a3
  obtain ⟨va, σ2, b1, b2, b3⟩ := IH lo r _ R fs fv σ1 a3 a4 hk (by omega) hlo
  have ln := prs_ln false k R fs
  cases hpr : prs false k R fs with
  | err e =>
    rw [hpr] at b3
    obtain ⟨p3, fs3, fv3, f1, f2, f3⟩ := b3
    obtain ⟨σ3, c1, c2, c3⟩ := C147b f1 (Plc.of hsm f2) (by omega) hlo (t := lpstr6) (by decide)
    obtain ⟨n, σ4, fv4, x, d1, d2, d3⟩ := tb150_0 c3 hsm f2 (by omega) (by omega) hlo va
    have res : Fn σ4 r s (fs.length + R.length + 1) n (.err e) := ⟨p3, _, fv4, d3, f2, by rw [List.length_append]; show fs3.length + 1 ≤ _; omega⟩
    exact ⟨n, σ4, pre150 a1 b1 c1 d1, a2.trans (b2.trans (c2.trans d2)), res⟩
  | ok r1 f1 =>
    rw [hpr] at b3 ln
    obtain ⟨g1, g2, fv2, g3⟩ := b3
    obtain ⟨n1, n2, n3⟩ := ln
    rw [bnd_ok]
    obtain ⟨σ3, c1, c2, c3, c4⟩ := C147 g3 g2 hlo (t := lpstr6) (by decide)
    rw [e6] at c3 c4
    unfold aft
    have hl1 := (tks_len [32] r1).1
    by_cases hk1 : (tks [32] r1).1 = true
    · rw [if_pos hk1] at c3 ⊢
      dsimp only
      generalize hr2 : (tks [32] r1).2 = r2 at *
      have q := fun c => S146 c3 c4 c
      have lp := loop150 (a := .p (.int .i64 va)) (lo := lo) q
      have em : (fun c => decide ((-1 : Int) = -1) && nxc r2 c) = nxc r2 := by funext c; simp
      rw [em] at lp
      obtain ⟨sg1, sg2⟩ := kdv_sgn (R := r2)
      cases hs2 : sgn r2 with
      | none =>
        obtain ⟨m1, m2⟩ := sg2 hs2
        obtain ⟨σ4, d1, d2, d3, d4⟩ := C147 c3 c4 hlo (t := sgB 9 ++ lpstr6) (by have := (sz_sgB 9).1; omega)
        rw [bs_sg6, m2] at d3 d4
        rw [if_neg (by simp)] at d3
        obtain ⟨σ5, h1, h2, h3⟩ := C108b d3 hsm d4.le (by omega) hlo
        obtain ⟨σ6, i1, i2, i3⟩ := C147b h3 d4 (by omega) hlo (t := lpstr7) (by decide)
        obtain ⟨σ7, fv7, j1, j2, j3⟩ := C148 i3 hlo (by omega) (x := ⟨9, 0, some [va, 0]⟩) fun σ => bs67_2 9 va 0 σ
        rw [m1] at lp
        have res : Fn σ7 r s (fs.length + R.length + 1) (f1.length : Nat) (.err r2) := ⟨_, _, fv7, j3, d4.le, by rw [List.length_append]; show f1.length + 1 ≤ _; omega⟩
        exact ⟨_, σ7, pre150 a1 b1 c1 (lp.trans (ev150 d1 h1 i1 j1)), a2.trans (b2.trans (c2.trans (d2.trans (h2.trans (i2.trans j2))))), res⟩
      | some kd =>
        dsimp only
        have m1 := sg1 kd hs2
        rw [m1] at lp
        obtain ⟨σ4, d1, d2, d3, d4⟩ := C147 c3 c4 hlo (t := sgB kd ++ lpstr6) (by have := (sz_sgB kd).1; omega)
        rw [bs_sg6] at d3 d4
        have hl2 := (tks_len (sg kd ++ [32]) r2).1
        by_cases hk2 : (tks (sg kd ++ [32]) r2).1 = true
        · rw [if_pos hk2] at d3 ⊢
          generalize hr3 : (tks (sg kd ++ [32]) r2).2 = r3 at *
          obtain ⟨vb, σ5, h1, h2, h3⟩ := IH lo r _ r3 f1 fv2 σ4 d3 d4 (by omega) (by omega) hlo
          have ln2 := prs_ln false k r3 f1
          cases hp2 : prs false k r3 f1 with
          | err e =>
            rw [hp2] at h3
            obtain ⟨p5, fs5, fv5, o1, o2, o3⟩ := h3
            obtain ⟨σ6, i1, i2, i3⟩ := C147b o1 (Plc.of hsm o2) (by omega) hlo (t := lpstr7) (by decide)
            obtain ⟨σ7, fv7, j1, j2, j3⟩ := C148 i3 hlo (by omega) (x := ⟨kd, 0, some [va, vb]⟩) fun σ => bs67_2 kd va vb σ
            have res : Fn σ7 r s (fs.length + R.length + 1) (fs5.length : Nat) (.err e) := ⟨_, _, fv7, j3, o2, by rw [List.length_append]; show fs5.length + 1 ≤ _; omega⟩
            exact ⟨_, σ7, pre150 a1 b1 c1 (lp.trans (ev150 d1 h1 i1 j1)), a2.trans (b2.trans (c2.trans (d2.trans (h2.trans (i2.trans j2))))), res⟩
          | ok r4 f2 =>
            rw [hp2] at h3 ln2
            obtain ⟨o1, o2, fv5, o3⟩ := h3
            obtain ⟨w1, w2, w3⟩ := ln2
            rw [bnd_ok]
            obtain ⟨σ6, i1, i2, i3, i4⟩ := C147 o3 o2 hlo (t := lpstr7) (by decide)
            rw [e7] at i3 i4
            obtain ⟨σ7, fv7, j1, j2, j3⟩ := C148 i3 hlo (by omega) (x := ⟨kd, 0, some [va, vb]⟩) fun σ => bs67_2 kd va vb σ
            have fin := pre150 a1 b1 c1 (lp.trans (ev150 d1 h1 i1 j1))
            have kpt := a2.trans (b2.trans (c2.trans (d2.trans (h2.trans (i2.trans j2)))))
            by_cases hk3 : (tks [41] r4).1 = true
            · rw [if_pos hk3] at j3 ⊢
              have res : Fn σ7 r s (fs.length + R.length + 1) (f2.length : Nat) (.ok (tks [41] r4).2 (f2 ++ [⟨kd, 0, some [((f1.length - 1 : Nat) : Int), ((f2.length - 1 : Nat) : Int)]⟩])) := by
                rw [g1, o1] at j3
                refine ⟨?_, i4, fv7, j3⟩
                rw [List.length_append]
                show _ = ((f2.length + 1 - 1 : Nat) : Int)
                omega
              exact ⟨_, σ7, fin, kpt, res⟩
            · rw [if_neg hk3] at j3 ⊢
              have res : Fn σ7 r s (fs.length + R.length + 1) (f2.length : Nat) (.err (tks [41] r4).2) := ⟨_, _, fv7, j3, i4.le, by rw [List.length_append]; show f2.length + 1 ≤ _; omega⟩
              exact ⟨_, σ7, fin, kpt, res⟩
        · rw [if_neg hk2] at d3 ⊢
          obtain ⟨n, σ7, fv7, x, j1, j2, j3⟩ : ∃ n σ7 fv7 x, f150_L0 guardT lo (.ptr r 0) (.p (.int .i64 va)) (.p (.int .i64 kd)) KL (.p (.int .i64 4)) (.p (.int .i64 4)) σ3 = some (.p (.int .i64 n), σ7) ∧ Kp σ3 σ7 r ∧ Rdr σ7 r s (s.size - (tks (sg kd ++ [32]) r2).2.length) ((s.size - (tks (sg kd ++ [32]) r2).2.length : Nat) : Int) (f1 ++ [x]) fv7 := by
            obtain ⟨σ5, h1, h2, h3⟩ := C108b d3 hsm d4.le (by omega) hlo
            obtain ⟨σ6, i1, i2, i3⟩ := C147b h3 d4 (by omega) hlo (t := lpstr7) (by decide)
            obtain ⟨σ7, fv7, j1, j2, j3⟩ := C148 i3 hlo (by omega) (x := ⟨kd, 0, some [va, 0]⟩) fun σ => bs67_2 kd va 0 σ
            exact ⟨_, σ7, fv7, _, ev150 d1 h1 i1 j1, d2.trans (h2.trans (i2.trans j2)), j3⟩
          have res : Fn σ7 r s (fs.length + R.length + 1) n (.err (tks (sg kd ++ [32]) r2).2) := ⟨_, _, fv7, j3, d4.le, by rw [List.length_append]; show f1.length + 1 ≤ _; omega⟩
          exact ⟨n, σ7, pre150 a1 b1 c1 (lp.trans j1), a2.trans (b2.trans (c2.trans j2)), res⟩
    · rw [if_neg hk1] at c3 ⊢
      obtain ⟨n, σ4, fv4, x, d1, d2, d3⟩ := tb150_0 c3 hsm c4.le (by omega) (by omega) hlo va
      have res : Fn σ4 r s (fs.length + R.length + 1) n (.err (tks [32] r1).2) := ⟨_, _, fv4, d3, c4.le, by rw [List.length_append]; show f1.length + 1 ≤ _; omega⟩
      exact ⟨n, σ4, pre150 a1 b1 c1 d1, a2.trans (b2.trans (c2.trans d2)), res⟩
end
end Go.D
end
/- Chapter 13: the program's reader of formulas: what it reads. -/
section
set_option linter.unusedVariables false
set_option linter.unusedSimpArgs false
set_option maxRecDepth 8000
namespace Go.D
open Las
section
variable {s : ByteArray}
theorem at3 {σ : Store} {r : Nat} {lo : Nat} {m : Int → Bool} (q : ∀ c, pureV CC 146 [.ptr r 0, .p (.int .u8 c)] σ = some (.p (.bool (m c)))) :
    (∀ σ1 v, m 116 = true → CC lo 147 [.ptr r 0, .p (.str lpstr3)] σ = some (.tuple [], σ1) → CC lo 148 [.ptr r 0, .agg [.p (pI 0), .p (pI 0), .p .nilsl]] σ1 = some v → f108_L0 guardT lo (.ptr r 0) IT (.p (.int .i64 3)) (.p (.int .i64 3)) σ = some v) ∧
    (∀ v, m 116 = false → m 112 = true → CC lo 149 [.ptr r 0] σ = some v → f108_L0 guardT lo (.ptr r 0) IT (.p (.int .i64 3)) (.p (.int .i64 3)) σ = some v) ∧
    (∀ v, m 116 = false → m 112 = false → m 40 = true → CC lo 150 [.ptr r 0] σ = some v → f108_L0 guardT lo (.ptr r 0) IT (.p (.int .i64 3)) (.p (.int .i64 3)) σ = some v) ∧
    (∀ σ1, m 116 = false → m 112 = false → m 40 = false → CC lo 109 [.ptr r 0] σ = some (.tuple [], σ1) → f108_L0 guardT lo (.ptr r 0) IT (.p (.int .i64 3)) (.p (.int .i64 3)) σ = some (.p (.int .i64 0), σ1)) := by
  refine ⟨fun σ1 v h1 h2 h3 => ?_, fun v h1 h2 h3 => ?_, fun v h1 h2 h3 h4 => ?_, fun σ1 h1 h2 h3 h4 => ?_⟩
  · rw [f108_L0_eq guardT rfl]
    simp (maxSteps := 1000000) (disch := omega) only [gG, nil_ptr, shift_ptr, shift_pptr, Nat.zero_add, Nat.add_zero, pureFn_fn, List.append_nil, List.singleton_append, List.cons_append, List.nil_append, fa149_0, fa149_1, fa149_2, fa149_3, load9, load3, load23, b_lss, ltF (by decide : ¬ (3 : Int) < 3), q, h1, plainFn, h2, bld67_0, h3]
  · rw [f108_L0_eq guardT rfl]
    simp (maxSteps := 1000000) (disch := omega) only [gG, nil_ptr, shift_ptr, shift_pptr, Nat.zero_add, Nat.add_zero, pureFn_fn, List.append_nil, List.singleton_append, List.cons_append, List.nil_append, fa149_0, fa149_1, fa149_2, fa149_3, load9, load3, load23, b_lss, ltF (by decide : ¬ (3 : Int) < 3), q, h1, h2, plainFn, h3]
  · rw [f108_L0_eq guardT rfl]
    simp (maxSteps := 1000000) (disch := omega) only [gG, nil_ptr, shift_ptr, shift_pptr, Nat.zero_add, Nat.add_zero, pureFn_fn, List.append_nil, List.singleton_append, List.cons_append, List.nil_append, fa149_0, fa149_1, fa149_2, fa149_3, load9, load3, load23, b_lss, ltF (by decide : ¬ (3 : Int) < 3), q, h1, h2, h3, plainFn, h4]
  · rw [f108_L0_eq guardT rfl]
    simp (maxSteps := 1000000) (disch := omega) only [gG, nil_ptr, shift_ptr, shift_pptr, Nat.zero_add, Nat.add_zero, pureFn_fn, List.append_nil, List.singleton_append, List.cons_append, List.nil_append, fa149_0, fa149_1, fa149_2, fa149_3, load9, load3, load23, b_lss, ltF (by decide : ¬ (3 : Int) < 3), q, h1, h2, h3, plainFn, h4]
theorem goes108 : ∀ k, Goes108 s k
  | 0, lo, r, p, rem, fs, fv, σ, h, hp, hk, hbd, hlo => by omega
  | k + 1, lo, r, p, rem, fs, fv, σ, h, hp, hk, hbd, hlo => by
    have IH := goes108 k
    have hsm := hp.sm
    have hm : ∀ c, (decide ((-1 : Int) = -1) && nxc rem c) = nxc rem c := fun c => by simp
    have h3 := h.s3k
    have q := fun c => S146 h3 hp c
    simp only [hm] at q
    obtain ⟨t1, t2, t3, t4⟩ := at3 (lo := lo) (m := nxc rem) q
    -- nothing that fits
    have stop : (∀ c, c = 33 ∨ c = 91 ∨ c = 60 ∨ c = 116 ∨ c = 112 ∨ c = 40 → nxc rem c = false) → prs false (k + 1) rem fs = .err rem → ∃ v σ', CC lo 108 [.ptr r 0] σ = some (.p (.int .i64 v), σ') ∧ Kp σ σ' r ∧ Fn σ' r s (fs.length + rem.length) v (prs false (k + 1) rem fs) := fun hc hpr => by
      obtain ⟨σ1, c1, c2, c3⟩ := C109 h3 hlo
      rw [if_pos rfl] at c2
      have thr := thru108 h hp hlo (by rw [hm, hc _ (by omega)]) (by rw [hm, hc _ (by omega)]) (by rw [hm, hc _ (by omega)])
      have fin := pre108 (thr.trans (t4 σ1 (hc _ (by omega)) (hc _ (by omega)) (hc _ (by omega)) c1))
      have ep := hp.at
      have res : Fn σ1 r s (fs.length + rem.length) 0 (.err rem) := ⟨p, fs, fv, by rw [← ep]; exact c2, hp.le, by omega⟩
      rw [hpr]
      exact ⟨0, σ1, fin, (Kp.s3 σ r).trans c3, res⟩
    cases rem with
    | nil => exact stop (fun c _ => rfl) rfl
    | cons c R =>
      rw [List.length_cons] at hk hbd
      have hl : (c :: R).length = R.length + 1 := List.length_cons
      have ne : ∀ d, c ≠ d → nxc (c :: R) d = false := fun d hd => decide_eq_false hd
      have eq0 : ∀ (R : List Int) (f : List Int → Prd), aft [] R f = f R := fun R f => rfl
      by_cases c1 : c = 33
      · subst c1
        obtain ⟨v, σ', e1, e2, e3⟩ := hit108 IH (i := 0) (sb := lpstr0) (kk := 2) (t' := []) (by decide) ixIT0 ldIT0 (by decide) (by decide) (Eq.trans (by kernel_rfl) rfl) h hp (by omega) (by omega) hlo
        rw [prs_eq, if_pos rfl, hl]
        exact ⟨v, σ', pre108 e1, e2, e3⟩
      have n1 := (no108 h hp hlo).1 (by rw [hm, ne _ c1])
      by_cases c2 : c = 91
      · subst c2
        obtain ⟨v, σ', e1, e2, e3⟩ := hit108 IH (i := 1) (sb := lpstr1) (kk := 6) (t' := [93]) (by decide) ixIT1 ldIT1 (by decide) (by decide) (Eq.trans (by kernel_rfl) rfl) (h.snoc _) hp (by omega) (by omega) hlo
        rw [prs_eq, if_neg c1, if_pos rfl, hl]
        exact ⟨v, σ', pre108 (n1.trans e1), (Kp.snoc _ _ _).trans e2, e3⟩
      have n2 := (no108 (h.snoc (.mix [.p (.str lpstr0), .p (pI 2)])) hp hlo).2.1 (by rw [hm, ne _ c2])
      by_cases c3 : c = 60
      · subst c3
        obtain ⟨v, σ', e1, e2, e3⟩ := hit108 IH (i := 2) (sb := lpstr2) (kk := 7) (t' := [62]) (by decide) ixIT2 ldIT2 (by decide) (by decide) (Eq.trans (by kernel_rfl) rfl) ((h.snoc _).snoc _) hp (by omega) (by omega) hlo
        rw [prs_eq, if_neg c1, if_neg c2, if_pos rfl, hl]
        exact ⟨v, σ', pre108 (n1.trans (n2.trans e1)), (Kp.snoc _ _ _).trans ((Kp.snoc _ _ _).trans e2), e3⟩
      have thr := thru108 h hp hlo (by rw [hm, ne _ c1]) (by rw [hm, ne _ c2]) (by rw [hm, ne _ c3])
      by_cases c4 : c = 116
      · subst c4
        obtain ⟨σ1, a1, a2, a3, a4⟩ := C147 h3 hp hlo (t := lpstr3) (by decide)
        have et : tks (bs lpstr3) (116 :: R) = tks [114, 117, 101] R := by
          have : bs lpstr3 = [116, 114, 117, 101] := by decide
          rw [this]; rfl
        rw [et] at a3 a4
        obtain ⟨σ2, fv2, b1, b2, b3⟩ := C148 a3 hlo (by omega) (x := ⟨0, 0, none⟩) fun σ => bs67_0 σ
        have fin := pre108 (thr.trans (t1 σ1 _ rfl a1 b1))
        have kpt := (Kp.s3 σ r).trans (a2.trans b2)
        rw [prs_eq, if_neg (by decide), if_neg (by decide), if_neg (by decide), if_pos rfl, hl]
        unfold aft
        by_cases hok : (tks [114, 117, 101] R).1 = true
        · rw [if_pos hok] at b3 ⊢
          have res : Fn σ2 r s (fs.length + (R.length + 1)) (fs.length : Nat) (.ok (tks [114, 117, 101] R).2 (fs ++ [⟨0, 0, none⟩])) := by
            refine ⟨?_, a4, fv2, b3⟩
            rw [List.length_append]
            show _ = ((fs.length + 1 - 1 : Nat) : Int)
            omega
          exact ⟨_, σ2, fin, kpt, res⟩
        · rw [if_neg hok] at b3 ⊢
          have res : Fn σ2 r s (fs.length + (R.length + 1)) (fs.length : Nat) (.err (tks [114, 117, 101] R).2) := ⟨_, _, fv2, b3, a4.le, by rw [List.length_append]; show fs.length + 1 ≤ _; omega⟩
          exact ⟨_, σ2, fin, kpt, res⟩
      by_cases c5 : c = 112
      · subst c5
        obtain ⟨v, σ1, a1, a2, a3⟩ := C149 h3 hp hlo (by omega)
        have fin := pre108 (thr.trans (t2 _ rfl rfl a1))
        have kpt := (Kp.s3 σ r).trans a2
        rw [prs_eq, if_neg (by decide), if_neg (by decide), if_neg (by decide), if_neg (by decide), if_pos rfl, hl]
        cases ha : atm R with
        | none =>
          rw [ha] at a3
          have hple := hp.le
          have res : Fn σ1 r s (fs.length + (R.length + 1)) v (.err R) := ⟨_, _, _, a3, by omega, by omega⟩
          exact ⟨v, σ1, fin, kpt, res⟩
        | some nr =>
          obtain ⟨n, R'⟩ := nr
          rw [ha] at a3
          obtain ⟨b1, b2, fv2, b3⟩ := a3
          have res : Fn σ1 r s (fs.length + (R.length + 1)) v (.ok R' (fs ++ [⟨1, n, none⟩])) := by
            refine ⟨?_, b2, fv2, b3⟩
            rw [b1, List.length_append]
            show _ = ((fs.length + 1 - 1 : Nat) : Int)
            omega
          exact ⟨v, σ1, fin, kpt, res⟩
      by_cases c6 : c = 40
      · subst c6
        obtain ⟨v, σ1, a1, a2, a3⟩ := C150 IH h3 hp (by omega) (by omega) hlo
        have fin := pre108 (thr.trans (t3 _ rfl rfl rfl a1))
        rw [prs_eq, if_neg (by decide), if_neg (by decide), if_neg (by decide), if_neg (by decide), if_neg (by decide), if_pos rfl, hl]
        exact ⟨v, σ1, fin, (Kp.s3 σ r).trans a2, a3⟩
      · refine stop (fun d hd => ?_) (by rw [prs_eq, if_neg c1, if_neg c2, if_neg c3, if_neg c4, if_neg c5, if_neg c6])
        rcases hd with rfl | rfl | rfl | rfl | rfl | rfl <;> apply ne <;> assumption
end
end Go.D
end
/- Chapter 13: ParseFormula of the program. -/
section
set_option linter.unusedVariables false
set_option linter.unusedSimpArgs false
set_option maxRecDepth 8000
namespace Go.D
open Las
def rdA (s : ByteArray) : DV :=
  if s.size > 400 then .tuple [.p .nilsl, .p (pI 0), .p (pI 2)]
  else match fin s.size (prs false (s.size + 1) (bs s) []) with
    | (none, e) => .tuple [.p .nilsl, N e, .p (pI 8)]
    | (some fs, _) => if (chk fs).2 = 0 then .tuple [.p (eFm (some fs)), N s.size, .p (pI 0)] else .tuple [.p .nilsl, .p (pI 0), .p (pI (chk fs).2)]
def Ar : Prd → Prop
  | .err _ => True
  | .ok _ fs => ∀ x ∈ fs, (L x.a).length ≤ 2
theorem Ar.one {R : Prd} (h : Ar R) (k : Int) : Ar (one k R) := by
  cases R with
  | err e => trivial
  | ok e fs =>
    intro x hx
    rcases List.mem_append.1 hx with hx | hx
    · exact h x hx
    · rw [List.mem_singleton.1 hx]; exact Nat.le_succ 1
theorem Ar.aft {t r : List Int} {f : List Int → Prd} (h : ∀ r', Ar (f r')) : Ar (aft t r f) := by
  unfold Las.aft
  split
  · exact h _
  · trivial
theorem Ar.snoc {r : List Int} {fs : List Nd} (h : ∀ x ∈ fs, (L x.a).length ≤ 2) {y : Nd} (hy : (L y.a).length ≤ 2) : Ar (.ok r (fs ++ [y])) := by
  intro x hx
  rcases List.mem_append.1 hx with hx | hx
  · exact h x hx
  · rw [List.mem_singleton.1 hx]; exact hy
theorem prs_ar (g : Bool) : ∀ (k : Nat) (r : List Int) (fs : List Nd), (∀ x ∈ fs, (L x.a).length ≤ 2) → Ar (prs g k r fs)
  | 0, r, fs, h => trivial
  | k + 1, [], fs, h => trivial
  | k + 1, c :: r, fs, h => by
    rw [prs_eq]
    split
    · exact (prs_ar g k r fs h).one 2
    split
    · exact Ar.aft fun r' => (prs_ar g k r' fs h).one 6
    split
    · exact Ar.aft fun r' => (prs_ar g k r' fs h).one 7
    split
    · exact Ar.aft fun r' => Ar.snoc h (Nat.zero_le _)
    split
    · cases atm r with
      | none => trivial
      | some nr =>
        obtain ⟨n, r'⟩ := nr
        dsimp only
        split
        · trivial
        · exact Ar.snoc h (Nat.zero_le _)
    split
    · have h1 := prs_ar g k r fs h
      cases hp : prs g k r fs with
      | err e => trivial
      | ok r1 f1 =>
        rw [hp] at h1
        rw [bnd_ok]
        refine Ar.aft fun r2 => ?_
        cases sgn r2 with
        | none => trivial
        | some kd =>
          refine Ar.aft fun r3 => ?_
          have h2 := prs_ar g k r3 f1 h1
          cases hp2 : prs g k r3 f1 with
          | err e => trivial
          | ok r4 f2 =>
            rw [hp2] at h2
            rw [bnd_ok]
            exact Ar.aft fun r5 => Ar.snoc h2 (Nat.le_refl 2)
    · trivial
theorem bld149 (s : ByteArray) : build PP 149 [(0, .p (.str s)), (2, .p (.int .i64 (-1)))] = some (.agg [.p (.str s), .p (pI 0), .p (pI (-1)), .p .nilsl]) := Eq.trans (by kernel_rfl) rfl
theorem box_rd (s : ByteArray) : boxV (.agg [.p (.str s), .p (pI 0), .p (pI (-1)), .p .nilsl]) = some [.p (.str s), .p (pI 0), .p (pI (-1)), .p .nilsl] := rfl
theorem Rdr.new (s : ByteArray) : Rdr [Row.mix [.p (.str s), .p (pI 0), .p (pI (-1)), .p .nilsl]] 0 s 0 (-1) [] (.p .nilsl) := ⟨rfl, Out.zero⟩
theorem Rdr.vw {σ : Store} {r : Nat} {s : ByteArray} {p : Nat} {b : Int} {fs : List Nd} {fv : DV} (h : Rdr σ r s p b fs fv) : view fv = .p (eFm (oF fs)) := by
  rw [h.out.vw, eTs_loose]
  unfold oF
  cases fs with
  | nil => rfl
  | cons x l => rfl
theorem Rdr.tw {σ : Store} {r : Nat} {s : ByteArray} {p : Nat} {b : Int} {fs : List Nd} {fv : DV} (h : Rdr σ r s p b fs fv) (m : Nat) : thaw m σ fv = some (.p (eFm (oF fs))) := by
  rw [h.out.tw, eTs_loose]
  unfold oF
  cases fs with
  | nil => rfl
  | cons x l => rfl
theorem fsm_of {fs : List Nd} (hn : fs.length ≤ 1000) (ha : ∀ x ∈ fs, (L x.a).length ≤ 2) : FSm (oF fs) := by
  refine ⟨by rw [L_oF]; exact hn, fun i => ?_⟩
  rw [L_oF]
  unfold nA
  rw [List.getD_eq_getElem?_getD]
  cases h : fs[i]? with
  | none => show (L (default : Nd).a).length ≤ 1000; exact Nat.zero_le _
  | some x => exact Nat.le_trans (ha x (List.mem_of_getElem? h)) (by decide)
section
variable {σ : Store} {r : Nat} {s : ByteArray} {p : Nat} {b : Int} {fs : List Nd} {fv : DV} {lo : Nat}
theorem J48e (h : Rdr σ r s p b fs fv) (hb : b ≠ -1) (x0 x2 x3 x4 x7 x8 x9 x10 x11 x12 x13 x14 x15 x16 x17 x18 x19 x20 x21 x22 x23 : DV) :
    f48_J0 guardT lo x0 x2 x3 x4 (.ptr r 0) x7 x8 x9 x10 x11 x12 x13 x14 x15 x16 x17 x18 x19 x20 x21 x22 x23 σ = some (.tuple [.p .nilsl, .p (.int .i64 b), .p (pI 8)], σ) := by
  have l2 := h.l2
  rw [f48_J0_eq]
  simp (disch := omega) only [gG, nil_ptr, shift_ptr, shift_pptr, Nat.zero_add, Nat.add_zero, pureFn_fn, List.append_nil, List.singleton_append, List.cons_append, List.nil_append, fa149_0, fa149_1, fa149_2, fa149_3, load9, load3, load23, l2, b_neq, eqF hb]
theorem J48o (h : Rdr σ r s p (-1) fs fv) (hf : FSm (oF fs)) (x2 x3 x4 x7 x8 x9 x10 x11 x12 x13 x14 x15 x16 x17 x18 x19 x20 x21 x22 x23 : DV) :
    f48_J0 guardT lo (.p (.str s)) x2 x3 x4 (.ptr r 0) x7 x8 x9 x10 x11 x12 x13 x14 x15 x16 x17 x18 x19 x20 x21 x22 x23 σ = some (if (chk fs).2 = 0 then .tuple [fv, N s.size, .p (pI 0)] else .tuple [.p .nilsl, .p (pI 0), .p (pI (chk fs).2)], σ) := by
  have l2 := h.l2
  have l3 := h.l3
  have q : pureV CC 70 [fv] σ = some (.p (.int .i64 (chk fs).2)) := by
    rw [pureV_view (args' := [.p (eFm (oF fs))]) (by simp only [List.map_cons, List.map_nil, h.vw]) (by simp only [List.map_cons, List.map_nil, fm_view]), S70 hf, L_oF]
  rw [f48_J0_eq]
  by_cases c : (chk fs).2 = 0
  · rw [if_pos c]
    simp (disch := omega) only [gG, nil_ptr, shift_ptr, shift_pptr, Nat.zero_add, Nat.add_zero, pureFn_fn, List.append_nil, List.singleton_append, List.cons_append, List.nil_append, fa149_0, fa149_1, fa149_2, fa149_3, load9, load3, load23, l2, b_neq, eqT (rfl : (-1 : Int) = -1), l3, q, eqT c, str_len, N]
  · rw [if_neg c]
    simp (disch := omega) only [gG, nil_ptr, shift_ptr, shift_pptr, Nat.zero_add, Nat.add_zero, pureFn_fn, List.append_nil, List.singleton_append, List.cons_append, List.nil_append, fa149_0, fa149_1, fa149_2, fa149_3, load9, load3, load23, l2, b_neq, eqT (rfl : (-1 : Int) = -1), l3, q, eqF c]
end
theorem S48 (s : ByteArray) (σ : Store) : pureV CC 48 [.p (.str s)] σ = some (rdA s) := by
  unfold rdA
  by_cases c : s.size > 400
  · have c' : ((s.size : Nat) : Int) > 400 := by omega
    rw [if_pos c]
    refine pureV_free rfl rfl (F48_call (r := (.tuple [.p .nilsl, .p (pI 0), .p (pI 2)], [])) ?_) rfl
    rw [F48_eq]
    simp only [gG, str_len, b_gtr, gtT c']
  have c' : ¬ ((s.size : Nat) : Int) > 400 := by omega
  rw [if_neg c]
  have hP : Plc s 0 (bs s) := ⟨by omega, Nat.zero_le _, rfl⟩
  have hb := bs_len s
  obtain ⟨v, σ1, a1, a2, a3⟩ := goes108 (s.size + 1) 0 0 0 (bs s) [] (.p .nilsl) _ (Rdr.new s) hP (by omega) (by simp only [List.length_nil]; omega) (Nat.le_refl 0)
  -- what comes behind formula()
  have go : ∀ (p : Nat) (w : DV × Store), load1 (.ptr 0 1) σ1 = some (.p (.int .i64 (p : Nat))) →
      (p < s.size → ∃ σ2, CC 0 109 [.ptr 0 0] σ1 = some (.tuple [], σ2) ∧ ∀ x0 x2 x3 x4 x7 x8 x9 x10 x11 x12 x13 x14 x15 x16 x17 x18 x19 x20 x21 x22 x23 : DV, x0 = .p (.str s) → f48_J0 guardT 0 x0 x2 x3 x4 (.ptr 0 0) x7 x8 x9 x10 x11 x12 x13 x14 x15 x16 x17 x18 x19 x20 x21 x22 x23 σ2 = some w) →
      (¬ p < s.size → ∀ x0 x2 x3 x4 x7 x8 x9 x10 x11 x12 x13 x14 x15 x16 x17 x18 x19 x20 x21 x22 x23 : DV, x0 = .p (.str s) → f48_J0 guardT 0 x0 x2 x3 x4 (.ptr 0 0) x7 x8 x9 x10 x11 x12 x13 x14 x15 x16 x17 x18 x19 x20 x21 x22 x23 σ1 = some w) →
      CC 0 48 [.p (.str s)] [] = some w := fun p w l1 hy hn => by
    refine F48_call ?_
    rw [F48_eq]
    by_cases cp : p < s.size
    · have cp' : ((p : Nat) : Int) < (s.size : Nat) := by omega
      obtain ⟨σ2, e1, e2⟩ := hy cp
      simp only [gG, nil_ptr, shift_ptr, shift_pptr, Nat.zero_add, Nat.add_zero, pureFn_fn, List.append_nil, List.singleton_append, List.cons_append, List.nil_append, fa149_0, fa149_1, fa149_2, fa149_3, load9, load3, load23, str_len, b_gtr, gtF c', bld149, box_rd, List.length_nil, plainFn, a1, l1, b_lss, ltT cp', e1]
      exact e2 _ _ _ _ _ _ _ _ _ _ _ _ _ _ _ _ _ _ _ _ _ rfl
    · have cp' : ¬ ((p : Nat) : Int) < (s.size : Nat) := by omega
      simp only [gG, nil_ptr, shift_ptr, shift_pptr, Nat.zero_add, Nat.add_zero, pureFn_fn, List.append_nil, List.singleton_append, List.cons_append, List.nil_append, fa149_0, fa149_1, fa149_2, fa149_3, load9, load3, load23, str_len, b_gtr, gtF c', bld149, box_rd, List.length_nil, plainFn, a1, l1, b_lss, ltF cp']
      exact hn cp _ _ _ _ _ _ _ _ _ _ _ _ _ _ _ _ _ _ _ _ _ rfl
  cases hpr : prs false (s.size + 1) (bs s) [] with
  | err e =>
    rw [hpr] at a3
    obtain ⟨p, fs, fv, h1, h2, h3⟩ := a3
    have hne : ((s.size - e.length : Nat) : Int) ≠ -1 := by omega
    obtain ⟨σ2, c1, c2, c3⟩ := C109 h1 (Nat.le_refl 0)
    rw [if_neg hne] at c2
    have e0 : fin s.size (.err e) = (none, s.size - e.length) := rfl
    rw [e0]
    by_cases cp : p < s.size
    · exact pureV_free rfl rfl (go p _ h1.l1 (fun _ => ⟨σ2, c1, fun _ _ _ _ _ _ _ _ _ _ _ _ _ _ _ _ _ _ _ _ _ _ => J48e c2 hne _ _ _ _ _ _ _ _ _ _ _ _ _ _ _ _ _ _ _ _ _⟩) (fun hh => absurd cp hh)) rfl
    · exact pureV_free rfl rfl (go p _ h1.l1 (fun hh => absurd hh cp) fun _ _ _ _ _ _ _ _ _ _ _ _ _ _ _ _ _ _ _ _ _ _ _ => J48e h1 hne _ _ _ _ _ _ _ _ _ _ _ _ _ _ _ _ _ _ _ _ _) rfl
  | ok e fs =>
    rw [hpr] at a3
    have ln := prs_ln false (s.size + 1) (bs s) []
    have ar := prs_ar false (s.size + 1) (bs s) [] (fun x hx => absurd hx (by simp))
    rw [hpr] at ln ar
    obtain ⟨n1, n2, n3⟩ := ln
    simp only [List.length_nil] at n2 n3
    obtain ⟨h1, h2, fv, h3⟩ := a3
    by_cases ce : e = []
    · subst ce
      have e0 : fin s.size (.ok [] fs) = (some fs, 0) := rfl
      rw [e0]
      have hne : fs ≠ [] := fun hh => by rw [hh] at n2; simp at n2
      have eo : oF fs = some fs := by unfold oF; rw [if_neg hne]
      have hf := fsm_of (fs := fs) (by omega) ar
      have tw := h3.tw 0
      rw [eo] at tw
      refine pureV_free rfl rfl (go (s.size - 0) _ h3.l1 (fun hh => absurd hh (by omega)) fun _ x0 x2 x3 x4 x7 x8 x9 x10 x11 x12 x13 x14 x15 x16 x17 x18 x19 x20 x21 x22 x23 hx => by rw [hx]; exact J48o h3 hf _ _ _ _ _ _ _ _ _ _ _ _ _ _ _ _ _ _ _ _) ?_
      by_cases cc : (chk fs).2 = 0
      · rw [if_pos cc]
        simp only [cc, if_true, thawAll, mapO]
        have : ∀ m σ, thawPart m σ fv = thaw m σ fv := fun m σ => by
          have := h3.one
          cases fv <;> first | rfl | (exfalso; simp [DV.one] at this; done)
        rw [this, tw]
        rfl
      · rw [if_neg cc]
        simp only [cc, if_false]
        rfl
    · have e0 : fin s.size (.ok e fs) = (none, s.size - e.length) := by
        show (if e = [] then _ else _) = _
        rw [if_neg ce]
      rw [e0]
      have hpos : 0 < e.length := List.length_pos_iff.2 ce
      have hlen := h2.len
      obtain ⟨σ2, c1, c2, c3⟩ := C109 h3 (Nat.le_refl 0)
      rw [if_pos rfl] at c2
      have hne : ((s.size - e.length : Nat) : Int) ≠ -1 := by omega
      exact pureV_free rfl rfl (go _ _ h3.l1 (fun _ => ⟨σ2, c1, fun _ _ _ _ _ _ _ _ _ _ _ _ _ _ _ _ _ _ _ _ _ _ => J48e c2 hne _ _ _ _ _ _ _ _ _ _ _ _ _ _ _ _ _ _ _ _ _⟩) (fun hh => absurd (by omega) hh)) rfl
end Go.D
end
/- Equations of functions 110, 111, 151, 152, 153, 154, 155, printed by gen.py. -/
section
set_option linter.unusedVariables false
set_option maxRecDepth 10000
namespace Go.D
open Go.Proofs
noncomputable section
variable (G : GuardT) (lo : Nat) {σ : Store} {r : DV × Store}
open _root_.Go.D.Code (fstC sndC)
open _root_.Go.D.Ann (left right)
def lqstr0 : ByteArray := ⟨#[116, 114, 117, 101]⟩
def lqstr1 : ByteArray := ⟨#[91, 93]⟩
def lqstr2 : ByteArray := ⟨#[60, 62]⟩
def lqstr3 : ByteArray := ⟨#[32]⟩
def lqstr4 : ByteArray := ⟨#[41]⟩
def c110_0 : Code := bodyOf Tryz.f110
def a110_0 : Ann := (pol 110).ann
def F110 (x0 : DV) (σ : Store) : RS :=
 codeF G PP (pol 110) CC lo c110_0 a110_0 (x0 :: zn 86 []) σ (finR PP Tryz.f110.results.toList)
theorem F110_eq (G : GuardT) (lo : Nat) (x0 : DV) (σ : Store) : F110 G lo x0 σ =
 (nilCheckV x0).bind fun x4 =>
 (fieldAddr PP 153 x4 2).bind fun x5 =>
 (load PP 3 x5 σ).bind fun x6 =>
 (binOp PP .neq 3 x6 (DV.p (PV.int IntKind.i64 (-1)))).bind fun x7 =>
 G _ x7 false (some (x0, σ)) σ fun x9 σ1 =>
 G _ x7 false ((nilCheckV x9).bind fun v => some (v, σ1)) σ1 fun x10 σ2 =>
 G _ x7 false ((fieldAddr PP 153 x10 1).bind fun v => some (v, σ2)) σ2 fun x11 σ3 =>
 G _ x7 false ((load PP 3 x11 σ3).bind fun v => some (v, σ3)) σ3 fun x12 σ4 =>
 G _ x7 false (some (x0, σ4)) σ4 fun x13 σ5 =>
 G _ x7 false ((nilCheckV x13).bind fun v => some (v, σ5)) σ5 fun x14 σ6 =>
 G _ x7 false ((fieldAddr PP 153 x14 0).bind fun v => some (v, σ6)) σ6 fun x15 σ7 =>
 G _ x7 false ((load PP 9 x15 σ7).bind fun v => some (v, σ7)) σ7 fun x16 σ8 =>
 G _ x7 false ((len PP 9 x16 σ8).bind fun v => some (v, σ8)) σ8 fun x17 σ9 =>
 G _ x7 false ((binOp PP .eql 3 x12 x17).bind fun v => some (v, σ9)) σ9 fun x18 σ10 =>
 (pickV x7 (DV.p (PV.bool true)) x18).bind fun x19 =>
 condK x19
 (
 (plainFn CC lo (DV.fn 111 []) [x0] σ10).bind fun r21_11 =>
 some (I0, r21_11.2)
 )
 (
 (nilCheckV x0).bind fun x23 =>
 (fieldAddr PP 153 x23 0).bind fun x24 =>
 (load PP 9 x24 σ10).bind fun x25 =>
 (nilCheckV x0).bind fun x27 =>
 (fieldAddr PP 153 x27 1).bind fun x28 =>
 (load PP 3 x28 σ10).bind fun x29 =>
 (index PP 9 x25 x29).bind fun x30 =>
 (binOp PP .eql 5 x30 (DV.p (PV.int IntKind.u8 (116)))).bind fun x32 =>
 condK x32
 (
 (plainFn CC lo (DV.fn 151 []) [x0, (DV.p (PV.str lqstr0))] σ10).bind fun r34_12 =>
 (plainFn CC lo (DV.fn 152 []) [x0, I0, I0, (DV.p PV.nilsl)] r34_12.2).bind fun r36_13 =>
 some (r36_13.1, r36_13.2)
 )
 (
 (binOp PP .eql 5 x30 (DV.p (PV.int IntKind.u8 (112)))).bind fun x38 =>
 condK x38
 (
 (nilCheckV x0).bind fun x41 =>
 (fieldAddr PP 153 x41 1).bind fun x42 =>
 (load PP 3 x42 σ10).bind fun x43 =>
 (binOp PP .add 3 x43 I1).bind fun x44 =>
 (nilCheckV x0).bind fun x45 =>
 (fieldAddr PP 153 x45 1).bind fun x46 =>
 (store PP lo 3 x46 x44 σ10).bind fun σ14 =>
 (plainFn CC lo (DV.fn 153 []) [x0] σ14).bind fun r48_15 =>
 some (r48_15.1, r48_15.2)
 )
 (
 (binOp PP .eql 5 x30 (DV.p (PV.int IntKind.u8 (33)))).bind fun x50 =>
 condK x50
 (
 (nilCheckV x0).bind fun x53 =>
 (fieldAddr PP 153 x53 1).bind fun x54 =>
 (load PP 3 x54 σ10).bind fun x55 =>
 (binOp PP .add 3 x55 I1).bind fun x56 =>
 (nilCheckV x0).bind fun x57 =>
 (fieldAddr PP 153 x57 1).bind fun x58 =>
 (store PP lo 3 x58 x56 σ10).bind fun σ16 =>
 (plainFn CC lo (DV.fn 154 []) [x0, (DV.p (PV.int IntKind.i64 (2)))] σ16).bind fun r60_17 =>
 some (r60_17.1, r60_17.2)
 )
 (
 (binOp PP .eql 5 x30 (DV.p (PV.int IntKind.u8 (91)))).bind fun x62 =>
 condK x62
 (
 (plainFn CC lo (DV.fn 151 []) [x0, (DV.p (PV.str lqstr1))] σ10).bind fun r64_18 =>
 (plainFn CC lo (DV.fn 154 []) [x0, (DV.p (PV.int IntKind.i64 (6)))] r64_18.2).bind fun r66_19 =>
 some (r66_19.1, r66_19.2)
 )
 (
 (binOp PP .eql 5 x30 (DV.p (PV.int IntKind.u8 (60)))).bind fun x68 =>
 condK x68
 (
 (plainFn CC lo (DV.fn 151 []) [x0, (DV.p (PV.str lqstr2))] σ10).bind fun r70_20 =>
 (plainFn CC lo (DV.fn 154 []) [x0, (DV.p (PV.int IntKind.i64 (7)))] r70_20.2).bind fun r72_21 =>
 some (r72_21.1, r72_21.2)
 )
 (
 (binOp PP .eql 5 x30 (DV.p (PV.int IntKind.u8 (40)))).bind fun x74 =>
 condK x74
 (
 (nilCheckV x0).bind fun x77 =>
 (fieldAddr PP 153 x77 1).bind fun x78 =>
 (load PP 3 x78 σ10).bind fun x79 =>
 (binOp PP .add 3 x79 I1).bind fun x80 =>
 (nilCheckV x0).bind fun x81 =>
 (fieldAddr PP 153 x81 1).bind fun x82 =>
 (store PP lo 3 x82 x80 σ10).bind fun σ22 =>
 (plainFn CC lo (DV.fn 155 []) [x0] σ22).bind fun r84_23 =>
 some (r84_23.1, r84_23.2)
 )
 (
 (plainFn CC lo (DV.fn 111 []) [x0] σ10).bind fun r86_24 =>
 some (I0, r86_24.2)
 )
 )
 )
 )
 )
 )
 ) := by kernel_rfl
theorem F110_call {lo : Nat} {x0 : DV} (h : F110 guardT lo x0 σ = some r) : CC lo 110 [x0] σ = some r :=
 callL_run Tryz.func110 (by decide +kernel) rfl (by decide +kernel) h
def c111_0 : Code := bodyOf Tryz.f111
def a111_0 : Ann := (pol 111).ann
def F111 (x0 : DV) (σ : Store) : RS :=
 codeF G PP (pol 111) CC lo c111_0 a111_0 (x0 :: zn 13 []) σ (finR PP Tryz.f111.results.toList)
theorem F111_eq (G : GuardT) (lo : Nat) (x0 : DV) (σ : Store) : F111 G lo x0 σ =
 (nilCheckV x0).bind fun x3 =>
 (fieldAddr PP 153 x3 2).bind fun x4 =>
 (load PP 3 x4 σ).bind fun x5 =>
 (binOp PP .eql 3 x5 (DV.p (PV.int IntKind.i64 (-1)))).bind fun x6 =>
 condK x6
 (
 (nilCheckV x0).bind fun x9 =>
 (fieldAddr PP 153 x9 1).bind fun x10 =>
 (load PP 3 x10 σ).bind fun x11 =>
 (nilCheckV x0).bind fun x12 =>
 (fieldAddr PP 153 x12 2).bind fun x13 =>
 (store PP lo 3 x13 x11 σ).bind fun σ1 =>
 some ((DV.tuple []), σ1)
 )
 (
 some ((DV.tuple []), σ)
 ) := by kernel_rfl
theorem F111_call {lo : Nat} {x0 : DV} (h : F111 guardT lo x0 σ = some r) : CC lo 111 [x0] σ = some r :=
 callL_run Tryz.func111 (by decide +kernel) rfl (by decide +kernel) h
def c151_0 : Code := bodyOf Tryz.f151
def a151_0 : Ann := (pol 151).ann
def a151_2 : Ann := right a151_0
def a151_3 : Ann := left a151_2
def c151_4 : Code := fstC (fstC (sndC c151_0))
def f151_L0 (x0 x1 x4 : DV) (σ : Store) : RS :=
 codeF G PP (pol 151) CC lo (.loop c151_4) a151_3 (x0 :: x1 :: Z :: Z :: x4 :: zn 48 []) σ
 (blockC 0 a151_2 (finR PP Tryz.f151.results.toList))
def F151 (x0 x1 : DV) (σ : Store) : RS :=
 codeF G PP (pol 151) CC lo c151_0 a151_0 (x0 :: x1 :: zn 51 []) σ (finR PP Tryz.f151.results.toList)
theorem f151_L0_eq (G : GuardT) (hG : GuardOk G) (lo : Nat) (x0 x1 x4 : DV) (σ : Store) : f151_L0 G lo x0 x1 x4 σ =
 (len PP 9 x1 σ).bind fun x7 =>
 (binOp PP .lss 3 x4 x7).bind fun x8 =>
 G _ x8 true (some (x0, σ)) σ fun x10 σ1 =>
 G _ x8 true ((nilCheckV x10).bind fun v => some (v, σ1)) σ1 fun x11 σ2 =>
 G _ x8 true ((fieldAddr PP 153 x11 2).bind fun v => some (v, σ2)) σ2 fun x12 σ3 =>
 G _ x8 true ((load PP 3 x12 σ3).bind fun v => some (v, σ3)) σ3 fun x13 σ4 =>
 G _ x8 true ((binOp PP .eql 3 x13 (DV.p (PV.int IntKind.i64 (-1)))).bind fun v => some (v, σ4)) σ4 fun x14 σ5 =>
 (pickV x8 x14 (DV.p (PV.bool false))).bind fun x15 =>
 condK x15
 (
 (nilCheckV x0).bind fun x19 =>
 (fieldAddr PP 153 x19 1).bind fun x20 =>
 (load PP 3 x20 σ5).bind fun x21 =>
 (nilCheckV x0).bind fun x23 =>
 (fieldAddr PP 153 x23 0).bind fun x24 =>
 (load PP 9 x24 σ5).bind fun x25 =>
 (len PP 9 x25 σ5).bind fun x26 =>
 (binOp PP .eql 3 x21 x26).bind fun x27 =>
 G _ x27 false (some (x0, σ5)) σ5 fun x29 σ6 =>
 G _ x27 false ((nilCheckV x29).bind fun v => some (v, σ6)) σ6 fun x30 σ7 =>
 G _ x27 false ((fieldAddr PP 153 x30 0).bind fun v => some (v, σ7)) σ7 fun x31 σ8 =>
 G _ x27 false ((load PP 9 x31 σ8).bind fun v => some (v, σ8)) σ8 fun x32 σ9 =>
 G _ x27 false (some (x0, σ9)) σ9 fun x33 σ10 =>
 G _ x27 false ((nilCheckV x33).bind fun v => some (v, σ10)) σ10 fun x34 σ11 =>
 G _ x27 false ((fieldAddr PP 153 x34 1).bind fun v => some (v, σ11)) σ11 fun x35 σ12 =>
 G _ x27 false ((load PP 3 x35 σ12).bind fun v => some (v, σ12)) σ12 fun x36 σ13 =>
 G _ x27 false ((index PP 9 x32 x36).bind fun v => some (v, σ13)) σ13 fun x37 σ14 =>
 G _ x27 false (some (x1, σ14)) σ14 fun x38 σ15 =>
 G _ x27 false (some (x4, σ15)) σ15 fun x39 σ16 =>
 G _ x27 false ((index PP 9 x38 x39).bind fun v => some (v, σ16)) σ16 fun x40 σ17 =>
 G _ x27 false ((binOp PP .neq 5 x37 x40).bind fun v => some (v, σ17)) σ17 fun x41 σ18 =>
 (pickV x27 (DV.p (PV.bool true)) x41).bind fun x42 =>
 condK x42
 (
 (plainFn CC lo (DV.fn 111 []) [x0] σ18).bind fun r44_19 =>
 some ((DV.tuple []), r44_19.2)
 )
 (
 (nilCheckV x0).bind fun x47 =>
 (fieldAddr PP 153 x47 1).bind fun x48 =>
 (load PP 3 x48 σ18).bind fun x49 =>
 (binOp PP .add 3 x49 I1).bind fun x50 =>
 (nilCheckV x0).bind fun x51 =>
 (fieldAddr PP 153 x51 1).bind fun x52 =>
 (store PP lo 3 x52 x50 σ18).bind fun σ20 =>
 (binOp PP .add 3 x4 I1).bind fun x17 =>
 f151_L0 G lo x0 x1 x17 σ20
 )
 )
 (
 some ((DV.tuple []), σ5)
 ) := (loopF_eq G hG).trans (by kernel_rfl)
theorem F151_eq (G : GuardT) (lo : Nat) (x0 x1 : DV) (σ : Store) : F151 G lo x0 x1 σ =
 f151_L0 G lo x0 x1 I0 σ := by kernel_rfl
theorem F151_call {lo : Nat} {x0 x1 : DV} (h : F151 guardT lo x0 x1 σ = some r) : CC lo 151 [x0, x1] σ = some r :=
 callL_run Tryz.func151 (by decide +kernel) rfl (by decide +kernel) h
def c152_0 : Code := bodyOf Tryz.f152
def a152_0 : Ann := (pol 152).ann
def F152 (x0 x1 x2 x3 : DV) (σ : Store) : RS :=
 codeF G PP (pol 152) CC lo c152_0 a152_0 (x0 :: x1 :: x2 :: x3 :: zn 24 []) σ (finR PP Tryz.f152.results.toList)
theorem F152_eq (G : GuardT) (lo : Nat) (x0 x1 x2 x3 : DV) (σ : Store) : F152 G lo x0 x1 x2 x3 σ =
 (nilCheckV x0).bind fun x11 =>
 (fieldAddr PP 153 x11 3).bind fun x12 =>
 (load PP 23 x12 σ).bind fun x13 =>
 (build PP 67 [(0, x1), (1, x2), (2, x3)]).bind fun x17 =>
 (buildSlice PP none 23 1 [(0, x17)] σ).bind fun r18_1 =>
 (append PP lo false 23 23 x13 r18_1.1 r18_1.2).bind fun r19_2 =>
 (nilCheckV x0).bind fun x20 =>
 (fieldAddr PP 153 x20 3).bind fun x21 =>
 (store PP lo 23 x21 r19_2.1 r19_2.2).bind fun σ3 =>
 (nilCheckV x0).bind fun x23 =>
 (fieldAddr PP 153 x23 3).bind fun x24 =>
 (load PP 23 x24 σ3).bind fun x25 =>
 (len PP 23 x25 σ3).bind fun x26 =>
 (binOp PP .sub 3 x26 I1).bind fun x27 =>
 some (x27, σ3) := by kernel_rfl
theorem F152_call {lo : Nat} {x0 x1 x2 x3 : DV} (h : F152 guardT lo x0 x1 x2 x3 σ = some r) : CC lo 152 [x0, x1, x2, x3] σ = some r :=
 callL_run Tryz.func152 (by decide +kernel) rfl (by decide +kernel) h
def c153_0 : Code := bodyOf Tryz.f153
def a153_0 : Ann := (pol 153).ann
def a153_5 : Ann := left (right (right a153_0))
def a153_6 : Ann := left a153_5
def c153_7 : Code := fstC (fstC (fstC (sndC (sndC c153_0))))
def c153_15 : Code := sndC (sndC (sndC c153_0))
def a153_15 : Ann := right (right (right a153_0))
def f153_L0 (x0 x3 : DV) (σ : Store) : RS :=
 codeF G PP (pol 153) CC lo (.loop c153_7) a153_6 (x0 :: Z :: Z :: x3 :: zn 107 []) σ
 (blockC 0 a153_5 (seqC G PP (pol 153) CC lo c153_15 a153_15 (finR PP Tryz.f153.results.toList)))
def F153 (x0 : DV) (σ : Store) : RS :=
 codeF G PP (pol 153) CC lo c153_0 a153_0 (x0 :: zn 110 []) σ (finR PP Tryz.f153.results.toList)
theorem f153_L0_eq (G : GuardT) (hG : GuardOk G) (lo : Nat) (x0 x3 : DV) (σ : Store) : f153_L0 G lo x0 x3 σ =
 (nilCheckV x0).bind fun x11 =>
 (fieldAddr PP 153 x11 1).bind fun x12 =>
 (load PP 3 x12 σ).bind fun x13 =>
 (nilCheckV x0).bind fun x15 =>
 (fieldAddr PP 153 x15 0).bind fun x16 =>
 (load PP 9 x16 σ).bind fun x17 =>
 (len PP 9 x17 σ).bind fun x18 =>
 (binOp PP .lss 3 x13 x18).bind fun x19 =>
 G _ x19 true (some (x0, σ)) σ fun x21 σ1 =>
 G _ x19 true ((nilCheckV x21).bind fun v => some (v, σ1)) σ1 fun x22 σ2 =>
 G _ x19 true ((fieldAddr PP 153 x22 0).bind fun v => some (v, σ2)) σ2 fun x23 σ3 =>
 G _ x19 true ((load PP 9 x23 σ3).bind fun v => some (v, σ3)) σ3 fun x24 σ4 =>
 G _ x19 true (some (x0, σ4)) σ4 fun x25 σ5 =>
 G _ x19 true ((nilCheckV x25).bind fun v => some (v, σ5)) σ5 fun x26 σ6 =>
 G _ x19 true ((fieldAddr PP 153 x26 1).bind fun v => some (v, σ6)) σ6 fun x27 σ7 =>
 G _ x19 true ((load PP 3 x27 σ7).bind fun v => some (v, σ7)) σ7 fun x28 σ8 =>
 G _ x19 true ((index PP 9 x24 x28).bind fun v => some (v, σ8)) σ8 fun x29 σ9 =>
 G _ x19 true ((pureFn CC (DV.fn 171 []) [x29] σ9).bind fun v => some (v, σ9)) σ9 fun x30 σ10 =>
 (pickV x19 x30 (DV.p (PV.bool false))).bind fun x31 =>
 G _ x31 true (some (x0, σ10)) σ10 fun x33 σ11 =>
 G _ x31 true ((nilCheckV x33).bind fun v => some (v, σ11)) σ11 fun x34 σ12 =>
 G _ x31 true ((fieldAddr PP 153 x34 1).bind fun v => some (v, σ12)) σ12 fun x35 σ13 =>
 G _ x31 true ((load PP 3 x35 σ13).bind fun v => some (v, σ13)) σ13 fun x36 σ14 =>
 G _ x31 true (some (x3, σ14)) σ14 fun x37 σ15 =>
 G _ x31 true ((binOp PP .sub 3 x36 x37).bind fun v => some (v, σ15)) σ15 fun x38 σ16 =>
 G _ x31 true ((binOp PP .lss 3 x38 (DV.p (PV.int IntKind.i64 (2)))).bind fun v => some (v, σ16)) σ16 fun x39 σ17 =>
 (pickV x31 x39 (DV.p (PV.bool false))).bind fun x40 =>
 G _ x40 true (some (x0, σ17)) σ17 fun x42 σ18 =>
 G _ x40 true ((nilCheckV x42).bind fun v => some (v, σ18)) σ18 fun x43 σ19 =>
 G _ x40 true ((fieldAddr PP 153 x43 1).bind fun v => some (v, σ19)) σ19 fun x44 σ20 =>
 G _ x40 true ((load PP 3 x44 σ20).bind fun v => some (v, σ20)) σ20 fun x45 σ21 =>
 G _ x40 true (some (x3, σ21)) σ21 fun x46 σ22 =>
 G _ x40 true ((binOp PP .eql 3 x45 x46).bind fun v => some (v, σ22)) σ22 fun x47 σ23 =>
 G _ x40 true (some (x47, σ23)) σ23 fun x48 σ24 =>
 G _ x48 false (some (x0, σ24)) σ24 fun x49 σ25 =>
 G _ x48 false ((nilCheckV x49).bind fun v => some (v, σ25)) σ25 fun x50 σ26 =>
 G _ x48 false ((fieldAddr PP 153 x50 0).bind fun v => some (v, σ26)) σ26 fun x51 σ27 =>
 G _ x48 false ((load PP 9 x51 σ27).bind fun v => some (v, σ27)) σ27 fun x52 σ28 =>
 G _ x48 false (some (x3, σ28)) σ28 fun x53 σ29 =>
 G _ x48 false ((index PP 9 x52 x53).bind fun v => some (v, σ29)) σ29 fun x54 σ30 =>
 G _ x48 false ((binOp PP .neq 5 x54 (DV.p (PV.int IntKind.u8 (48)))).bind fun v => some (v, σ30)) σ30 fun x55 σ31 =>
 G _ x40 true ((pickV x48 (DV.p (PV.bool true)) x55).bind fun v => some (v, σ31)) σ31 fun x56 σ32 =>
 (pickV x40 x56 (DV.p (PV.bool false))).bind fun x57 =>
 condK x57
 (
 (nilCheckV x0).bind fun x60 =>
 (fieldAddr PP 153 x60 1).bind fun x61 =>
 (load PP 3 x61 σ32).bind fun x62 =>
 (binOp PP .add 3 x62 I1).bind fun x63 =>
 (nilCheckV x0).bind fun x64 =>
 (fieldAddr PP 153 x64 1).bind fun x65 =>
 (store PP lo 3 x65 x63 σ32).bind fun σ33 =>
 f153_L0 G lo x0 x3 σ33
 )
 (
 (nilCheckV x0).bind fun x68 =>
 (fieldAddr PP 153 x68 0).bind fun x69 =>
 (load PP 9 x69 σ32).bind fun x70 =>
 (nilCheckV x0).bind fun x73 =>
 (fieldAddr PP 153 x73 1).bind fun x74 =>
 (load PP 3 x74 σ32).bind fun x75 =>
 (sliceOp PP 9 x70 (some x3) (some x75) none).bind fun x76 =>
 (pureFn CC (DV.fn 172 []) [x76] σ32).bind fun x77 =>
 (extractV x77 0).bind fun x78 =>
 (extractV x77 1).bind fun x79 =>
 (unOp .not x79).bind fun x81 =>
 G _ x81 false (some (x0, σ32)) σ32 fun x83 σ34 =>
 G _ x81 false ((nilCheckV x83).bind fun v => some (v, σ34)) σ34 fun x84 σ35 =>
 G _ x81 false ((fieldAddr PP 153 x84 1).bind fun v => some (v, σ35)) σ35 fun x85 σ36 =>
 G _ x81 false ((load PP 3 x85 σ36).bind fun v => some (v, σ36)) σ36 fun x86 σ37 =>
 G _ x81 false (some (x0, σ37)) σ37 fun x87 σ38 =>
 G _ x81 false ((nilCheckV x87).bind fun v => some (v, σ38)) σ38 fun x88 σ39 =>
 G _ x81 false ((fieldAddr PP 153 x88 0).bind fun v => some (v, σ39)) σ39 fun x89 σ40 =>
 G _ x81 false ((load PP 9 x89 σ40).bind fun v => some (v, σ40)) σ40 fun x90 σ41 =>
 G _ x81 false ((len PP 9 x90 σ41).bind fun v => some (v, σ41)) σ41 fun x91 σ42 =>
 G _ x81 false ((binOp PP .lss 3 x86 x91).bind fun v => some (v, σ42)) σ42 fun x92 σ43 =>
 G _ x81 false (some (x92, σ43)) σ43 fun x93 σ44 =>
 G _ x93 true (some (x0, σ44)) σ44 fun x94 σ45 =>
 G _ x93 true ((nilCheckV x94).bind fun v => some (v, σ45)) σ45 fun x95 σ46 =>
 G _ x93 true ((fieldAddr PP 153 x95 0).bind fun v => some (v, σ46)) σ46 fun x96 σ47 =>
 G _ x93 true ((load PP 9 x96 σ47).bind fun v => some (v, σ47)) σ47 fun x97 σ48 =>
 G _ x93 true (some (x0, σ48)) σ48 fun x98 σ49 =>
 G _ x93 true ((nilCheckV x98).bind fun v => some (v, σ49)) σ49 fun x99 σ50 =>
 G _ x93 true ((fieldAddr PP 153 x99 1).bind fun v => some (v, σ50)) σ50 fun x100 σ51 =>
 G _ x93 true ((load PP 3 x100 σ51).bind fun v => some (v, σ51)) σ51 fun x101 σ52 =>
 G _ x93 true ((index PP 9 x97 x101).bind fun v => some (v, σ52)) σ52 fun x102 σ53 =>
 G _ x93 true ((pureFn CC (DV.fn 171 []) [x102] σ53).bind fun v => some (v, σ53)) σ53 fun x103 σ54 =>
 G _ x81 false ((pickV x93 x103 (DV.p (PV.bool false))).bind fun v => some (v, σ54)) σ54 fun x104 σ55 =>
 (pickV x81 (DV.p (PV.bool true)) x104).bind fun x105 =>
 condK x105
 (
 (plainFn CC lo (DV.fn 111 []) [x0] σ55).bind fun r107_56 =>
 (plainFn CC lo (DV.fn 152 []) [x0, I1, x78, (DV.p PV.nilsl)] r107_56.2).bind fun r110_57 =>
 some (r110_57.1, r110_57.2)
 )
 (
 (plainFn CC lo (DV.fn 152 []) [x0, I1, x78, (DV.p PV.nilsl)] σ55).bind fun r110_58 =>
 some (r110_58.1, r110_58.2)
 )
 ) := (loopF_eq G hG).trans (by kernel_rfl)
theorem F153_eq (G : GuardT) (lo : Nat) (x0 : DV) (σ : Store) : F153 G lo x0 σ =
 (nilCheckV x0).bind fun x7 =>
 (fieldAddr PP 153 x7 1).bind fun x8 =>
 (load PP 3 x8 σ).bind fun x9 =>
 f153_L0 G lo x0 x9 σ := by kernel_rfl
theorem F153_call {lo : Nat} {x0 : DV} (h : F153 guardT lo x0 σ = some r) : CC lo 153 [x0] σ = some r :=
 callL_run Tryz.func153 (by decide +kernel) rfl (by decide +kernel) h
def c154_0 : Code := bodyOf Tryz.f154
def a154_0 : Ann := (pol 154).ann
def F154 (x0 x1 : DV) (σ : Store) : RS :=
 codeF G PP (pol 154) CC lo c154_0 a154_0 (x0 :: x1 :: zn 11 []) σ (finR PP Tryz.f154.results.toList)
theorem F154_eq (G : GuardT) (lo : Nat) (x0 x1 : DV) (σ : Store) : F154 G lo x0 x1 σ =
 (plainFn CC lo (DV.fn 110 []) [x0] σ).bind fun r7_1 =>
 (buildSlice PP none 24 1 [(0, r7_1.1)] r7_1.2).bind fun r11_2 =>
 (plainFn CC lo (DV.fn 152 []) [x0, x1, I0, r11_2.1] r11_2.2).bind fun r12_3 =>
 some (r12_3.1, r12_3.2) := by kernel_rfl
theorem F154_call {lo : Nat} {x0 x1 : DV} (h : F154 guardT lo x0 x1 σ = some r) : CC lo 154 [x0, x1] σ = some r :=
 callL_run Tryz.func154 (by decide +kernel) rfl (by decide +kernel) h
def c155_0 : Code := bodyOf Tryz.f155
def a155_0 : Ann := (pol 155).ann
def F155 (x0 : DV) (σ : Store) : RS :=
 codeF G PP (pol 155) CC lo c155_0 a155_0 (x0 :: zn 64 []) σ (finR PP Tryz.f155.results.toList)
theorem F155_eq (G : GuardT) (lo : Nat) (x0 : DV) (σ : Store) : F155 G lo x0 σ =
 (plainFn CC lo (DV.fn 110 []) [x0] σ).bind fun r7_1 =>
 (plainFn CC lo (DV.fn 151 []) [x0, (DV.p (PV.str lqstr3))] r7_1.2).bind fun r9_2 =>
 (nilCheckV x0).bind fun x11 =>
 (fieldAddr PP 153 x11 2).bind fun x12 =>
 (load PP 3 x12 r9_2.2).bind fun x13 =>
 (binOp PP .eql 3 x13 (DV.p (PV.int IntKind.i64 (-1)))).bind fun x14 =>
 G _ x14 true (some (x0, r9_2.2)) r9_2.2 fun x16 σ3 =>
 G _ x14 true ((nilCheckV x16).bind fun v => some (v, σ3)) σ3 fun x17 σ4 =>
 G _ x14 true ((fieldAddr PP 153 x17 1).bind fun v => some (v, σ4)) σ4 fun x18 σ5 =>
 G _ x14 true ((load PP 3 x18 σ5).bind fun v => some (v, σ5)) σ5 fun x19 σ6 =>
 G _ x14 true (some (x0, σ6)) σ6 fun x20 σ7 =>
 G _ x14 true ((nilCheckV x20).bind fun v => some (v, σ7)) σ7 fun x21 σ8 =>
 G _ x14 true ((fieldAddr PP 153 x21 0).bind fun v => some (v, σ8)) σ8 fun x22 σ9 =>
 G _ x14 true ((load PP 9 x22 σ9).bind fun v => some (v, σ9)) σ9 fun x23 σ10 =>
 G _ x14 true ((len PP 9 x23 σ10).bind fun v => some (v, σ10)) σ10 fun x24 σ11 =>
 G _ x14 true ((binOp PP .lss 3 x19 x24).bind fun v => some (v, σ11)) σ11 fun x25 σ12 =>
 (pickV x14 x25 (DV.p (PV.bool false))).bind fun x26 =>
 condK x26
 (
 (nilCheckV x0).bind fun x28 =>
 (fieldAddr PP 153 x28 0).bind fun x29 =>
 (load PP 9 x29 σ12).bind fun x30 =>
 (nilCheckV x0).bind fun x32 =>
 (fieldAddr PP 153 x32 1).bind fun x33 =>
 (load PP 3 x33 σ12).bind fun x34 =>
 (index PP 9 x30 x34).bind fun x35 =>
 (binOp PP .eql 5 x35 (DV.p (PV.int IntKind.u8 (38)))).bind fun x37 =>
 condK x37
 (
 (binOp PP .eql 3 (DV.p (PV.int IntKind.i64 (3))) (DV.p (PV.int IntKind.i64 (-1)))).bind fun x47 =>
 condK x47
 (
 (plainFn CC lo (DV.fn 111 []) [x0] σ12).bind fun r49_13 =>
 some (I0, r49_13.2)
 )
 (
 (pureFn CC (DV.fn 107 []) [(DV.p (PV.int IntKind.i64 (3)))] σ12).bind fun x52 =>
 (binOp PP .add 9 x52 (DV.p (PV.str lqstr3))).bind fun x53 =>
 (plainFn CC lo (DV.fn 151 []) [x0, x53] σ12).bind fun r54_14 =>
 (plainFn CC lo (DV.fn 110 []) [x0] r54_14.2).bind fun r56_15 =>
 (plainFn CC lo (DV.fn 151 []) [x0, (DV.p (PV.str lqstr4))] r56_15.2).bind fun r58_16 =>
 (buildSlice PP none 24 2 [(0, r7_1.1), (1, r56_15.1)] r58_16.2).bind fun r63_17 =>
 (plainFn CC lo (DV.fn 152 []) [x0, (DV.p (PV.int IntKind.i64 (3))), I0, r63_17.1] r63_17.2).bind fun r64_18 =>
 some (r64_18.1, r64_18.2)
 )
 )
 (
 (binOp PP .eql 5 x35 (DV.p (PV.int IntKind.u8 (124)))).bind fun x39 =>
 condK x39
 (
 (binOp PP .eql 3 (DV.p (PV.int IntKind.i64 (4))) (DV.p (PV.int IntKind.i64 (-1)))).bind fun x47 =>
 condK x47
 (
 (plainFn CC lo (DV.fn 111 []) [x0] σ12).bind fun r49_19 =>
 some (I0, r49_19.2)
 )
 (
 (pureFn CC (DV.fn 107 []) [(DV.p (PV.int IntKind.i64 (4)))] σ12).bind fun x52 =>
 (binOp PP .add 9 x52 (DV.p (PV.str lqstr3))).bind fun x53 =>
 (plainFn CC lo (DV.fn 151 []) [x0, x53] σ12).bind fun r54_20 =>
 (plainFn CC lo (DV.fn 110 []) [x0] r54_20.2).bind fun r56_21 =>
 (plainFn CC lo (DV.fn 151 []) [x0, (DV.p (PV.str lqstr4))] r56_21.2).bind fun r58_22 =>
 (buildSlice PP none 24 2 [(0, r7_1.1), (1, r56_21.1)] r58_22.2).bind fun r63_23 =>
 (plainFn CC lo (DV.fn 152 []) [x0, (DV.p (PV.int IntKind.i64 (4))), I0, r63_23.1] r63_23.2).bind fun r64_24 =>
 some (r64_24.1, r64_24.2)
 )
 )
 (
 (binOp PP .eql 5 x35 (DV.p (PV.int IntKind.u8 (45)))).bind fun x41 =>
 condK x41
 (
 (binOp PP .eql 3 (DV.p (PV.int IntKind.i64 (5))) (DV.p (PV.int IntKind.i64 (-1)))).bind fun x47 =>
 condK x47
 (
 (plainFn CC lo (DV.fn 111 []) [x0] σ12).bind fun r49_25 =>
 some (I0, r49_25.2)
 )
 (
 (pureFn CC (DV.fn 107 []) [(DV.p (PV.int IntKind.i64 (5)))] σ12).bind fun x52 =>
 (binOp PP .add 9 x52 (DV.p (PV.str lqstr3))).bind fun x53 =>
 (plainFn CC lo (DV.fn 151 []) [x0, x53] σ12).bind fun r54_26 =>
 (plainFn CC lo (DV.fn 110 []) [x0] r54_26.2).bind fun r56_27 =>
 (plainFn CC lo (DV.fn 151 []) [x0, (DV.p (PV.str lqstr4))] r56_27.2).bind fun r58_28 =>
 (buildSlice PP none 24 2 [(0, r7_1.1), (1, r56_27.1)] r58_28.2).bind fun r63_29 =>
 (plainFn CC lo (DV.fn 152 []) [x0, (DV.p (PV.int IntKind.i64 (5))), I0, r63_29.1] r63_29.2).bind fun r64_30 =>
 some (r64_30.1, r64_30.2)
 )
 )
 (
 (binOp PP .eql 5 x35 (DV.p (PV.int IntKind.u8 (126)))).bind fun x43 =>
 condK x43
 (
 (binOp PP .eql 3 (DV.p (PV.int IntKind.i64 (8))) (DV.p (PV.int IntKind.i64 (-1)))).bind fun x47 =>
 condK x47
 (
 (plainFn CC lo (DV.fn 111 []) [x0] σ12).bind fun r49_31 =>
 some (I0, r49_31.2)
 )
 (
 (pureFn CC (DV.fn 107 []) [(DV.p (PV.int IntKind.i64 (8)))] σ12).bind fun x52 =>
 (binOp PP .add 9 x52 (DV.p (PV.str lqstr3))).bind fun x53 =>
 (plainFn CC lo (DV.fn 151 []) [x0, x53] σ12).bind fun r54_32 =>
 (plainFn CC lo (DV.fn 110 []) [x0] r54_32.2).bind fun r56_33 =>
 (plainFn CC lo (DV.fn 151 []) [x0, (DV.p (PV.str lqstr4))] r56_33.2).bind fun r58_34 =>
 (buildSlice PP none 24 2 [(0, r7_1.1), (1, r56_33.1)] r58_34.2).bind fun r63_35 =>
 (plainFn CC lo (DV.fn 152 []) [x0, (DV.p (PV.int IntKind.i64 (8))), I0, r63_35.1] r63_35.2).bind fun r64_36 =>
 some (r64_36.1, r64_36.2)
 )
 )
 (
 (binOp PP .eql 5 x35 (DV.p (PV.int IntKind.u8 (85)))).bind fun x45 =>
 condK x45
 (
 (binOp PP .eql 3 (DV.p (PV.int IntKind.i64 (9))) (DV.p (PV.int IntKind.i64 (-1)))).bind fun x47 =>
 condK x47
 (
 (plainFn CC lo (DV.fn 111 []) [x0] σ12).bind fun r49_37 =>
 some (I0, r49_37.2)
 )
 (
 (pureFn CC (DV.fn 107 []) [(DV.p (PV.int IntKind.i64 (9)))] σ12).bind fun x52 =>
 (binOp PP .add 9 x52 (DV.p (PV.str lqstr3))).bind fun x53 =>
 (plainFn CC lo (DV.fn 151 []) [x0, x53] σ12).bind fun r54_38 =>
 (plainFn CC lo (DV.fn 110 []) [x0] r54_38.2).bind fun r56_39 =>
 (plainFn CC lo (DV.fn 151 []) [x0, (DV.p (PV.str lqstr4))] r56_39.2).bind fun r58_40 =>
 (buildSlice PP none 24 2 [(0, r7_1.1), (1, r56_39.1)] r58_40.2).bind fun r63_41 =>
 (plainFn CC lo (DV.fn 152 []) [x0, (DV.p (PV.int IntKind.i64 (9))), I0, r63_41.1] r63_41.2).bind fun r64_42 =>
 some (r64_42.1, r64_42.2)
 )
 )
 (
 (binOp PP .eql 3 (DV.p (PV.int IntKind.i64 (-1))) (DV.p (PV.int IntKind.i64 (-1)))).bind fun x47 =>
 condK x47
 (
 (plainFn CC lo (DV.fn 111 []) [x0] σ12).bind fun r49_43 =>
 some (I0, r49_43.2)
 )
 (
 (pureFn CC (DV.fn 107 []) [(DV.p (PV.int IntKind.i64 (-1)))] σ12).bind fun x52 =>
 (binOp PP .add 9 x52 (DV.p (PV.str lqstr3))).bind fun x53 =>
 (plainFn CC lo (DV.fn 151 []) [x0, x53] σ12).bind fun r54_44 =>
 (plainFn CC lo (DV.fn 110 []) [x0] r54_44.2).bind fun r56_45 =>
 (plainFn CC lo (DV.fn 151 []) [x0, (DV.p (PV.str lqstr4))] r56_45.2).bind fun r58_46 =>
 (buildSlice PP none 24 2 [(0, r7_1.1), (1, r56_45.1)] r58_46.2).bind fun r63_47 =>
 (plainFn CC lo (DV.fn 152 []) [x0, (DV.p (PV.int IntKind.i64 (-1))), I0, r63_47.1] r63_47.2).bind fun r64_48 =>
 some (r64_48.1, r64_48.2)
 )
 )
 )
 )
 )
 )
 )
 (
 (binOp PP .eql 3 (DV.p (PV.int IntKind.i64 (-1))) (DV.p (PV.int IntKind.i64 (-1)))).bind fun x47 =>
 condK x47
 (
 (plainFn CC lo (DV.fn 111 []) [x0] σ12).bind fun r49_49 =>
 some (I0, r49_49.2)
 )
 (
 (pureFn CC (DV.fn 107 []) [(DV.p (PV.int IntKind.i64 (-1)))] σ12).bind fun x52 =>
 (binOp PP .add 9 x52 (DV.p (PV.str lqstr3))).bind fun x53 =>
 (plainFn CC lo (DV.fn 151 []) [x0, x53] σ12).bind fun r54_50 =>
 (plainFn CC lo (DV.fn 110 []) [x0] r54_50.2).bind fun r56_51 =>
 (plainFn CC lo (DV.fn 151 []) [x0, (DV.p (PV.str lqstr4))] r56_51.2).bind fun r58_52 =>
 (buildSlice PP none 24 2 [(0, r7_1.1), (1, r56_51.1)] r58_52.2).bind fun r63_53 =>
 (plainFn CC lo (DV.fn 152 []) [x0, (DV.p (PV.int IntKind.i64 (-1))), I0, r63_53.1] r63_53.2).bind fun r64_54 =>
 some (r64_54.1, r64_54.2)
 )
 ) := by kernel_rfl
theorem F155_call {lo : Nat} {x0 : DV} (h : F155 guardT lo x0 σ = some r) : CC lo 155 [x0] σ = some r :=
 callL_run Tryz.func155 (by decide +kernel) rfl (by decide +kernel) h
end
end Go.D
end
/- Equations of functions 171, printed by gen.py. -/
section
set_option linter.unusedVariables false
set_option maxRecDepth 10000
namespace Go.D
open Go.Proofs
noncomputable section
variable (G : GuardT) (lo : Nat) {σ : Store} {r : DV × Store}
open _root_.Go.D.Code (fstC sndC)
open _root_.Go.D.Ann (left right)
def c171_0 : Code := bodyOf Tryz.f171
def a171_0 : Ann := (pol 171).ann
def F171 (x0 : DV) (σ : Store) : RS :=
 codeF G PP (pol 171) CC lo c171_0 a171_0 (x0 :: zn 8 []) σ (finR PP Tryz.f171.results.toList)
theorem F171_eq (G : GuardT) (lo : Nat) (x0 : DV) (σ : Store) : F171 G lo x0 σ =
 (binOp PP .geq 5 x0 (DV.p (PV.int IntKind.u8 (48)))).bind fun x4 =>
 G _ x4 true (some (x0, σ)) σ fun x6 σ1 =>
 G _ x4 true ((binOp PP .leq 5 x6 (DV.p (PV.int IntKind.u8 (57)))).bind fun v => some (v, σ1)) σ1 fun x7 σ2 =>
 (pickV x4 x7 (DV.p (PV.bool false))).bind fun x8 =>
 some (x8, σ2) := by kernel_rfl
theorem F171_call {lo : Nat} {x0 : DV} (h : F171 guardT lo x0 σ = some r) : CC lo 171 [x0] σ = some r :=
 callL_run Tryz.func171 (by decide +kernel) rfl (by decide +kernel) h
end
end Go.D
end
/- Chapter 13: the reference's reader of formulas: characters that must come; one more node. -/
section
set_option linter.unusedVariables false
set_option linter.unusedSimpArgs false
set_option maxRecDepth 8000
namespace Go.D
open Las
theorem fa153_0 (x : DV) : fieldAddr PP 153 x 0 = shiftPtr x 0 := Eq.trans (by kernel_rfl) rfl
theorem fa153_1 (x : DV) : fieldAddr PP 153 x 1 = shiftPtr x 1 := Eq.trans (by kernel_rfl) rfl
theorem fa153_2 (x : DV) : fieldAddr PP 153 x 2 = shiftPtr x 2 := Eq.trans (by kernel_rfl) rfl
theorem fa153_3 (x : DV) : fieldAddr PP 153 x 3 = shiftPtr x 3 := Eq.trans (by kernel_rfl) rfl
theorem u8_geq (a b : Int) : binOp PP .geq 5 (.p (.int .u8 a)) (.p (.int .u8 b)) = some (.p (.bool (decide (a ≥ b)))) := Eq.trans rfl rfl
theorem u8_leq (a b : Int) : binOp PP .leq 5 (.p (.int .u8 a)) (.p (.int .u8 b)) = some (.p (.bool (decide (a ≤ b)))) := Eq.trans rfl rfl
theorem S171 (c : Int) (σ : Store) : pureV CC 171 [.p (.int .u8 c)] σ = some (.p (.bool (dig c))) := by
  refine pureV_free rfl rfl (F171_call (r := (.p (.bool (dig c)), [])) ?_) rfl
  rw [F171_eq]
  unfold dig
  by_cases h1 : c ≥ 48
  · by_cases h2 : c ≤ 57
    · simp only [gG, u8_geq, geT h1, leT h1, u8_leq, leT h2, Bool.and_self]
    · simp only [gG, u8_geq, geT h1, leT h1, u8_leq, leF h2, Bool.and_false]
  · have h3 : ¬ (48 : Int) ≤ c := h1
    have h4 : decide (c ≥ 48) = false := decide_eq_false h1
    simp only [gG, u8_geq, h4, leF h3, Bool.false_and]
section
variable {σ : Store} {r : Nat} {s : ByteArray} {p : Nat} {b : Int} {fs : List Nd} {fv : DV} {rem : List Int}
theorem C111 (h : Rdr σ r s p b fs fv) {lo : Nat} (hlo : lo ≤ r) : ∃ σ', CC lo 111 [.ptr r 0] σ = some (.tuple [], σ') ∧ Rdr σ' r s p (if b = -1 then (p : Int) else b) fs fv ∧ Kp σ σ' r := by
  have l1 := h.l1
  have l2 := h.l2
  by_cases c : b = -1
  · subst c
    refine ⟨_, F111_call ?_, h.set p p, Kp.set _ _ _⟩
    have st := h.s2 hlo (p : Int)
    rw [F111_eq]
    simp (disch := omega) only [gG, nil_ptr, shift_ptr, shift_pptr, Nat.zero_add, Nat.add_zero, pureFn_fn, List.append_nil, List.singleton_append, List.cons_append, List.nil_append, fa153_0, fa153_1, fa153_2, fa153_3, load9, load3, load23, l2, b_eql, eqT (rfl : (-1 : Int) = -1), l1, st]
  · rw [if_neg c]
    refine ⟨σ, F111_call ?_, h, Kp.refl _ _⟩
    rw [F111_eq]
    simp (disch := omega) only [gG, nil_ptr, shift_ptr, shift_pptr, Nat.zero_add, Nat.add_zero, pureFn_fn, List.append_nil, List.singleton_append, List.cons_append, List.nil_append, fa153_0, fa153_1, fa153_2, fa153_3, load9, load3, load23, l2, b_eql, eqF c]
theorem L151 {t : ByteArray} {lo : Nat} (hlo : lo ≤ r) (ht : t.size ≤ 100) : ∀ (d i : Nat) (σ : Store) (p : Nat) (rem : List Int), i + d = t.size → Rdr σ r s p (-1) fs fv → Plc s p rem →
    ∃ σ', f151_L0 guardT lo (.ptr r 0) (.p (.str t)) (N i) σ = some (.tuple [], σ') ∧ Kp σ σ' r ∧
      Rdr σ' r s (s.size - (tks ((bs t).drop i) rem).2.length) (if (tks ((bs t).drop i) rem).1 = true then -1 else ((s.size - (tks ((bs t).drop i) rem).2.length : Nat) : Int)) fs fv ∧ Plc s (s.size - (tks ((bs t).drop i) rem).2.length) (tks ((bs t).drop i) rem).2
  | 0, i, σ, p, rem, hd, h, hp => by
    have e0 : (bs t).drop i = [] := List.drop_eq_nil_of_le (by rw [bs_len]; omega)
    rw [e0]
    have e1 : tks [] rem = (true, rem) := rfl
    rw [e1]
    have ep := hp.at
    have hn : ¬ ((i : Nat) : Int) < (t.size : Nat) := by omega
    refine ⟨σ, ?_, Kp.refl _ _, ?_, ?_⟩
    · rw [f151_L0_eq guardT rfl]
      simp (disch := omega) only [N, gG, nil_ptr, shift_ptr, shift_pptr, Nat.zero_add, Nat.add_zero, pureFn_fn, List.append_nil, List.singleton_append, List.cons_append, List.nil_append, fa153_0, fa153_1, fa153_2, fa153_3, load9, load3, load23, str_len, b_lss, ltF hn]
    · rw [← ep]; exact h
    · rw [← ep]; exact hp
  | d + 1, i, σ, p, rem, hd, h, hp => by
    have hlt : ((i : Nat) : Int) < (t.size : Nat) := by omega
    have hit : i < (bs t).length := by rw [bs_len]; omega
    have e0 : (bs t).drop i = (bs t).getD i 0 :: (bs t).drop (i + 1) := by
      rw [List.drop_eq_getElem_cons hit, List.getD_eq_getElem?_getD, List.getElem?_eq_getElem hit]; rfl
    have ep := hp.at
    rw [e0]
    have l0 := h.l0
    have l1 := h.l1
    have l2 := h.l2
    have ixt := str_idx (s := t) (i := i) (by omega)
    have hss := hp.sm
    cases rem with
    | nil =>
      have e1 : tks ((bs t).getD i 0 :: (bs t).drop (i + 1)) [] = (false, []) := rfl
      rw [e1]
      have hps := hp.nil
      have hpe : ((p : Nat) : Int) = (s.size : Nat) := by omega
      obtain ⟨σ', c1, c2, c3⟩ := C111 h hlo
      rw [if_pos rfl] at c2
      refine ⟨σ', ?_, c3, ?_, ?_⟩
      · rw [f151_L0_eq guardT rfl]
        simp (disch := omega) only [N, gG, nil_ptr, shift_ptr, shift_pptr, Nat.zero_add, Nat.add_zero, pureFn_fn, List.append_nil, List.singleton_append, List.cons_append, List.nil_append, fa153_0, fa153_1, fa153_2, fa153_3, load9, load3, load23, str_len, b_lss, ltT hlt, l2, b_eql, eqT (rfl : (-1 : Int) = -1), l1, l0, eqT hpe, plainFn, c1]
      · rw [← ep, if_neg (by simp)]; exact c2
      · rw [← ep]; exact hp
    | cons x rem =>
      obtain ⟨a1, a2, a3⟩ := hp.cons
      have hpe : ¬ ((p : Nat) : Int) = (s.size : Nat) := by omega
      have ix := str_idx a1
      rw [a2] at ix
      by_cases hx : x = (bs t).getD i 0
      · have e1 : tks ((bs t).getD i 0 :: (bs t).drop (i + 1)) (x :: rem) = tks ((bs t).drop (i + 1)) rem := by
          show (if x = _ then _ else _) = _
          rw [if_pos hx]
        rw [e1]
        have st := h.s1 hlo (p + 1)
        obtain ⟨σ', r1, r2, r3, r4⟩ := L151 hlo ht d (i + 1) _ (p + 1) rem (by omega) (h.set (p + 1) (-1)) a3
        refine ⟨σ', ?_, (Kp.set _ _ _).trans r2, r3, r4⟩
        rw [← r1, f151_L0_eq guardT rfl]
        simp (disch := omega) only [N, gG, nil_ptr, shift_ptr, shift_pptr, Nat.zero_add, Nat.add_zero, pureFn_fn, List.append_nil, List.singleton_append, List.cons_append, List.nil_append, fa153_0, fa153_1, fa153_2, fa153_3, load9, load3, load23, str_len, b_lss, ltT hlt, l2, b_eql, eqT (rfl : (-1 : Int) = -1), l1, l0, eqF hpe, ix, ixt, u8_ne, eqT hx, add1, st]
      · have e1 : tks ((bs t).getD i 0 :: (bs t).drop (i + 1)) (x :: rem) = (false, x :: rem) := by
          show (if x = _ then _ else _) = _
          rw [if_neg hx]
        rw [e1]
        obtain ⟨σ', c1, c2, c3⟩ := C111 h hlo
        rw [if_pos rfl] at c2
        refine ⟨σ', ?_, c3, ?_, ?_⟩
        · rw [f151_L0_eq guardT rfl]
          simp (disch := omega) only [N, gG, nil_ptr, shift_ptr, shift_pptr, Nat.zero_add, Nat.add_zero, pureFn_fn, List.append_nil, List.singleton_append, List.cons_append, List.nil_append, fa153_0, fa153_1, fa153_2, fa153_3, load9, load3, load23, str_len, b_lss, ltT hlt, l2, b_eql, eqT (rfl : (-1 : Int) = -1), l1, l0, eqF hpe, ix, ixt, u8_ne, eqF hx, plainFn, c1]
        · rw [← ep, if_neg (by simp)]; exact c2
        · rw [← ep]; exact hp
theorem C151 (h : Rdr σ r s p (-1) fs fv) (hp : Plc s p rem) {lo : Nat} (hlo : lo ≤ r) {t : ByteArray} (ht : t.size ≤ 100) :
    ∃ σ', CC lo 151 [.ptr r 0, .p (.str t)] σ = some (.tuple [], σ') ∧ Kp σ σ' r ∧
      Rdr σ' r s (s.size - (tks (bs t) rem).2.length) (if (tks (bs t) rem).1 = true then -1 else ((s.size - (tks (bs t) rem).2.length : Nat) : Int)) fs fv ∧ Plc s (s.size - (tks (bs t) rem).2.length) (tks (bs t) rem).2 := by
  obtain ⟨σ', a1, a2, a3, a4⟩ := L151 hlo ht t.size 0 σ p rem (by omega) h hp
  rw [List.drop_zero] at a3 a4
  refine ⟨σ', F151_call ?_, a2, a3, a4⟩
  rw [F151_eq]
  exact a1
theorem C151b (h : Rdr σ r s p b fs fv) (hb : b ≠ -1) {lo : Nat} {t : ByteArray} : CC lo 151 [.ptr r 0, .p (.str t)] σ = some (.tuple [], σ) := by
  have l2 := h.l2
  refine F151_call ?_
  rw [F151_eq, f151_L0_eq guardT rfl]
  by_cases c : (0 : Int) < (t.size : Nat)
  · simp (disch := omega) only [N, gG, nil_ptr, shift_ptr, shift_pptr, Nat.zero_add, Nat.add_zero, pureFn_fn, List.append_nil, List.singleton_append, List.cons_append, List.nil_append, fa153_0, fa153_1, fa153_2, fa153_3, load9, load3, load23, str_len, b_lss, ltT c, l2, b_eql, eqF hb]
  · simp (disch := omega) only [N, gG, nil_ptr, shift_ptr, shift_pptr, Nat.zero_add, Nat.add_zero, pureFn_fn, List.append_nil, List.singleton_append, List.cons_append, List.nil_append, fa153_0, fa153_1, fa153_2, fa153_3, load9, load3, load23, str_len, b_lss, ltF c]
theorem bldG (k n : Int) (a : PV) : build PP 67 [(0, .p (.int .i64 k)), (1, .p (.int .i64 n)), (2, .p a)] = some (.agg [.p (pI k), .p (pI n), .p a]) := Eq.trans (by kernel_rfl) rfl
theorem bsG (k n : Int) (a : PV) (σ : Store) : buildSlice PP none 23 1 [(0, .agg [.p (pI k), .p (pI n), .p a])] σ = some (.p (.sl true 1 [pI k, pI n, a]), σ) := Eq.trans (by kernel_rfl) rfl
theorem C152 (h : Rdr σ r s p b fs fv) {lo : Nat} (hlo : lo ≤ r) (hn : fs.length ≤ 1000) (k n : Int) (a : OI) :
    ∃ σ' fv', CC lo 152 [.ptr r 0, .p (.int .i64 k), .p (.int .i64 n), .p (eSt a)] σ = some (.p (.int .i64 (fs.length : Nat)), σ') ∧ Kp σ σ' r ∧ Rdr σ' r s p b (fs ++ [⟨k, n, a⟩]) fv' := by
  have l3 := h.l3
  obtain ⟨y, σ1, a1, a2, a3, a4, _⟩ := Out.pushR (lo0 := lo) (vs := eNt ⟨k, n, a⟩) src23 u23 s67 bytes67 zero67 rfl (by decide) (by decide) (by decide) rfl h.out (by omega) (by omega) (Nat.succ_le_of_lt h.lt)
  have k1 : Kp σ σ1 r := ⟨fun j row h1 h2 h3 => a3.mix h.out h3 h2, a4⟩
  have row1 : σ1[r]? = some (.mix [.p (.str s), N p, .p (.int .i64 b), fv]) := a3.mix h.out h.row (fun v hv => by cases hv)
  have yo : y.one = true := by
    rcases a2.2 with ⟨_, rfl⟩ | ⟨_, r', v, rfl, _, _⟩ <;> rfl
  have st : store PP lo 23 (.ptr r 3) y σ1 = some (σ1.set r (.mix [.p (.str s), N p, .p (.int .i64 b), y])) := by
    cases y <;> first | (exfalso; simp [DV.one] at yo; done) | simp [store, s23w, DV.cells, storeN, row1, hlo, DV.one, splice, N]
  have g2 : (σ1.set r (.mix [.p (.str s), N p, .p (.int .i64 b), y]))[r]? = some (.mix [.p (.str s), N p, .p (.int .i64 b), y]) := by rw [List.getElem?_set_self (get_lt row1)]
  have o2 : Out (σ1.set r (.mix [.p (.str s), N p, .p (.int .i64 b), y])) (r + 1) 3 (fs ++ [(⟨k, n, a⟩ : Nd)]).length (eTs (fs ++ [(⟨k, n, a⟩ : Nd)])) y := by
    have e1 : (fs ++ [(⟨k, n, a⟩ : Nd)]).length = fs.length + 1 := by simp
    rw [e1, eTs_snoc]
    refine a2.low fun j v hj => ?_
    have hne : j ≠ r := fun hh => by rw [hh, row1] at hj; injection hj with hj; cases hj
    rw [List.getElem?_set_ne (Ne.symm hne)]; exact hj
  have l4 : load1 (.ptr r 3) (σ1.set r (.mix [.p (.str s), N p, .p (.int .i64 b), y])) = some y := load1_ptr g2 rfl
  have ln := out_len23 o2
  have el : (((fs ++ [(⟨k, n, a⟩ : Nd)]).length : Nat) : Int) = ((fs.length + 1 : Nat) : Int) := by simp
  rw [el] at ln
  have bl := bldG k n (eSt a)
  have bs1 : ∀ σ, buildSlice PP none 23 1 [(0, .agg [.p (pI k), .p (pI n), .p (eSt a)])] σ = some (.p (.sl true 1 (eNt ⟨k, n, a⟩)), σ) := fun σ => bsG k n (eSt a) σ
  refine ⟨_, y, F152_call ?_, k1.trans (Kp.set _ _ _), g2, o2⟩
  rw [F152_eq]
  simp (disch := omega) only [gG, nil_ptr, shift_ptr, shift_pptr, Nat.zero_add, Nat.add_zero, pureFn_fn, List.append_nil, List.singleton_append, List.cons_append, List.nil_append, fa153_0, fa153_1, fa153_2, fa153_3, load9, load3, load23, l3, bl, bs1, a1, st, l4, ln, sub1, Nat.add_sub_cancel]
end
end Go.D
end
/- Chapter 13: the reference's reader of formulas: an atom. -/
section
set_option linter.unusedVariables false
set_option linter.unusedSimpArgs false
set_option maxRecDepth 8000
namespace Go.D
open Las
section
variable {σ : Store} {r : Nat} {s : ByteArray} {fs : List Nd} {fv : DV}
theorem subq {a b : Nat} (h : b ≤ a) (h2 : a ≤ 1000000) : binOp PP .sub 3 (.p (.int .i64 (a : Nat))) (.p (.int .i64 (b : Nat))) = some (.p (.int .i64 ((a - b : Nat) : Int))) := by
  rw [b_sub, wrap_ok (by omega) (by omega)]
  congr 3
  omega
theorem stp153 {q fr : Nat} {c : Int} {R : List Int} (h : Rdr σ r s q (-1) fs fv) (hp : Plc s q (c :: R)) (hf : fr ≤ q) (h2 : q < fr + 2) (hd : dig c = true) (h3 : q = fr ∨ (q ≠ fr ∧ (bs s).getD fr 0 ≠ 48)) {lo : Nat} (hlo : lo ≤ r) :
    f153_L0 guardT lo (.ptr r 0) (N fr) σ = f153_L0 guardT lo (.ptr r 0) (N fr) (σ.set r (.mix [.p (.str s), N (q + 1), .p (.int .i64 (-1)), fv])) := by
  obtain ⟨a1, a2, a3⟩ := hp.cons
  have l0 := h.l0
  have l1 := h.l1
  have st := h.s1 hlo (q + 1)
  have hsm := hp.sm
  have ix := str_idx a1
  have ix2 := str_idx (s := s) (i := fr) (by omega)
  rw [a2] at ix
  have c1 : ((q : Nat) : Int) < (s.size : Nat) := by omega
  have c2 : ((q - fr : Nat) : Int) < 2 := by omega
  have sb := subq (a := q) (b := fr) hf (by omega)
  rw [f153_L0_eq guardT rfl]
  rcases h3 with h3 | ⟨h3, h4⟩
  · have e : ((q : Nat) : Int) = (fr : Nat) := by omega
    simp (maxSteps := 1000000) (disch := omega) only [N, gG, nil_ptr, shift_ptr, shift_pptr, Nat.zero_add, Nat.add_zero, pureFn_fn, List.append_nil, List.singleton_append, List.cons_append, List.nil_append, fa153_0, fa153_1, fa153_2, fa153_3, load9, load3, load23, l1, l0, str_len, b_lss, ltT c1, sb, ltT c2, ix, S171, hd, b_eql, eqT e, add1, st]
  · have e : ¬ ((q : Nat) : Int) = (fr : Nat) := by omega
    simp (maxSteps := 1000000) (disch := omega) only [N, gG, nil_ptr, shift_ptr, shift_pptr, Nat.zero_add, Nat.add_zero, pureFn_fn, List.append_nil, List.singleton_append, List.cons_append, List.nil_append, fa153_0, fa153_1, fa153_2, fa153_3, load9, load3, load23, l1, l0, str_len, b_lss, ltT c1, sb, ltT c2, ix, S171, hd, b_eql, eqF e, ix2, u8_ne, eqF h4, add1, st]
theorem end153a {q fr : Nat} {n : Int} {ok : Bool} {R : List Int} (h : Rdr σ r s q (-1) fs fv) (hp : Plc s q R) (hf : fr ≤ q) (hq : dgH R = false) (hn : fs.length ≤ 1000)
    (hv : ∀ σ, pureV CC 172 [.p (.str (s.extract fr q))] σ = some (.tuple [.p (.int .i64 n), .p (.bool ok)])) {lo : Nat} (hlo : lo ≤ r) :
    ∃ σ' fv', f153_L0 guardT lo (.ptr r 0) (N fr) σ = some (.p (.int .i64 (fs.length : Nat)), σ') ∧ Kp σ σ' r ∧ Rdr σ' r s q (if (ok && !dgH R) = true then -1 else (q : Int)) (fs ++ [⟨1, n, none⟩]) fv' := by
  have l0 := h.l0
  have l1 := h.l1
  have hsm := hp.sm
  have hle := hp.le
  have sl := str_sl (s := s) (a := fr) (b := q) hf hle
  have x0 : ∀ a b : DV, extractV (.tuple [a, b]) 0 = some a := fun a b => rfl
  have x1 : ∀ a b : DV, extractV (.tuple [a, b]) 1 = some b := fun a b => rfl
  obtain ⟨σ1, k1, k2, k3⟩ := C111 h hlo
  rw [if_pos rfl] at k2
  obtain ⟨σ2, fvE, e1, e2, e3⟩ := C152 k2 hlo hn 1 n none
  obtain ⟨σ3, fvO, o1, o2, o3⟩ := C152 h hlo hn 1 n none
  have es : eSt none = .nilsl := rfl
  rw [es] at e1 o1
  rw [hq]
  cases R with
  | nil =>
    have := hp.nil
    have c1 : ¬ ((q : Nat) : Int) < (s.size : Nat) := by omega
    cases ok with
    | true =>
      refine ⟨σ3, fvO, ?_, o2, o3⟩
      rw [f153_L0_eq guardT rfl]
      simp (maxSteps := 1000000) (disch := omega) only [N, gG, nil_ptr, shift_ptr, shift_pptr, Nat.zero_add, Nat.add_zero, pureFn_fn, List.append_nil, List.singleton_append, List.cons_append, List.nil_append, fa153_0, fa153_1, fa153_2, fa153_3, load9, load3, load23, l1, l0, str_len, b_lss, ltF c1, sl, hv, x0, x1, plainFn, o1]
    | false =>
      refine ⟨σ2, fvE, ?_, k3.trans e2, e3⟩
      rw [f153_L0_eq guardT rfl]
      simp (maxSteps := 1000000) (disch := omega) only [N, gG, nil_ptr, shift_ptr, shift_pptr, Nat.zero_add, Nat.add_zero, pureFn_fn, List.append_nil, List.singleton_append, List.cons_append, List.nil_append, fa153_0, fa153_1, fa153_2, fa153_3, load9, load3, load23, l1, l0, str_len, b_lss, ltF c1, sl, hv, x0, x1, plainFn, k1, e1]
  | cons c R =>
    obtain ⟨a1, a2, a3⟩ := hp.cons
    have ix := str_idx a1
    rw [a2] at ix
    have c1 : ((q : Nat) : Int) < (s.size : Nat) := by omega
    have hd : dig c = false := hq
    cases ok with
    | true =>
      refine ⟨σ3, fvO, ?_, o2, o3⟩
      rw [f153_L0_eq guardT rfl]
      simp (maxSteps := 1000000) (disch := omega) only [N, gG, nil_ptr, shift_ptr, shift_pptr, Nat.zero_add, Nat.add_zero, pureFn_fn, List.append_nil, List.singleton_append, List.cons_append, List.nil_append, fa153_0, fa153_1, fa153_2, fa153_3, load9, load3, load23, l1, l0, str_len, b_lss, ltT c1, ix, S171, hd, sl, hv, x0, x1, plainFn, o1]
    | false =>
      refine ⟨σ2, fvE, ?_, k3.trans e2, e3⟩
      rw [f153_L0_eq guardT rfl]
      simp (maxSteps := 1000000) (disch := omega) only [N, gG, nil_ptr, shift_ptr, shift_pptr, Nat.zero_add, Nat.add_zero, pureFn_fn, List.append_nil, List.singleton_append, List.cons_append, List.nil_append, fa153_0, fa153_1, fa153_2, fa153_3, load9, load3, load23, l1, l0, str_len, b_lss, ltT c1, ix, S171, hd, sl, hv, x0, x1, plainFn, k1, e1]
theorem end153b {q fr : Nat} {n : Int} {ok : Bool} {c : Int} {R : List Int} (h : Rdr σ r s q (-1) fs fv) (hp : Plc s q (c :: R)) (hf : fr ≤ q) (hd : dig c = true) (hq : q = fr + 2) (hn : fs.length ≤ 1000)
    (hv : ∀ σ, pureV CC 172 [.p (.str (s.extract fr q))] σ = some (.tuple [.p (.int .i64 n), .p (.bool ok)])) {lo : Nat} (hlo : lo ≤ r) :
    ∃ σ' fv', f153_L0 guardT lo (.ptr r 0) (N fr) σ = some (.p (.int .i64 (fs.length : Nat)), σ') ∧ Kp σ σ' r ∧ Rdr σ' r s q (if (ok && !true) = true then -1 else (q : Int)) (fs ++ [⟨1, n, none⟩]) fv' := by
  have l0 := h.l0
  have l1 := h.l1
  have hsm := hp.sm
  have hle := hp.le
  have sl := str_sl (s := s) (a := fr) (b := q) hf hle
  have x0 : ∀ a b : DV, extractV (.tuple [a, b]) 0 = some a := fun a b => rfl
  have x1 : ∀ a b : DV, extractV (.tuple [a, b]) 1 = some b := fun a b => rfl
  obtain ⟨σ1, k1, k2, k3⟩ := C111 h hlo
  rw [if_pos rfl] at k2
  obtain ⟨σ2, fvE, e1, e2, e3⟩ := C152 k2 hlo hn 1 n none
  obtain ⟨σ3, fvO, o1, o2, o3⟩ := C152 h hlo hn 1 n none
  have es : eSt none = .nilsl := rfl
  rw [es] at e1 o1
  obtain ⟨a1, a2, a3⟩ := hp.cons
  have ix := str_idx a1
  rw [a2] at ix
  have c1 : ((q : Nat) : Int) < (s.size : Nat) := by omega
  have sb := subq (a := q) (b := fr) hf (by omega)
  have c2 : ¬ ((q - fr : Nat) : Int) < 2 := by omega
  cases ok with
  | true =>
    refine ⟨σ2, fvE, ?_, k3.trans e2, e3⟩
    rw [f153_L0_eq guardT rfl]
    simp (maxSteps := 1000000) (disch := omega) only [N, gG, nil_ptr, shift_ptr, shift_pptr, Nat.zero_add, Nat.add_zero, pureFn_fn, List.append_nil, List.singleton_append, List.cons_append, List.nil_append, fa153_0, fa153_1, fa153_2, fa153_3, load9, load3, load23, l1, l0, str_len, b_lss, ltT c1, ix, S171, hd, sb, ltF c2, sl, hv, x0, x1, plainFn, k1, e1]
  | false =>
    refine ⟨σ2, fvE, ?_, k3.trans e2, e3⟩
    rw [f153_L0_eq guardT rfl]
    simp (maxSteps := 1000000) (disch := omega) only [N, gG, nil_ptr, shift_ptr, shift_pptr, Nat.zero_add, Nat.add_zero, pureFn_fn, List.append_nil, List.singleton_append, List.cons_append, List.nil_append, fa153_0, fa153_1, fa153_2, fa153_3, load9, load3, load23, l1, l0, str_len, b_lss, ltT c1, ix, S171, hd, sb, ltF c2, sl, hv, x0, x1, plainFn, k1, e1]
theorem end153c {q fr : Nat} {n : Int} {c : Int} {R : List Int} (h : Rdr σ r s q (-1) fs fv) (hp : Plc s q (c :: R)) (hf : fr ≤ q) (hd : dig c = true) (hq : q = fr + 1) (h48 : (bs s).getD fr 0 = 48) (hn : fs.length ≤ 1000)
    (hv : ∀ σ, pureV CC 172 [.p (.str (s.extract fr q))] σ = some (.tuple [.p (.int .i64 n), .p (.bool true)])) {lo : Nat} (hlo : lo ≤ r) :
    ∃ σ' fv', f153_L0 guardT lo (.ptr r 0) (N fr) σ = some (.p (.int .i64 (fs.length : Nat)), σ') ∧ Kp σ σ' r ∧ Rdr σ' r s q (if (true && !true) = true then -1 else (q : Int)) (fs ++ [⟨1, n, none⟩]) fv' := by
  have l0 := h.l0
  have l1 := h.l1
  have hsm := hp.sm
  have hle := hp.le
  have sl := str_sl (s := s) (a := fr) (b := q) hf hle
  have x0 : ∀ a b : DV, extractV (.tuple [a, b]) 0 = some a := fun a b => rfl
  have x1 : ∀ a b : DV, extractV (.tuple [a, b]) 1 = some b := fun a b => rfl
  obtain ⟨σ1, k1, k2, k3⟩ := C111 h hlo
  rw [if_pos rfl] at k2
  obtain ⟨σ2, fvE, e1, e2, e3⟩ := C152 k2 hlo hn 1 n none
  obtain ⟨σ3, fvO, o1, o2, o3⟩ := C152 h hlo hn 1 n none
  have es : eSt none = .nilsl := rfl
  rw [es] at e1 o1
  obtain ⟨a1, a2, a3⟩ := hp.cons
  have ix := str_idx a1
  rw [a2] at ix
  have c1 : ((q : Nat) : Int) < (s.size : Nat) := by omega
  have sb := subq (a := q) (b := fr) hf (by omega)
  have c2 : ((q - fr : Nat) : Int) < 2 := by omega
  have ne : ¬ ((q : Nat) : Int) = (fr : Nat) := by omega
  have ix2 := str_idx (s := s) (i := fr) (by omega)
  refine ⟨σ2, fvE, ?_, k3.trans e2, e3⟩
  rw [f153_L0_eq guardT rfl]
  simp (maxSteps := 1000000) (disch := omega) only [N, gG, nil_ptr, shift_ptr, shift_pptr, Nat.zero_add, Nat.add_zero, pureFn_fn, List.append_nil, List.singleton_append, List.cons_append, List.nil_append, fa153_0, fa153_1, fa153_2, fa153_3, load9, load3, load23, l1, l0, str_len, b_lss, ltT c1, ix, S171, hd, sb, ltT c2, b_eql, eqF ne, ix2, u8_ne, eqT h48, sl, hv, x0, x1, plainFn, k1, e1]
theorem end153 {q fr : Nat} {n : Int} {R : List Int} (h : Rdr σ r s q (-1) fs fv) (hp : Plc s q R) (hf : fr ≤ q) (hq : dgH R = false ∨ q = fr + 2 ∨ (q = fr + 1 ∧ (bs s).getD fr 0 = 48)) (hn : fs.length ≤ 1000)
    (hv : ∀ σ, pureV CC 172 [.p (.str (s.extract fr q))] σ = some (.tuple [.p (.int .i64 n), .p (.bool true)])) {lo : Nat} (hlo : lo ≤ r) :
    ∃ σ' fv', f153_L0 guardT lo (.ptr r 0) (N fr) σ = some (.p (.int .i64 (fs.length : Nat)), σ') ∧ Kp σ σ' r ∧ Rdr σ' r s q (if (true && !dgH R) = true then -1 else (q : Int)) (fs ++ [⟨1, n, none⟩]) fv' := by
  cases hd : dgH R with
  | false =>
    have := end153a h hp hf hd hn hv hlo
    rw [hd] at this
    exact this
  | true =>
    rcases hq with hq | hq
    · rw [hq] at hd; exact absurd hd (by simp)
    cases R with
    | nil => exact absurd hd (by simp [dgH])
    | cons c R =>
      have hd' : dig c = true := hd
      rcases hq with hq | ⟨hq, h48⟩
      · exact end153b h hp hf hd' hq hn hv hlo
      · exact end153c h hp hf hd' hq h48 hn hv hlo
theorem ext_0 (q : Nat) : bs (s.extract q q) = [] := by
  rw [bs_ext, List.drop_take, Nat.sub_self]; rfl
theorem C153 {q : Nat} {R : List Int} (h : Rdr σ r s q (-1) fs fv) (hp : Plc s q R) {lo : Nat} (hlo : lo ≤ r) (hn : fs.length ≤ 1000) {bd : Nat} (hbd : fs.length + 1 ≤ bd) :
    ∃ v σ', CC lo 153 [.ptr r 0] σ = some (.p (.int .i64 v), σ') ∧ Kp σ σ' r ∧ Fn σ' r s bd v (match atm R with
      | none => .err R
      | some (n, r') => if (true && dgH r') = true then .err r' else .ok r' (fs ++ [⟨1, n, none⟩])) := by
  have l1 := h.l1
  have hat := hp.at
  have hle := hp.le
  have fin : ∀ v σ', f153_L0 guardT lo (.ptr r 0) (N q) σ = some (.p (.int .i64 v), σ') → CC lo 153 [.ptr r 0] σ = some (.p (.int .i64 v), σ') := fun v σ' hh => by
    refine F153_call ?_
    rw [F153_eq]
    simp (disch := omega) only [gG, nil_ptr, shift_ptr, shift_pptr, Nat.zero_add, Nat.add_zero, pureFn_fn, List.append_nil, List.singleton_append, List.cons_append, List.nil_append, fa153_0, fa153_1, fa153_2, fa153_3, load9, load3, load23, l1]
    exact hh
  have app1 : ∀ x : Nd, (fs ++ [x]).length = fs.length + 1 := fun x => by simp
  have er : ∀ {σ' : Store} {q' : Nat} {e : List Int} {x : Nd} {fv' : DV} {v : Int}, Plc s q' e → Rdr σ' r s q' (q' : Int) (fs ++ [x]) fv' → Fn σ' r s bd v (.err e) := fun {σ' q' e x fv' v} hpe hr => by
    have := hpe.at
    exact ⟨q', _, fv', by rw [← this]; exact hr, hpe.le, by rw [app1]; exact hbd⟩
  have okk : ∀ {σ' : Store} {q' : Nat} {e : List Int} {x : Nd} {fv' : DV}, Plc s q' e → Rdr σ' r s q' (-1) (fs ++ [x]) fv' → Fn σ' r s bd (fs.length : Nat) (.ok e (fs ++ [x])) := fun {σ' q' e x fv'} hpe hr => by
    have := hpe.at
    refine ⟨?_, by rw [← this]; exact hpe, fv', by rw [← this]; exact hr⟩
    rw [app1, Nat.add_sub_cancel]
  -- an atom that ends here
  have fit : ∀ {σ0 σ' : Store} {q' : Nat} {e : List Int} {n : Int} {fv' : DV}, Plc s q' e → Rdr σ' r s q' (if (true && !dgH e) = true then -1 else (q' : Int)) (fs ++ [⟨1, n, none⟩]) fv' → Fn σ' r s bd (fs.length : Nat) (if (true && dgH e) = true then .err e else .ok e (fs ++ [⟨1, n, none⟩])) := fun {σ0 σ' q' e n fv'} hpe hr => by
    cases hde : dgH e with
    | true => rw [hde] at hr; exact er hpe hr
    | false => rw [hde] at hr; exact okk hpe hr
  have no : dgH R = false → atm R = none → ∃ v σ', CC lo 153 [.ptr r 0] σ = some (.p (.int .i64 v), σ') ∧ Kp σ σ' r ∧ Fn σ' r s bd v (.err R) := fun hd _ => by
    obtain ⟨σ', fv', e1, e2, e3⟩ := end153a h hp (Nat.le_refl q) hd hn (fun σ => S172_0 (ext_0 q) σ) hlo
    exact ⟨_, σ', fin _ _ e1, e2, er hp e3⟩
  cases R with
  | nil =>
    have ea : atm [] = none := rfl
    rw [ea]
    exact no rfl ea
  | cons c R =>
    cases hd : dig c with
    | false =>
      have ea : atm (c :: R) = none := by rw [atm_cons, if_neg (by rw [hd]; simp)]
      rw [ea]
      exact no hd ea
    | true =>
      obtain ⟨a1, a2, a3⟩ := hp.cons
      have s1 := stp153 h hp (Nat.le_refl _) (by omega) hd (.inl rfl) hlo
      have r1 := h.set (q + 1) (-1)
      have k1 := Kp.set σ (.mix [.p (.str s), N (q + 1), .p (.int .i64 (-1)), fv]) r
      have h172 := fun σ => S172_1 (ext_1 hp) hd σ
      rw [atm_cons, if_pos hd]
      have hqq : (dgH R = false ∨ c = 48) → (dgH R = false ∨ q + 1 = q + 2 ∨ (q + 1 = q + 1 ∧ (bs s).getD q 0 = 48)) := fun hh => by
        rcases hh with hh | hh
        · exact .inl hh
        · exact .inr (.inr ⟨rfl, by rw [a2]; exact hh⟩)
      have endq : (dgH R = false ∨ c = 48) → ∃ v σ', CC lo 153 [.ptr r 0] σ = some (.p (.int .i64 v), σ') ∧ Kp σ σ' r ∧ Fn σ' r s bd v (if (true && dgH R) = true then .err R else .ok R (fs ++ [⟨1, c - 48, none⟩])) := fun hh => by
        obtain ⟨σ', fv', e1, e2, e3⟩ := end153 (fr := q) r1 a3 (by omega) (hqq hh) hn h172 hlo
        exact ⟨_, σ', fin _ _ (s1.trans e1), k1.trans e2, fit (σ0 := σ) a3 e3⟩
      by_cases c48 : c = 48
      · rw [if_pos c48]
        subst c48
        exact endq (.inr rfl)
      · rw [if_neg c48]
        cases R with
        | nil => exact endq (.inl rfl)
        | cons d R =>
          cases hd2 : dig d with
          | false =>
            simp only [hd2, Bool.false_eq_true, if_false]
            exact endq (.inl hd2)
          | true =>
            simp only [hd2, if_true]
            obtain ⟨a4, a5, a6⟩ := a3.cons
            have s2 := stp153 (fr := q) r1 a3 (by omega) (by omega) hd2 (.inr ⟨by omega, by rw [a2]; exact c48⟩) hlo
            have r2 := r1.set (q + 1 + 1) (-1)
            have k2 := Kp.set (σ.set r (.mix [.p (.str s), N (q + 1), .p (.int .i64 (-1)), fv])) (.mix [.p (.str s), N (q + 1 + 1), .p (.int .i64 (-1)), fv]) r
            have h172' := fun σ => S172_2 (ext_2 hp) hd hd2 c48 σ
            obtain ⟨σ', fv', e1, e2, e3⟩ := end153 (fr := q) r2 a6 (by omega) (.inr (.inl rfl)) hn h172' hlo
            exact ⟨_, σ', fin _ _ (s1.trans (s2.trans e1)), k1.trans (k2.trans e2), fit (σ0 := σ) a6 e3⟩
end
end Go.D
end
