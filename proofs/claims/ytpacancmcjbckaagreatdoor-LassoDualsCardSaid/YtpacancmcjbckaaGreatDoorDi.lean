/- LassoDuals: for all formulas and every word the law answers true and leaves its arguments as they were: the given tied card, without further conditions. -/
import Derived.Test.YtpacancmcjbckaaGreatDoorDd
import Derived.Test.YtpacancmcjbckaaGreatDoorDg
import Derived.Test.YtpacancmcjbckaaGreatDoorDh
import Derived.Test.YtpacancmcjbckaaGreatDoorDe
import Derived.Test.YtpacancmcjbckaaGreatDoorTie
import Derived.Test.YtpacancmcjbckaaGreatDoorCards
import Derived.SevenTiedAt
/- Chapter 13: LassoWords' law. -/
section
set_option linter.unusedVariables false
set_option linter.unusedSimpArgs false
namespace Go.D
open Las
set_option maxRecDepth 4000
theorem b_eql30 (x y : Int) : binOp PP .eql 30 (.p (.int .i64 x)) (.p (.int .i64 y)) = some (.p (.bool (decide (x = y)))) := Eq.trans (by kernel_rfl) rfl
def awT : Prop := ∀ σ : Store, pureV CC 12 [] σ = some (.p (.bool true))
end Go.D
end
/- The examples of chapter 13: awake answers true. -/
section
set_option linter.unusedVariables false
set_option linter.unusedSimpArgs false
set_option maxRecDepth 100000
namespace Go.D
def exS1 : Store := [.mix [.p (exN [1]), .p (exN [2, 3])]]
def exS2 : Store := [.mix [.p (exN [1]), .p (exN [2, 3])], .mix [.p (.sl false 0 []), .p (exN [0])]]
theorem K48 (σ : Store) : pureV CC 48 [.p (.str lstr0)] σ = some (.tuple [.p exF, .p (pI 12), .p (pI 0)]) := pureV_run run48 rfl rfl
theorem K62a (σ : Store) : pureV CC 62 [.p (.int .i64 0)] σ = some (.p exA0) := pureV_run run62a rfl rfl
theorem K62b (σ : Store) : pureV CC 62 [.p (.int .i64 1)] σ = some (.p exA1) := pureV_run run62b rfl rfl
theorem K63 (σ : Store) : pureV CC 63 [.p .nilsl] σ = some exY := pureV_run run63 rfl rfl
theorem K38a (σ : Store) : pureV CC 38 [.p (.int .i64 8), .p (.sl true 2 [exA0, exA1])] σ = some (.p exU) := by
  rw [pureV_view (args' := [.p (pI 8), .p (.sl false 2 [exA0, exA1])]) rfl rfl]
  exact pureV_run run38a rfl rfl
theorem K38b (σ : Store) : pureV CC 38 [.p (.int .i64 7), .p (.sl true 1 [exA0])] σ = some (.p exB) := by
  rw [pureV_view (args' := [.p (pI 7), .p (.sl false 1 [exA0])]) rfl rfl]
  exact pureV_run run38b rfl rfl
theorem K32 (σ : Store) : pureV CC 32 [.agg [.p (.sl true 3 [.int .i64 1, .int .i64 1, .int .i64 2]), .p (.sl true 3 [.int .i64 3, .int .i64 2, .int .i64 2])]] σ = some (.tuple [.agg [.p (exN [1]), .p (exN [2, 3])], .p (pI 0)]) := by
  rw [pureV_view (args' := [.agg [.p (exN [1, 1, 2]), .p (exN [3, 2, 2])]]) rfl rfl]
  exact pureV_run run32 rfl rfl
theorem K29 (σ : Store) : pureV CC 29 [exL, .agg [.p .nilsl, .p (.sl true 1 [.int .i64 0])]] σ = some (.p (.bool true)) := by
  rw [pureV_view (args' := [exL, .agg [.p .nilsl, .p (exN [0])]]) rfl rfl]
  exact pureV_run run29 rfl rfl
theorem K20 (σ : Store) : pureV CC 20 [.p exU, .agg [.p (.sl true 2 [.int .i64 0, .int .i64 1]), .p (.sl true 2 [.int .i64 2, .int .i64 0])]] σ = some (.tuple [.p (.bool true), .p (pI 0)]) := by
  rw [pureV_view (args' := [.p exU, .agg [.p (exN [0, 1]), .p (exN [2, 0])]]) rfl rfl]
  exact pureV_run run20 rfl rfl
theorem K27 (σ : Store) : pureV CC 27 [exY, .p exB, .p (.int .i64 2)] σ = some (.tuple [exL, .p (pI 0)]) := pureV_run run27 rfl rfl
theorem K33 (σ : Store) : pureV CC 33 [.agg [.p (exN [1]), .p (exN [2, 3])], .agg [.p (.sl true 1 [.int .i64 1]), .p (.sl true 2 [.int .i64 2, .int .i64 3])]] σ = some (.p (.bool true)) := by
  rw [pureV_view (args' := [vWd ⟨some [1], some [2, 3]⟩, vWd ⟨some [1], some [2, 3]⟩]) rfl rfl]
  exact S33 (u := ⟨some [1], some [2, 3]⟩) (w := ⟨some [1], some [2, 3]⟩) (by decide) (by decide) σ
theorem kb64_2 (σ : Store) : buildSlice PP none 64 2 [(0, .p exA0), (1, .p exA1)] σ = some (.p (.sl true 2 [exA0, exA1]), σ) := Eq.trans (by kernel_rfl) rfl
theorem kb64_1 (σ : Store) : buildSlice PP none 64 1 [(0, .p exA0)] σ = some (.p (.sl true 1 [exA0]), σ) := Eq.trans (by kernel_rfl) rfl
theorem kb24_2 (a b : Int) (σ : Store) : buildSlice PP none 24 2 [(0, .p (.int .i64 a)), (1, .p (.int .i64 b))] σ = some (.p (.sl true 2 [.int .i64 a, .int .i64 b]), σ) := Eq.trans (by kernel_rfl) rfl
theorem kb24_3 (a b c : Int) (σ : Store) : buildSlice PP none 24 3 [(0, .p (.int .i64 a)), (1, .p (.int .i64 b)), (2, .p (.int .i64 c))] σ = some (.p (.sl true 3 [.int .i64 a, .int .i64 b, .int .i64 c]), σ) := Eq.trans (by kernel_rfl) rfl
theorem kb52 (p : PV) : build PP 52 [(1, .p p)] = some (.agg [.p .nilsl, .p p]) := Eq.trans (by kernel_rfl) rfl
theorem kz52 : zeroOf PP 52 = some [.p .nilsl, .p .nilsl] := Eq.trans (by kernel_rfl) rfl
theorem ks1 : store PP 0 26 (.ptr 0 0) (.agg [.p (exN [1]), .p (exN [2, 3])]) [.mix [.p .nilsl, .p .nilsl]] = some exS1 := Eq.trans (by kernel_rfl) rfl
theorem ks2 : store PP 0 52 (.ptr 1 0) exL (exS1 ++ [.mix [.p .nilsl, .p .nilsl]]) = some exS2 := Eq.trans (by kernel_rfl) rfl
theorem kl1 : exS1.length = 1 := rfl
theorem kd1 : load PP 26 (.ptr 0 0) exS2 = some (.agg [.p (exN [1]), .p (exN [2, 3])]) := Eq.trans (by kernel_rfl) rfl
theorem kd2 : load PP 52 (.ptr 1 0) exS2 = some exL := Eq.trans (by kernel_rfl) rfl
theorem kln (σ : Store) : len PP 23 (.p exF) σ = some (.p (.int .i64 4)) := Eq.trans (by kernel_rfl) rfl
theorem kx0 (a b : DV) : extractV (.tuple [a, b]) 0 = some a := rfl
theorem kx1 (a b : DV) : extractV (.tuple [a, b]) 1 = some b := rfl
theorem ke0 (a b c : DV) : extractV (.tuple [a, b, c]) 0 = some a := rfl
theorem ke1 (a b c : DV) : extractV (.tuple [a, b, c]) 1 = some b := rfl
theorem ke2 (a b c : DV) : extractV (.tuple [a, b, c]) 2 = some c := rfl
theorem awake_F12 : F12 guardT 0 [] = some (.p (.bool true), exS2) := by
  rw [F12_eq]
  simp only [pureFn_fn, List.append_nil, K48, gG, ke0, ke1, ke2, K62a, K62b, kb64_2, K38a, kb24_2, bld26 (x := .p _) (y := .p _) rfl rfl, K20, kx0, kx1, kb24_3, K32, zero26, List.length_nil, List.nil_append, ks1, kl1, K63, kb64_1, K38b, K27, kz52, ks2,
    b_eql30, eqT (rfl : (0 : Int) = 0), b_eql, eqT (rfl : (12 : Int) = 12), eqT (rfl : (4 : Int) = 4), kln, kd1, bs24_1, K33, kd2, kb52, K29]
theorem awake_true : awT := fun σ => pureV_free rfl rfl (F12_call awake_F12) rfl
end Go.D
end
/- Chapter 13: LassoGraphs' law. -/
section
set_option linter.unusedVariables false
set_option linter.unusedSimpArgs false
set_option maxRecDepth 8000
namespace Go.D
open Las
def ownG (g : Gr) : Gr := ⟨g.n, some (L g.init), some (L g.edges)⟩
def ownX (x : Lb) : Lb := ⟨ownG x.g, some (L x.la), some (L x.st), some (L x.en), some (L x.we), some (L x.sr)⟩
theorem LSm.own {x : Lb} (h : LSm x) : LSm (ownX x) := ⟨h.i, h.e, h.la, h.st, h.en, h.we, h.sr⟩
end Go.D
end
/- Chapter 13: LassoBehaviours' law. -/
section
set_option linter.unusedVariables false
set_option linter.unusedSimpArgs false
set_option maxRecDepth 8000
namespace Go.D
open Las
section
variable {x : Lb} (hx : LSm x) (hk : LbOk x) {p q : DV} {P Q : List Int} (hl : P.length + Q.length ≤ 1000) (h0 : 0 < Q.length) (hin : ∀ i, i < (P ++ Q).length → 0 ≤ (P ++ Q).getD i 0 ∧ (P ++ Q).getD i 0 < x.g.n)
include hx hk hl h0 hin
end
section
variable {x : Lb} (hx : LSm x) (hk : LbOk x)
include hx hk
end
section
variable {x : Lb} (hx : LSm x) (hk : LbOk x) {w : Wd} (hl : (L w.p).length + (L w.l).length ≤ 1000) (h0 : 0 < (L w.l).length) (hin : ∀ i, i < (L w.p ++ L w.l).length → 0 ≤ (L w.p ++ L w.l).getD i 0 ∧ (L w.p ++ L w.l).getD i 0 < x.g.n)
theorem Out.one {σ : Store} {lo sz n : Nat} {cs : List PV} {x : DV} (h : Out σ lo sz n cs x) : x.one = true := by
  rcases h.2 with ⟨_, rfl⟩ | ⟨_, _, _, rfl, _⟩ <;> rfl
def Ap (x y : DV) : Prop := ∀ r v s n c r' v' s' n' c', x = .osl r v s n c → y = .osl r' v' s' n' c' → r ≠ r'
theorem Out.kp {σ σ' : Store} {lo sz n : Nat} {cs : List PV} {x y : DV} (h : Out σ lo sz n cs x) (ho : Others σ σ' y) (ha : Ap x y) : Out σ' lo sz n cs x := by
  obtain ⟨h1, h2⟩ := h
  refine ⟨h1, ?_⟩
  rcases h2 with h2 | ⟨h0, r', v, h2, h3, h4⟩
  · exact .inl h2
  · exact .inr ⟨h0, r', v, h2, ho r' _ h3 (fun r ver s m c e => ha _ _ _ _ _ _ _ _ _ _ h2 e), h4⟩
theorem Ap.symm {x y : DV} (h : Ap x y) : Ap y x := fun r v s n c r' v' s' n' c' e1 e2 => (h _ _ _ _ _ _ _ _ _ _ e2 e1).symm
include hx hk hl h0 hin
end
end Go.D
end
/- Chapter 13: Join of the reference. -/
section
set_option linter.unusedVariables false
set_option linter.unusedSimpArgs false
set_option maxRecDepth 8000
namespace Go.D
open Las
theorem Out.pushR {σ : Store} {t e lo0 lo sz b n : Nat} {z : List DV} {cs vs : List PV} {x : DV} (hs : srcType PP t = true) (hu : PP.underlying t = some (.slice e)) (h1 : size? PP e = some sz) (h2 : bytes? PP e = some b) (h3 : zeroOf PP e = some z)
    (h4 : z.length = sz) (hz : 0 < sz) (hb : 0 < b) (hb2 : b ≤ 1000) (hv : vs.length = sz) (ho : Out σ lo sz n cs x) (hn : n ≤ 1000000) (h0 : lo0 ≤ lo) (hlo : lo ≤ σ.length) :
    ∃ x' σ', append PP lo0 false t t x (.p (.sl true 1 vs)) σ = some (x', σ') ∧ Out σ' lo sz (n + 1) (cs ++ vs) x' ∧ Others σ σ' x ∧ σ.length ≤ σ'.length ∧
      ∃ r v c, x' = .osl r v sz (n + 1) c ∧ ((x = .p .nilsl ∧ r = σ.length) ∨ ∃ v0 c0, x = .osl r v0 sz n c0) := by
  have hsrc : source σ sz (.p (.sl true 1 vs)) = some (1, vs.map DV.p) := by simp [source, hv]
  have hz0 : ¬ (z.length ≠ sz ∨ sz = 0) := by omega
  obtain ⟨hc, ho⟩ := ho
  rcases ho with ⟨rfl, rfl⟩ | ⟨hn0, r, ver, rfl, hr, hl⟩
  · refine ⟨.osl σ.length 0 sz 1 vs, σ ++ [.tok 0], ?_, ⟨by simp [hc, hv], .inr ⟨by simp, σ.length, 0, ?_, get_snoc, hlo⟩⟩, ?_, by simp, σ.length, 0, vs, rfl, .inl ⟨rfl, rfl⟩⟩
    · have : b ≤ 140737488355328 := by omega
      simp only [append, hs, hu, h1, h2, h3, hz0, hsrc, appNil]
      simp [this, hb, pures_map, h4, hz, Nat.ne_of_gt hz]
    · have : cs = [] := List.length_eq_zero_iff.1 (by simpa using hc)
      rw [this]; simp
    · intro i row hi _
      exact get_old hi
  · refine ⟨.osl r (ver + 1) sz (n + 1) (cs ++ vs), σ.set r (.tok (ver + 1)), ?_, ⟨by simp [hc, hv, Nat.add_mul], .inr ⟨by simp, r, ver + 1, rfl, ?_, hl⟩⟩, ?_, by simp, r, ver + 1, cs ++ vs, rfl, .inr ⟨ver, cs, rfl⟩⟩
    · have e1 : (n + 1) * b ≤ 140737488355328 := Nat.le_trans (Nat.mul_le_mul (show n + 1 ≤ 1000001 by omega) hb2) (by decide)
      have e2 : n + 1 ≤ 140737488355328 := by omega
      have e3 : lo0 ≤ r := by omega
      simp only [append, hs, hu, h1, h2, h3, hz0, hsrc, appTok]
      simp [e1, e2, hb, hc, e3, hr, pures_map, h4, Nat.ne_of_gt hz]
    · rw [List.getElem?_set_self (get_lt hr)]
    · intro i row hi hne
      rw [List.getElem?_set_ne (fun e => hne _ _ _ _ _ rfl e.symm)]
      exact hi
theorem Others.low {σ σ' : Store} {lo sz n : Nat} {cs : List PV} {x : DV} (h : Others σ σ' x) (ho : Out σ lo sz n cs x) {r : Nat} {row : Row} (hr : r < lo) (hi : σ[r]? = some row) : σ'[r]? = some row := by
  refine h r row hi ?_
  rintro r' ver sz' n' cs' rfl
  rcases ho.2 with ⟨_, h2⟩ | ⟨_, r2, ver2, h2, _, h3⟩
  · cases h2
  · injection h2 with e1
    omega
theorem Ap.push {σ : Store} {lo sz sz' n n' : Nat} {cs : List PV} {x x' y : DV} (hy : Out σ lo sz' n' cs y) (ha : Ap y x) (hx : ∃ r v c, x' = .osl r v sz (n + 1) c ∧ ((x = .p .nilsl ∧ r = σ.length) ∨ ∃ v0 c0, x = .osl r v0 sz n c0)) : Ap y x' := by
  intro r ver s m c r' ver' s' m' c' ey ex
  obtain ⟨r1, v1, c1, e1, h⟩ := hx
  rw [e1] at ex
  injection ex with ex
  rcases h with ⟨_, h⟩ | ⟨v0, c0, h⟩
  · rcases hy.2 with ⟨_, e⟩ | ⟨_, r2, v2, e, k1, _⟩
    · rw [e] at ey; cases ey
    · rw [e] at ey
      injection ey with ey
      have := get_lt k1
      omega
  · rw [← ex]
    exact ha _ _ _ _ _ _ _ _ _ _ ey h
theorem Out.low {σ σ' : Store} {lo sz n : Nat} {cs : List PV} {x : DV} (h : Out σ lo sz n cs x) (hk : ∀ (r v : Nat), σ[r]? = some (Row.tok v) → σ'[r]? = some (Row.tok v)) : Out σ' lo sz n cs x := by
  obtain ⟨h1, h2⟩ := h
  refine ⟨h1, ?_⟩
  rcases h2 with h2 | ⟨h0, r', v, h2, h3, h4⟩
  · exact .inl h2
  · exact .inr ⟨h0, r', v, h2, hk _ _ h3, h4⟩
theorem u64 : PP.underlying 64 = some (.slice 23) := Eq.trans (by kernel_rfl) rfl
theorem s23 : size? PP 23 = some 1 := Eq.trans (by kernel_rfl) rfl
theorem ld23f (x : DV) (σ : Store) : load PP 23 x σ = load1 x σ := Eq.trans (by kernel_rfl) rfl
theorem bs64_1 (a : Fm) (σ : Store) : buildSlice PP none 64 1 [(0, .p (eFm a))] σ = some (.p (.sl true 1 [eFm a]), σ) := by cases a <;> exact Eq.trans (by kernel_rfl) rfl
theorem bs23_o {σ : Store} {lo : Nat} {l : List Int} {y : DV} (ho : Out σ lo 1 l.length (eInts l) y) (k n : Int) (τ : Store) : buildSlice PP none 23 1 [(0, .agg [.p (pI k), .p (pI n), y])] τ = some (.p (.sl true 1 (eNd ⟨k, n, oI l⟩)), τ) := by
  rcases ho.2 with ⟨h0, rfl⟩ | ⟨h0, r, v, rfl, _⟩
  · have : oI l = none := by unfold oI; rw [if_pos h0]
    rw [this]; exact Eq.trans (by kernel_rfl) rfl
  · have : oI l = some l := by unfold oI; rw [if_neg h0]
    rw [this]; exact Eq.trans (by kernel_rfl) rfl
theorem st67_y {σ : Store} {lo r : Nat} {a b c v : DV} (h : σ[r]? = some (.mix [a, b, c])) (hlo : lo ≤ r) (hv : v.one = true) : store PP lo 24 (.ptr r 2) v σ = some (σ.set r (.mix [a, b, v])) := by
  cases v <;> first | (exfalso; simp [DV.one] at hv; done) | simp [store, s24, DV.cells, storeN, h, hlo, DV.one, splice]
theorem bld67_y {y : DV} (hy : y.one = true) (k : Int) : build PP 67 [(0, .p (.int .i64 k)), (2, y)] = some (.agg [.p (pI k), .p (pI 0), y]) := by
  cases y <;> first | (exfalso; simp [DV.one] at hy; done) | exact Eq.trans (by kernel_rfl) rfl
theorem addI {a : Int} {d : Nat} (h : 0 ≤ a ∧ a ≤ 1000) (hd : d ≤ 1000) : binOp PP .add 3 (.p (.int .i64 a)) (.p (.int .i64 (d : Nat))) = some (.p (.int .i64 (a + (d : Int)))) := by
  rw [b_add, wrap_ok (by omega) (by omega)]
section
variable {x0 x1 : DV}
theorem L38_2 {x5 x6 : DV} {s rn d j m : Nat} {x : Nd} (hd : d ≤ 1000) (hx : ∀ i, i < (L x.a).length → 0 ≤ (L x.a).getD i 0 ∧ (L x.a).getD i 0 ≤ 1000) (hA : (L x.a).length ≤ 1000) (hrs : rn < s) :
    ∀ (k i : Nat) (y : DV) (σ : Store), (L x.a).length - i = k → i ≤ (L x.a).length → s ≤ σ.length → σ[rn]? = some (.mix (ndD x)) → Out σ s 1 (((L x.a).take i).map (· + (d : Int))).length (eInts (((L x.a).take i).map (· + (d : Int)))) y →
    ∃ y' σ', f38_L2 guardT 0 x0 x1 x5 x6 (N m) (N d) (N j) (.ptr rn 0) y (N i) σ = f38_L2 guardT 0 x0 x1 x5 x6 (N m) (N d) (N j) (.ptr rn 0) y' (N (L x.a).length) σ' ∧ s ≤ σ'.length ∧
      Out σ' s 1 ((L x.a).map (· + (d : Int))).length (eInts ((L x.a).map (· + (d : Int)))) y' ∧ ∀ r row, r < s → σ[r]? = some row → σ'[r]? = some row
  | 0, i, y, σ, hk, hi, hs, hr, ho => by
    have e : i = (L x.a).length := by omega
    subst e
    rw [List.take_length] at ho
    exact ⟨y, σ, rfl, hs, ho, fun r row _ h => h⟩
  | k + 1, i, y, σ, hk, hi, hs, hr, ho => by
    have h : i < (L x.a).length := by omega
    have hll : (((L x.a).take i).map (· + (d : Int))).length = i := by simp; omega
    obtain ⟨y2, σ2, a1, a2, a3, a4, _⟩ := Out.pushR (lo0 := 0) (vs := [pI ((L x.a).getD i 0 + (d : Int))]) src24 u24 s3 bytes3 zero3 rfl (by decide) (by decide) (by decide) rfl ho (by omega) (Nat.zero_le _) hs
    have e2 : eInts (((L x.a).take i).map (· + (d : Int))) ++ [pI ((L x.a).getD i 0 + (d : Int))] = eInts (((L x.a).take (i + 1)).map (· + (d : Int))) := by
      rw [take_getD h, List.map_append]; simp [eInts]
    have e3 : (((L x.a).take i).map (· + (d : Int))).length + 1 = (((L x.a).take (i + 1)).map (· + (d : Int))).length := by simp; omega
    rw [e2, e3] at a2
    have keep : ∀ r row, r < s → σ[r]? = some row → σ2[r]? = some row := fun r row h1 h2 => a3.low ho h1 h2
    obtain ⟨y', σ', b1, b2, b3, b4⟩ := L38_2 hd hx hA hrs k (i + 1) y2 σ2 (by omega) (by omega) (by omega) (keep _ _ hrs hr) a2
    refine ⟨y', σ', ?_, b2, b3, fun r row h1 h2 => b4 r row h1 (keep r row h1 h2)⟩
    have ad := addI (hx i h) hd
    rw [← b1, f38_L2_eq guardT rfl]
    simp (disch := omega) only [N, fa67_2, shift_ptr, shift_pptr, Nat.zero_add, Nat.add_zero, pureFn_fn, List.append_nil, List.singleton_append, List.cons_append, List.nil_append, load24, row_a hr, len24, b_lss, ltT, gG, (PL.sl x.a).idx h, load3, load1_getD h, ad, bs24_1, a1, add1]
theorem L38_1 {x6 : DV} {d m : Nat} {F A : List Nd} {ag : List Int} (hd : d ≤ 1000) (hF : F.length ≤ 1000) (hA : A.length ≤ 1000) (hx : ∀ j, j < F.length → (nA F j).length ≤ 1000 ∧ ∀ i, i < (nA F j).length → 0 ≤ (nA F j).getD i 0 ∧ (nA F j).getD i 0 ≤ 1000)
    {fm : Fm} (hfm : L fm = F) {cs1 : List PV} (i1 : indexAddr PP 64 x1 (N m) = some (.pptr cs1 m)) (l1 : ∀ σ, load1 (.pptr cs1 m) σ = some (.p (eFm fm))) :
    ∀ (k j : Nat) (x5 : DV) (σ : Store), F.length - j = k → j ≤ F.length → Out σ 0 3 (A ++ (F.take j).map (shN d)).length (eNds (A ++ (F.take j).map (shN d))) x5 → Out σ 0 1 ag.length (eInts ag) x6 → Ap x6 x5 →
    ∃ x5' σ', f38_L1 guardT 0 x0 x1 x5 x6 (N m) (N d) (N j) σ = f38_L1 guardT 0 x0 x1 x5' x6 (N m) (N d) (N F.length) σ' ∧ Out σ' 0 3 (A ++ F.map (shN d)).length (eNds (A ++ F.map (shN d))) x5' ∧ Out σ' 0 1 ag.length (eInts ag) x6 ∧ Ap x6 x5'
  | 0, j, x5, σ, hk, hj, ho, hp, ha => by
    have e : j = F.length := by omega
    subst e
    rw [List.take_length] at ho
    exact ⟨x5, σ, rfl, ho, hp, ha⟩
  | k + 1, j, x5, σ, hk, hj, ho, hp, ha => by
    have h : j < F.length := by omega
    have hjf : j < (L fm).length := by rw [hfm]; exact h
    have hnd := nd_all hjf
    have hxj := hx j h
    have hxa : L (F.getD j default).a = nA F j := rfl
    have ht : A ++ (F.take (j + 1)).map (shN d) = A ++ (F.take j).map (shN d) ++ [shN d (F.getD j default)] := by
      rw [List.take_succ_eq_append_getElem h, List.map_append, List.getD_eq_getElem?_getD, List.getElem?_eq_getElem h, List.append_assoc]; rfl
    have hlA : (A ++ (F.take j).map (shN d)).length ≤ 2000 := by simp; omega
    rw [hfm] at hnd
    generalize hxx : F.getD j default = x at *
    let σ1 : Store := σ ++ [.mix (ndD x)]
    have g1 : σ1[σ.length]? = some (.mix (ndD x)) := get_snoc
    have s1 : σ1.length = σ.length + 1 := by simp [σ1]
    have st := st67 (σ := σ) (lo := 0) (z := [.p (pI 0), .p (pI 0), .p .nilsl]) x rfl (Nat.zero_le _)
    obtain ⟨y', σ2, b1, b2, b3, b4⟩ := L38_2 (x0 := x0) (x1 := x1) (x5 := x5) (x6 := x6) (s := σ.length + 1) (rn := σ.length) (d := d) (j := j) (m := m) (x := x) hd (by rw [hxa]; exact hxj.2) (by rw [hxa]; exact hxj.1) (by omega) _ 0 (.p .nilsl) σ1 rfl (Nat.zero_le _) (by omega) g1 (by rw [List.take_zero]; exact Out.zero)
    have g2 := b4 _ _ (by omega) g1
    have kp : ∀ (r v : Nat), σ[r]? = some (Row.tok v) → σ2[r]? = some (Row.tok v) := fun r v hr => b4 r _ (by have := get_lt hr; omega) (get_old hr)
    have st2 := st67_y (lo := 0) (v := y') (show σ2[σ.length]? = some (.mix [.p (pI x.k), .p (pI x.n), .p (eSl x.a)]) from g2) (Nat.zero_le _) b3.one
    let σ3 : Store := σ2.set σ.length (.mix [.p (pI x.k), .p (pI x.n), y'])
    have g3 : σ3[σ.length]? = some (.mix [.p (pI x.k), .p (pI x.n), y']) := by rw [List.getElem?_set_self (get_lt g2)]
    have ld3 : (loadN σ3 3 (.ptr σ.length 0)).map DV.agg = some (.agg [.p (pI x.k), .p (pI x.n), y']) := by
      rw [loadN_ptr (vs := [.p (pI x.k), .p (pI x.n), y']) g3 rfl (by simp)]; rfl
    have bs := bs23_o b3 x.k x.n σ3
    have kp3 : ∀ (r v : Nat), σ[r]? = some (Row.tok v) → σ3[r]? = some (Row.tok v) := fun r v hr => by
      have := get_lt hr
      rw [List.getElem?_set_ne (by omega)]; exact kp r v hr
    have ho3 := ho.low kp3
    have hp3 := hp.low kp3
    obtain ⟨x5', σ4, c1, c2, c3, c4, c5⟩ := Out.pushR (lo0 := 0) (vs := eNd (shN d x)) src23 u23 s67 bytes67 zero67 rfl (by decide) (by decide) (by decide) rfl ho3 (by omega) (Nat.le_refl _) (Nat.zero_le _)
    have e4 : eNds (A ++ (F.take j).map (shN d)) ++ eNd (shN d x) = eNds (A ++ (F.take (j + 1)).map (shN d)) := by rw [ht, eNds_app _ [_]]; rfl
    have e5 : (A ++ (F.take j).map (shN d)).length + 1 = (A ++ (F.take (j + 1)).map (shN d)).length := by rw [ht, List.length_append (bs := [_])]; rfl
    rw [e4, e5] at c2
    have hp4 := hp3.kp c3 ha
    obtain ⟨x5'', σ5, d1, d2, d3, d4⟩ := L38_1 hd hF hA hx hfm i1 l1 k (j + 1) x5' σ4 (by omega) (by omega) c2 hp4 (Ap.push hp3 ha c5)
    refine ⟨x5'', σ5, ?_, d2, d3, d4⟩
    have hli := (PL.sl x.a).len
    have hlt : ¬ (((L x.a).length : Nat) : Int) < ((L x.a).length : Nat) := by omega
    simp only [N] at i1 b1
    have z0 : (.p (.int .i64 ((0 : Nat) : Int)) : DV) = .p (.int .i64 0) := rfl
    rw [z0] at b1
    have eσ1 : σ ++ [Row.mix (ndD x)] = σ1 := rfl
    have eσ3 : σ2.set σ.length (.mix [.p (pI x.k), .p (pI x.n), y']) = σ3 := rfl
    have eN : shN d x = ⟨x.k, x.n, oI ((L x.a).map (· + (d : Int)))⟩ := rfl
    rw [eσ3] at st2
    rw [← eN] at bs
    rw [← d1, f38_L1_eq guardT rfl]
    simp (disch := omega) only [N, i1, ld23f, l1, gG, len23, hfm, b_lss, ltT, idx23 hjf, load67, hnd, zero67, st, eσ1]
    rw [b1, f38_L2_eq guardT rfl]
    simp (disch := omega) only [fa67_2, shift_ptr, shift_pptr, Nat.zero_add, Nat.add_zero, pureFn_fn, List.append_nil, List.singleton_append, List.cons_append, List.nil_append, load24, row_a g2, hli, b_lss, ltF hlt, gG, st2, load67, ld3, bs, c1, add1]
theorem L38_0 {x5 x6 : DV} {m n : Nat} {F A : List Nd} {ag : List Int} {σ : Store} (hF : F.length ≤ 1000) (hA : A.length ≤ 900) (hF0 : 0 < F.length) (has : ag.length ≤ 1000) (hx : ∀ j, j < F.length → (nA F j).length ≤ 1000 ∧ ∀ i, i < (nA F j).length → 0 ≤ (nA F j).getD i 0 ∧ (nA F j).getD i 0 ≤ 1000)
    {fm : Fm} (hfm : L fm = F) {cs1 : List PV} (i1 : indexAddr PP 64 x1 (N m) = some (.pptr cs1 m)) (l1 : ∀ σ, load1 (.pptr cs1 m) σ = some (.p (eFm fm))) (hl : ∀ σ, len PP 64 x1 σ = some (N n)) (hm : m < n) (hn : n ≤ 10)
    (ho : Out σ 0 3 A.length (eNds A) x5) (hp : Out σ 0 1 ag.length (eInts ag) x6) (ha : Ap x6 x5) :
    ∃ x5' x6' σ', f38_L0 guardT 0 x0 x1 x5 x6 (N m) σ = f38_L0 guardT 0 x0 x1 x5' x6' (N (m + 1)) σ' ∧ Out σ' 0 3 (A ++ F.map (shN A.length)).length (eNds (A ++ F.map (shN A.length))) x5' ∧
      Out σ' 0 1 (ag ++ [((A.length + F.length : Nat) : Int) - 1]).length (eInts (ag ++ [((A.length + F.length : Nat) : Int) - 1])) x6' ∧ Ap x6' x5' := by
  have hl5 : ∀ (σ : Store) (n : Nat) (cs : List PV) (x : DV), Out σ 0 3 n cs x → ∀ τ, len PP 23 x τ = some (N n) := by
    intro σ n cs x h τ
    rcases h.2 with ⟨rfl, rfl⟩ | ⟨_, r, v, rfl, _⟩
    · simp [len, u23, N]
    · simp [len, u23, N]
  obtain ⟨x5', σ1, b1, b2, b3, b4⟩ := L38_1 (x0 := x0) (A := A) (ag := ag) (F := F) (d := A.length) (m := m) (by omega) hF (by omega) hx hfm i1 l1 _ 0 x5 σ rfl (Nat.zero_le _) (by rw [List.take_zero, List.map_nil, List.append_nil]; exact ho) hp ha
  have hAl : (A ++ F.map (shN A.length)).length = A.length + F.length := by simp
  obtain ⟨x6', σ2, c1, c2, c3, c4, c5⟩ := Out.pushR (lo0 := 0) (vs := [pI (((A.length + F.length : Nat) : Int) - 1)]) src24 u24 s3 bytes3 zero3 rfl (by decide) (by decide) (by decide) rfl b3 (by omega) (Nat.le_refl _) (Nat.zero_le _)
  have e1 : eInts ag ++ [pI (((A.length + F.length : Nat) : Int) - 1)] = eInts (ag ++ [((A.length + F.length : Nat) : Int) - 1]) := by simp [eInts]
  have e2 : ag.length + 1 = (ag ++ [((A.length + F.length : Nat) : Int) - 1]).length := by simp
  rw [e1, e2] at c2
  have ha2 : Ap x5' x6' := Ap.push b2 b4.symm c5
  refine ⟨x5', x6', σ2, ?_, b2.kp c3 b4.symm, c2, ha2.symm⟩
  have q5 := hl5 _ _ _ _ ho
  have q6 := hl5 _ _ _ _ b2
  rw [hAl] at q6
  have hnlt : ¬ ((F.length : Nat) : Int) < (F.length : Nat) := by omega
  have z0 : (.p (.int .i64 ((0 : Nat) : Int)) : DV) = .p (.int .i64 0) := rfl
  have sz := subZ (m := A.length + F.length) (by omega)
  simp only [N] at i1 b1 hl q5 q6
  rw [z0] at b1
  rw [f38_L0_eq guardT rfl]
  simp (disch := omega) only [N, hl, b_lss, ltT, gG, q5]
  rw [b1, f38_L1_eq guardT rfl]
  simp (disch := omega) only [i1, ld23f, l1, gG, len23, N, hfm, b_lss, ltF hnlt, q6, sz, bs24_1, c1, add1]
theorem L38_e {x5 x6 : DV} {k : Int} {n : Nat} {A : List Nd} {ag : List Int} {σ : Store} (hA : A.length ≤ 2000) (hl : ∀ σ, len PP 64 x1 σ = some (N n)) (hn : n ≤ 10) (has : ag ≠ []) (ho : Out σ 0 3 A.length (eNds A) x5) (hp : Out σ 0 1 ag.length (eInts ag) x6) :
    ∃ y σ', f38_L0 guardT 0 (.p (.int .i64 k)) x1 x5 x6 (N n) σ = some (y, σ') ∧ thawAll 0 σ' y = some (.p (eFm (some (A ++ [⟨k, 0, some ag⟩])))) := by
  have bs := bs23_o hp k 0 σ
  have eo : oI ag = some ag := by unfold oI; rw [if_neg (fun h => has (List.length_eq_zero_iff.1 h))]
  rw [eo] at bs
  obtain ⟨y, σ', c1, c2, c3, c4, c5⟩ := Out.pushR (lo0 := 0) (vs := eNd ⟨k, 0, some ag⟩) src23 u23 s67 bytes67 zero67 rfl (by decide) (by decide) (by decide) rfl ho (by omega) (Nat.le_refl _) (Nat.zero_le _)
  have e1 : eNds A ++ eNd ⟨k, 0, some ag⟩ = eNds (A ++ [⟨k, 0, some ag⟩]) := by rw [eNds_app]; rfl
  rw [e1] at c2
  refine ⟨y, σ', ?_, ?_⟩
  · have bl := bld67_y hp.one k
    simp only [N] at hl
    rw [f38_L0_eq guardT rfl]
    simp (disch := omega) only [N, hl, b_lss, ltF, gG, bl, bs, c1]
  · rw [c2.twAll, loosens_nds, if_neg (by omega)]
    congr 3
    simp
end
theorem ok_args {F : List Nd} (h : Ok F) : ∀ j, j < F.length → (nA F j).length ≤ 1000 ∧ ∀ i, i < (nA F j).length → 0 ≤ (nA F j).getD i 0 ∧ (nA F j).getD i 0 ≤ 1000 := fun j hj => by
  have hg := h.good j hj
  have hl := h.le
  have h2 : ((nA F j).length : Int) ≤ 2 := by
    rw [hg.a]; unfold ar
    split
    · decide
    · split <;> decide
  refine ⟨by omega, fun i hi => ?_⟩
  have := stB_in _ _ _ hg.st i hi
  omega
theorem fms_view1 (a : Fm) : view (.p (.sl true 1 [eFm a])) = .p (.sl false 1 [eFm a]) := by simp [view, viewCell, loosen, loosens, loosen_fm]
theorem fms_view2 (a b : Fm) : view (.p (.sl true 2 [eFm a, eFm b])) = .p (.sl false 2 [eFm a, eFm b]) := by simp [view, viewCell, loosen, loosens, loosen_fm]
theorem fms_view1' (a : Fm) : view (.p (.sl false 1 [eFm a])) = .p (.sl false 1 [eFm a]) := by simp [view, viewCell, loosen, loosens, loosen_fm]
theorem fms_view2' (a b : Fm) : view (.p (.sl false 2 [eFm a, eFm b])) = .p (.sl false 2 [eFm a, eFm b]) := by simp [view, viewCell, loosen, loosens, loosen_fm]
theorem S38_1 {fm : Fm} (hF : Ok (L fm)) (k : Int) (σ : Store) : pureV CC 38 [.p (.int .i64 k), .p (.sl true 1 [eFm fm])] σ = some (.p (eFm (some (jn1 k (L fm))))) := by
  have hle := hF.le
  have hp := hF.pos
  have i1 : indexAddr PP 64 (.p (.sl false 1 [eFm fm])) (N 0) = some (.pptr [eFm fm] 0) := by simp [indexAddr, u64, s23, N]
  have l1 : ∀ σ, load1 (.pptr [eFm fm] 0) σ = some (.p (eFm fm)) := fun σ => load1_pptr rfl σ
  have hl : ∀ σ, len PP 64 (.p (.sl false 1 [eFm fm])) σ = some (N 1) := fun σ => by simp [len, u64, N]
  obtain ⟨x5, x6, σ1, a1, a2, a3, a4⟩ := L38_0 (x0 := .p (.int .i64 k)) (x1 := .p (.sl false 1 [eFm fm])) (m := 0) (n := 1) (F := L fm) (A := []) (ag := []) (x5 := .p .nilsl) (x6 := .p .nilsl) (σ := []) (by omega) (by simp) hp (by simp) (ok_args hF) rfl i1 l1 hl (by decide) (by decide) Out.zero Out.zero (fun r v s n c r' v' s' n' c' e1 e2 => by cases e1)
  obtain ⟨y, σ2, b1, b2⟩ := L38_e (x1 := .p (.sl false 1 [eFm fm])) (k := k) (n := 1) (by simp; omega) hl (by decide) (by simp) a2 a3
  rw [pureV_view (args' := [.p (.int .i64 k), .p (.sl false 1 [eFm fm])]) (by simp only [List.map_cons, List.map_nil, int_view, fms_view1]) (by simp only [List.map_cons, List.map_nil, int_view, fms_view1'])]
  refine pureV_free (by simp only [List.map_cons, List.map_nil, int_view, fms_view1']) rfl (F38_call (r := (y, σ2)) ?_) ?_
  · rw [F38_eq]
    have z0 : (.p (.int .i64 ((0 : Nat) : Int)) : DV) = .p (.int .i64 0) := rfl
    have e : f38_L0 guardT 0 (.p (.int .i64 k)) (.p (.sl false 1 [eFm fm])) (.p .nilsl) (.p .nilsl) (N 0) [] = some (y, σ2) := a1.trans b1
    exact e
  · rw [b2]
    simp [jn1]
theorem S38_2 {fm gm : Fm} (hF : Ok (L fm)) (hG : Ok (L gm)) (k : Int) (σ : Store) : pureV CC 38 [.p (.int .i64 k), .p (.sl true 2 [eFm fm, eFm gm])] σ = some (.p (eFm (some (jn2 k (L fm) (L gm))))) := by
  have hle := hF.le
  have hp := hF.pos
  have hle2 := hG.le
  have hp2 := hG.pos
  have i1 : indexAddr PP 64 (.p (.sl false 2 [eFm fm, eFm gm])) (N 0) = some (.pptr [eFm fm, eFm gm] 0) := by simp [indexAddr, u64, s23, N]
  have i2 : indexAddr PP 64 (.p (.sl false 2 [eFm fm, eFm gm])) (N 1) = some (.pptr [eFm fm, eFm gm] 1) := by simp [indexAddr, u64, s23, N]
  have l1 : ∀ σ, load1 (.pptr [eFm fm, eFm gm] 0) σ = some (.p (eFm fm)) := fun σ => load1_pptr rfl σ
  have l2 : ∀ σ, load1 (.pptr [eFm fm, eFm gm] 1) σ = some (.p (eFm gm)) := fun σ => load1_pptr rfl σ
  have hl : ∀ σ, len PP 64 (.p (.sl false 2 [eFm fm, eFm gm])) σ = some (N 2) := fun σ => by simp [len, u64, N]
  obtain ⟨x5, x6, σ1, a1, a2, a3, a4⟩ := L38_0 (x0 := .p (.int .i64 k)) (x1 := .p (.sl false 2 [eFm fm, eFm gm])) (m := 0) (n := 2) (F := L fm) (A := []) (ag := []) (x5 := .p .nilsl) (x6 := .p .nilsl) (σ := []) (by omega) (by simp) hp (by simp) (ok_args hF) rfl i1 l1 hl (by decide) (by decide) Out.zero Out.zero (fun r v s n c r' v' s' n' c' e1 e2 => by cases e1)
  obtain ⟨y5, y6, σ2, c1, c2, c3, c4⟩ := L38_0 (x0 := .p (.int .i64 k)) (x1 := .p (.sl false 2 [eFm fm, eFm gm])) (m := 1) (n := 2) (F := L gm) (by omega) (by simp; omega) hp2 (by simp) (ok_args hG) rfl i2 l2 hl (by decide) (by decide) a2 a3 a4
  obtain ⟨y, σ3, b1, b2⟩ := L38_e (x1 := .p (.sl false 2 [eFm fm, eFm gm])) (k := k) (n := 2) (by simp; omega) hl (by decide) (by simp) c2 c3
  rw [pureV_view (args' := [.p (.int .i64 k), .p (.sl false 2 [eFm fm, eFm gm])]) (by simp only [List.map_cons, List.map_nil, int_view, fms_view2]) (by simp only [List.map_cons, List.map_nil, int_view, fms_view2'])]
  refine pureV_free (by simp only [List.map_cons, List.map_nil, int_view, fms_view2']) rfl (F38_call (r := (y, σ3)) ?_) ?_
  · rw [F38_eq]
    have e : f38_L0 guardT 0 (.p (.int .i64 k)) (.p (.sl false 2 [eFm fm, eFm gm])) (.p .nilsl) (.p .nilsl) (N 0) [] = some (y, σ3) := a1.trans (c1.trans b1)
    exact e
  · rw [b2]
    simp [jn2]
theorem S36 {fm : Fm} (hF : Ok (L fm)) (k : Int) (σ : Store) : pureV CC 36 [.p (.int .i64 k), .p (eFm fm)] σ = some (.p (eFm (some (jn1 k (L fm))))) := by
  have h := fun σ => S38_1 hF k σ
  refine pureV_free (by simp only [List.map_cons, List.map_nil, int_view, fm_view]) rfl (F36_call (r := (.p (eFm (some (jn1 k (L fm)))), [])) ?_) (by simp [thawAll, thawPart, thaw, thaw1, thawP, loosen_fm])
  rw [F36_eq]
  simp only [bs64_1, gG, shift_ptr, shift_pptr, Nat.zero_add, Nat.add_zero, pureFn_fn, List.append_nil, List.singleton_append, List.cons_append, List.nil_append, h]
theorem S37 {fm : Fm} (hF : Ok (L fm)) (σ : Store) : pureV CC 37 [.p (eFm fm)] σ = some (.p (eFm (some (jn1 2 (L fm))))) := by
  have h := fun σ => S38_1 hF 2 σ
  refine pureV_free (by simp only [List.map_cons, List.map_nil, fm_view]) rfl (F37_call (r := (.p (eFm (some (jn1 2 (L fm)))), [])) ?_) (by simp [thawAll, thawPart, thaw, thaw1, thawP, loosen_fm])
  rw [F37_eq]
  simp only [bs64_1, gG, shift_ptr, shift_pptr, Nat.zero_add, Nat.add_zero, pureFn_fn, List.append_nil, List.singleton_append, List.cons_append, List.nil_append, h]
end Go.D
end
/- Chapter 13: the forms of a right word are right. Plain Lean. -/
section
set_option linter.unusedVariables false
set_option linter.unusedSimpArgs false
namespace Go.D
namespace Las
theorem mem_dd : ∀ (l : List Int) (p y : Int), y ∈ dd p l → y ∈ l
  | [], p, y, h => h
  | x :: l, p, y, h => by
    rw [dd] at h
    split at h
    · exact List.mem_cons_of_mem _ (mem_dd l p y h)
    · rcases List.mem_cons.1 h with rfl | h
      · exact List.mem_cons_self
      · exact List.mem_cons_of_mem _ (mem_dd l x y h)
theorem mem_once (l : List Int) (y : Int) (h : y ∈ once l) : y ∈ l := by
  cases l with
  | nil => exact h
  | cons x l =>
    rcases List.mem_cons.1 h with rfl | h
    · exact List.mem_cons_self
    · exact List.mem_cons_of_mem _ (mem_dd l x y h)
theorem dd_len : ∀ (l : List Int) (p : Int), (dd p l).length ≤ l.length
  | [], p => Nat.le_refl _
  | x :: l, p => by
    rw [dd]
    split
    · have := dd_len l p; simp; omega
    · have := dd_len l x; simp; omega
theorem once_len (l : List Int) : (once l).length ≤ l.length := by
  cases l with
  | nil => exact Nat.le_refl _
  | cons x l => have := dd_len l x; simp [once]; omega
theorem lastI_mem {l : List Int} (h : l ≠ []) : lastI l ∈ l := by
  have := dropLast_snoc h
  rw [this, lastI_snoc]; simp
theorem mem_dl {l : List Int} {y : Int} (h : y ∈ l.dropLast) : y ∈ l := (List.dropLast_sublist l).subset h
theorem mem_rot : ∀ (k : Nat) (P L : List Int), L ≠ [] → (∀ y, y ∈ (rot k P L).1 → y ∈ P) ∧ ∀ y, y ∈ (rot k P L).2 → y ∈ L
  | 0, P, L, _ => ⟨fun y h => h, fun y h => h⟩
  | k + 1, P, L, hL => by
    unfold rot
    split
    · obtain ⟨h1, h2⟩ := mem_rot k P.dropLast (lastI L :: L.dropLast) (by simp)
      refine ⟨fun y h => mem_dl (h1 y h), fun y h => ?_⟩
      rcases List.mem_cons.1 (h2 y h) with rfl | h
      · exact lastI_mem hL
      · exact mem_dl h
    · exact ⟨fun y h => h, fun y h => h⟩
theorem short_ne {P L : List Int} (h : L ≠ []) : (short P L).2 ≠ [] ∧ (short P L).1.length ≤ P.length ∧ (short P L).2.length ≤ L.length ∧ (∀ y, y ∈ (short P L).1 → y ∈ P) ∧ ∀ y, y ∈ (short P L).2 → y ∈ L := by
  obtain ⟨m1, m2, _, _⟩ := minP_ok h
  have hne := take_ne h m1
  obtain ⟨r1, r2⟩ := rot_len P.length P (L.take (minP L)) hne
  obtain ⟨q1, q2⟩ := mem_rot P.length P (L.take (minP L)) hne
  unfold short
  refine ⟨fun e => ?_, r2, by rw [r1, List.length_take]; omega, q1, fun y h => List.mem_of_mem_take (q2 y h)⟩
  rw [e] at r1
  have := List.length_pos_iff.2 hne
  simp at r1; omega
theorem wErr_mk {P Q : List Int} (h1 : Q ≠ []) (h2 : P.length + Q.length ≤ 60) (h3 : ∀ v ∈ P, oddB v = false) (h4 : ∀ v ∈ Q, oddB v = false) : wErr P Q = 0 := by
  have := List.length_pos_iff.2 h1
  unfold wErr
  rw [if_neg (by omega), if_neg (by omega), if_neg]
  rw [Bool.not_eq_true, Bool.or_eq_false_iff, List.any_eq_false, List.any_eq_false]
  exact ⟨fun v hv => by rw [h3 v hv]; simp, fun v hv => by rw [h4 v hv]; simp⟩
theorem short_ok {P Q : List Int} (h : wErr P Q = 0) : wErr (short P Q).1 (short P Q).2 = 0 := by
  obtain ⟨h1, h2, h3, h4⟩ := wErr_zero h
  obtain ⟨g1, g2, g3, g4, g5⟩ := short_ne (P := P) h1
  exact wErr_mk g1 (by omega) (fun v hv => h3 v (g4 v hv)) (fun v hv => h4 v (g5 v hv))
theorem once_snoc_split (P Q' : List Int) (x : Int) : once (P ++ x :: Q') = once (P ++ [x]) ++ dd x Q' := by
  have : P ++ x :: Q' = (P ++ [x]) ++ Q' := by simp
  rw [this, once_append (by simp), lastI_snoc]
theorem unst_form {P Q : List Int} (hQ : Q ≠ []) : ∃ P' Q' : List Int, Q' ≠ [] ∧ P'.length + Q'.length ≤ P.length + Q.length ∧ (∀ y, y ∈ P' → y ∈ P ∨ y ∈ Q) ∧ (∀ y, y ∈ Q' → y ∈ Q) ∧ unst P Q = short P' Q' := by
  have hin : ∀ y, y ∈ once (P ++ Q) → y ∈ P ∨ y ∈ Q := fun y h => List.mem_append.1 (mem_once _ y h)
  unfold unst
  by_cases hD : dd (lastI Q) Q = []
  · rw [if_pos hD]
    refine ⟨(once (P ++ Q)).dropLast, [lastI Q], by simp, ?_, fun y h => hin y (mem_dl h), fun y h => ?_, rfl⟩
    · cases Q with
      | nil => exact absurd rfl hQ
      | cons x Q' =>
        have hx := dd_nil hD x List.mem_cons_self
        have e : dd x Q' = [] := by
          rw [dd, if_pos hx] at hD
          rw [hx]; exact hD
        rw [once_snoc_split, e, List.append_nil]
        have := once_len (P ++ [x])
        simp at this ⊢
        omega
    · rw [List.mem_singleton] at h; rw [h]; exact lastI_mem hQ
  · rw [if_neg hD]
    cases Q with
    | nil => exact absurd rfl hQ
    | cons x Q' =>
      have h1 := once_len (P ++ [x])
      have h2 := dd_len Q' x
      have hne : once (P ++ [x]) ≠ [] := (once_last (by simp)).1
      rw [once_snoc_split] at hin ⊢
      by_cases hx : x = lastI (x :: Q')
      · have eD : dd (lastI (x :: Q')) (x :: Q') = dd x Q' := by rw [dd, if_pos hx, ← hx]
        rw [eD] at hD ⊢
        refine ⟨once (P ++ [x]), dd x Q', hD, by simp at h1 ⊢; omega, fun y h => hin y (List.mem_append_left _ h), fun y h => List.mem_cons_of_mem _ (mem_dd _ _ _ h), ?_⟩
        refine short_eq hD hD fun i => ?_
        have := atW_rep (X := once (P ++ [x])) (D := dd x Q') 1 1 i (by decide) hD
        simpa [rep] using this
      · have eD : dd (lastI (x :: Q')) (x :: Q') = x :: dd x Q' := by rw [dd, if_neg hx]
        rw [eD]
        have hsp : once (P ++ [x]) = (once (P ++ [x])).dropLast ++ [x] := by
          have := dropLast_snoc hne
          rwa [(once_last (l := P ++ [x]) (by simp)).2, lastI_snoc] at this
        refine ⟨(once (P ++ [x])).dropLast, x :: dd x Q', by simp, by simp at h1 ⊢; omega, fun y h => hin y (List.mem_append_left _ (mem_dl h)), fun y h => ?_, ?_⟩
        · rcases List.mem_cons.1 h with rfl | h
          · exact List.mem_cons_self
          · exact List.mem_cons_of_mem _ (mem_dd _ _ _ h)
        · refine short_eq (by simp) (by simp) fun i => ?_
          have := atW_rep (X := (once (P ++ [x])).dropLast) (D := x :: dd x Q') 1 1 i (by decide) (by simp)
          have e2 : once (P ++ [x]) ++ dd x Q' = (once (P ++ [x])).dropLast ++ (x :: dd x Q') := by
            conv => lhs; rw [hsp]
            simp
          rw [e2]
          simpa [rep] using this
theorem unst_ok {P Q : List Int} (h : wErr P Q = 0) : wErr (unst P Q).1 (unst P Q).2 = 0 := by
  obtain ⟨h1, h2, h3, h4⟩ := wErr_zero h
  obtain ⟨P', Q', g1, g2, g3, g4, g5⟩ := unst_form (P := P) h1
  rw [g5]
  exact short_ok (wErr_mk g1 (by omega) (fun v hv => (g3 v hv).elim (h3 v) (h4 v)) fun v hv => h4 v (g4 v hv))
theorem sem_short {F : List Nd} {P Q : List Int} (hQ : Q ≠ []) : sem (atW (short P Q).1 (short P Q).2) F = sem (atW P Q) F := by
  have : atW (short P Q).1 (short P Q).2 = atW P Q := funext fun i => short_at P hQ i
  rw [this]
theorem sem_unst {F : List Nd} (hF : Ok F) {P Q : List Int} (hQ : Q ≠ []) : sem (atW P Q) F 0 = sem (atW (unst P Q).1 (unst P Q).2) F 0 := by
  obtain ⟨c1, c2⟩ := unst_cof (P := P) hQ
  have hp := hF.pos
  exact tv_bis (rel_bis c1 c2) (fun i j h => rel_at h) hF.good (F.length - 1) (by omega) 0 0 (rel_zero _ _ c1 (cof_zero c1))
theorem hOn_ok {F : List Nd} {P Q : List Int} (hk : Ok F) (hw : wErr P Q = 0) : hOn F P Q = .tuple [.p (.bool (sem (atW P Q) F 0)), .p (.int .i64 0)] := by
  have hq := List.length_pos_iff.2 (wErr_zero hw).1
  have hb : bErr F P Q = 0 := by unfold bErr; rw [if_pos (ok_chk hk), hw]
  unfold hOn
  rw [hb, decide_eq_true rfl, Bool.true_and, says_sem hk hq]
end Las
end Go.D
end
/- Chapter 13: truths of the reference, node by node. -/
section
set_option linter.unusedVariables false
set_option linter.unusedSimpArgs false
set_option maxRecDepth 8000
namespace Go.D
open Las
section
variable {w : Wd} (hw : WOk (L w.p) (L w.l)) {x : Nd} (hk : inR x.k 0 9 = true) (hbad : bad x = false) {a b : NB} {x10 x11 : DV}
variable (h1 : ar x.k ≠ 0 → x10 = BV (tab ((L w.p).length + (L w.l).length) a)) (h2 : ar x.k = 2 → x11 = BV (tab ((L w.p).length + (L w.l).length) b))
include hw hk hbad h1 h2
end
end Go.D
end
/- Chapter 13: LassoTruths' law. -/
section
set_option linter.unusedVariables false
set_option linter.unusedSimpArgs false
set_option maxRecDepth 8000
namespace Go.D
open Las
section
variable {f : Fm} {w : Wd} (hf : FSm f) (hk : Ok (L f)) (hw : WOk (L w.p) (L w.l))
include hf hk hw
end
theorem tvK_own (g : Int → Int → NB → NB → NB) (F : List Nd) : ∀ (k r : Nat), tvK g (F.map ownN) k r = tvK g F k r
  | 0, r => rfl
  | k + 1, r => by
    unfold tvK
    rw [nA_own, (own_get F r).2.1, (own_get F r).2.2, tvK_own g F k, tvK_own g F k]
theorem says_own (F : List Nd) (P Q : List Int) : says (F.map ownN) P Q = says F P Q := by unfold says tv; rw [tvK_own, List.length_map]
theorem bErr_own (F : List Nd) (P Q : List Int) : bErr (F.map ownN) P Q = bErr F P Q := by unfold bErr; rw [chk_own]
theorem hOn_own (F : List Nd) (P Q : List Int) : hOn (F.map ownN) P Q = hOn F P Q := by unfold hOn; rw [bErr_own, says_own]
end Go.D
end
/- Chapter 13: the reference's Guarded. -/
section
set_option linter.unusedVariables false
set_option linter.unusedSimpArgs false
set_option maxRecDepth 8000
namespace Go.D
open Las
section
variable {f : Fm} {o : OI} (hf : FSm f) (hk : Ok (L f)) (ho : (L o).length ≤ 1000)
include hf hk ho
end
end Go.D
end
/- Chapter 13: IsGuarded of the program: whose operand each node is. -/
section
set_option linter.unusedVariables false
set_option linter.unusedSimpArgs false
set_option maxRecDepth 8000
namespace Go.D
open Las
namespace Las
def upd (U : List Int) (i : Nat) : List Int → List Int
  | [] => U
  | v :: us => upd (U.set v.toNat (i : Nat)) i us
def UpTo (F : List Nd) (i : Nat) (U : List Int) : Prop := U.length = F.length ∧ ∀ c, c < F.length → (∀ r, r < i → chd F r c → U.getD c 0 = r) ∧ ((∀ r, r < i → ¬ chd F r c) → U.getD c 0 = -1)
end Las
section
variable {f : Fm} (hf : FSm f) (hk : Ok (L f)) {u : Nat} (hu : 0 < u)
include hf hk hu
end
end Go.D
end
/- Chapter 13: IsGuarded of the program. -/
section
set_option linter.unusedVariables false
set_option linter.unusedSimpArgs false
set_option maxRecDepth 8000
namespace Go.D
open Las
namespace Las
theorem UpTo.cases {F : List Nd} {U : List Int} (hu : UpTo F F.length U) {c : Nat} (hc : c < F.length) : (∃ p, p < F.length ∧ chd F p c ∧ U.getD c 0 = p) ∨ ((∀ p, p < F.length → ¬ chd F p c) ∧ U.getD c 0 = -1) := by
  obtain ⟨h1, h2⟩ := hu.2 c hc
  by_cases h : ∃ p, p < F.length ∧ chd F p c
  · obtain ⟨p, p1, p2⟩ := h
    exact .inl ⟨p, p1, p2, h1 p p1 p2⟩
  · have h' : ∀ p, p < F.length → ¬ chd F p c := fun p p1 p2 => h ⟨p, p1, p2⟩
    exact .inr ⟨h', h2 h'⟩
end Las
end Go.D
end
/- Chapter 13: IsGuarded of the program; LassoGuards' law. -/
section
set_option linter.unusedVariables false
set_option linter.unusedSimpArgs false
set_option maxRecDepth 8000
namespace Go.D
open Las
section
variable {f : Fm} (hk : Ok (L f)) {u : Nat} {U : List Int} (hU : UpTo (L f) (L f).length U)
include hk hU
end
end Go.D
end
/- Chapter 13: LassoGuards' law. -/
section
set_option linter.unusedVariables false
set_option linter.unusedSimpArgs false
set_option maxRecDepth 8000
namespace Go.D
open Las
theorem ex20 (a b : DV) : extractV (.tuple [a, b]) 0 = some a := rfl
theorem ex21 (a b : DV) : extractV (.tuple [a, b]) 1 = some b := rfl
end Go.D
end
/- Chapter 13: LassoDuals' law. -/
section
set_option linter.unusedVariables false
set_option linter.unusedSimpArgs false
set_option maxRecDepth 8000
namespace Go.D
open Las
theorem ok_sm {f : Fm} (h : Ok (L f)) : FSm f := by
  have hl := h.le
  refine ⟨by omega, fun i => ?_⟩
  rcases Nat.lt_or_ge i (L f).length with c | c
  · exact (ok_args h i c).1
  · unfold nA
    rw [List.getD_eq_getElem?_getD, List.getElem?_eq_none c]
    exact Nat.zero_le _
theorem u68 : PP.underlying 68 = some (.slice 64) := Eq.trans (by kernel_rfl) rfl
theorem s64 : size? PP 64 = some 1 := Eq.trans (by kernel_rfl) rfl
theorem load64 (x : DV) (σ : Store) : load PP 64 x σ = load1 x σ := Eq.trans (by kernel_rfl) rfl
theorem bs64_p (a b : PV) (σ : Store) : buildSlice PP none 64 2 [(0, .p a), (1, .p b)] σ = some (.p (.sl true 2 [a, b]), σ) := Eq.trans (by kernel_rfl) rfl
theorem bs68_4 (a b c d : PV) (σ : Store) : buildSlice PP none 68 4 [(0, .p a), (1, .p b), (2, .p c), (3, .p d)] σ = some (.p (.sl true 4 [a, b, c, d]), σ) := Eq.trans (by kernel_rfl) rfl
theorem bld67_0 : build PP 67 [(0, .p (.int .i64 0))] = some (.agg (ndD ⟨0, 0, none⟩)) := Eq.trans (by kernel_rfl) rfl
theorem idx64 (a b : PV) {i : Nat} (h : i < 2) : indexAddr PP 64 (.p (.sl true 2 [a, b])) (.p (.int .i64 (i : Nat))) = some (.pptr [a, b] i) := by
  have h2 : (0 : Int) ≤ (i : Int) ∧ (i : Int) < 2 := by omega
  simp [indexAddr, u64, s23, h2]
theorem idx64_0 (a b : PV) : indexAddr PP 64 (.p (.sl true 2 [a, b])) (.p (.int .i64 0)) = some (.pptr [a, b] 0) := idx64 a b (i := 0) (by decide)
theorem idx64_1 (a b : PV) : indexAddr PP 64 (.p (.sl true 2 [a, b])) (.p (.int .i64 1)) = some (.pptr [a, b] 1) := idx64 a b (i := 1) (by decide)
theorem pp_0 (a b : PV) (σ : Store) : load1 (.pptr [a, b] 0) σ = some (.p a) := load1_pptr rfl σ
theorem pp_1 (a b : PV) (σ : Store) : load1 (.pptr [a, b] 1) σ = some (.p b) := load1_pptr rfl σ
def T0 : Nd := ⟨0, 0, none⟩
theorem T0_ok : Ok [T0] := by
  have g : Las.Good [T0] 0 := ⟨rfl, rfl, rfl, rfl⟩
  exact ⟨by simp, by simp, fun j hj => by rw [show j = 0 by simp at hj; omega]; exact g, rfl⟩
theorem T0_sem (u : Nat → Int) : sem u [T0] = fun _ => true := by
  unfold sem
  exact skB_leaf (u := u) (F := [T0]) (r := 0) (.inl rfl) (fun _ => false) (fun _ => false)
theorem S38_T {gm : Fm} (hG : Ok (L gm)) (k : Int) (σ : Store) : pureV CC 38 [.p (.int .i64 k), .p (.sl true 2 [.sl true 1 (eNd T0), eFm gm])] σ = some (.p (eFm (some (jn2 k [T0] (L gm))))) := by
  have h := S38_2 (fm := some [T0]) (gm := gm) T0_ok hG k σ
  have e1 : view (.p (.sl true 2 [.sl true 1 (eNd T0), eFm gm])) = .p (.sl false 2 [eFm (some [T0]), eFm gm]) := by simp only [view, viewCell, loosen, loosens, loosen_fm]; rfl
  rw [pureV_view (args' := [.p (.int .i64 k), .p (.sl false 2 [eFm (some [T0]), eFm gm])]) (by simp only [List.map_cons, List.map_nil, int_view, fms_view2]) (by simp only [List.map_cons, List.map_nil, int_view, fms_view2'])] at h
  rw [pureV_view (args' := [.p (.int .i64 k), .p (.sl false 2 [eFm (some [T0]), eFm gm])]) (by simp only [List.map_cons, List.map_nil, int_view, e1]) (by simp only [List.map_cons, List.map_nil, int_view, fms_view2'])]
  exact h
theorem b_eB4 (a b : Bool) : binOp PP .eql 4 (.p (.bool a)) (.p (.bool b)) = some (.p (.bool (a == b))) := Eq.trans (by kernel_rfl) rfl
section
variable {w : Wd} (hw : wErr (L w.p) (L w.l) = 0)
include hw
theorem hold (F : Fm) (hF : Ok (L F)) (σ : Store) : pureV CC 20 [.p (eFm F), vWd ⟨some (L w.p), some (L w.l)⟩] σ = some (.tuple [.p (.bool (sem (atW (L w.p) (L w.l)) (L F) 0)), .p (.int .i64 0)]) := by
  obtain ⟨_, h2, _, _⟩ := wErr_zero hw
  have h := S20 (w := ⟨some (L w.p), some (L w.l)⟩) (ok_sm hF) (show (L w.p).length ≤ 1000 by omega) (show (L w.l).length ≤ 1000 by omega) σ
  rw [h]
  exact congrArg some (hOn_ok hF hw)
theorem L6_step {x0 x8 : DV} {cs : List PV} {i : Nat} {a b : Fm} (hi : i < 4) (ia : indexAddr PP 68 x8 (.p (.int .i64 (i : Nat))) = some (.pptr cs i)) (la : load1 (.pptr cs i) [] = some (.p (.sl true 2 [eFm a, eFm b])))
    (hl : len PP 68 x8 [] = some (.p (.int .i64 4))) (ha : Ok (L a)) (hb : Ok (L b)) (h : sem (atW (L w.p) (L w.l)) (L a) 0 = sem (atW (L w.p) (L w.l)) (L b) 0) :
    f6_L0 guardT 0 x0 (.pptr (eWd w) 0) x8 (N i) [] = f6_L0 guardT 0 x0 (.pptr (eWd w) 0) x8 (N (i + 1)) [] := by
  obtain ⟨_, h2, _, _⟩ := wErr_zero hw
  have s16 := fun σ => S16 (w := w) (by omega) (by omega) σ
  have h1 := fun σ => hold hw a ha σ
  have h3 := fun σ => hold hw b hb σ
  rw [h] at h1
  have e : (sem (atW (L w.p) (L w.l)) (L b) 0 != sem (atW (L w.p) (L w.l)) (L b) 0) = false := by cases sem (atW (L w.p) (L w.l)) (L b) 0 <;> rfl
  have hlt : ((i : Nat) : Int) < 4 := by omega
  rw [f6_L0_eq guardT rfl]
  simp (disch := omega) only [N, hl, b_lss, ltT hlt, gG, ia, load64, la, idx64_0, idx64_1, ld23f, pp_0, pp_1, load26, wd_all, shift_ptr, shift_pptr, Nat.zero_add, Nat.add_zero, pureFn_fn, List.append_nil, List.singleton_append, List.cons_append, List.nil_append, s16, h1, h3, ex20, ex21, b_neq, eqT (rfl : (0 : Int) = 0), b_neB, e, add1]
theorem L6_end {f : Fm} {x8 : DV} (hf : Ok (L f)) (h15 : (L f).length ≤ 15) (hl : len PP 68 x8 [] = some (.p (.int .i64 4))) : ∃ σ', f6_L0 guardT 0 (.p (eFm f)) (.pptr (eWd w) 0) x8 (N 4) [] = some (.p (.bool true), σ') := by
  obtain ⟨hne, h2, _, _⟩ := wErr_zero hw
  have s16 := fun σ => S16 (w := w) (by omega) (by omega) σ
  have s19 := fun σ => S19 (ok_sm hf) σ
  have s37 := fun σ => S37 hf σ
  have hchk : (chk ((L f).map ownN)).2 = 0 := by rw [chk_own]; exact ok_chk hf
  have hfo : Ok (L (oF ((L f).map ownN))) := by rw [L_oF]; exact chk_ok hchk
  have e1 : ∀ P Q, hOn (L (oF ((L f).map ownN))) P Q = hOn (L f) P Q := fun P Q => by rw [L_oF]; exact hOn_own _ _ _
  have hold2 : ∀ (u : Wd), wErr (L u.p) (L u.l) = 0 → ∀ σ, pureV CC 20 [.p (eFm (oF ((L f).map ownN))), vWd u] σ = some (.tuple [.p (.bool (sem (atW (L u.p) (L u.l)) (L f) 0)), .p (.int .i64 0)]) := fun u hu σ => by
    obtain ⟨_, k2, _, _⟩ := wErr_zero hu
    rw [S20 (w := u) (ok_sm hfo) (by omega) (by omega) σ, e1]
    exact congrArg some (hOn_ok hf hu)
  have q0 : ∀ σ, pureV CC 20 [.p (eFm (oF ((L f).map ownN))), vWd ⟨some (L w.p), some (L w.l)⟩] σ = some (.tuple [.p (.bool (sem (atW (L w.p) (L w.l)) (L f) 0)), .p (.int .i64 0)]) := hold2 ⟨some (L w.p), some (L w.l)⟩ hw
  obtain ⟨hn1, hn2, hn3⟩ := jn1_ok (k := 2) (.inl rfl) hf (by omega)
  have q1 := fun σ => hold hw (some (jn1 2 (L f))) hn1 σ
  have e2 : sem (atW (L w.p) (L w.l)) (L (some (jn1 2 (L f)))) 0 = !sem (atW (L w.p) (L w.l)) (L f) 0 := by
    show sem (atW (L w.p) (L w.l)) (jn1 2 (L f)) 0 = _
    rw [hn3]; rfl
  rw [e2] at q1
  have hw2 : wErr (L (⟨some (L w.p), some (L w.l)⟩ : Wd).p) (L (⟨some (L w.p), some (L w.l)⟩ : Wd).l) = 0 := hw
  obtain ⟨s, s1, _, s3⟩ := S31 (w := ⟨some (L w.p), some (L w.l)⟩) (show (L w.p).length ≤ 1000 by omega) (show (L w.l).length ≤ 1000 by omega) []
  have s4 := s3 hw
  have s5 : L s.p = (short (L w.p) (L w.l)).1 := congrArg Prod.fst s4
  have s6 : L s.l = (short (L w.p) (L w.l)).2 := congrArg Prod.snd s4
  have s7 : wErr (L s.p) (L s.l) = 0 := by rw [s5, s6]; exact short_ok hw
  obtain ⟨_, s8, _, _⟩ := wErr_zero s7
  obtain ⟨u, u1, _, u3⟩ := S32 (w := ⟨some (L w.p), some (L w.l)⟩) (show (L w.p).length ≤ 1000 by omega) (show (L w.l).length ≤ 1000 by omega) [.mix [.p (eSl s.p), .p (eSl s.l)]]
  have u4 := u3 hw
  have u5 : L u.p = (unst (L w.p) (L w.l)).1 := congrArg Prod.fst u4
  have u6 : L u.l = (unst (L w.p) (L w.l)).2 := congrArg Prod.snd u4
  have u7 : wErr (L u.p) (L u.l) = 0 := by rw [u5, u6]; exact unst_ok hw
  obtain ⟨_, u8, _, _⟩ := wErr_zero u7
  rw [hw2] at s1 u1
  have r0 : ([Row.mix [.p .nilsl, .p .nilsl]] : Store)[0]? = some (.mix [.p .nilsl, .p .nilsl]) := rfl
  have sw := st_wd (lo := 0) s r0 (Nat.zero_le _) rfl
  have es : ([Row.mix [.p .nilsl, .p .nilsl]] : Store).set 0 (.mix [.p (eSl s.p), .p (eSl s.l)]) = [.mix [.p (eSl s.p), .p (eSl s.l)]] := rfl
  rw [es] at sw
  have r1 : ([Row.mix [.p (eSl s.p), .p (eSl s.l)], Row.mix [.p .nilsl, .p .nilsl]] : Store)[1]? = some (.mix [.p .nilsl, .p .nilsl]) := rfl
  have su := st_wd (lo := 0) u r1 (Nat.zero_le _) rfl
  have eu : ([Row.mix [.p (eSl s.p), .p (eSl s.l)], Row.mix [.p .nilsl, .p .nilsl]] : Store).set 1 (.mix [.p (eSl u.p), .p (eSl u.l)]) = [.mix [.p (eSl s.p), .p (eSl s.l)], .mix [.p (eSl u.p), .p (eSl u.l)]] := rfl
  rw [eu] at su
  have l0 : (loadN ([.mix [.p (eSl s.p), .p (eSl s.l)], .mix [.p (eSl u.p), .p (eSl u.l)]] : Store) 2 (.ptr 0 0)).map DV.agg = some (vWd s) := rfl
  have l1 : (loadN ([.mix [.p (eSl s.p), .p (eSl s.l)], .mix [.p (eSl u.p), .p (eSl u.l)]] : Store) 2 (.ptr 1 0)).map DV.agg = some (vWd u) := rfl
  have s17 := fun σ => S17 (w := s) (by omega) (by omega) σ
  have u17 := fun σ => S17 (w := u) (by omega) (by omega) σ
  rw [s7] at s17
  rw [u7] at u17
  have hs := hold2 s s7
  have hu := hold2 u u7
  have es2 : sem (atW (L s.p) (L s.l)) (L f) = sem (atW (L w.p) (L w.l)) (L f) := by rw [s5, s6]; exact sem_short hne
  have eu2 : sem (atW (L u.p) (L u.l)) (L f) 0 = sem (atW (L w.p) (L w.l)) (L f) 0 := by rw [u5, u6]; exact (sem_unst hf hne).symm
  rw [es2] at hs
  rw [eu2] at hu
  generalize sem (atW (L w.p) (L w.l)) (L f) 0 = b at *
  have eb : (b == !b) = false := by cases b <;> rfl
  have eb2 : (b == b) = true := by cases b <;> rfl
  have hnlt : ¬ ((4 : Nat) : Int) < 4 := by decide
  refine ⟨[.mix [.p (eSl s.p), .p (eSl s.l)], .mix [.p (eSl u.p), .p (eSl u.l)]], ?_⟩
  rw [f6_L0_eq guardT rfl]
  simp (maxSteps := 1000000) (disch := omega) only [N, hl, b_lss, ltF hnlt, gG, shift_ptr, shift_pptr, Nat.zero_add, Nat.add_zero, pureFn_fn, List.append_nil, List.singleton_append, List.cons_append, List.nil_append, s19, load26, wd_all, s16, q0, ex20, ex21, s37, q1, s1, zero26, List.length_nil, sw, u1, List.length_singleton, List.singleton_append, su, b_neq, eqT (rfl : (0 : Int) = 0), b_eB4, eb, l0, l1, s17, u17, hs, hu, b_eql, eb2]
end
theorem call6 (f g : Fm) (w : Wd) : ∃ σ', CC 0 6 [.p (eFm f), .p (eFm g), vWd w] [] = some (.p (.bool true), σ') := by
  have haw := awake_true
  obtain ⟨b, b1, b2⟩ := S13 f []
  obtain ⟨c, c1, c2⟩ := S13 g []
  have h14 := S14 w []
  cases b with
  | false =>
    refine ⟨[], F6_call ?_⟩
    rw [F6_eq]
    simp only [box_wd, gG, shift_ptr, shift_pptr, Nat.zero_add, Nat.add_zero, pureFn_fn, List.append_nil, List.singleton_append, List.cons_append, List.nil_append, haw _, b1]
  | true =>
    have hf := b2 rfl
    cases c with
    | false =>
      refine ⟨[], F6_call ?_⟩
      rw [F6_eq]
      simp only [box_wd, gG, shift_ptr, shift_pptr, Nat.zero_add, Nat.add_zero, pureFn_fn, List.append_nil, List.singleton_append, List.cons_append, List.nil_append, haw _, b1, c1]
    | true =>
      have hg := c2 rfl
      by_cases d1 : (L f).length ≤ 15
      · by_cases d2 : (L g).length ≤ 15
        · by_cases hs : (decide ((L w.p).length ≤ 70) && decide ((L w.l).length ≤ 70)) = true
          · rw [hs] at h14
            rw [Bool.and_eq_true, decide_eq_true_iff, decide_eq_true_iff] at hs
            obtain ⟨k0, k1⟩ := hs
            have h21 := fun σ => S21 (w := w) hf (by omega) (by omega) σ
            have h25 := fun σ => S25 hg σ
            by_cases hE : bErr (L f) (L w.p) (L w.l) = 0
            · by_cases hG : (chk (L g)).2 = 0
              · obtain ⟨e1, hw⟩ := bErr_zero hE
                have hF := chk_ok e1
                have hGo := chk_ok hG
                -- the formulas
                obtain ⟨nf, nfl, nfs⟩ := jn1_ok (k := 2) (.inl rfl) hF (by omega)
                obtain ⟨nnf, nnfl, nnfs⟩ := jn1_ok (k := 2) (.inl rfl) nf (by omega)
                obtain ⟨one, onel, ones⟩ := jn1_ok (k := 7) (.inr (.inr rfl)) nf (by omega)
                obtain ⟨none', nonel, nones⟩ := jn1_ok (k := 2) (.inl rfl) one (by omega)
                obtain ⟨alf, alfl, alfs⟩ := jn1_ok (k := 6) (.inr (.inl rfl)) hF (by omega)
                obtain ⟨sof, sofl, sofs⟩ := jn1_ok (k := 7) (.inr (.inr rfl)) hF (by omega)
                obtain ⟨sog, sogl, sogs⟩ := jn1_ok (k := 7) (.inr (.inr rfl)) hGo (by omega)
                obtain ⟨ld, ldl, lds⟩ := jn2_ok (k := 8) (by decide) hF hGo (by omega)
                obtain ⟨im, iml, ims⟩ := jn2_ok (k := 5) (by decide) hF sog (by omega)
                obtain ⟨alim, aliml, alims⟩ := jn1_ok (k := 6) (.inr (.inl rfl)) im (by omega)
                obtain ⟨un, unl, uns⟩ := jn2_ok (k := 9) (by decide) T0_ok hF (by simp; omega)
                have s37 := fun σ => S37 hF σ
                have s37n : ∀ σ, pureV CC 37 [.p (eFm (some (jn1 2 (L f))))] σ = some (.p (eFm (some (jn1 2 (jn1 2 (L f)))))) := fun σ => S37 (fm := some (jn1 2 (L f))) nf σ
                have s36o : ∀ σ, pureV CC 36 [.p (.int .i64 7), .p (eFm (some (jn1 2 (L f))))] σ = some (.p (eFm (some (jn1 7 (jn1 2 (L f)))))) := fun σ => S36 (fm := some (jn1 2 (L f))) nf 7 σ
                have s37o : ∀ σ, pureV CC 37 [.p (eFm (some (jn1 7 (jn1 2 (L f)))))] σ = some (.p (eFm (some (jn1 2 (jn1 7 (jn1 2 (L f))))))) := fun σ => S37 (fm := some (jn1 7 (jn1 2 (L f)))) one σ
                have s36a := fun σ => S36 hF 6 σ
                have s36s := fun σ => S36 hF 7 σ
                have s36g := fun σ => S36 hGo 7 σ
                have s38l := fun σ => S38_2 (fm := f) (gm := g) hF hGo 8 σ
                have s38i : ∀ σ, pureV CC 38 [.p (.int .i64 5), .p (.sl true 2 [eFm f, eFm (some (jn1 7 (L g)))])] σ = some (.p (eFm (some (jn2 5 (L f) (jn1 7 (L g)))))) := fun σ => S38_2 (fm := f) (gm := some (jn1 7 (L g))) hF sog 5 σ
                have s36i : ∀ σ, pureV CC 36 [.p (.int .i64 6), .p (eFm (some (jn2 5 (L f) (jn1 7 (L g)))))] σ = some (.p (eFm (some (jn1 6 (jn2 5 (L f) (jn1 7 (L g))))))) := fun σ => S36 (fm := some (jn2 5 (L f) (jn1 7 (L g)))) im 6 σ
                have s38u := fun σ => S38_T (gm := f) hF 9 σ
                have ens : (eNd T0) = eNd ⟨0, 0, none⟩ := rfl
                rw [ens] at s38u
                generalize hcs : [PV.sl true 2 [eFm (some (jn1 2 (jn1 2 (L f)))), eFm f], .sl true 2 [eFm (some (jn1 6 (L f))), eFm (some (jn1 2 (jn1 7 (jn1 2 (L f)))))], .sl true 2 [eFm (some (jn2 8 (L f) (L g))), eFm (some (jn1 6 (jn2 5 (L f) (jn1 7 (L g)))))], .sl true 2 [eFm (some (jn1 7 (L f))), eFm (some (jn2 9 [T0] (L f)))]] = cs
                have hl : len PP 68 (.p (.sl true 4 cs)) [] = some (.p (.int .i64 4)) := by simp [len, u68]
                have ia : ∀ i : Nat, i < 4 → indexAddr PP 68 (.p (.sl true 4 cs)) (.p (.int .i64 (i : Nat))) = some (.pptr cs i) := fun i hi => by
                  have h2 : (0 : Int) ≤ (i : Int) ∧ (i : Int) < 4 := by omega
                  simp [indexAddr, u68, s64, h2]
                have v0 := L6_step hw (x0 := .p (eFm f)) (x8 := .p (.sl true 4 cs)) (i := 0) (a := some (jn1 2 (jn1 2 (L f)))) (b := f) (by decide) (ia 0 (by decide)) (by subst hcs; exact load1_pptr rfl []) hl nnf hF (by
                  show sem _ (jn1 2 (jn1 2 (L f))) 0 = _
                  rw [nnfs]
                  show (!sem _ (jn1 2 (L f)) 0) = _
                  rw [nfs]
                  show (!!sem _ (L f) 0) = _
                  rw [Bool.not_not])
                have v1 := L6_step hw (x0 := .p (eFm f)) (x8 := .p (.sl true 4 cs)) (i := 1) (a := some (jn1 6 (L f))) (b := some (jn1 2 (jn1 7 (jn1 2 (L f))))) (by decide) (ia 1 (by decide)) (by subst hcs; exact load1_pptr rfl []) hl alf none' (by
                  show sem _ (jn1 6 (L f)) 0 = sem _ (jn1 2 (jn1 7 (jn1 2 (L f)))) 0
                  rw [alfs, nones]
                  show (!soI (fun j => !sem _ (L f) j) 0) = !sem _ (jn1 7 (jn1 2 (L f))) 0
                  rw [ones]
                  show _ = !soI (sem _ (jn1 2 (L f))) 0
                  rw [nfs]; rfl)
                have v2 := L6_step hw (x0 := .p (eFm f)) (x8 := .p (.sl true 4 cs)) (i := 2) (a := some (jn2 8 (L f) (L g))) (b := some (jn1 6 (jn2 5 (L f) (jn1 7 (L g))))) (by decide) (ia 2 (by decide)) (by subst hcs; exact load1_pptr rfl []) hl ld alim (by
                  show sem _ (jn2 8 (L f) (L g)) 0 = sem _ (jn1 6 (jn2 5 (L f) (jn1 7 (L g)))) 0
                  rw [lds, alims]
                  show (!soI (fun j => !(!sem _ (L f) j || soI (sem _ (L g)) j)) 0) = !soI (fun j => !sem _ (jn2 5 (L f) (jn1 7 (L g))) j) 0
                  rw [ims, sogs]; rfl)
                have v3 := L6_step hw (x0 := .p (eFm f)) (x8 := .p (.sl true 4 cs)) (i := 3) (a := some (jn1 7 (L f))) (b := some (jn2 9 [T0] (L f))) (by decide) (ia 3 (by decide)) (by subst hcs; exact load1_pptr rfl []) hl sof un (by
                  show sem _ (jn1 7 (L f)) 0 = sem _ (jn2 9 [T0] (L f)) 0
                  rw [sofs, uns, T0_sem]; rfl)
                obtain ⟨σ', v4⟩ := L6_end hw (f := f) (x8 := .p (.sl true 4 cs)) hF d1 hl
                have v5 := v0.trans (v1.trans (v2.trans (v3.trans v4)))
                refine ⟨σ', F6_call ?_⟩
                rw [F6_eq]
                simp only [N] at v5
                simp (maxSteps := 1000000) (disch := omega) only [box_wd, gG, shift_ptr, shift_pptr, Nat.zero_add, Nat.add_zero, pureFn_fn, List.append_nil, List.singleton_append, List.cons_append, List.nil_append, haw _, b1, c1, len23, N, b_gtr, gtF, load26, wd_all, h14, h21, hE, b_neq, eqT (rfl : (0 : Int) = 0), h25, hG, s37, s36o, s37n, bs64_p, s36a, s37o, s38l, s36g, s38i, s36i, s36s, bld67_0, bs23_1, s38u, bs68_4, hcs]
                exact v5
              · refine ⟨[], F6_call ?_⟩
                rw [F6_eq]
                simp (maxSteps := 1000000) (disch := omega) only [box_wd, gG, shift_ptr, shift_pptr, Nat.zero_add, Nat.add_zero, pureFn_fn, List.append_nil, List.singleton_append, List.cons_append, List.nil_append, haw _, b1, c1, len23, N, b_gtr, gtF, load26, wd_all, h14, h21, hE, b_neq, eqT (rfl : (0 : Int) = 0), h25, eqF hG]
            · refine ⟨[], F6_call ?_⟩
              rw [F6_eq]
              simp (maxSteps := 1000000) (disch := omega) only [box_wd, gG, shift_ptr, shift_pptr, Nat.zero_add, Nat.add_zero, pureFn_fn, List.append_nil, List.singleton_append, List.cons_append, List.nil_append, haw _, b1, c1, len23, N, b_gtr, gtF, load26, wd_all, h14, h21, b_neq, eqF hE]
          · rw [eq_false_of_ne_true hs] at h14
            refine ⟨[], F6_call ?_⟩
            rw [F6_eq]
            simp (maxSteps := 1000000) (disch := omega) only [box_wd, gG, shift_ptr, shift_pptr, Nat.zero_add, Nat.add_zero, pureFn_fn, List.append_nil, List.singleton_append, List.cons_append, List.nil_append, haw _, b1, c1, len23, N, b_gtr, gtF, load26, wd_all, h14]
        · refine ⟨[], F6_call ?_⟩
          rw [F6_eq]
          simp (maxSteps := 1000000) (disch := omega) only [box_wd, gG, shift_ptr, shift_pptr, Nat.zero_add, Nat.add_zero, pureFn_fn, List.append_nil, List.singleton_append, List.cons_append, List.nil_append, haw _, b1, c1, len23, N, b_gtr, gtF, gtT]
      · refine ⟨[], F6_call ?_⟩
        rw [F6_eq]
        simp (maxSteps := 1000000) (disch := omega) only [box_wd, gG, shift_ptr, shift_pptr, Nat.zero_add, Nat.add_zero, pureFn_fn, List.append_nil, List.singleton_append, List.cons_append, List.nil_append, haw _, b1, c1, len23, N, b_gtr, gtT]
end Go.D
end
/- LassoDuals: for all formulas and every word the law answers true and leaves its arguments as they were: the given tied card, without further conditions. -/
section
set_option linter.unusedVariables false
set_option linter.unusedSimpArgs false
set_option maxRecDepth 100000
namespace Go.D
open Go.ChangeShapes Go.WideShapes Go.ChangeAt Go.RowKit

theorem lassoDuals_calls {H : Type} {enc : TypeId × Value → H} {W : World} {base : Nat} {args : Array Value} {ds : List (DataW H)} {ps : List MemPlace}
    (hval : ∀ (j : Nat) t v, ([23, 23, 26] : List TypeId).toArray[j]? = some t → args[j]? = some v → Value.okWide PP W .any base t v)
    (hA : DataW.TrodAll enc PP W 0 (fun _ => true) true [23, 23, 26] args.toList ds ps) :
    Calls PP 6 args W fun e W' => e = .returned (.bool true) ∧ Below W.heap.size W W' := by
  obtain ⟨v0, v1, v2, d0, d1, d2, p0, p1, p2, rfl, rfl, rfl, h0, h1, h2⟩ := trodAll_three hA
  obtain ⟨o0, ho0⟩ := read_fm (hval 0 23 v0 rfl rfl) h0
  obtain ⟨o1, ho1⟩ := read_fm (hval 1 23 v1 rfl rfl) h1
  obtain ⟨o2, ho2⟩ := read_wd (hval 2 26 v2 rfl rfl) h2
  obtain ⟨σ', hc⟩ := call6 o0 o1 o2
  refine calls_of hc ⟨rfl, fun j h1 h2 => ?_⟩
  match j, h1 with
  | 0, _ => exact ho0
  | 1, _ => exact ho1
  | 2, _ => exact ho2

end Go.D
namespace Go.Proofs.YtpacancmcjbckaaGreatDoor
open Go.D Go.ChangeShapes Go.WideShapes Go.ChangeAt Go.RowKit

set_option maxRecDepth 100000 in
theorem lassoDuals_lifted (os : Os) (started : os.Started) (H : Type) (enc : TypeId × Value → H) :
    ReturnsInHanded {} Tryz.checked os 6 .any (fun w args => (Rows.lassoDualsSpec.pre enc Tryz.prog Tryz.f6 [] false w args ∧ laidMetH Tryz.prog Rows.lassoDualsRow.laid w) ∧ sizedMet enc Tryz.prog Tryz.f6 (OpenSpec.ofChange Rows.lassoDualsSpec) false w args)
      (Rows.lassoDualsSpec.post enc Tryz.prog Tryz.f6 false true false false) := by
  refine returnsInHanded_of_change_and (C := Tryz.checked) (X := fun w _ => laidMetH Tryz.prog Rows.lassoDualsRow.laid w) (fun _ _ _ hh h => h.of_heap hh) own_ok started (by kernel_rfl) Tryz.func6
    (ChangeSpec.witness_at (enc := enc) (C := Tryz.checked) (os := os) (X := fun w _ => laidMetH Tryz.prog Rows.lassoDualsRow.laid w) false (laidW os) #[.slice none 0 0, .slice none 0 0, .agg #[.slice none 0 0, .slice none 0 0]] 8 (World.laidAll_os _ _ _) (by kernel_rfl) (by kernel_rfl) (by kernel_rfl) (by kernel_rfl) (by kernel_rfl) (laidW_met os _)) ?_
  intro W base args ds gs before hval0 hW _ _ _ _
  have hval : ∀ (j : Nat) t v, Tryz.f6.params[j]? = some t → args[j]? = some v → Value.okWide Tryz.prog W .any base t v := hval0
  have hW' := hW
  obtain ⟨p, q, hA0, hV, rfl, _, _⟩ := hW
  have hA : DataW.TrodAll enc Tryz.prog W 0 (fun _ => true) true Tryz.f6.params.toList args.toList ds p := hA0
  rw [Tryz.params6] at hA hval
  have hA2 := hA
  obtain ⟨v0, v1, v2, d0, d1, d2, p0, p1, p2, rfl, rfl, rfl, h0, h1, h2⟩ := trodAll_three hA
  obtain ⟨rfl, rfl⟩ := trodVars_none hV
  have hlt : ∀ x ∈ p0 ++ p1 ++ p2, x.block < W.heap.size := fun x hx => by
    have := hW'.lt x (by simpa using hx)
    exact this
  have e0 : ∀ x ∈ p0, x.block < W.heap.size := fun x hx => hlt x (List.mem_append_left _ (List.mem_append_left _ hx))
  have e1 : ∀ x ∈ p1, x.block < W.heap.size := fun x hx => hlt x (List.mem_append_left _ (List.mem_append_right _ hx))
  have e2 : ∀ x ∈ p2, x.block < W.heap.size := fun x hx => hlt x (List.mem_append_right _ hx)
  refine (lassoDuals_calls (base := base) hval hA2).mono ?_
  rintro e W2 ⟨rfl, hnx⟩
  refine ⟨_, rfl, _, _, _, [], p0 ++ (p1 ++ p2), [], hW', ?_, ?_, rfl, hnx.frame _, fun h => by cases h⟩
  · exact trodAll_mk1 (shut_bool ul4 true)
  · exact trodAll_mk3 (Below.trod laidOut_ok (by kernel_rfl) (of_decide_eq_true (by kernel_rfl)) h0 hnx e0) (Below.trod laidOut_ok (by kernel_rfl) (of_decide_eq_true (by kernel_rfl)) h1 hnx e1) (Below.trod laidOut_ok (by kernel_rfl) (of_decide_eq_true (by kernel_rfl)) h2 hnx e2)

theorem lassoDuals_row : Rows.LassoDualsSaid :=
  OpenClaim.holds_of_wide 6 Tryz.f6 rfl rfl rfl rfl rfl rfl rfl ⟨rfl, rfl, rfl, rfl, rfl⟩ rfl rfl rfl rfl rfl (by kernel_rfl) Tryz.func6 (by kernel_rfl)
    (of_decide_eq_true (by kernel_rfl)) (by unfold Func.isWrapper; first | (rw [if_pos (by decide +kernel)]; kernel_rfl) | (rw [if_neg (by decide +kernel)]; exact ⟨rfl, rfl⟩))
    (fun os started H enc _ => lassoDuals_lifted os started H enc)

theorem lassoDuals_holds : Rows.LassoDualsCardSaid :=
  Claim7.holds_tied_plain_at .later [] [.data, .data, .data, .sentinel, .sentinel] true (true, "98bef7c5375844f969da89516d037819b1a57239a7494585b2bb93910f3c950f") true
    lassoDuals_row (fun _ h => by cases h) (by kernel_rfl) (fun _ h => by cases h) lassoDuals_row_tie rfl ⟨rfl, rfl⟩ (by kernel_rfl) rfl
    (fun f fn hf hfn => by
      obtain rfl : f = 6 := Option.some.inj ((show Tryz.prog.funcNamed "stutter/stutterlaw13.LassoDuals" = some 6 by kernel_rfl).symm.trans hf) |>.symm
      obtain rfl : fn = Tryz.f6 := (Option.some.inj (Tryz.func6.symm.trans hfn)).symm
      refine ⟨by kernel_rfl, fun j t ht => ?_⟩
      have hall : (Tryz.f6.params.toList.all fun t => Tryz.prog.wantsStandIn t == false) = true := by kernel_rfl
      have hm : t ∈ Tryz.f6.params.toList := by
        have := Array.mem_of_getElem? ht
        exact this.val
      exact eq_of_beq (List.all_eq_true.1 hall t hm))
    (by kernel_rfl)

end Go.Proofs.YtpacancmcjbckaaGreatDoor
end
