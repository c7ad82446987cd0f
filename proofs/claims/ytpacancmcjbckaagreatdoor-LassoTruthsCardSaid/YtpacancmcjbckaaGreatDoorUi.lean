/- LassoTruths: for every formula and every word the law answers true and leaves its arguments as they were: the given tied card, without further conditions. -/
import Derived.Test.YtpacancmcjbckaaGreatDoorUd
import Derived.Test.YtpacancmcjbckaaGreatDoorUg
import Derived.Test.YtpacancmcjbckaaGreatDoorUh
import Derived.Test.YtpacancmcjbckaaGreatDoorUe
import Derived.Test.YtpacancmcjbckaaGreatDoorTie
import Derived.Test.YtpacancmcjbckaaGreatDoorCards
import Derived.SevenTiedAt
/- Chapter 13: LassoWords' law. -/
section
set_option linter.unusedVariables false
set_option linter.unusedSimpArgs false
namespace Go.D
open Las
set_option maxRecDepth 4000
theorem b_eql30 (x y : Int) : binOp PP .eql 30 (.p (.int .i64 x)) (.p (.int .i64 y)) = some (.p (.bool (decide (x = y)))) := Eq.trans (by kernel_rfl) rfl
def awT : Prop := ∀ σ : Store, pureV CC 12 [] σ = some (.p (.bool true))
end Go.D
end
/- The examples of chapter 13: awake answers true. -/
section
set_option linter.unusedVariables false
set_option linter.unusedSimpArgs false
set_option maxRecDepth 100000
namespace Go.D
def exS1 : Store := [.mix [.p (exN [1]), .p (exN [2, 3])]]
def exS2 : Store := [.mix [.p (exN [1]), .p (exN [2, 3])], .mix [.p (.sl false 0 []), .p (exN [0])]]
theorem K48 (σ : Store) : pureV CC 48 [.p (.str lstr0)] σ = some (.tuple [.p exF, .p (pI 12), .p (pI 0)]) := pureV_run run48 rfl rfl
theorem K62a (σ : Store) : pureV CC 62 [.p (.int .i64 0)] σ = some (.p exA0) := pureV_run run62a rfl rfl
theorem K62b (σ : Store) : pureV CC 62 [.p (.int .i64 1)] σ = some (.p exA1) := pureV_run run62b rfl rfl
theorem K63 (σ : Store) : pureV CC 63 [.p .nilsl] σ = some exY := pureV_run run63 rfl rfl
theorem K38a (σ : Store) : pureV CC 38 [.p (.int .i64 8), .p (.sl true 2 [exA0, exA1])] σ = some (.p exU) := by
  rw [pureV_view (args' := [.p (pI 8), .p (.sl false 2 [exA0, exA1])]) rfl rfl]
  exact pureV_run run38a rfl rfl
theorem K38b (σ : Store) : pureV CC 38 [.p (.int .i64 7), .p (.sl true 1 [exA0])] σ = some (.p exB) := by
  rw [pureV_view (args' := [.p (pI 7), .p (.sl false 1 [exA0])]) rfl rfl]
  exact pureV_run run38b rfl rfl
theorem K32 (σ : Store) : pureV CC 32 [.agg [.p (.sl true 3 [.int .i64 1, .int .i64 1, .int .i64 2]), .p (.sl true 3 [.int .i64 3, .int .i64 2, .int .i64 2])]] σ = some (.tuple [.agg [.p (exN [1]), .p (exN [2, 3])], .p (pI 0)]) := by
  rw [pureV_view (args' := [.agg [.p (exN [1, 1, 2]), .p (exN [3, 2, 2])]]) rfl rfl]
  exact pureV_run run32 rfl rfl
theorem K29 (σ : Store) : pureV CC 29 [exL, .agg [.p .nilsl, .p (.sl true 1 [.int .i64 0])]] σ = some (.p (.bool true)) := by
  rw [pureV_view (args' := [exL, .agg [.p .nilsl, .p (exN [0])]]) rfl rfl]
  exact pureV_run run29 rfl rfl
theorem K20 (σ : Store) : pureV CC 20 [.p exU, .agg [.p (.sl true 2 [.int .i64 0, .int .i64 1]), .p (.sl true 2 [.int .i64 2, .int .i64 0])]] σ = some (.tuple [.p (.bool true), .p (pI 0)]) := by
  rw [pureV_view (args' := [.p exU, .agg [.p (exN [0, 1]), .p (exN [2, 0])]]) rfl rfl]
  exact pureV_run run20 rfl rfl
theorem K27 (σ : Store) : pureV CC 27 [exY, .p exB, .p (.int .i64 2)] σ = some (.tuple [exL, .p (pI 0)]) := pureV_run run27 rfl rfl
theorem K33 (σ : Store) : pureV CC 33 [.agg [.p (exN [1]), .p (exN [2, 3])], .agg [.p (.sl true 1 [.int .i64 1]), .p (.sl true 2 [.int .i64 2, .int .i64 3])]] σ = some (.p (.bool true)) := by
  rw [pureV_view (args' := [vWd ⟨some [1], some [2, 3]⟩, vWd ⟨some [1], some [2, 3]⟩]) rfl rfl]
  exact S33 (u := ⟨some [1], some [2, 3]⟩) (w := ⟨some [1], some [2, 3]⟩) (by decide) (by decide) σ
theorem kb64_2 (σ : Store) : buildSlice PP none 64 2 [(0, .p exA0), (1, .p exA1)] σ = some (.p (.sl true 2 [exA0, exA1]), σ) := Eq.trans (by kernel_rfl) rfl
theorem kb64_1 (σ : Store) : buildSlice PP none 64 1 [(0, .p exA0)] σ = some (.p (.sl true 1 [exA0]), σ) := Eq.trans (by kernel_rfl) rfl
theorem kb24_2 (a b : Int) (σ : Store) : buildSlice PP none 24 2 [(0, .p (.int .i64 a)), (1, .p (.int .i64 b))] σ = some (.p (.sl true 2 [.int .i64 a, .int .i64 b]), σ) := Eq.trans (by kernel_rfl) rfl
theorem kb24_3 (a b c : Int) (σ : Store) : buildSlice PP none 24 3 [(0, .p (.int .i64 a)), (1, .p (.int .i64 b)), (2, .p (.int .i64 c))] σ = some (.p (.sl true 3 [.int .i64 a, .int .i64 b, .int .i64 c]), σ) := Eq.trans (by kernel_rfl) rfl
theorem kb52 (p : PV) : build PP 52 [(1, .p p)] = some (.agg [.p .nilsl, .p p]) := Eq.trans (by kernel_rfl) rfl
theorem kz52 : zeroOf PP 52 = some [.p .nilsl, .p .nilsl] := Eq.trans (by kernel_rfl) rfl
theorem ks1 : store PP 0 26 (.ptr 0 0) (.agg [.p (exN [1]), .p (exN [2, 3])]) [.mix [.p .nilsl, .p .nilsl]] = some exS1 := Eq.trans (by kernel_rfl) rfl
theorem ks2 : store PP 0 52 (.ptr 1 0) exL (exS1 ++ [.mix [.p .nilsl, .p .nilsl]]) = some exS2 := Eq.trans (by kernel_rfl) rfl
theorem kl1 : exS1.length = 1 := rfl
theorem kd1 : load PP 26 (.ptr 0 0) exS2 = some (.agg [.p (exN [1]), .p (exN [2, 3])]) := Eq.trans (by kernel_rfl) rfl
theorem kd2 : load PP 52 (.ptr 1 0) exS2 = some exL := Eq.trans (by kernel_rfl) rfl
theorem kln (σ : Store) : len PP 23 (.p exF) σ = some (.p (.int .i64 4)) := Eq.trans (by kernel_rfl) rfl
theorem kx0 (a b : DV) : extractV (.tuple [a, b]) 0 = some a := rfl
theorem kx1 (a b : DV) : extractV (.tuple [a, b]) 1 = some b := rfl
theorem ke0 (a b c : DV) : extractV (.tuple [a, b, c]) 0 = some a := rfl
theorem ke1 (a b c : DV) : extractV (.tuple [a, b, c]) 1 = some b := rfl
theorem ke2 (a b c : DV) : extractV (.tuple [a, b, c]) 2 = some c := rfl
theorem awake_F12 : F12 guardT 0 [] = some (.p (.bool true), exS2) := by
  rw [F12_eq]
  simp only [pureFn_fn, List.append_nil, K48, gG, ke0, ke1, ke2, K62a, K62b, kb64_2, K38a, kb24_2, bld26 (x := .p _) (y := .p _) rfl rfl, K20, kx0, kx1, kb24_3, K32, zero26, List.length_nil, List.nil_append, ks1, kl1, K63, kb64_1, K38b, K27, kz52, ks2,
    b_eql30, eqT (rfl : (0 : Int) = 0), b_eql, eqT (rfl : (12 : Int) = 12), eqT (rfl : (4 : Int) = 4), kln, kd1, bs24_1, K33, kd2, kb52, K29]
theorem awake_true : awT := fun σ => pureV_free rfl rfl (F12_call awake_F12) rfl
end Go.D
end
/- Chapter 13: LassoTruths' law. -/
section
set_option linter.unusedVariables false
set_option linter.unusedSimpArgs false
set_option maxRecDepth 8000
namespace Go.D
open Las
section
variable {f : Fm} {w : Wd} (hf : FSm f) (hk : Ok (L f)) (hw : WOk (L w.p) (L w.l))
include hf hk hw
theorem S22 : ∀ (m r : Nat), r < m → r < (L f).length → ∀ σ : Store, pureV CC 22 [.p (eFm f), N r, vWd w] σ = some (BV (tab ((L w.p).length + (L w.l).length) (tv (tk ((L w.p).length + (L w.l).length) (L w.p).length (L w.p ++ L w.l)) (L f) r)))
  | 0, r, h, _, _ => by omega
  | m + 1, r, hm, hr, σ => by
    have hle := hw.le
    have hne := hw.ne
    have hg := hk.good r hr
    have hlen := hf.2 r
    have ha : L ((L f).getD r default).a = nA (L f) r := rfl
    have hnd := nd_all hr
    have hga := hg.a
    have hgk := hg.k
    have hgb := hg.b
    have hargs := fun h0 => hg.args h0
    have hleaf : nA (L f) r = [] → ∀ a b : NB, tv (tk ((L w.p).length + (L w.l).length) (L w.p).length (L w.p ++ L w.l)) (L f) r = tk ((L w.p).length + (L w.l).length) (L w.p).length (L w.p ++ L w.l) ((L f).getD r default).k ((L f).getD r default).n a b := fun h0 a b => by
      rw [h0] at hga
      exact tv_leaf (ar_zero hga.symm) a b
    have hnode := fun h0 => tv_eq (g := tk ((L w.p).length + (L w.l).length) (L w.p).length (L w.p ++ L w.l)) hg h0
    have hrec : ∀ (v : Int), 0 ≤ v → v < r → ∀ τ : Store, pureV CC 22 [.p (eFm f), .p (.int .i64 v), vWd w] τ = some (BV (tab ((L w.p).length + (L w.l).length) (tv (tk ((L w.p).length + (L w.l).length) (L w.p).length (L w.p ++ L w.l)) (L f) v.toNat))) := fun v v0 v1 τ => by
      have := S22 m v.toNat (by omega) (by omega) τ
      have e : N v.toNat = .p (.int .i64 v) := by unfold N; rw [Int.toNat_of_nonneg v0]
      rwa [e] at this
    generalize hx : (L f).getD r default = x at *
    have st := st67 (σ := []) (lo := 0) (z := [.p (pI 0), .p (pI 0), .p .nilsl]) x rfl (Nat.zero_le _)
    rw [List.length_nil, List.nil_append] at st
    have mk := mk34 (n := (L w.p).length + (L w.l).length) (by omega) [Row.mix (ndD x)]
    have g : ([Row.mix (ndD x)] : Store)[0]? = some (.mix (ndD x)) := rfl
    have g2 : ([Row.mix (ndD x), Row.arr (eBools (List.replicate ((L w.p).length + (L w.l).length) false))] : Store)[0]? = some (.mix (ndD x)) := rfl
    have ini : ∀ (a b : NB), ([Row.mix (ndD x), Row.arr (eBools (List.replicate ((L w.p).length + (L w.l).length) false))] : Store)[1]? = some (.arr (eBools (tab ((L w.p).length + (L w.l).length) fun j => if j < 0 then tk ((L w.p).length + (L w.l).length) (L w.p).length (L w.p ++ L w.l) x.k x.n a b j else false))) := fun a b => by
      rw [rep_tab]
      show some (Row.arr _) = _
      congr 3
    have fin : ∀ {a b : NB} {x10 x11 : DV}, (ar x.k ≠ 0 → x10 = BV (tab ((L w.p).length + (L w.l).length) a)) → (ar x.k = 2 → x11 = BV (tab ((L w.p).length + (L w.l).length) b)) →
        tv (tk ((L w.p).length + (L w.l).length) (L w.p).length (L w.p ++ L w.l)) (L f) r = tk ((L w.p).length + (L w.l).length) (L w.p).length (L w.p ++ L w.l) x.k x.n a b →
        (∀ σ', f22_L0 guardT 0 (.pptr (eWd w) 0) (.ptr 0 0) (N ((L w.p).length + (L w.l).length)) (.rsl 1 1 0 ((L w.p).length + (L w.l).length)) x10 x11 (N 0) ([Row.mix (ndD x), Row.arr (eBools (List.replicate ((L w.p).length + (L w.l).length) false))]) = some (.rsl 1 1 0 ((L w.p).length + (L w.l).length), σ') → F22 guardT 0 (.p (eFm f)) (N r) (vWd w) [] = some (.rsl 1 1 0 ((L w.p).length + (L w.l).length), σ')) →
        pureV CC 22 [.p (eFm f), N r, vWd w] σ = some (BV (tab ((L w.p).length + (L w.l).length) (tv (tk ((L w.p).length + (L w.l).length) (L w.p).length (L w.p ++ L w.l)) (L f) r))) := fun {a b x10 x11} q1 q2 q3 q4 => by
      obtain ⟨σ', r1, r2⟩ := L22 hw hgk hgb q1 q2 _ 0 _ rfl (Nat.zero_le _) g2 (ini a b)
      have hth := ba_thaw r2
      rw [tab_len, ← q3] at hth
      exact pureV_free (by simp only [List.map_cons, List.map_nil, fm_view, wd_view]; rfl) rfl (F22_call (r := (_, σ')) (q4 σ' r1)) hth
    have lP := (PL.sl w.p).len
    have lQ := (PL.sl w.l).len
    have lA := (PL.sl x.a).len
    rw [ha] at lA
    by_cases h0 : nA (L f) r = []
    · have hz : ¬ (((nA (L f) r).length : Nat) : Int) > 0 := by rw [h0]; decide
      have hz1 : ¬ (((nA (L f) r).length : Nat) : Int) > 1 := by rw [h0]; decide
      have har : ar x.k = 0 := by rw [← hga, h0]; rfl
      refine fin (a := fun _ => false) (b := fun _ => false) (x10 := .p .nilsl) (x11 := .p .nilsl) (fun h => absurd har h) (fun h => by rw [har] at h; exact absurd h (by decide)) (hleaf h0 _ _) (fun σ' hL => ?_)
      rw [F22_eq]
      simp only [N] at hL
      simp (disch := omega) only [box_wd, gG, N, idx23 hr, load67, hnd, zero67, List.length_nil, List.nil_append, st, fa26_0, fa26_1, shift_ptr, shift_pptr, Nat.zero_add, Nat.add_zero, pureFn_fn, List.append_nil, List.singleton_append, List.cons_append, List.nil_append, load24, wd_0, wd_1, lP, lQ, addN, mk, List.length_singleton, fa67_2, row_a g2, lA, b_gtr, gtF hz, f22_J0_eq, gtF hz1, f22_J1_eq]
      exact hL
    · obtain ⟨a1, a2, a3, a4⟩ := hargs h0
      have hpa := List.length_pos_iff.2 h0
      have hz : (((nA (L f) r).length : Nat) : Int) > 0 := by omega
      have i1 := (PL.sl x.a).idx (i := 0) (by rw [ha]; exact hpa)
      have l1 := fun σ => load1_getD (l := nA (L f) r) hpa σ
      have z0 : (.p (.int .i64 ((0 : Nat) : Int)) : DV) = .p (.int .i64 0) := rfl
      rw [z0, ha] at i1
      have r1 := hrec _ a2 a3
      have hopA : opA (tk ((L w.p).length + (L w.l).length) (L w.p).length (L w.p ++ L w.l)) (L f) r = tv (tk ((L w.p).length + (L w.l).length) (L w.p).length (L w.p ++ L w.l)) (L f) ((nA (L f) r).getD 0 0).toNat := rfl
      rw [← hopA] at r1
      by_cases hz1 : (((nA (L f) r).length : Nat) : Int) > 1
      · have hl2 : (nA (L f) r).length = 2 := by
          have : ar x.k ≤ 2 := by unfold ar; split; decide; split <;> decide
          omega
        have i2 := (PL.sl x.a).idx (i := 1) (by rw [ha]; omega)
        have l2 := fun σ => load1_getD (l := nA (L f) r) (i := 1) (by omega) σ
        have z1 : (.p (.int .i64 ((1 : Nat) : Int)) : DV) = .p (.int .i64 1) := rfl
        rw [z1, ha] at i2
        have hlast : (nA (L f) r).getD ((nA (L f) r).length - 1) 0 = (nA (L f) r).getD 1 0 := by rw [hl2]
        have r2 := hrec ((nA (L f) r).getD 1 0) (by rw [← hlast]; omega) (by rw [← hlast]; omega)
        have hopB : opB (tk ((L w.p).length + (L w.l).length) (L w.p).length (L w.p ++ L w.l)) (L f) r = tv (tk ((L w.p).length + (L w.l).length) (L w.p).length (L w.p ++ L w.l)) (L f) ((nA (L f) r).getD 1 0).toNat := by unfold opB; rw [hlast]
        rw [← hopB] at r2
        refine fin (fun _ => rfl) (fun _ => rfl) (hnode h0) (fun σ' hL => ?_)
        rw [F22_eq]
        simp only [N] at hL
        simp (disch := omega) only [box_wd, gG, N, idx23 hr, load67, hnd, zero67, List.length_nil, List.nil_append, st, fa26_0, fa26_1, shift_ptr, shift_pptr, Nat.zero_add, Nat.add_zero, pureFn_fn, List.append_nil, List.singleton_append, List.cons_append, List.nil_append, load24, wd_0, wd_1, lP, lQ, addN, mk, List.length_singleton, fa67_2, row_a g2, lA, b_gtr, gtT hz, i1, load3, l1, load26, wd_all, r1, f22_J0_eq, gtT hz1, i2, l2, r2, f22_J1_eq]
        exact hL
      · refine fin (b := opB (tk ((L w.p).length + (L w.l).length) (L w.p).length (L w.p ++ L w.l)) (L f) r) (x11 := .p .nilsl) (fun _ => rfl) (fun h => by rw [← hga] at h; omega) (hnode h0) (fun σ' hL => ?_)
        rw [F22_eq]
        simp only [N] at hL
        simp (disch := omega) only [box_wd, gG, N, idx23 hr, load67, hnd, zero67, List.length_nil, List.nil_append, st, fa26_0, fa26_1, shift_ptr, shift_pptr, Nat.zero_add, Nat.add_zero, pureFn_fn, List.append_nil, List.singleton_append, List.cons_append, List.nil_append, load24, wd_0, wd_1, lP, lQ, addN, mk, List.length_singleton, fa67_2, row_a g2, lA, b_gtr, gtT hz, i1, load3, l1, load26, wd_all, r1, f22_J0_eq, gtF hz1, f22_J1_eq]
        exact hL
end
theorem tvK_own (g : Int → Int → NB → NB → NB) (F : List Nd) : ∀ (k r : Nat), tvK g (F.map ownN) k r = tvK g F k r
  | 0, r => rfl
  | k + 1, r => by
    unfold tvK
    rw [nA_own, (own_get F r).2.1, (own_get F r).2.2, tvK_own g F k, tvK_own g F k]
theorem says_own (F : List Nd) (P Q : List Int) : says (F.map ownN) P Q = says F P Q := by unfold says tv; rw [tvK_own, List.length_map]
theorem bErr_own (F : List Nd) (P Q : List Int) : bErr (F.map ownN) P Q = bErr F P Q := by unfold bErr; rw [chk_own]
theorem tOn_own (F : List Nd) (P Q : List Int) : tOn (F.map ownN) P Q = tOn F P Q := by unfold tOn; rw [bErr_own, says_own]
theorem hOn_own (F : List Nd) (P Q : List Int) : hOn (F.map ownN) P Q = hOn F P Q := by unfold hOn; rw [bErr_own, says_own]
theorem L3 {l : List Bool} (hl : l.length ≤ 1000) : ∀ (d i : Nat), l.length - i = d → i ≤ l.length → f3_L0 guardT 0 (BV l) (BV l) (N i) [] = some (.p (.bool true), [])
  | 0, i, hd, hi => by
    rw [f3_L0_eq guardT rfl]
    simp (disch := omega) only [N, BV_len, b_lss, ltF, gG]
  | d + 1, i, hd, hi => by
    have hlt : i < l.length := by omega
    have ih := L3 hl d (i + 1) (by omega) (by omega)
    have e : (l.getD i false != l.getD i false) = false := by cases l.getD i false <;> rfl
    simp only [N] at ih
    rw [f3_L0_eq guardT rfl]
    simp (disch := omega) only [N, BV_len, b_lss, ltT, gG, BV_idx hlt, load4, BV_ld hlt, b_neB, e, add1, ih]
theorem call3 (f : Fm) (w : Wd) : ∃ σ', CC 0 3 [.p (eFm f), vWd w] [] = some (.p (.bool true), σ') := by
  have haw := awake_true
  obtain ⟨b, b1, b2⟩ := S13 f []
  refine ⟨[], F3_call ?_⟩
  rw [F3_eq]
  have h14 := S14 w []
  cases b with
  | false => simp only [box_wd, gG, shift_ptr, shift_pptr, Nat.zero_add, Nat.add_zero, pureFn_fn, List.append_nil, List.singleton_append, List.cons_append, List.nil_append, haw _, b1]
  | true =>
    have hf := b2 rfl
    by_cases hs : (decide ((L w.p).length ≤ 70) && decide ((L w.l).length ≤ 70)) = true
    · rw [hs] at h14
      rw [Bool.and_eq_true, decide_eq_true_iff, decide_eq_true_iff] at hs
      obtain ⟨k0, k1⟩ := hs
      have h16 := fun σ => S16 (w := w) (by omega) (by omega) σ
      have h15 := fun σ => S15 (w := ⟨some (L w.p), some (L w.l)⟩) (show (L w.p).length ≤ 1000 by omega) (show (L w.l).length ≤ 1000 by omega) σ
      have h17 := fun σ => S17 (w := w) (by omega) (by omega) σ
      have h18 := fun σ => S18 (w := ⟨some (L w.p), some (L w.l)⟩) hf.own (show (L w.p).length ≤ 1000 by omega) (show (L w.l).length ≤ 1000 by omega) σ
      have h20 := fun σ => S20 (w := ⟨some (L w.p), some (L w.l)⟩) hf.own (show (L w.p).length ≤ 1000 by omega) (show (L w.l).length ≤ 1000 by omega) σ
      have h21 := fun σ => S21 (w := w) hf (by omega) (by omega) σ
      have e1 : wErr (L (some (L w.p))) (L (some (L w.l))) = wErr (L w.p) (L w.l) := rfl
      have e2 : tOn (L (oF ((L f).map ownN))) (L (some (L w.p))) (L (some (L w.l))) = tOn (L f) (L w.p) (L w.l) := by rw [L_oF]; exact tOn_own _ _ _
      have e3 : hOn (L (oF ((L f).map ownN))) (L (some (L w.p))) (L (some (L w.l))) = hOn (L f) (L w.p) (L w.l) := by rw [L_oF]; exact hOn_own _ _ _
      simp only [e1] at h15
      simp only [e2] at h18
      simp only [e3] at h20
      have hn : ¬ ((0 : Int) = 1) := by decide
      by_cases hE : bErr (L f) (L w.p) (L w.l) = 0
      · obtain ⟨c1, c2⟩ := bErr_zero hE
        have hk := chk_ok c1
        have hw := wErr_ok c2
        have hle := hw.le
        have hne := hw.ne
        have hkp := hk.pos
        have hkl := hk.le
        have hsl := says_len (L f) (L w.p) (L w.l)
        have h22 := S22 hf hk hw _ ((L f).length - 1) (Nat.lt_succ_self _) (by omega) []
        have h22' : pureV CC 22 [.p (eFm f), N ((L f).length - 1), vWd w] [] = some (BV (says (L f) (L w.p) (L w.l))) := h22
        simp only [tOn, if_pos hE] at h18
        simp only [hOn, hE, eqT (rfl : (0 : Int) = 0), Bool.true_and] at h20
        have i0 := BV_idx (l := says (L f) (L w.p) (L w.l)) (i := 0) (by omega)
        have d0 := BV_ld (l := says (L f) (L w.p) (L w.l)) (i := 0) (by omega) []
        have z0 : (.p (.int .i64 ((0 : Nat) : Int)) : DV) = .p (.int .i64 0) := rfl
        rw [z0] at i0
        have e : ((says (L f) (L w.p) (L w.l)).getD 0 false != (says (L f) (L w.p) (L w.l)).getD 0 false) = false := by cases (says (L f) (L w.p) (L w.l)).getD 0 false <;> rfl
        have l3 := L3 (l := says (L f) (L w.p) (L w.l)) (by omega) _ 0 rfl (Nat.zero_le _)
        simp only [N] at h22' l3
        rw [z0] at l3
        simp (disch := omega) only [box_wd, gG, shift_ptr, shift_pptr, Nat.zero_add, Nat.add_zero, pureFn_fn, List.append_nil, List.singleton_append, List.cons_append, List.nil_append, haw _, b1, load26, wd_all, h14, h16, h15, h17, b_neq, eqT (rfl : wErr (L w.p) (L w.l) = wErr (L w.p) (L w.l)), S19 hf, h18, kx0', kx1', h20, h21, hE, eqT (rfl : (0 : Int) = 0), len23, N, sub1, h22', BV_len,
          eqT (rfl : (((says (L f) (L w.p) (L w.l)).length : Nat) : Int) = ((says (L f) (L w.p) (L w.l)).length : Nat)), i0, load4, d0, b_neB, Bool.true_and, e, l3]
      · simp only [tOn, if_neg hE] at h18
        simp only [hOn, eqF hE, Bool.false_and] at h20
        have ln : ∀ σ, len PP 34 (.p .nilsl) σ = some (.p (.int .i64 0)) := fun σ => by simp [len, u34]
        simp (disch := omega) only [box_wd, gG, shift_ptr, shift_pptr, Nat.zero_add, Nat.add_zero, pureFn_fn, List.append_nil, List.singleton_append, List.cons_append, List.nil_append, haw _, b1, load26, wd_all, h14, h16, h15, h17, b_neq, eqT (rfl : wErr (L w.p) (L w.l) = wErr (L w.p) (L w.l)), S19 hf, h18, kx0', kx1', h20, h21, eqF hE, b_eql, eqT (rfl : bErr (L f) (L w.p) (L w.l) = bErr (L f) (L w.p) (L w.l)), ln, eqT (rfl : (0 : Int) = 0)]
    · rw [eq_false_of_ne_true hs] at h14
      simp only [box_wd, gG, shift_ptr, shift_pptr, Nat.zero_add, Nat.add_zero, pureFn_fn, List.append_nil, List.singleton_append, List.cons_append, List.nil_append, haw _, b1, load26, wd_all, h14]
end Go.D
end
/- LassoTruths: for every formula and every word the law answers true and leaves its arguments as they were: the given tied card, without further conditions. -/
section
set_option linter.unusedVariables false
set_option linter.unusedSimpArgs false
set_option maxRecDepth 100000
namespace Go.D
open Go.ChangeShapes Go.WideShapes Go.ChangeAt Go.RowKit

theorem lassoTruths_calls {H : Type} {enc : TypeId × Value → H} {W : World} {base : Nat} {args : Array Value} {ds : List (DataW H)} {ps : List MemPlace}
    (hval : ∀ (j : Nat) t v, ([23, 26] : List TypeId).toArray[j]? = some t → args[j]? = some v → Value.okWide PP W .any base t v)
    (hA : DataW.TrodAll enc PP W 0 (fun _ => true) true [23, 26] args.toList ds ps) :
    Calls PP 3 args W fun e W' => e = .returned (.bool true) ∧ Below W.heap.size W W' := by
  obtain ⟨v0, v1, d0, d1, p0, p1, rfl, rfl, rfl, h0, h1⟩ := trodAll_two hA
  obtain ⟨o0, ho0⟩ := read_fm (hval 0 23 v0 rfl rfl) h0
  obtain ⟨o1, ho1⟩ := read_wd (hval 1 26 v1 rfl rfl) h1
  obtain ⟨σ', hc⟩ := call3 o0 o1
  refine calls_of hc ⟨rfl, fun j h1 h2 => ?_⟩
  match j, h1 with
  | 0, _ => exact ho0
  | 1, _ => exact ho1

end Go.D
namespace Go.Proofs.YtpacancmcjbckaaGreatDoor
open Go.D Go.ChangeShapes Go.WideShapes Go.ChangeAt Go.RowKit

set_option maxRecDepth 100000 in
theorem lassoTruths_lifted (os : Os) (started : os.Started) (H : Type) (enc : TypeId × Value → H) :
    ReturnsInHanded {} Tryz.checked os 3 .any (fun w args => (Rows.lassoTruthsSpec.pre enc Tryz.prog Tryz.f3 [] false w args ∧ laidMetH Tryz.prog Rows.lassoTruthsRow.laid w) ∧ sizedMet enc Tryz.prog Tryz.f3 (OpenSpec.ofChange Rows.lassoTruthsSpec) false w args)
      (Rows.lassoTruthsSpec.post enc Tryz.prog Tryz.f3 false true false false) := by
  refine returnsInHanded_of_change_and (C := Tryz.checked) (X := fun w _ => laidMetH Tryz.prog Rows.lassoTruthsRow.laid w) (fun _ _ _ hh h => h.of_heap hh) own_ok started (by kernel_rfl) Tryz.func3
    (ChangeSpec.witness_at (enc := enc) (C := Tryz.checked) (os := os) (X := fun w _ => laidMetH Tryz.prog Rows.lassoTruthsRow.laid w) false (laidW os) #[.slice none 0 0, .agg #[.slice none 0 0, .slice none 0 0]] 8 (World.laidAll_os _ _ _) (by kernel_rfl) (by kernel_rfl) (by kernel_rfl) (by kernel_rfl) (by kernel_rfl) (laidW_met os _)) ?_
  intro W base args ds gs before hval0 hW _ _ _ _
  have hval : ∀ (j : Nat) t v, Tryz.f3.params[j]? = some t → args[j]? = some v → Value.okWide Tryz.prog W .any base t v := hval0
  have hW' := hW
  obtain ⟨p, q, hA0, hV, rfl, _, _⟩ := hW
  have hA : DataW.TrodAll enc Tryz.prog W 0 (fun _ => true) true Tryz.f3.params.toList args.toList ds p := hA0
  rw [Tryz.params3] at hA hval
  have hA2 := hA
  obtain ⟨v0, v1, d0, d1, p0, p1, rfl, rfl, rfl, h0, h1⟩ := trodAll_two hA
  obtain ⟨rfl, rfl⟩ := trodVars_none hV
  have hlt : ∀ x ∈ p0 ++ p1, x.block < W.heap.size := fun x hx => by
    have := hW'.lt x (by simpa using hx)
    exact this
  have e0 : ∀ x ∈ p0, x.block < W.heap.size := fun x hx => hlt x (List.mem_append_left _ hx)
  have e1 : ∀ x ∈ p1, x.block < W.heap.size := fun x hx => hlt x (List.mem_append_right _ hx)
  refine (lassoTruths_calls (base := base) hval hA2).mono ?_
  rintro e W2 ⟨rfl, hnx⟩
  refine ⟨_, rfl, _, _, _, [], p0 ++ p1, [], hW', ?_, ?_, rfl, hnx.frame _, fun h => by cases h⟩
  · exact trodAll_mk1 (shut_bool ul4 true)
  · exact trodAll_mk2 (Below.trod laidOut_ok (by kernel_rfl) (of_decide_eq_true (by kernel_rfl)) h0 hnx e0) (Below.trod laidOut_ok (by kernel_rfl) (of_decide_eq_true (by kernel_rfl)) h1 hnx e1)

theorem lassoTruths_row : Rows.LassoTruthsSaid :=
  OpenClaim.holds_of_wide 3 Tryz.f3 rfl rfl rfl rfl rfl rfl rfl ⟨rfl, rfl, rfl, rfl, rfl⟩ rfl rfl rfl rfl rfl (by kernel_rfl) Tryz.func3 (by kernel_rfl)
    (of_decide_eq_true (by kernel_rfl)) (by unfold Func.isWrapper; first | (rw [if_pos (by decide +kernel)]; kernel_rfl) | (rw [if_neg (by decide +kernel)]; exact ⟨rfl, rfl⟩))
    (fun os started H enc _ => lassoTruths_lifted os started H enc)

theorem lassoTruths_holds : Rows.LassoTruthsCardSaid :=
  Claim7.holds_tied_plain_at .later [] [.data, .data, .data, .sentinel, .sentinel] true (true, "98bef7c5375844f969da89516d037819b1a57239a7494585b2bb93910f3c950f") true
    lassoTruths_row (fun _ h => by cases h) (by kernel_rfl) (fun _ h => by cases h) lassoTruths_row_tie rfl ⟨rfl, rfl⟩ (by kernel_rfl) rfl
    (fun f fn hf hfn => by
      obtain rfl : f = 3 := Option.some.inj ((show Tryz.prog.funcNamed "stutter/stutterlaw13.LassoTruths" = some 3 by kernel_rfl).symm.trans hf) |>.symm
      obtain rfl : fn = Tryz.f3 := (Option.some.inj (Tryz.func3.symm.trans hfn)).symm
      refine ⟨by kernel_rfl, fun j t ht => ?_⟩
      have hall : (Tryz.f3.params.toList.all fun t => Tryz.prog.wantsStandIn t == false) = true := by kernel_rfl
      have hm : t ∈ Tryz.f3.params.toList := by
        have := Array.mem_of_getElem? ht
        exact this.val
      exact eq_of_beq (List.all_eq_true.1 hall t hm))
    (by kernel_rfl)

end Go.Proofs.YtpacancmcjbckaaGreatDoor
end
