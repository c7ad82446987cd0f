/- LassoGraphs: for every labelled graph and every behaviour the law answers true and leaves its arguments as they were: the given tied card, without further conditions. -/
import Derived.Test.YtpacancmcjbckaaGreatDoorVc
import Derived.Test.YtpacancmcjbckaaGreatDoorVf
import Derived.Test.YtpacancmcjbckaaGreatDoorVg
import Derived.Test.YtpacancmcjbckaaGreatDoorVd
import Derived.Test.YtpacancmcjbckaaGreatDoorTie
import Derived.Test.YtpacancmcjbckaaGreatDoorCards
import Derived.SevenTiedAt
/- Chapter 13: LassoWords' law. -/
section
set_option linter.unusedVariables false
set_option linter.unusedSimpArgs false
namespace Go.D
open Las
set_option maxRecDepth 4000
theorem b_eql30 (x y : Int) : binOp PP .eql 30 (.p (.int .i64 x)) (.p (.int .i64 y)) = some (.p (.bool (decide (x = y)))) := Eq.trans (by kernel_rfl) rfl
def awT : Prop := ∀ σ : Store, pureV CC 12 [] σ = some (.p (.bool true))
end Go.D
end
/- The examples of chapter 13: awake answers true. -/
section
set_option linter.unusedVariables false
set_option linter.unusedSimpArgs false
set_option maxRecDepth 100000
namespace Go.D
def exS1 : Store := [.mix [.p (exN [1]), .p (exN [2, 3])]]
def exS2 : Store := [.mix [.p (exN [1]), .p (exN [2, 3])], .mix [.p (.sl false 0 []), .p (exN [0])]]
theorem K48 (σ : Store) : pureV CC 48 [.p (.str lstr0)] σ = some (.tuple [.p exF, .p (pI 12), .p (pI 0)]) := pureV_run run48 rfl rfl
theorem K62a (σ : Store) : pureV CC 62 [.p (.int .i64 0)] σ = some (.p exA0) := pureV_run run62a rfl rfl
theorem K62b (σ : Store) : pureV CC 62 [.p (.int .i64 1)] σ = some (.p exA1) := pureV_run run62b rfl rfl
theorem K63 (σ : Store) : pureV CC 63 [.p .nilsl] σ = some exY := pureV_run run63 rfl rfl
theorem K38a (σ : Store) : pureV CC 38 [.p (.int .i64 8), .p (.sl true 2 [exA0, exA1])] σ = some (.p exU) := by
  rw [pureV_view (args' := [.p (pI 8), .p (.sl false 2 [exA0, exA1])]) rfl rfl]
  exact pureV_run run38a rfl rfl
theorem K38b (σ : Store) : pureV CC 38 [.p (.int .i64 7), .p (.sl true 1 [exA0])] σ = some (.p exB) := by
  rw [pureV_view (args' := [.p (pI 7), .p (.sl false 1 [exA0])]) rfl rfl]
  exact pureV_run run38b rfl rfl
theorem K32 (σ : Store) : pureV CC 32 [.agg [.p (.sl true 3 [.int .i64 1, .int .i64 1, .int .i64 2]), .p (.sl true 3 [.int .i64 3, .int .i64 2, .int .i64 2])]] σ = some (.tuple [.agg [.p (exN [1]), .p (exN [2, 3])], .p (pI 0)]) := by
  rw [pureV_view (args' := [.agg [.p (exN [1, 1, 2]), .p (exN [3, 2, 2])]]) rfl rfl]
  exact pureV_run run32 rfl rfl
theorem K29 (σ : Store) : pureV CC 29 [exL, .agg [.p .nilsl, .p (.sl true 1 [.int .i64 0])]] σ = some (.p (.bool true)) := by
  rw [pureV_view (args' := [exL, .agg [.p .nilsl, .p (exN [0])]]) rfl rfl]
  exact pureV_run run29 rfl rfl
theorem K20 (σ : Store) : pureV CC 20 [.p exU, .agg [.p (.sl true 2 [.int .i64 0, .int .i64 1]), .p (.sl true 2 [.int .i64 2, .int .i64 0])]] σ = some (.tuple [.p (.bool true), .p (pI 0)]) := by
  rw [pureV_view (args' := [.p exU, .agg [.p (exN [0, 1]), .p (exN [2, 0])]]) rfl rfl]
  exact pureV_run run20 rfl rfl
theorem K27 (σ : Store) : pureV CC 27 [exY, .p exB, .p (.int .i64 2)] σ = some (.tuple [exL, .p (pI 0)]) := pureV_run run27 rfl rfl
theorem K33 (σ : Store) : pureV CC 33 [.agg [.p (exN [1]), .p (exN [2, 3])], .agg [.p (.sl true 1 [.int .i64 1]), .p (.sl true 2 [.int .i64 2, .int .i64 3])]] σ = some (.p (.bool true)) := by
  rw [pureV_view (args' := [vWd ⟨some [1], some [2, 3]⟩, vWd ⟨some [1], some [2, 3]⟩]) rfl rfl]
  exact S33 (u := ⟨some [1], some [2, 3]⟩) (w := ⟨some [1], some [2, 3]⟩) (by decide) (by decide) σ
theorem kb64_2 (σ : Store) : buildSlice PP none 64 2 [(0, .p exA0), (1, .p exA1)] σ = some (.p (.sl true 2 [exA0, exA1]), σ) := Eq.trans (by kernel_rfl) rfl
theorem kb64_1 (σ : Store) : buildSlice PP none 64 1 [(0, .p exA0)] σ = some (.p (.sl true 1 [exA0]), σ) := Eq.trans (by kernel_rfl) rfl
theorem kb24_2 (a b : Int) (σ : Store) : buildSlice PP none 24 2 [(0, .p (.int .i64 a)), (1, .p (.int .i64 b))] σ = some (.p (.sl true 2 [.int .i64 a, .int .i64 b]), σ) := Eq.trans (by kernel_rfl) rfl
theorem kb24_3 (a b c : Int) (σ : Store) : buildSlice PP none 24 3 [(0, .p (.int .i64 a)), (1, .p (.int .i64 b)), (2, .p (.int .i64 c))] σ = some (.p (.sl true 3 [.int .i64 a, .int .i64 b, .int .i64 c]), σ) := Eq.trans (by kernel_rfl) rfl
theorem kb52 (p : PV) : build PP 52 [(1, .p p)] = some (.agg [.p .nilsl, .p p]) := Eq.trans (by kernel_rfl) rfl
theorem kz52 : zeroOf PP 52 = some [.p .nilsl, .p .nilsl] := Eq.trans (by kernel_rfl) rfl
theorem ks1 : store PP 0 26 (.ptr 0 0) (.agg [.p (exN [1]), .p (exN [2, 3])]) [.mix [.p .nilsl, .p .nilsl]] = some exS1 := Eq.trans (by kernel_rfl) rfl
theorem ks2 : store PP 0 52 (.ptr 1 0) exL (exS1 ++ [.mix [.p .nilsl, .p .nilsl]]) = some exS2 := Eq.trans (by kernel_rfl) rfl
theorem kl1 : exS1.length = 1 := rfl
theorem kd1 : load PP 26 (.ptr 0 0) exS2 = some (.agg [.p (exN [1]), .p (exN [2, 3])]) := Eq.trans (by kernel_rfl) rfl
theorem kd2 : load PP 52 (.ptr 1 0) exS2 = some exL := Eq.trans (by kernel_rfl) rfl
theorem kln (σ : Store) : len PP 23 (.p exF) σ = some (.p (.int .i64 4)) := Eq.trans (by kernel_rfl) rfl
theorem kx0 (a b : DV) : extractV (.tuple [a, b]) 0 = some a := rfl
theorem kx1 (a b : DV) : extractV (.tuple [a, b]) 1 = some b := rfl
theorem ke0 (a b c : DV) : extractV (.tuple [a, b, c]) 0 = some a := rfl
theorem ke1 (a b c : DV) : extractV (.tuple [a, b, c]) 1 = some b := rfl
theorem ke2 (a b c : DV) : extractV (.tuple [a, b, c]) 2 = some c := rfl
theorem awake_F12 : F12 guardT 0 [] = some (.p (.bool true), exS2) := by
  rw [F12_eq]
  simp only [pureFn_fn, List.append_nil, K48, gG, ke0, ke1, ke2, K62a, K62b, kb64_2, K38a, kb24_2, bld26 (x := .p _) (y := .p _) rfl rfl, K20, kx0, kx1, kb24_3, K32, zero26, List.length_nil, List.nil_append, ks1, kl1, K63, kb64_1, K38b, K27, kz52, ks2,
    b_eql30, eqT (rfl : (0 : Int) = 0), b_eql, eqT (rfl : (12 : Int) = 12), eqT (rfl : (4 : Int) = 4), kln, kd1, bs24_1, K33, kd2, kb52, K29]
theorem awake_true : awT := fun σ => pureV_free rfl rfl (F12_call awake_F12) rfl
end Go.D
end
/- Chapter 13: LassoGraphs' law. -/
section
set_option linter.unusedVariables false
set_option linter.unusedSimpArgs false
set_option maxRecDepth 8000
namespace Go.D
open Las
def ownG (g : Gr) : Gr := ⟨g.n, some (L g.init), some (L g.edges)⟩
theorem bs43_0 (σ : Store) : buildSlice PP none 43 0 [] σ = some (.p (.sl true 0 []), σ) := Eq.trans (by kernel_rfl) rfl
theorem src43 : srcType PP 43 = true := Eq.trans (by kernel_rfl) rfl
theorem bytes129 : bytes? PP 129 = some 24 := Eq.trans (by kernel_rfl) rfl
theorem box_grV (g : Gr) : boxV (vGr g) = some [.p (pI g.n), .p (eSl g.init), .p (eEs g.edges)] := rfl
theorem app43 {o : Option (List Edg)} {lo : Nat} (hl : (L o).length ≤ 10000) (σ : Store) : append PP lo false 43 43 (.p (.sl true 0 [])) (.p (eEs o)) σ = some (if (L o).length = 0 then (.p (.sl true 0 []), σ) else (.osl σ.length 0 3 (L o).length (eEdgs (L o)), σ ++ [.tok 0])) := by
  have hz : zeroOf PP 129 = some [.p (pI 0), .p (pI 0), .p (pI 0)] := zero129
  cases o with
  | none => simp [append, src43, u43, s129, bytes129, hz, source, appLit, eEs]
  | some l =>
    have hc : (eEdgs l).length = l.length * 3 := edgs_length l
    have h1 : l.length * 24 ≤ 140737488355328 := by simp at hl; omega
    have h2 : l.length ≤ 140737488355328 := by simp at hl; omega
    by_cases h0 : l = []
    · subst h0; simp [append, src43, u43, s129, bytes129, hz, source, appLit, eEs, eEdgs]
    · simp [append, src43, u43, s129, bytes129, hz, source, appLit, eEs, hc, h1, h2, h0, pures_map]
theorem st24_1 (a b c d : DV) (v : PV) (rest : Store) : store PP 0 24 (.ptr 0 1) (.p v) (.mix [a, b, c] :: rest) = some (.mix [a, .p v, c] :: rest) := Eq.trans (by kernel_rfl) rfl
theorem st43_2p (a b c : DV) (v : PV) (rest : Store) : store PP 0 43 (.ptr 0 2) (.p v) (.mix [a, b, c] :: rest) = some (.mix [a, b, .p v] :: rest) := Eq.trans (by kernel_rfl) rfl
theorem st43_2o (a b c : DV) (r ver sz n : Nat) (cs : List PV) (rest : Store) : store PP 0 43 (.ptr 0 2) (.osl r ver sz n cs) (.mix [a, b, c] :: rest) = some (.mix [a, b, .osl r ver sz n cs] :: rest) := Eq.trans (by kernel_rfl) rfl
theorem st45_p (a b c : DV) (x y z : PV) (m : Row) (rest : Store) : store PP 0 45 (.ptr 1 0) (.agg [.p x, .p y, .p z]) (m :: .mix [a, b, c] :: rest) = some (m :: .mix [.p x, .p y, .p z] :: rest) := Eq.trans (by kernel_rfl) rfl
theorem st45_o (a b c : DV) (x y : PV) (r ver sz n : Nat) (cs : List PV) (m : Row) (rest : Store) : store PP 0 45 (.ptr 1 0) (.agg [.p x, .p y, .osl r ver sz n cs]) (m :: .mix [a, b, c] :: rest) = some (m :: .mix [.p x, .p y, .osl r ver sz n cs] :: rest) := Eq.trans (by kernel_rfl) rfl
theorem ld45_0 (a b c : DV) (rest : Store) : loadN (.mix [a, b, c] :: rest) 3 (.ptr 0 0) = some [a, b, c] := Eq.trans (by kernel_rfl) rfl
theorem cv45 (a b c : DV) (m : Row) (rest : Store) : cellV PP 45 (.ptr 1 0) (m :: .mix [a, b, c] :: rest) = some (.agg [a, b, c]) := Eq.trans (by kernel_rfl) rfl
theorem S79 {g : Gr} (hi : (L g.init).length ≤ 1000) (he : (L g.edges).length ≤ 10000) (σ : Store) : pureV CC 79 [vGr g] σ = some (vGr (ownG g)) := by
  have s52 := fun σ => S52 (o := g.init) (by omega) σ
  have z45 : zeroOf PP 45 = some [.p (pI 0), .p .nilsl, .p .nilsl] := zero45
  have l1 : load1 (.ptr 0 1) ([Row.mix [.p (pI g.n), .p (eSl g.init), .p (eEs g.edges)], .mix [.p (pI 0), .p .nilsl, .p .nilsl]] : Store) = some (.p (eSl g.init)) := load1_ptr rfl rfl
  have l2 : load1 (.ptr 0 2) ([Row.mix [.p (pI g.n), .p (eSl g.init), .p (eEs g.edges)], .mix [.p (pI 0), .p .nilsl, .p .nilsl]] : Store) = some (.p (eEs g.edges)) := load1_ptr rfl rfl
  have ap := app43 (o := g.edges) (lo := 0) he ([Row.mix [.p (pI g.n), .p (eSl g.init), .p (eEs g.edges)], .mix [.p (pI 0), .p .nilsl, .p .nilsl]])
  by_cases h0 : (L g.edges).length = 0
  · rw [if_pos h0] at ap
    refine pureV_free (by simp only [List.map_cons, List.map_nil, gr_view]) rfl (F79_call (r := (.agg [.p (pI g.n), .p (eSl (some (L g.init))), .p (.sl true 0 [])], [.mix [.p (pI g.n), .p (eSl (some (L g.init))), .p (.sl true 0 [])], .mix [.p (pI g.n), .p (eSl (some (L g.init))), .p (.sl true 0 [])]])) ?_) ?_
    · rw [F79_eq]
      simp only [box_grV, gG, z45, List.length_nil, List.nil_append, List.singleton_append, List.length_singleton, fa45_1, fa45_2, shift_ptr, shift_pptr, Nat.zero_add, Nat.add_zero, pureFn_fn, List.append_nil, List.singleton_append, List.cons_append, List.nil_append, load24, load43, l1, l2, s52, bs43_0, ap, st24_1 (d := .undef), st43_2p, load45, ld45_0, st45_p, cv45]
    · have e : L g.edges = [] := List.length_eq_zero_iff.1 h0
      simp [thawAll, thawPart, mapO, thaw, thaw1, thawP, vGr, ownG, eEs, eEdgs, e, loosens, loosen, loosen_sl, loosens_ints, eSl]
  · rw [if_neg h0] at ap
    refine pureV_free (by simp only [List.map_cons, List.map_nil, gr_view]) rfl (F79_call (r := (.agg [.p (pI g.n), .p (eSl (some (L g.init))), .osl 2 0 3 (L g.edges).length (eEdgs (L g.edges))], [.mix [.p (pI g.n), .p (eSl (some (L g.init))), .osl 2 0 3 (L g.edges).length (eEdgs (L g.edges))], .mix [.p (pI g.n), .p (eSl (some (L g.init))), .osl 2 0 3 (L g.edges).length (eEdgs (L g.edges))], .tok 0])) ?_) ?_
    · rw [F79_eq]
      simp only [box_grV, gG, z45, List.length_nil, List.nil_append, List.singleton_append, List.length_singleton, List.length_cons, fa45_1, fa45_2, shift_ptr, shift_pptr, Nat.zero_add, Nat.add_zero, pureFn_fn, List.append_nil, List.singleton_append, List.cons_append, List.nil_append, load24, load43, l1, l2, s52, bs43_0, ap, st24_1 (d := .undef), st43_2o, load45, ld45_0, st45_o, cv45]
    · simp [thawAll, thawPart, mapO, thaw, thaw1, thawP, vGr, ownG, eEs, loosens_edgs, loosen, loosen_sl, loosens_ints, eSl]
def ownX (x : Lb) : Lb := ⟨ownG x.g, some (L x.la), some (L x.st), some (L x.en), some (L x.we), some (L x.sr)⟩
theorem LSm.own {x : Lb} (h : LSm x) : LSm (ownX x) := ⟨h.i, h.e, h.la, h.st, h.en, h.we, h.sr⟩
theorem bld47 (a b c d e f g h : PV) : build PP 47 [(0, .agg [.p a, .p b, .p c]), (1, .p d), (2, .p e), (3, .p f), (4, .p g), (5, .p h)] = some (.agg [.p a, .p b, .p c, .p d, .p e, .p f, .p g, .p h]) := Eq.trans (by kernel_rfl) rfl
theorem st47 (a b c d e f g h : PV) (z1 z2 z3 z4 z5 z6 z7 z8 : DV) : store PP 0 47 (.ptr 0 0) (.agg [.p a, .p b, .p c, .p d, .p e, .p f, .p g, .p h]) [.mix [z1, z2, z3, z4, z5, z6, z7, z8]] = some [.mix [.p a, .p b, .p c, .p d, .p e, .p f, .p g, .p h]] := Eq.trans (by kernel_rfl) rfl
theorem cv47 (a b c d e f g h : DV) : cellV PP 47 (.ptr 0 0) [.mix [a, b, c, d, e, f, g, h]] = some (.agg [a, b, c, d, e, f, g, h]) := Eq.trans (by kernel_rfl) rfl
theorem S28 {x : Lb} (hx : LSm x) (σ : Store) : pureV CC 28 [vLb x] σ = some (vLb (ownX x)) := by
  have s79 := fun σ => S79 hx.i hx.e σ
  have a1 := fun σ => S52 (o := x.la) (by have := hx.la; omega) σ
  have a2 := fun σ => S52 (o := x.st) (by have := hx.st; omega) σ
  have a3 := fun σ => S52 (o := x.en) (by have := hx.en; omega) σ
  have a4 := fun σ => S52 (o := x.we) (by have := hx.we; omega) σ
  have a5 := fun σ => S52 (o := x.sr) (by have := hx.sr; omega) σ
  refine pureV_free (by simp only [List.map_cons, List.map_nil, lb_view]) rfl (F28_call (r := (vLb (ownX x), [.mix [.p (pI x.g.n), .p (eSl (some (L x.g.init))), .p (eEs (some (L x.g.edges))), .p (eSl (some (L x.la))), .p (eSl (some (L x.st))), .p (eSl (some (L x.en))), .p (eSl (some (L x.we))), .p (eSl (some (L x.sr)))]])) ?_) ?_
  · rw [F28_eq]
    have hv : vGr (ownG x.g) = .agg [.p (pI x.g.n), .p (eSl (some (L x.g.init))), .p (eEs (some (L x.g.edges)))] := rfl
    simp only [box_lb, gG, zero47, List.length_nil, List.nil_append, fa47_0, fa47_1, fa47_2, fa47_3, fa47_4, fa47_5, shift_ptr, shift_pptr, Nat.zero_add, Nat.add_zero, pureFn_fn, List.append_nil, List.singleton_append, List.cons_append, List.nil_append, load45, load24, lb_g, lb_3, lb_4, lb_5, lb_6, lb_7, s79, a1, a2, a3, a4, a5, hv, bld47, st47, cv47]
    rfl
  · simp [thawAll, thawPart, mapO, thaw, thaw1, thawP, vLb, ownX, ownG, eEs, loosens_edgs, loosen, loosen_sl, loosen_es, loosens_ints, eSl]
theorem bld52 (a b : PV) : build PP 52 [(0, .p a), (1, .p b)] = some (.agg [.p a, .p b]) := Eq.trans (by kernel_rfl) rfl
theorem st52 (a b : PV) (z1 z2 : DV) : store PP 0 52 (.ptr 0 0) (.agg [.p a, .p b]) [.mix [z1, z2]] = some [.mix [.p a, .p b]] := Eq.trans (by kernel_rfl) rfl
theorem cv52 (a b : DV) : cellV PP 52 (.ptr 0 0) [.mix [a, b]] = some (.agg [a, b]) := Eq.trans (by kernel_rfl) rfl
def ownW (w : Wd) : Wd := ⟨some (L w.p), some (L w.l)⟩
theorem S42 {w : Wd} (h0 : (L w.p).length ≤ 1000000) (h1 : (L w.l).length ≤ 1000000) (σ : Store) : pureV CC 42 [vWd w] σ = some (vWd (ownW w)) := by
  have a1 := fun σ => S52 (o := w.p) h0 σ
  have a2 := fun σ => S52 (o := w.l) h1 σ
  refine pureV_free (by simp only [List.map_cons, List.map_nil, wd_view]) rfl (F42_call (r := (vWd (ownW w), [.mix [.p (eSl (some (L w.p))), .p (eSl (some (L w.l)))]])) ?_) ?_
  · rw [F42_eq]
    simp only [box_wd, gG, zero52, List.length_nil, List.nil_append, fa52_0, fa52_1, shift_ptr, shift_pptr, Nat.zero_add, Nat.add_zero, pureFn_fn, List.append_nil, List.singleton_append, List.cons_append, List.nil_append, load24, wd_0, wd_1, a1, a2, bld52, st52, cv52]
    rfl
  · simp [thawAll, thawPart, mapO, thaw, thaw1, thawP, vWd, ownW, loosen, loosen_sl, loosens_ints, eSl]
def smB (x : Lb) : Bool := decide ((L x.g.edges).length ≤ 120) && (decide ((L x.g.init).length ≤ 70) && (decide ((L x.la).length ≤ 70) && (decide ((L x.st).length ≤ 20) && (decide ((L x.en).length ≤ 20) && (decide ((L x.we).length ≤ 20) && decide ((L x.sr).length ≤ 20))))))
theorem S23 (x : Lb) (σ : Store) : pureV CC 23 [vLb x] σ = some (.p (.bool (smB x))) := by
  refine pureV_free (by simp only [List.map_cons, List.map_nil, lb_view]) rfl (F23_call (r := (.p (.bool (smB x)), [])) ?_) rfl
  rw [F23_eq]
  unfold smB
  by_cases h1 : (L x.g.edges).length ≤ 120
  · by_cases h2 : (L x.g.init).length ≤ 70
    · by_cases h3 : (L x.la).length ≤ 70
      · by_cases h4 : (L x.st).length ≤ 20
        · by_cases h5 : (L x.en).length ≤ 20
          · by_cases h6 : (L x.we).length ≤ 20
            · by_cases h7 : (L x.sr).length ≤ 20
              · rw [decide_eq_true h1, decide_eq_true h2, decide_eq_true h3, decide_eq_true h4, decide_eq_true h5, decide_eq_true h6, decide_eq_true h7]
                simp (disch := omega) only [box_lb, gG, fa47_0, fa47_1, fa47_2, fa47_3, fa47_4, fa47_5, fa45_1, fa45_2, shift_ptr, shift_pptr, Nat.zero_add, Nat.add_zero, pureFn_fn, List.append_nil, List.singleton_append, List.cons_append, List.nil_append, load43, load24, lb_1, lb_2, lb_3, lb_4, lb_5, lb_6, lb_7, len43, len24, b_leq, leT, Bool.and_self]
              · rw [decide_eq_false h7]
                simp (disch := omega) only [box_lb, gG, fa47_0, fa47_1, fa47_2, fa47_3, fa47_4, fa47_5, fa45_1, fa45_2, shift_ptr, shift_pptr, Nat.zero_add, Nat.add_zero, pureFn_fn, List.append_nil, List.singleton_append, List.cons_append, List.nil_append, load43, load24, lb_1, lb_2, lb_3, lb_4, lb_5, lb_6, lb_7, len43, len24, b_leq, leT, leF, Bool.and_false]
            · rw [decide_eq_false h6]
              simp (disch := omega) only [box_lb, gG, fa47_0, fa47_1, fa47_2, fa47_3, fa47_4, fa47_5, fa45_1, fa45_2, shift_ptr, shift_pptr, Nat.zero_add, Nat.add_zero, pureFn_fn, List.append_nil, List.singleton_append, List.cons_append, List.nil_append, load43, load24, lb_1, lb_2, lb_3, lb_4, lb_5, lb_6, lb_7, len43, len24, b_leq, leT, leF, Bool.and_false, Bool.false_and]
          · rw [decide_eq_false h5]
            simp (disch := omega) only [box_lb, gG, fa47_0, fa47_1, fa47_2, fa47_3, fa47_4, fa47_5, fa45_1, fa45_2, shift_ptr, shift_pptr, Nat.zero_add, Nat.add_zero, pureFn_fn, List.append_nil, List.singleton_append, List.cons_append, List.nil_append, load43, load24, lb_1, lb_2, lb_3, lb_4, lb_5, lb_6, lb_7, len43, len24, b_leq, leT, leF, Bool.and_false, Bool.false_and]
        · rw [decide_eq_false h4]
          simp (disch := omega) only [box_lb, gG, fa47_0, fa47_1, fa47_2, fa47_3, fa47_4, fa47_5, fa45_1, fa45_2, shift_ptr, shift_pptr, Nat.zero_add, Nat.add_zero, pureFn_fn, List.append_nil, List.singleton_append, List.cons_append, List.nil_append, load43, load24, lb_1, lb_2, lb_3, lb_4, lb_5, lb_6, lb_7, len43, len24, b_leq, leT, leF, Bool.and_false, Bool.false_and]
      · rw [decide_eq_false h3]
        simp (disch := omega) only [box_lb, gG, fa47_0, fa47_1, fa47_2, fa47_3, fa47_4, fa47_5, fa45_1, fa45_2, shift_ptr, shift_pptr, Nat.zero_add, Nat.add_zero, pureFn_fn, List.append_nil, List.singleton_append, List.cons_append, List.nil_append, load43, load24, lb_1, lb_2, lb_3, lb_4, lb_5, lb_6, lb_7, len43, len24, b_leq, leT, leF, Bool.and_false, Bool.false_and]
    · rw [decide_eq_false h2]
      simp (disch := omega) only [box_lb, gG, fa47_0, fa47_1, fa47_2, fa47_3, fa47_4, fa47_5, fa45_1, fa45_2, shift_ptr, shift_pptr, Nat.zero_add, Nat.add_zero, pureFn_fn, List.append_nil, List.singleton_append, List.cons_append, List.nil_append, load43, load24, lb_1, lb_2, lb_3, lb_4, lb_5, lb_6, lb_7, len43, len24, b_leq, leT, leF, Bool.and_false, Bool.false_and]
  · rw [decide_eq_false h1]
    simp (disch := omega) only [box_lb, gG, fa47_0, fa47_1, fa47_2, fa47_3, fa47_4, fa47_5, fa45_1, fa45_2, shift_ptr, shift_pptr, Nat.zero_add, Nat.add_zero, pureFn_fn, List.append_nil, List.singleton_append, List.cons_append, List.nil_append, load43, load24, lb_1, lb_2, lb_3, lb_4, lb_5, lb_6, lb_7, len43, len24, b_leq, leT, leF, Bool.and_false, Bool.false_and]
theorem smB_ok {x : Lb} (h : smB x = true) : LSm x := by
  unfold smB at h
  simp only [Bool.and_eq_true, decide_eq_true_iff] at h
  obtain ⟨h1, h2, h3, h4, h5, h6, h7⟩ := h
  exact ⟨by omega, by omega, by omega, by omega, by omega, by omega, by omega⟩
theorem chkLb_own (x : Lb) : chkLb (ownX x) = chkLb x := rfl
theorem chkLs_own (x : Lb) (w : Wd) : chkLs (ownX x) (ownW w) = chkLs x w := rfl
theorem call7 (x : Lb) (w : Wd) : ∃ σ', CC 0 7 [vLb x, vWd w] [] = some (.p (.bool true), σ') := by
  have haw := awake_true
  have h23 := fun σ => S23 x σ
  refine ⟨[], F7_call ?_⟩
  rw [F7_eq]
  cases hb : smB x with
  | false => simp only [box_lb, box_wd, gG, shift_ptr, shift_pptr, Nat.zero_add, Nat.add_zero, pureFn_fn, List.append_nil, List.singleton_append, List.cons_append, List.nil_append, haw _, load47, lb_all, h23, hb]
  | true =>
    have hx := smB_ok hb
    by_cases c1 : (L w.p).length ≤ 70
    · by_cases c2 : (L w.l).length ≤ 70
      · have h28 := fun σ => S28 hx σ
        have h42 := fun σ => S42 (w := w) (by omega) (by omega) σ
        have h39 := fun σ => S39 hx.own σ
        have h40 := fun σ => S40 hx σ
        have h41 := fun σ => S41 hx.own (w := ownW w) (show (L w.p).length + (L w.l).length ≤ 1000 by omega) σ
        have h43 := fun σ => S43 hx (w := w) (show (L w.p).length + (L w.l).length ≤ 1000 by omega) σ
        simp only [chkLb_own] at h39
        simp only [chkLs_own] at h41
        simp (disch := omega) only [box_lb, box_wd, gG, shift_ptr, shift_pptr, Nat.zero_add, Nat.add_zero, pureFn_fn, List.append_nil, List.singleton_append, List.cons_append, List.nil_append, haw _, load47, lb_all, h23, hb, fa52_0, fa52_1, load24, wd_0, wd_1, len24, b_gtr, gtF, h28, h39, h40, px0, px1, b_neq, eqT (rfl : (chkLb x).1 = (chkLb x).1), eqT (rfl : (chkLb x).2 = (chkLb x).2), load52, ws_all, h42, h41, h43, b_eql, eqT (rfl : (chkLs x w).1 = (chkLs x w).1), eqT (rfl : (chkLs x w).2 = (chkLs x w).2)]
      · simp (disch := omega) only [box_lb, box_wd, gG, shift_ptr, shift_pptr, Nat.zero_add, Nat.add_zero, pureFn_fn, List.append_nil, List.singleton_append, List.cons_append, List.nil_append, haw _, load47, lb_all, h23, hb, fa52_0, fa52_1, load24, wd_0, wd_1, len24, b_gtr, gtF, gtT]
    · simp (disch := omega) only [box_lb, box_wd, gG, shift_ptr, shift_pptr, Nat.zero_add, Nat.add_zero, pureFn_fn, List.append_nil, List.singleton_append, List.cons_append, List.nil_append, haw _, load47, lb_all, h23, hb, fa52_0, fa52_1, load24, wd_0, wd_1, len24, b_gtr, gtT]
end Go.D
end
/- LassoGraphs: for every labelled graph and every behaviour the law answers true and leaves its arguments as they were: the given tied card, without further conditions. -/
section
set_option linter.unusedVariables false
set_option linter.unusedSimpArgs false
set_option maxRecDepth 100000
namespace Go.D
open Go.ChangeShapes Go.WideShapes Go.ChangeAt Go.RowKit

theorem lassoGraphs_calls {H : Type} {enc : TypeId × Value → H} {W : World} {base : Nat} {args : Array Value} {ds : List (DataW H)} {ps : List MemPlace}
    (hval : ∀ (j : Nat) t v, ([47, 52] : List TypeId).toArray[j]? = some t → args[j]? = some v → Value.okWide PP W .any base t v)
    (hA : DataW.TrodAll enc PP W 0 (fun _ => true) true [47, 52] args.toList ds ps) :
    Calls PP 7 args W fun e W' => e = .returned (.bool true) ∧ Below W.heap.size W W' := by
  obtain ⟨v0, v1, d0, d1, p0, p1, rfl, rfl, rfl, h0, h1⟩ := trodAll_two hA
  obtain ⟨o0, ho0⟩ := read_lb (hval 0 47 v0 rfl rfl) h0
  obtain ⟨o1, ho1⟩ := read_ls (hval 1 52 v1 rfl rfl) h1
  obtain ⟨σ', hc⟩ := call7 o0 o1
  refine calls_of hc ⟨rfl, fun j h1 h2 => ?_⟩
  match j, h1 with
  | 0, _ => exact ho0
  | 1, _ => exact ho1

end Go.D
namespace Go.Proofs.YtpacancmcjbckaaGreatDoor
open Go.D Go.ChangeShapes Go.WideShapes Go.ChangeAt Go.RowKit

set_option maxRecDepth 100000 in
theorem lassoGraphs_lifted (os : Os) (started : os.Started) (H : Type) (enc : TypeId × Value → H) :
    ReturnsInHanded {} Tryz.checked os 7 .any (fun w args => (Rows.lassoGraphsSpec.pre enc Tryz.prog Tryz.f7 [] false w args ∧ laidMetH Tryz.prog Rows.lassoGraphsRow.laid w) ∧ sizedMet enc Tryz.prog Tryz.f7 (OpenSpec.ofChange Rows.lassoGraphsSpec) false w args)
      (Rows.lassoGraphsSpec.post enc Tryz.prog Tryz.f7 false true false false) := by
  refine returnsInHanded_of_change_and (C := Tryz.checked) (X := fun w _ => laidMetH Tryz.prog Rows.lassoGraphsRow.laid w) (fun _ _ _ hh h => h.of_heap hh) own_ok started (by kernel_rfl) Tryz.func7
    (ChangeSpec.witness_at (enc := enc) (C := Tryz.checked) (os := os) (X := fun w _ => laidMetH Tryz.prog Rows.lassoGraphsRow.laid w) false (laidW os) #[.agg #[.int .i64 0, .slice none 0 0, .slice none 0 0, .slice none 0 0, .slice none 0 0, .slice none 0 0, .slice none 0 0, .slice none 0 0], .agg #[.slice none 0 0, .slice none 0 0]] 8 (World.laidAll_os _ _ _) (by kernel_rfl) (by kernel_rfl) (by kernel_rfl) (by kernel_rfl) (by kernel_rfl) (laidW_met os _)) ?_
  intro W base args ds gs before hval0 hW _ _ _ _
  have hval : ∀ (j : Nat) t v, Tryz.f7.params[j]? = some t → args[j]? = some v → Value.okWide Tryz.prog W .any base t v := hval0
  have hW' := hW
  obtain ⟨p, q, hA0, hV, rfl, _, _⟩ := hW
  have hA : DataW.TrodAll enc Tryz.prog W 0 (fun _ => true) true Tryz.f7.params.toList args.toList ds p := hA0
  rw [Tryz.params7] at hA hval
  have hA2 := hA
  obtain ⟨v0, v1, d0, d1, p0, p1, rfl, rfl, rfl, h0, h1⟩ := trodAll_two hA
  obtain ⟨rfl, rfl⟩ := trodVars_none hV
  have hlt : ∀ x ∈ p0 ++ p1, x.block < W.heap.size := fun x hx => by
    have := hW'.lt x (by simpa using hx)
    exact this
  have e0 : ∀ x ∈ p0, x.block < W.heap.size := fun x hx => hlt x (List.mem_append_left _ hx)
  have e1 : ∀ x ∈ p1, x.block < W.heap.size := fun x hx => hlt x (List.mem_append_right _ hx)
  refine (lassoGraphs_calls (base := base) hval hA2).mono ?_
  rintro e W2 ⟨rfl, hnx⟩
  refine ⟨_, rfl, _, _, _, [], p0 ++ p1, [], hW', ?_, ?_, rfl, hnx.frame _, fun h => by cases h⟩
  · exact trodAll_mk1 (shut_bool ul4 true)
  · exact trodAll_mk2 (Below.trod laidOut_ok (by kernel_rfl) (of_decide_eq_true (by kernel_rfl)) h0 hnx e0) (Below.trod laidOut_ok (by kernel_rfl) (of_decide_eq_true (by kernel_rfl)) h1 hnx e1)

theorem lassoGraphs_row : Rows.LassoGraphsSaid :=
  OpenClaim.holds_of_wide 7 Tryz.f7 rfl rfl rfl rfl rfl rfl rfl ⟨rfl, rfl, rfl, rfl, rfl⟩ rfl rfl rfl rfl rfl (by kernel_rfl) Tryz.func7 (by kernel_rfl)
    (of_decide_eq_true (by kernel_rfl)) (by unfold Func.isWrapper; first | (rw [if_pos (by decide +kernel)]; kernel_rfl) | (rw [if_neg (by decide +kernel)]; exact ⟨rfl, rfl⟩))
    (fun os started H enc _ => lassoGraphs_lifted os started H enc)

theorem lassoGraphs_holds : Rows.LassoGraphsCardSaid :=
  Claim7.holds_tied_plain_at .later [] [.data, .data, .data, .sentinel, .sentinel] true (true, "98bef7c5375844f969da89516d037819b1a57239a7494585b2bb93910f3c950f") true
    lassoGraphs_row (fun _ h => by cases h) (by kernel_rfl) (fun _ h => by cases h) lassoGraphs_row_tie rfl ⟨rfl, rfl⟩ (by kernel_rfl) rfl
    (fun f fn hf hfn => by
      obtain rfl : f = 7 := Option.some.inj ((show Tryz.prog.funcNamed "stutter/stutterlaw13.LassoGraphs" = some 7 by kernel_rfl).symm.trans hf) |>.symm
      obtain rfl : fn = Tryz.f7 := (Option.some.inj (Tryz.func7.symm.trans hfn)).symm
      refine ⟨by kernel_rfl, fun j t ht => ?_⟩
      have hall : (Tryz.f7.params.toList.all fun t => Tryz.prog.wantsStandIn t == false) = true := by kernel_rfl
      have hm : t ∈ Tryz.f7.params.toList := by
        have := Array.mem_of_getElem? ht
        exact this.val
      exact eq_of_beq (List.all_eq_true.1 hall t hm))
    (by kernel_rfl)

end Go.Proofs.YtpacancmcjbckaaGreatDoor
end
