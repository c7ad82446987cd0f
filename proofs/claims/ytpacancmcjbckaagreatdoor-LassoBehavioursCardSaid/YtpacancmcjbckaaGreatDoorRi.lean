/- LassoBehaviours: for every labelled graph and every behaviour the law answers true and leaves its arguments as they were: the given tied card, without further conditions. -/
import Derived.Test.YtpacancmcjbckaaGreatDoorRd
import Derived.Test.YtpacancmcjbckaaGreatDoorRg
import Derived.Test.YtpacancmcjbckaaGreatDoorRh
import Derived.Test.YtpacancmcjbckaaGreatDoorRe
import Derived.Test.YtpacancmcjbckaaGreatDoorTie
import Derived.Test.YtpacancmcjbckaaGreatDoorCards
import Derived.SevenTiedAt
/- Chapter 13: LassoWords' law. -/
section
set_option linter.unusedVariables false
set_option linter.unusedSimpArgs false
namespace Go.D
open Las
set_option maxRecDepth 4000
theorem b_eql30 (x y : Int) : binOp PP .eql 30 (.p (.int .i64 x)) (.p (.int .i64 y)) = some (.p (.bool (decide (x = y)))) := Eq.trans (by kernel_rfl) rfl
def awT : Prop := ∀ σ : Store, pureV CC 12 [] σ = some (.p (.bool true))
end Go.D
end
/- The examples of chapter 13: awake answers true. -/
section
set_option linter.unusedVariables false
set_option linter.unusedSimpArgs false
set_option maxRecDepth 100000
namespace Go.D
def exS1 : Store := [.mix [.p (exN [1]), .p (exN [2, 3])]]
def exS2 : Store := [.mix [.p (exN [1]), .p (exN [2, 3])], .mix [.p (.sl false 0 []), .p (exN [0])]]
theorem K48 (σ : Store) : pureV CC 48 [.p (.str lstr0)] σ = some (.tuple [.p exF, .p (pI 12), .p (pI 0)]) := pureV_run run48 rfl rfl
theorem K62a (σ : Store) : pureV CC 62 [.p (.int .i64 0)] σ = some (.p exA0) := pureV_run run62a rfl rfl
theorem K62b (σ : Store) : pureV CC 62 [.p (.int .i64 1)] σ = some (.p exA1) := pureV_run run62b rfl rfl
theorem K63 (σ : Store) : pureV CC 63 [.p .nilsl] σ = some exY := pureV_run run63 rfl rfl
theorem K38a (σ : Store) : pureV CC 38 [.p (.int .i64 8), .p (.sl true 2 [exA0, exA1])] σ = some (.p exU) := by
  rw [pureV_view (args' := [.p (pI 8), .p (.sl false 2 [exA0, exA1])]) rfl rfl]
  exact pureV_run run38a rfl rfl
theorem K38b (σ : Store) : pureV CC 38 [.p (.int .i64 7), .p (.sl true 1 [exA0])] σ = some (.p exB) := by
  rw [pureV_view (args' := [.p (pI 7), .p (.sl false 1 [exA0])]) rfl rfl]
  exact pureV_run run38b rfl rfl
theorem K32 (σ : Store) : pureV CC 32 [.agg [.p (.sl true 3 [.int .i64 1, .int .i64 1, .int .i64 2]), .p (.sl true 3 [.int .i64 3, .int .i64 2, .int .i64 2])]] σ = some (.tuple [.agg [.p (exN [1]), .p (exN [2, 3])], .p (pI 0)]) := by
  rw [pureV_view (args' := [.agg [.p (exN [1, 1, 2]), .p (exN [3, 2, 2])]]) rfl rfl]
  exact pureV_run run32 rfl rfl
theorem K29 (σ : Store) : pureV CC 29 [exL, .agg [.p .nilsl, .p (.sl true 1 [.int .i64 0])]] σ = some (.p (.bool true)) := by
  rw [pureV_view (args' := [exL, .agg [.p .nilsl, .p (exN [0])]]) rfl rfl]
  exact pureV_run run29 rfl rfl
theorem K20 (σ : Store) : pureV CC 20 [.p exU, .agg [.p (.sl true 2 [.int .i64 0, .int .i64 1]), .p (.sl true 2 [.int .i64 2, .int .i64 0])]] σ = some (.tuple [.p (.bool true), .p (pI 0)]) := by
  rw [pureV_view (args' := [.p exU, .agg [.p (exN [0, 1]), .p (exN [2, 0])]]) rfl rfl]
  exact pureV_run run20 rfl rfl
theorem K27 (σ : Store) : pureV CC 27 [exY, .p exB, .p (.int .i64 2)] σ = some (.tuple [exL, .p (pI 0)]) := pureV_run run27 rfl rfl
theorem K33 (σ : Store) : pureV CC 33 [.agg [.p (exN [1]), .p (exN [2, 3])], .agg [.p (.sl true 1 [.int .i64 1]), .p (.sl true 2 [.int .i64 2, .int .i64 3])]] σ = some (.p (.bool true)) := by
  rw [pureV_view (args' := [vWd ⟨some [1], some [2, 3]⟩, vWd ⟨some [1], some [2, 3]⟩]) rfl rfl]
  exact S33 (u := ⟨some [1], some [2, 3]⟩) (w := ⟨some [1], some [2, 3]⟩) (by decide) (by decide) σ
theorem kb64_2 (σ : Store) : buildSlice PP none 64 2 [(0, .p exA0), (1, .p exA1)] σ = some (.p (.sl true 2 [exA0, exA1]), σ) := Eq.trans (by kernel_rfl) rfl
theorem kb64_1 (σ : Store) : buildSlice PP none 64 1 [(0, .p exA0)] σ = some (.p (.sl true 1 [exA0]), σ) := Eq.trans (by kernel_rfl) rfl
theorem kb24_2 (a b : Int) (σ : Store) : buildSlice PP none 24 2 [(0, .p (.int .i64 a)), (1, .p (.int .i64 b))] σ = some (.p (.sl true 2 [.int .i64 a, .int .i64 b]), σ) := Eq.trans (by kernel_rfl) rfl
theorem kb24_3 (a b c : Int) (σ : Store) : buildSlice PP none 24 3 [(0, .p (.int .i64 a)), (1, .p (.int .i64 b)), (2, .p (.int .i64 c))] σ = some (.p (.sl true 3 [.int .i64 a, .int .i64 b, .int .i64 c]), σ) := Eq.trans (by kernel_rfl) rfl
theorem kb52 (p : PV) : build PP 52 [(1, .p p)] = some (.agg [.p .nilsl, .p p]) := Eq.trans (by kernel_rfl) rfl
theorem kz52 : zeroOf PP 52 = some [.p .nilsl, .p .nilsl] := Eq.trans (by kernel_rfl) rfl
theorem ks1 : store PP 0 26 (.ptr 0 0) (.agg [.p (exN [1]), .p (exN [2, 3])]) [.mix [.p .nilsl, .p .nilsl]] = some exS1 := Eq.trans (by kernel_rfl) rfl
theorem ks2 : store PP 0 52 (.ptr 1 0) exL (exS1 ++ [.mix [.p .nilsl, .p .nilsl]]) = some exS2 := Eq.trans (by kernel_rfl) rfl
theorem kl1 : exS1.length = 1 := rfl
theorem kd1 : load PP 26 (.ptr 0 0) exS2 = some (.agg [.p (exN [1]), .p (exN [2, 3])]) := Eq.trans (by kernel_rfl) rfl
theorem kd2 : load PP 52 (.ptr 1 0) exS2 = some exL := Eq.trans (by kernel_rfl) rfl
theorem kln (σ : Store) : len PP 23 (.p exF) σ = some (.p (.int .i64 4)) := Eq.trans (by kernel_rfl) rfl
theorem kx0 (a b : DV) : extractV (.tuple [a, b]) 0 = some a := rfl
theorem kx1 (a b : DV) : extractV (.tuple [a, b]) 1 = some b := rfl
theorem ke0 (a b c : DV) : extractV (.tuple [a, b, c]) 0 = some a := rfl
theorem ke1 (a b c : DV) : extractV (.tuple [a, b, c]) 1 = some b := rfl
theorem ke2 (a b c : DV) : extractV (.tuple [a, b, c]) 2 = some c := rfl
theorem awake_F12 : F12 guardT 0 [] = some (.p (.bool true), exS2) := by
  rw [F12_eq]
  simp only [pureFn_fn, List.append_nil, K48, gG, ke0, ke1, ke2, K62a, K62b, kb64_2, K38a, kb24_2, bld26 (x := .p _) (y := .p _) rfl rfl, K20, kx0, kx1, kb24_3, K32, zero26, List.length_nil, List.nil_append, ks1, kl1, K63, kb64_1, K38b, K27, kz52, ks2,
    b_eql30, eqT (rfl : (0 : Int) = 0), b_eql, eqT (rfl : (12 : Int) = 12), eqT (rfl : (4 : Int) = 4), kln, kd1, bs24_1, K33, kd2, kb52, K29]
theorem awake_true : awT := fun σ => pureV_free rfl rfl (F12_call awake_F12) rfl
end Go.D
end
/- Chapter 13: LassoGraphs' law. -/
section
set_option linter.unusedVariables false
set_option linter.unusedSimpArgs false
set_option maxRecDepth 8000
namespace Go.D
open Las
def ownG (g : Gr) : Gr := ⟨g.n, some (L g.init), some (L g.edges)⟩
theorem bs43_0 (σ : Store) : buildSlice PP none 43 0 [] σ = some (.p (.sl true 0 []), σ) := Eq.trans (by kernel_rfl) rfl
theorem src43 : srcType PP 43 = true := Eq.trans (by kernel_rfl) rfl
theorem bytes129 : bytes? PP 129 = some 24 := Eq.trans (by kernel_rfl) rfl
theorem box_grV (g : Gr) : boxV (vGr g) = some [.p (pI g.n), .p (eSl g.init), .p (eEs g.edges)] := rfl
theorem app43 {o : Option (List Edg)} {lo : Nat} (hl : (L o).length ≤ 10000) (σ : Store) : append PP lo false 43 43 (.p (.sl true 0 [])) (.p (eEs o)) σ = some (if (L o).length = 0 then (.p (.sl true 0 []), σ) else (.osl σ.length 0 3 (L o).length (eEdgs (L o)), σ ++ [.tok 0])) := by
  have hz : zeroOf PP 129 = some [.p (pI 0), .p (pI 0), .p (pI 0)] := zero129
  cases o with
  | none => simp [append, src43, u43, s129, bytes129, hz, source, appLit, eEs]
  | some l =>
    have hc : (eEdgs l).length = l.length * 3 := edgs_length l
    have h1 : l.length * 24 ≤ 140737488355328 := by simp at hl; omega
    have h2 : l.length ≤ 140737488355328 := by simp at hl; omega
    by_cases h0 : l = []
    · subst h0; simp [append, src43, u43, s129, bytes129, hz, source, appLit, eEs, eEdgs]
    · simp [append, src43, u43, s129, bytes129, hz, source, appLit, eEs, hc, h1, h2, h0, pures_map]
theorem st24_1 (a b c d : DV) (v : PV) (rest : Store) : store PP 0 24 (.ptr 0 1) (.p v) (.mix [a, b, c] :: rest) = some (.mix [a, .p v, c] :: rest) := Eq.trans (by kernel_rfl) rfl
theorem st43_2p (a b c : DV) (v : PV) (rest : Store) : store PP 0 43 (.ptr 0 2) (.p v) (.mix [a, b, c] :: rest) = some (.mix [a, b, .p v] :: rest) := Eq.trans (by kernel_rfl) rfl
theorem st43_2o (a b c : DV) (r ver sz n : Nat) (cs : List PV) (rest : Store) : store PP 0 43 (.ptr 0 2) (.osl r ver sz n cs) (.mix [a, b, c] :: rest) = some (.mix [a, b, .osl r ver sz n cs] :: rest) := Eq.trans (by kernel_rfl) rfl
theorem st45_p (a b c : DV) (x y z : PV) (m : Row) (rest : Store) : store PP 0 45 (.ptr 1 0) (.agg [.p x, .p y, .p z]) (m :: .mix [a, b, c] :: rest) = some (m :: .mix [.p x, .p y, .p z] :: rest) := Eq.trans (by kernel_rfl) rfl
theorem st45_o (a b c : DV) (x y : PV) (r ver sz n : Nat) (cs : List PV) (m : Row) (rest : Store) : store PP 0 45 (.ptr 1 0) (.agg [.p x, .p y, .osl r ver sz n cs]) (m :: .mix [a, b, c] :: rest) = some (m :: .mix [.p x, .p y, .osl r ver sz n cs] :: rest) := Eq.trans (by kernel_rfl) rfl
theorem ld45_0 (a b c : DV) (rest : Store) : loadN (.mix [a, b, c] :: rest) 3 (.ptr 0 0) = some [a, b, c] := Eq.trans (by kernel_rfl) rfl
theorem cv45 (a b c : DV) (m : Row) (rest : Store) : cellV PP 45 (.ptr 1 0) (m :: .mix [a, b, c] :: rest) = some (.agg [a, b, c]) := Eq.trans (by kernel_rfl) rfl
theorem S79 {g : Gr} (hi : (L g.init).length ≤ 1000) (he : (L g.edges).length ≤ 10000) (σ : Store) : pureV CC 79 [vGr g] σ = some (vGr (ownG g)) := by
  have s52 := fun σ => S52 (o := g.init) (by omega) σ
  have z45 : zeroOf PP 45 = some [.p (pI 0), .p .nilsl, .p .nilsl] := zero45
  have l1 : load1 (.ptr 0 1) ([Row.mix [.p (pI g.n), .p (eSl g.init), .p (eEs g.edges)], .mix [.p (pI 0), .p .nilsl, .p .nilsl]] : Store) = some (.p (eSl g.init)) := load1_ptr rfl rfl
  have l2 : load1 (.ptr 0 2) ([Row.mix [.p (pI g.n), .p (eSl g.init), .p (eEs g.edges)], .mix [.p (pI 0), .p .nilsl, .p .nilsl]] : Store) = some (.p (eEs g.edges)) := load1_ptr rfl rfl
  have ap := app43 (o := g.edges) (lo := 0) he ([Row.mix [.p (pI g.n), .p (eSl g.init), .p (eEs g.edges)], .mix [.p (pI 0), .p .nilsl, .p .nilsl]])
  by_cases h0 : (L g.edges).length = 0
  · rw [if_pos h0] at ap
    refine pureV_free (by simp only [List.map_cons, List.map_nil, gr_view]) rfl (F79_call (r := (.agg [.p (pI g.n), .p (eSl (some (L g.init))), .p (.sl true 0 [])], [.mix [.p (pI g.n), .p (eSl (some (L g.init))), .p (.sl true 0 [])], .mix [.p (pI g.n), .p (eSl (some (L g.init))), .p (.sl true 0 [])]])) ?_) ?_
    · rw [F79_eq]
      simp only [box_grV, gG, z45, List.length_nil, List.nil_append, List.singleton_append, List.length_singleton, fa45_1, fa45_2, shift_ptr, shift_pptr, Nat.zero_add, Nat.add_zero, pureFn_fn, List.append_nil, List.singleton_append, List.cons_append, List.nil_append, load24, load43, l1, l2, s52, bs43_0, ap, st24_1 (d := .undef), st43_2p, load45, ld45_0, st45_p, cv45]
    · have e : L g.edges = [] := List.length_eq_zero_iff.1 h0
      simp [thawAll, thawPart, mapO, thaw, thaw1, thawP, vGr, ownG, eEs, eEdgs, e, loosens, loosen, loosen_sl, loosens_ints, eSl]
  · rw [if_neg h0] at ap
    refine pureV_free (by simp only [List.map_cons, List.map_nil, gr_view]) rfl (F79_call (r := (.agg [.p (pI g.n), .p (eSl (some (L g.init))), .osl 2 0 3 (L g.edges).length (eEdgs (L g.edges))], [.mix [.p (pI g.n), .p (eSl (some (L g.init))), .osl 2 0 3 (L g.edges).length (eEdgs (L g.edges))], .mix [.p (pI g.n), .p (eSl (some (L g.init))), .osl 2 0 3 (L g.edges).length (eEdgs (L g.edges))], .tok 0])) ?_) ?_
    · rw [F79_eq]
      simp only [box_grV, gG, z45, List.length_nil, List.nil_append, List.singleton_append, List.length_singleton, List.length_cons, fa45_1, fa45_2, shift_ptr, shift_pptr, Nat.zero_add, Nat.add_zero, pureFn_fn, List.append_nil, List.singleton_append, List.cons_append, List.nil_append, load24, load43, l1, l2, s52, bs43_0, ap, st24_1 (d := .undef), st43_2o, load45, ld45_0, st45_o, cv45]
    · simp [thawAll, thawPart, mapO, thaw, thaw1, thawP, vGr, ownG, eEs, loosens_edgs, loosen, loosen_sl, loosens_ints, eSl]
def ownX (x : Lb) : Lb := ⟨ownG x.g, some (L x.la), some (L x.st), some (L x.en), some (L x.we), some (L x.sr)⟩
theorem LSm.own {x : Lb} (h : LSm x) : LSm (ownX x) := ⟨h.i, h.e, h.la, h.st, h.en, h.we, h.sr⟩
theorem bld47 (a b c d e f g h : PV) : build PP 47 [(0, .agg [.p a, .p b, .p c]), (1, .p d), (2, .p e), (3, .p f), (4, .p g), (5, .p h)] = some (.agg [.p a, .p b, .p c, .p d, .p e, .p f, .p g, .p h]) := Eq.trans (by kernel_rfl) rfl
theorem st47 (a b c d e f g h : PV) (z1 z2 z3 z4 z5 z6 z7 z8 : DV) : store PP 0 47 (.ptr 0 0) (.agg [.p a, .p b, .p c, .p d, .p e, .p f, .p g, .p h]) [.mix [z1, z2, z3, z4, z5, z6, z7, z8]] = some [.mix [.p a, .p b, .p c, .p d, .p e, .p f, .p g, .p h]] := Eq.trans (by kernel_rfl) rfl
theorem cv47 (a b c d e f g h : DV) : cellV PP 47 (.ptr 0 0) [.mix [a, b, c, d, e, f, g, h]] = some (.agg [a, b, c, d, e, f, g, h]) := Eq.trans (by kernel_rfl) rfl
theorem S28 {x : Lb} (hx : LSm x) (σ : Store) : pureV CC 28 [vLb x] σ = some (vLb (ownX x)) := by
  have s79 := fun σ => S79 hx.i hx.e σ
  have a1 := fun σ => S52 (o := x.la) (by have := hx.la; omega) σ
  have a2 := fun σ => S52 (o := x.st) (by have := hx.st; omega) σ
  have a3 := fun σ => S52 (o := x.en) (by have := hx.en; omega) σ
  have a4 := fun σ => S52 (o := x.we) (by have := hx.we; omega) σ
  have a5 := fun σ => S52 (o := x.sr) (by have := hx.sr; omega) σ
  refine pureV_free (by simp only [List.map_cons, List.map_nil, lb_view]) rfl (F28_call (r := (vLb (ownX x), [.mix [.p (pI x.g.n), .p (eSl (some (L x.g.init))), .p (eEs (some (L x.g.edges))), .p (eSl (some (L x.la))), .p (eSl (some (L x.st))), .p (eSl (some (L x.en))), .p (eSl (some (L x.we))), .p (eSl (some (L x.sr)))]])) ?_) ?_
  · rw [F28_eq]
    have hv : vGr (ownG x.g) = .agg [.p (pI x.g.n), .p (eSl (some (L x.g.init))), .p (eEs (some (L x.g.edges)))] := rfl
    simp only [box_lb, gG, zero47, List.length_nil, List.nil_append, fa47_0, fa47_1, fa47_2, fa47_3, fa47_4, fa47_5, shift_ptr, shift_pptr, Nat.zero_add, Nat.add_zero, pureFn_fn, List.append_nil, List.singleton_append, List.cons_append, List.nil_append, load45, load24, lb_g, lb_3, lb_4, lb_5, lb_6, lb_7, s79, a1, a2, a3, a4, a5, hv, bld47, st47, cv47]
    rfl
  · simp [thawAll, thawPart, mapO, thaw, thaw1, thawP, vLb, ownX, ownG, eEs, loosens_edgs, loosen, loosen_sl, loosen_es, loosens_ints, eSl]
theorem bld52 (a b : PV) : build PP 52 [(0, .p a), (1, .p b)] = some (.agg [.p a, .p b]) := Eq.trans (by kernel_rfl) rfl
theorem st52 (a b : PV) (z1 z2 : DV) : store PP 0 52 (.ptr 0 0) (.agg [.p a, .p b]) [.mix [z1, z2]] = some [.mix [.p a, .p b]] := Eq.trans (by kernel_rfl) rfl
theorem cv52 (a b : DV) : cellV PP 52 (.ptr 0 0) [.mix [a, b]] = some (.agg [a, b]) := Eq.trans (by kernel_rfl) rfl
def ownW (w : Wd) : Wd := ⟨some (L w.p), some (L w.l)⟩
theorem S42 {w : Wd} (h0 : (L w.p).length ≤ 1000000) (h1 : (L w.l).length ≤ 1000000) (σ : Store) : pureV CC 42 [vWd w] σ = some (vWd (ownW w)) := by
  have a1 := fun σ => S52 (o := w.p) h0 σ
  have a2 := fun σ => S52 (o := w.l) h1 σ
  refine pureV_free (by simp only [List.map_cons, List.map_nil, wd_view]) rfl (F42_call (r := (vWd (ownW w), [.mix [.p (eSl (some (L w.p))), .p (eSl (some (L w.l)))]])) ?_) ?_
  · rw [F42_eq]
    simp only [box_wd, gG, zero52, List.length_nil, List.nil_append, fa52_0, fa52_1, shift_ptr, shift_pptr, Nat.zero_add, Nat.add_zero, pureFn_fn, List.append_nil, List.singleton_append, List.cons_append, List.nil_append, load24, wd_0, wd_1, a1, a2, bld52, st52, cv52]
    rfl
  · simp [thawAll, thawPart, mapO, thaw, thaw1, thawP, vWd, ownW, loosen, loosen_sl, loosens_ints, eSl]
def smB (x : Lb) : Bool := decide ((L x.g.edges).length ≤ 120) && (decide ((L x.g.init).length ≤ 70) && (decide ((L x.la).length ≤ 70) && (decide ((L x.st).length ≤ 20) && (decide ((L x.en).length ≤ 20) && (decide ((L x.we).length ≤ 20) && decide ((L x.sr).length ≤ 20))))))
theorem S23 (x : Lb) (σ : Store) : pureV CC 23 [vLb x] σ = some (.p (.bool (smB x))) := by
  refine pureV_free (by simp only [List.map_cons, List.map_nil, lb_view]) rfl (F23_call (r := (.p (.bool (smB x)), [])) ?_) rfl
  rw [F23_eq]
  unfold smB
  by_cases h1 : (L x.g.edges).length ≤ 120
  · by_cases h2 : (L x.g.init).length ≤ 70
    · by_cases h3 : (L x.la).length ≤ 70
      · by_cases h4 : (L x.st).length ≤ 20
        · by_cases h5 : (L x.en).length ≤ 20
          · by_cases h6 : (L x.we).length ≤ 20
            · by_cases h7 : (L x.sr).length ≤ 20
              · rw [decide_eq_true h1, decide_eq_true h2, decide_eq_true h3, decide_eq_true h4, decide_eq_true h5, decide_eq_true h6, decide_eq_true h7]
                simp (disch := omega) only [box_lb, gG, fa47_0, fa47_1, fa47_2, fa47_3, fa47_4, fa47_5, fa45_1, fa45_2, shift_ptr, shift_pptr, Nat.zero_add, Nat.add_zero, pureFn_fn, List.append_nil, List.singleton_append, List.cons_append, List.nil_append, load43, load24, lb_1, lb_2, lb_3, lb_4, lb_5, lb_6, lb_7, len43, len24, b_leq, leT, Bool.and_self]
              · rw [decide_eq_false h7]
                simp (disch := omega) only [box_lb, gG, fa47_0, fa47_1, fa47_2, fa47_3, fa47_4, fa47_5, fa45_1, fa45_2, shift_ptr, shift_pptr, Nat.zero_add, Nat.add_zero, pureFn_fn, List.append_nil, List.singleton_append, List.cons_append, List.nil_append, load43, load24, lb_1, lb_2, lb_3, lb_4, lb_5, lb_6, lb_7, len43, len24, b_leq, leT, leF, Bool.and_false]
            · rw [decide_eq_false h6]
              simp (disch := omega) only [box_lb, gG, fa47_0, fa47_1, fa47_2, fa47_3, fa47_4, fa47_5, fa45_1, fa45_2, shift_ptr, shift_pptr, Nat.zero_add, Nat.add_zero, pureFn_fn, List.append_nil, List.singleton_append, List.cons_append, List.nil_append, load43, load24, lb_1, lb_2, lb_3, lb_4, lb_5, lb_6, lb_7, len43, len24, b_leq, leT, leF, Bool.and_false, Bool.false_and]
          · rw [decide_eq_false h5]
            simp (disch := omega) only [box_lb, gG, fa47_0, fa47_1, fa47_2, fa47_3, fa47_4, fa47_5, fa45_1, fa45_2, shift_ptr, shift_pptr, Nat.zero_add, Nat.add_zero, pureFn_fn, List.append_nil, List.singleton_append, List.cons_append, List.nil_append, load43, load24, lb_1, lb_2, lb_3, lb_4, lb_5, lb_6, lb_7, len43, len24, b_leq, leT, leF, Bool.and_false, Bool.false_and]
        · rw [decide_eq_false h4]
          simp (disch := omega) only [box_lb, gG, fa47_0, fa47_1, fa47_2, fa47_3, fa47_4, fa47_5, fa45_1, fa45_2, shift_ptr, shift_pptr, Nat.zero_add, Nat.add_zero, pureFn_fn, List.append_nil, List.singleton_append, List.cons_append, List.nil_append, load43, load24, lb_1, lb_2, lb_3, lb_4, lb_5, lb_6, lb_7, len43, len24, b_leq, leT, leF, Bool.and_false, Bool.false_and]
      · rw [decide_eq_false h3]
        simp (disch := omega) only [box_lb, gG, fa47_0, fa47_1, fa47_2, fa47_3, fa47_4, fa47_5, fa45_1, fa45_2, shift_ptr, shift_pptr, Nat.zero_add, Nat.add_zero, pureFn_fn, List.append_nil, List.singleton_append, List.cons_append, List.nil_append, load43, load24, lb_1, lb_2, lb_3, lb_4, lb_5, lb_6, lb_7, len43, len24, b_leq, leT, leF, Bool.and_false, Bool.false_and]
    · rw [decide_eq_false h2]
      simp (disch := omega) only [box_lb, gG, fa47_0, fa47_1, fa47_2, fa47_3, fa47_4, fa47_5, fa45_1, fa45_2, shift_ptr, shift_pptr, Nat.zero_add, Nat.add_zero, pureFn_fn, List.append_nil, List.singleton_append, List.cons_append, List.nil_append, load43, load24, lb_1, lb_2, lb_3, lb_4, lb_5, lb_6, lb_7, len43, len24, b_leq, leT, leF, Bool.and_false, Bool.false_and]
  · rw [decide_eq_false h1]
    simp (disch := omega) only [box_lb, gG, fa47_0, fa47_1, fa47_2, fa47_3, fa47_4, fa47_5, fa45_1, fa45_2, shift_ptr, shift_pptr, Nat.zero_add, Nat.add_zero, pureFn_fn, List.append_nil, List.singleton_append, List.cons_append, List.nil_append, load43, load24, lb_1, lb_2, lb_3, lb_4, lb_5, lb_6, lb_7, len43, len24, b_leq, leT, leF, Bool.and_false, Bool.false_and]
theorem smB_ok {x : Lb} (h : smB x = true) : LSm x := by
  unfold smB at h
  simp only [Bool.and_eq_true, decide_eq_true_iff] at h
  obtain ⟨h1, h2, h3, h4, h5, h6, h7⟩ := h
  exact ⟨by omega, by omega, by omega, by omega, by omega, by omega, by omega⟩
end Go.D
end
/- Chapter 13: LassoBehaviours' law. -/
section
set_option linter.unusedVariables false
set_option linter.unusedSimpArgs false
set_option maxRecDepth 8000
namespace Go.D
open Las
theorem wd_thaw (u : Wd) (m : Nat) (σ : Store) : thawAll m σ (vWd u) = some (vWd u) := by
  simp [thawAll, mapO, thawPart, vWd, thaw, thaw1, thawP, loosen_sl, loosen]
theorem b135' (n b : Nat) : build PP 135 [(0, .p (.int .i64 (n : Nat))), (1, .p (.int .i64 (b : Nat)))] = some (.agg (rgD n b)) := b135 n b
theorem bs130_r {p q : DV} (hp : p.one = true) (hq : q.one = true) (σ : Store) : buildSlice PP (some true) 130 2 [(0, p), (1, q)] σ = some (.rsl σ.length 1 0 2, σ ++ [.mix [p, q]]) := by
  cases p <;> first | (exfalso; simp [DV.one] at hp; done) | skip
  all_goals (cases q <;> first | (exfalso; simp [DV.one] at hq; done) | exact Eq.trans (by kernel_rfl) rfl)
section
variable {x : Lb} (hx : LSm x) (hk : LbOk x) {p q : DV} {P Q : List Int} (hl : P.length + Q.length ≤ 1000) (h0 : 0 < Q.length) (hin : ∀ i, i < (P ++ Q).length → 0 ≤ (P ++ Q).getD i 0 ∧ (P ++ Q).getD i 0 < x.g.n)
include hx hk hl h0 hin
theorem S117 {σ : Store} (hp : RL σ p P) (hq : RL σ q Q) : ∃ u : Wd, pureV CC 117 [vLb x, .agg [p, q]] σ = some (vWd u) ∧ L u.p = (wl x (P ++ Q) P.length).take P.length ∧ L u.l = (wl x (P ++ Q) P.length).drop P.length := by
  have key : ∀ (lo : Nat) (σ0 : Store), RL σ0 p P → RL σ0 q Q → lo ≤ σ0.length → ∃ (u : Wd) (σ' : Store), F117 guardT lo (vLb x) (.agg [p, q]) σ0 = some (vWd u, σ') ∧ L u.p = (wl x (P ++ Q) P.length).take P.length ∧ L u.l = (wl x (P ++ Q) P.length).drop P.length := by
    intro lo σ0 hp0 hq0 hlo
    have hAl : (P ++ Q).length = P.length + Q.length := List.length_append
    let σ1 : Store := σ0 ++ [.mix [p, q]]
    let σ2 : Store := σ1 ++ [.mix [.p .nilsl, .p .nilsl]]
    let σ3 : Store := σ2 ++ [.mix [p, q]]
    let σ4 : Store := σ3 ++ [.mix (rgD (P ++ Q).length P.length)]
    have e1 : σ0 ++ [.mix [p, q]] = σ1 := rfl
    have e2 : σ1 ++ [.mix [.p .nilsl, .p .nilsl]] = σ2 := rfl
    have e3 : σ2 ++ [.mix [p, q]] = σ3 := rfl
    have g1 : σ1[σ0.length]? = some (.mix [p, q]) := get_snoc
    have g2 : σ2[σ0.length]? = some (.mix [p, q]) := get_old g1
    have g3 : σ3[σ0.length]? = some (.mix [p, q]) := get_old g2
    have w2 : σ2[σ1.length]? = some (.mix [.p .nilsl, .p .nilsl]) := get_snoc
    have w4 : σ4[σ1.length]? = some (.mix [.p .nilsl, .p .nilsl]) := get_old (get_old w2)
    have r3 : σ3[σ2.length]? = some (.mix [p, q]) := get_snoc
    have r4 : σ4[σ3.length]? = some (.mix (rgD (P ++ Q).length P.length)) := get_snoc
    have l1 : σ1.length = σ0.length + 1 := by simp [σ1]
    have l2 : σ2.length = σ0.length + 2 := by simp [σ2, l1]
    have l3 : σ3.length = σ0.length + 3 := by simp [σ3, l2]
    have l4 : σ4.length = σ0.length + 4 := by simp [σ4, l3]
    have p3 : RL σ3 p P := ((hp0.ext _).ext _).ext _
    have q3 : RL σ3 q Q := ((hq0.ext _).ext _).ext _
    have a0 : load1 (.ptr σ0.length 0) σ2 = some p := load1_ptr g2 rfl
    have a1 : load1 (.ptr σ0.length 1) σ2 = some q := load1_ptr g2 rfl
    have a3 : load1 (.ptr σ0.length 0) σ3 = some p := load1_ptr g3 rfl
    have bs := bs130_r hp0.one hq0.one σ2
    rw [e3] at bs
    have s84 := S84q r3 p3 q3 (by omega) (by omega)
    have lA := (PL.some (P ++ Q)).len
    have stg := st135g (lo := lo) (σ := σ3) (by omega) (P ++ Q).length P.length
    obtain ⟨o1, o2, σ', f1, f2, f3⟩ := L117_0 hx hk (lo := lo) (rw := σ1.length) (rr := σ3.length) (A := P ++ Q) (b := P.length) (by omega) (by omega) hin [.p .nilsl, .p .nilsl] rfl (by omega) _ 0 (.p .nilsl) σ4 rfl (Nat.zero_le _) (by omega) (by rw [List.take_zero]; exact Out.zero) r4 w4
    refine ⟨⟨o1, o2⟩, σ', ?_, f2, f3⟩
    simp only [N] at f1
    rw [F117_eq]
    simp only [box_lb, box_two hp0 hq0, gG, zero26, e1, e2, fa52_0, fa52_1, shift_ptr, shift_pptr, Nat.zero_add, Nat.add_zero, pureFn_fn, List.append_nil, List.singleton_append, List.cons_append, List.nil_append, load24, a0, a1, bs, s84, lA, a3, p3.len, b135', zero135, stg]
    exact f1
  by_cases hf : rowFree1 p = true ∧ rowFree1 q = true
  · obtain ⟨u, σ', h1, h2⟩ := key 0 [] (hp.free hf.1 []) (hq.free hf.2 []) (Nat.le_refl _)
    exact ⟨u, pureV_free (by simp only [List.map_cons, List.map_nil, lb_view, ls_view hp hq]) (by have e : rowFree (vLb x) = true := rfl; have e2 : rowFree (.agg [p, q]) = (rowFree1 p && (rowFree1 q && true)) := rfl; simp only [List.all_cons, List.all_nil, e, e2, hf.1, hf.2, Bool.and_self]) (F117_call h1) (wd_thaw u _ _), h2⟩
  · obtain ⟨u, σ', h1, h2⟩ := key σ.length σ hp hq (Nat.le_refl _)
    refine ⟨u, pureV_rows (by simp only [List.map_cons, List.map_nil, lb_view, ls_view hp hq]) ?_ (F117_call h1) (wd_thaw u _ _), h2⟩
    rw [← Bool.not_eq_true]
    intro h
    simp only [List.all_cons, List.all_nil, rowFree, Bool.and_true, Bool.and_eq_true] at h
    exact hf ⟨h.2.1, h.2.2⟩
end
section
variable {x : Lb} (hx : LSm x) (hk : LbOk x)
include hx hk
theorem L119 {s t : Int} : ∀ (k i : Nat) (c : Int), (L x.st).length - i = k → i ≤ (L x.st).length → okL c →
    f119_L0 guardT 0 (.p (.int .i64 s)) (.p (.int .i64 t)) (.pptr (eLb x) 0) (.p (.int .i64 c)) (N i) [] = some (.p (.int .i64 (ltR x s t i k c)), [])
  | 0, i, c, hd, hi, hc => by
    have he := hx.st
    rw [f119_L0_eq guardT rfl]
    simp (disch := omega) only [N, fa47_2, shift_ptr, shift_pptr, Nat.zero_add, Nat.add_zero, pureFn_fn, List.append_nil, List.singleton_append, List.cons_append, List.nil_append, load24, lb_4, len24, b_lss, ltF, gG, ltR]
  | k + 1, i, c, hd, hi, hc => by
    have he := hx.st
    have hse := hk.se
    have h : i < (L x.st).length := by omega
    have h2 : i < (L x.en).length := by omega
    have hsv := hk.sv i h
    have hev := hk.ev i h2
    have bb : ∀ u v w : Int, build PP 129 [(0, .p (.int .i64 u)), (1, .p (.int .i64 v)), (2, .p (.int .i64 w))] = some (.agg (edgD ⟨u, v, w⟩)) := fun u v w => Eq.trans (by kernel_rfl) rfl
    have s162 := fun s t a σ => S162 (x := x) hx.e s t a σ
    have s164 := fun s a σ => S164 (x := x) hx.e s a σ
    let c1 := if stA x s t (i : Nat) = true then wA c ((L x.st).getD i 0) else c
    let c2 := if enb x s (i : Nat) = true then wA c1 ((L x.en).getD i 0) else c1
    have hc1 : okL c1 := by
      show okL (if stA x s t (i : Nat) = true then wA c ((L x.st).getD i 0) else c)
      split
      · exact wA_ok hc hsv
      · exact hc
    have hc2 : okL c2 := by
      show okL (if enb x s (i : Nat) = true then wA c1 ((L x.en).getD i 0) else c1)
      split
      · exact wA_ok hc1 hev
      · exact hc1
    have ih := L119 (s := s) (t := t) k (i + 1) c2 (by omega) (by omega) hc2
    have e : ltR x s t i (k + 1) c = ltR x s t (i + 1) k c2 := rfl
    rw [e, ← ih]
    simp only [N]
    -- the second half
    have half : (∀ (y : Int), y = c1 → ∀ (a1 a2 a3 a4 a5 a6 a7 a8 a9 a10 a11 a12 a13 a14 a15 a16 a17 a18 a19 a20 a21 a22 a23 a24 a25 a26 a27 : DV),
        f119_J0 guardT 0 (.p (.int .i64 s)) (.p (.int .i64 t)) (.pptr (eLb x) 0) (.p (.int .i64 y)) (.p (.int .i64 (i : Nat))) a1 a2 a3 a4 a5 a6 a7 a8 a9 a10 a11 a12 a13 a14 a15 a16 a17 a18 a19 a20 a21 a22 a23 a24 a25 a26 a27 [] =
        f119_L0 guardT 0 (.p (.int .i64 s)) (.p (.int .i64 t)) (.pptr (eLb x) 0) (.p (.int .i64 c2)) (.p (.int .i64 ((i + 1 : Nat) : Int))) []) := by
      rintro y rfl
      intros
      rw [f119_J0_eq]
      by_cases n2 : (L x.en).getD i 0 = -1
      · have ec : c2 = c1 := by
          show (if enb x s (i : Nat) = true then wA c1 ((L x.en).getD i 0) else c1) = c1
          rw [n2]
          split <;> rfl
        rw [ec]
        simp (disch := omega) only [fa47_3, shift_ptr, shift_pptr, Nat.zero_add, Nat.add_zero, pureFn_fn, List.append_nil, List.singleton_append, List.cons_append, List.nil_append, load24, lb_5, gG, (PL.sl x.en).idx h2, load3, load1_getD h2, b_neq, eqT n2, f119_J1_eq, add1]
      · have s163 := fun σ => S163 (c := c1) (n := (L x.en).getD i 0) hc1 (by obtain ⟨u1, u2⟩ := hev; omega) σ
        cases ce : enb x s (i : Nat) with
        | true =>
          have ec : c2 = wA c1 ((L x.en).getD i 0) := by
            show (if enb x s (i : Nat) = true then wA c1 ((L x.en).getD i 0) else c1) = _
            rw [ce, if_pos rfl]
          rw [ec]
          simp (disch := omega) only [fa47_0, fa47_3, shift_ptr, shift_pptr, Nat.zero_add, Nat.add_zero, pureFn_fn, List.append_nil, List.singleton_append, List.cons_append, List.nil_append, load24, load45, lb_g, lb_5, gG, (PL.sl x.en).idx h2, load3, load1_getD h2, b_neq, eqF n2, s164, ce, s163, f119_J1_eq, add1]
        | false =>
          have ec : c2 = c1 := by
            show (if enb x s (i : Nat) = true then wA c1 ((L x.en).getD i 0) else c1) = _
            rw [ce, if_neg (by simp)]
          rw [ec]
          simp (disch := omega) only [fa47_0, fa47_3, shift_ptr, shift_pptr, Nat.zero_add, Nat.add_zero, pureFn_fn, List.append_nil, List.singleton_append, List.cons_append, List.nil_append, load24, load45, lb_g, lb_5, gG, (PL.sl x.en).idx h2, load3, load1_getD h2, b_neq, eqF n2, s164, ce, f119_J1_eq, add1]
    rw [f119_L0_eq guardT rfl]
    by_cases n1 : (L x.st).getD i 0 = -1
    · have ec : c = c1 := by
        show c = (if stA x s t (i : Nat) = true then wA c ((L x.st).getD i 0) else c)
        rw [n1]
        split <;> rfl
      have hh := half c ec
      simp (disch := omega) only [fa47_2, shift_ptr, shift_pptr, Nat.zero_add, Nat.add_zero, pureFn_fn, List.append_nil, List.singleton_append, List.cons_append, List.nil_append, load24, lb_4, len24, b_lss, ltT, gG, (PL.sl x.st).idx h, load3, load1_getD h, b_neq, eqT n1, hh]
    · have s163 := fun σ => S163 (c := c) (n := (L x.st).getD i 0) hc (by obtain ⟨u1, u2⟩ := hsv; omega) σ
      cases ca : stA x s t (i : Nat) with
      | true =>
        have ec : wA c ((L x.st).getD i 0) = c1 := by
          show _ = (if stA x s t (i : Nat) = true then wA c ((L x.st).getD i 0) else c)
          rw [ca, if_pos rfl]
        have hh := half _ ec
        simp (disch := omega) only [fa47_0, fa47_2, shift_ptr, shift_pptr, Nat.zero_add, Nat.add_zero, pureFn_fn, List.append_nil, List.singleton_append, List.cons_append, List.nil_append, load24, load45, lb_g, lb_4, len24, b_lss, ltT, gG, (PL.sl x.st).idx h, load3, load1_getD h, b_neq, eqF n1, bb, s162, ca, s163, hh]
      | false =>
        have ec : c = c1 := by
          show _ = (if stA x s t (i : Nat) = true then wA c ((L x.st).getD i 0) else c)
          rw [ca, if_neg (by simp)]
        have hh := half _ ec
        simp (disch := omega) only [fa47_0, fa47_2, shift_ptr, shift_pptr, Nat.zero_add, Nat.add_zero, pureFn_fn, List.append_nil, List.singleton_append, List.cons_append, List.nil_append, load24, load45, lb_g, lb_4, len24, b_lss, ltT, gG, (PL.sl x.st).idx h, load3, load1_getD h, b_neq, eqF n1, bb, s162, ca, hh]
theorem S119 {s : Int} (t : Int) (hs : 0 ≤ s ∧ s < x.g.n) (σ : Store) : pureV CC 119 [vLb x, .p (.int .i64 s), .p (.int .i64 t)] σ = some (.p (.int .i64 (ltr x s t))) := by
  have hla := hk.la
  obtain ⟨s0, s1⟩ := hs
  have ix := (PL.sl x.la).idx (i := s.toNat) (by omega)
  have ld := load1_getD (l := L x.la) (i := s.toNat) (by omega)
  rw [Int.toNat_of_nonneg s0] at ix
  have h := L119 hx hk (s := s) (t := t) (L x.st).length 0 ((L x.la).getD s.toNat 0) rfl (Nat.zero_le _) (hk.lv _ (by omega))
  rw [(ltr_eq hk t ⟨s0, s1⟩).1] at h
  simp only [N] at h
  refine pureV_free (by simp only [List.map_cons, List.map_nil, lb_view, int_view]) rfl (F119_call (r := (.p (.int .i64 (ltr x s t)), [])) ?_) rfl
  rw [F119_eq]
  simp only [box_lb, gG, fa47_1, shift_ptr, shift_pptr, Nat.zero_add, Nat.add_zero, pureFn_fn, List.append_nil, List.singleton_append, List.cons_append, List.nil_append, load24, lb_3, ix, load3, ld]
  exact h
end
section
variable {x : Lb} (hx : LSm x) (hk : LbOk x) {w : Wd} (hl : (L w.p).length + (L w.l).length ≤ 1000) (h0 : 0 < (L w.l).length) (hin : ∀ i, i < (L w.p ++ L w.l).length → 0 ≤ (L w.p ++ L w.l).getD i 0 ∧ (L w.p ++ L w.l).getD i 0 < x.g.n)
theorem st24_w0 {σ : Store} {lo r : Nat} {a b v : DV} (h : σ[r]? = some (.mix [a, b])) (hlo : lo ≤ r) (hv : v.one = true) : store PP lo 24 (.ptr r 0) v σ = some (σ.set r (.mix [v, b])) := by
  cases v <;> first | (exfalso; simp [DV.one] at hv; done) | simp [store, s24, DV.cells, storeN, h, hlo, DV.one, splice]
theorem st24_w1 {σ : Store} {lo r : Nat} {a b v : DV} (h : σ[r]? = some (.mix [a, b])) (hlo : lo ≤ r) (hv : v.one = true) : store PP lo 24 (.ptr r 1) v σ = some (σ.set r (.mix [a, v])) := by
  cases v <;> first | (exfalso; simp [DV.one] at hv; done) | simp [store, s24, DV.cells, storeN, h, hlo, DV.one, splice]
theorem Out.one {σ : Store} {lo sz n : Nat} {cs : List PV} {x : DV} (h : Out σ lo sz n cs x) : x.one = true := by
  rcases h.2 with ⟨_, rfl⟩ | ⟨_, _, _, rfl, _⟩ <;> rfl
theorem Out.setM {σ : Store} {lo sz n r : Nat} {cs : List PV} {x : DV} {c c' : List DV} (h : Out σ lo sz n cs x) (hr : σ[r]? = some (.mix c)) : Out (σ.set r (.mix c')) lo sz n cs x := by
  obtain ⟨h1, h2⟩ := h
  refine ⟨h1, ?_⟩
  rcases h2 with h2 | ⟨h0, r', v, h2, h3, h4⟩
  · exact .inl h2
  · refine .inr ⟨h0, r', v, h2, ?_, h4⟩
    rw [List.getElem?_set_ne]
    · exact h3
    · rintro rfl; rw [hr] at h3; cases h3
def Ap (x y : DV) : Prop := ∀ r v s n c r' v' s' n' c', x = .osl r v s n c → y = .osl r' v' s' n' c' → r ≠ r'
theorem Out.kp {σ σ' : Store} {lo sz n : Nat} {cs : List PV} {x y : DV} (h : Out σ lo sz n cs x) (ho : Others σ σ' y) (ha : Ap x y) : Out σ' lo sz n cs x := by
  obtain ⟨h1, h2⟩ := h
  refine ⟨h1, ?_⟩
  rcases h2 with h2 | ⟨h0, r', v, h2, h3, h4⟩
  · exact .inl h2
  · exact .inr ⟨h0, r', v, h2, ho r' _ h3 (fun r ver s m c e => ha _ _ _ _ _ _ _ _ _ _ h2 e), h4⟩
theorem wi_app {l : List Int} {v : Int} {lo : Nat} {σ : Store} {x y : DV} {l' : List Int} (ho : Out σ lo 1 l.length (eInts l) x) (hy : Out σ lo 1 l'.length (eInts l') y) (ha : Ap y x) (hn : l.length ≤ 100000) (hlo : lo ≤ σ.length) :
    ∃ x' σ', append PP lo false 24 24 x (.p (.sl true 1 [.int .i64 v])) σ = some (x', σ') ∧ Out σ' lo 1 (l ++ [v]).length (eInts (l ++ [v])) x' ∧ Out σ' lo 1 l'.length (eInts l') y ∧ Ap y x' ∧ Others σ σ' x ∧ σ.length ≤ σ'.length := by
  obtain ⟨x', σ', h1, h2, h3, h4⟩ := Out.pushI (v := v) ho hn hlo
  refine ⟨x', σ', h1, h2, hy.kp h3 ha, ?_, h3, h4⟩
  intro r ver s n c r' ver' s' n' c' ey ex
  rcases ho.2 with ⟨g1, rfl⟩ | ⟨g0, r0, v0, rfl, g3, g4⟩
  · -- the new list has a row of its own
    have hz : zeroOf PP 3 = some [.p (pI 0)] := zero3
    have hx : append PP lo false 24 24 (.p .nilsl) (.p (.sl true 1 [.int .i64 v])) σ = some (.osl σ.length 0 1 1 [.int .i64 v], σ ++ [.tok 0]) := by
      simp [append, src24, u24, s3, bytes3, hz, source, appNil, pures, DV.pure?]
    rw [hx] at h1
    injection h1 with h1
    injection h1 with h1 _
    rw [← h1] at ex
    injection ex with ex
    rw [← ex]
    rcases hy.2 with ⟨_, e⟩ | ⟨_, r1, v1, e, k1, _⟩
    · rw [e] at ey; cases ey
    · rw [e] at ey
      injection ey with ey
      rw [← ey]
      have := get_lt k1
      omega
  · have hx : ∃ n2 c2 σ2, append PP lo false 24 24 (.osl r0 v0 1 l.length (eInts l)) (.p (.sl true 1 [.int .i64 v])) σ = some (.osl r0 (v0 + 1) 1 n2 c2, σ2) := by
      have e1 : (l.length + 1) * 8 ≤ 140737488355328 := by omega
      have e2 : l.length + 1 ≤ 140737488355328 := by omega
      refine ⟨l.length + 1, eInts l ++ [pI v], σ.set r0 (.tok (v0 + 1)), ?_⟩
      simp only [append, src24, Bool.true_eq_false, if_false, u24, s3, bytes3, zero3, List.length_singleton, ne_eq, not_true_eq_false, Nat.one_ne_zero, or_self, source, Nat.mul_one, if_true, appTok]
      rw [if_pos ⟨e1, e2, by decide, trivial, by rw [ints_length], g4⟩, g3]
      simp only [if_true, List.map_cons, List.map_nil, pures, DV.pure?, Option.map_some]
    obtain ⟨n2, c2, σ2, hx⟩ := hx
    rw [hx] at h1
    injection h1 with h1
    injection h1 with h1 _
    rw [← h1] at ex
    injection ex with ex
    rw [← ex]
    exact ha _ _ _ _ _ _ _ _ _ _ ey rfl
theorem Ap.symm {x y : DV} (h : Ap x y) : Ap y x := fun r v s n c r' v' s' n' c' e1 e2 => (h _ _ _ _ _ _ _ _ _ _ e2 e1).symm
include hx hk hl h0 hin
theorem L58 : ∀ (k i : Nat) (y1 y2 : DV) (σ : Store), (L w.p ++ L w.l).length - i = k → i ≤ (L w.p ++ L w.l).length → σ[0]? = some (.mix [.p .nilsl, .p .nilsl]) → σ[1]? = some (.mix [y1, y2]) →
    Out σ 0 1 (((wl x (L w.p ++ L w.l) (L w.p).length).take i).take (L w.p).length).length (eInts (((wl x (L w.p ++ L w.l) (L w.p).length).take i).take (L w.p).length)) y1 →
    Out σ 0 1 (((wl x (L w.p ++ L w.l) (L w.p).length).take i).drop (L w.p).length).length (eInts (((wl x (L w.p ++ L w.l) (L w.p).length).take i).drop (L w.p).length)) y2 → Ap y1 y2 →
    ∃ (z1 z2 : DV) (σ' : Store), f58_L0 guardT 0 (.pptr (eLb x) 0) (.pptr (eWd w) 0) (.ptr 0 0) (.ptr 1 0) (N i) σ = some (.agg [z1, z2], σ') ∧ Out σ' 0 1 ((wl x (L w.p ++ L w.l) (L w.p).length).take (L w.p).length).length (eInts ((wl x (L w.p ++ L w.l) (L w.p).length).take (L w.p).length)) z1 ∧
      Out σ' 0 1 ((wl x (L w.p ++ L w.l) (L w.p).length).drop (L w.p).length).length (eInts ((wl x (L w.p ++ L w.l) (L w.p).length).drop (L w.p).length)) z2
  | 0, i, y1, y2, σ, hd, hi, g0, g1, o1, o2, ha => by
    have hwl := wl_len x (L w.p ++ L w.l) (L w.p).length
    have hlen : (L w.p ++ L w.l).length = (L w.p).length + (L w.l).length := List.length_append
    rw [List.take_of_length_le (show (wl x (L w.p ++ L w.l) (L w.p).length).length ≤ i by omega)] at o1 o2
    have ld : (loadN σ 2 (.ptr 1 0)).map DV.agg = some (.agg [y1, y2]) := by
      rw [loadN_ptr (off := 0) (n := 2) (vs := [y1, y2]) g1 rfl (by simp)]; rfl
    have st := st26 (lo := 0) (r := 0) (σ := σ) (c := [y1, y2]) g0 (Nat.zero_le _) rfl rfl (by simp [o1.one, o2.one])
    have ce : cellV PP 26 (.ptr 0 0) (σ.set 0 (.mix [y1, y2])) = some (.agg [y1, y2]) := cell26 (by rw [List.getElem?_set_self (get_lt g0)]) rfl
    refine ⟨y1, y2, σ.set 0 (.mix [y1, y2]), ?_, o1.setM g0, o2.setM g0⟩
    rw [f58_L0_eq guardT rfl]
    simp (disch := omega) only [N, fa52_0, fa52_1, shift_ptr, shift_pptr, Nat.zero_add, Nat.add_zero, pureFn_fn, List.append_nil, List.singleton_append, List.cons_append, List.nil_append, load24, wd_0, wd_1, len24, addN, b_lss, ltF, gG, load26, ld, st, ce]
  | k + 1, i, y1, y2, σ, hd, hi, g0, g1, o1, o2, ha => by
    have hwl := wl_len x (L w.p ++ L w.l) (L w.p).length
    have hlen : (L w.p ++ L w.l).length = (L w.p).length + (L w.l).length := List.length_append
    have h : i < (L w.p ++ L w.l).length := by omega
    have hnx : nx ((L w.p).length + (L w.l).length) (L w.p).length i < (L w.p).length + (L w.l).length := nx_lt (by omega) (by omega)
    have s94 := fun σ => S94 (w := w) hl (i := i) (by omega) σ
    have s94' := fun σ => S94 (w := w) hl hnx σ
    have s97 := fun σ => S97 (w := w) hl (i := i) (by omega) σ
    have s119 := fun t σ => S119 hx hk t (hin i h) σ
    have hg := wl_get x (L w.p ++ L w.l) (L w.p).length h
    rw [hlen] at hg
    have l10 : load1 (.ptr 1 0) σ = some y1 := load1_ptr g1 rfl
    have l11 : load1 (.ptr 1 1) σ = some y2 := load1_ptr g1 rfl
    have ht := take_getD (l := wl x (L w.p ++ L w.l) (L w.p).length) (i := i) (by omega)
    have hll : ((wl x (L w.p ++ L w.l) (L w.p).length).take i).length = i := by simp; omega
    generalize hW : wl x (L w.p ++ L w.l) (L w.p).length = W at *
    by_cases c : i < (L w.p).length
    · have e1 : (W.take (i + 1)).take (L w.p).length = (W.take i).take (L w.p).length ++ [W.getD i 0] := by
        have q1 : (W.take (i + 1)).take (L w.p).length = W.take (i + 1) := List.take_of_length_le (by rw [List.length_take]; omega)
        have q2 : (W.take i).take (L w.p).length = W.take i := List.take_of_length_le (by rw [List.length_take]; omega)
        rw [q1, q2, ht]
      have e2 : (W.take (i + 1)).drop (L w.p).length = (W.take i).drop (L w.p).length := by
        have q1 : (W.take (i + 1)).drop (L w.p).length = [] := List.drop_eq_nil_of_le (by rw [List.length_take]; omega)
        have q2 : (W.take i).drop (L w.p).length = [] := List.drop_eq_nil_of_le (by rw [List.length_take]; omega)
        rw [q1, q2]
      obtain ⟨y1', σ2, a1, a2, a3, a4, a5, a6⟩ := wi_app (v := W.getD i 0) o1 o2 ha.symm (by simp; omega) (Nat.zero_le _)
      have k0 := a5.mix o1 g0 (fun v hv => by cases hv)
      have k1 := a5.mix o1 g1 (fun v hv => by cases hv)
      rw [← e1] at a2
      rw [← e2] at a3
      have st := st24_w0 (lo := 0) k1 (Nat.zero_le _) a2.one
      have n0 : (σ2.set 1 (.mix [y1', y2]))[0]? = some (.mix [.p .nilsl, .p .nilsl]) := by rw [List.getElem?_set_ne (by decide)]; exact k0
      have n1 : (σ2.set 1 (.mix [y1', y2]))[1]? = some (.mix [y1', y2]) := by rw [List.getElem?_set_self (get_lt k1)]
      obtain ⟨z1, z2, σ', r1, r2, r3⟩ := L58 k (i + 1) y1' y2 _ (by omega) (by omega) n0 n1 (by rw [hW]; exact a2.setM k1) (by rw [hW]; exact a3.setM k1) a4.symm
      rw [hW] at r2 r3
      refine ⟨z1, z2, σ', ?_, r2, r3⟩
      simp only [N] at r1
      rw [f58_L0_eq guardT rfl]
      simp (disch := omega) only [N, fa52_0, fa52_1, shift_ptr, shift_pptr, Nat.zero_add, Nat.add_zero, pureFn_fn, List.append_nil, List.singleton_append, List.cons_append, List.nil_append, load24, wd_0, wd_1, len24, addN, b_lss, ltT, gG, load47, lb_all, load52, ws_all, s94, s97, s94', s119, ← hg, fa26_0, l10, bs24_1, a1, st, f58_J0_eq, add1]
      exact r1
    · have e1 : (W.take (i + 1)).take (L w.p).length = (W.take i).take (L w.p).length := by
        rw [List.take_take, List.take_take, Nat.min_eq_left (by omega), Nat.min_eq_left (by omega)]
      have e2 : (W.take (i + 1)).drop (L w.p).length = (W.take i).drop (L w.p).length ++ [W.getD i 0] := by
        rw [ht, List.drop_append_of_le_length (by rw [hll]; omega)]
      obtain ⟨y2', σ2, a1, a2, a3, a4, a5, a6⟩ := wi_app (v := W.getD i 0) o2 o1 ha (by simp; omega) (Nat.zero_le _)
      have k0 := a5.mix o2 g0 (fun v hv => by cases hv)
      have k1 := a5.mix o2 g1 (fun v hv => by cases hv)
      rw [← e2] at a2
      rw [← e1] at a3
      have st := st24_w1 (lo := 0) k1 (Nat.zero_le _) a2.one
      have n0 : (σ2.set 1 (.mix [y1, y2']))[0]? = some (.mix [.p .nilsl, .p .nilsl]) := by rw [List.getElem?_set_ne (by decide)]; exact k0
      have n1 : (σ2.set 1 (.mix [y1, y2']))[1]? = some (.mix [y1, y2']) := by rw [List.getElem?_set_self (get_lt k1)]
      obtain ⟨z1, z2, σ', r1, r2, r3⟩ := L58 k (i + 1) y1 y2' _ (by omega) (by omega) n0 n1 (by rw [hW]; exact a3.setM k1) (by rw [hW]; exact a2.setM k1) a4
      rw [hW] at r2 r3
      refine ⟨z1, z2, σ', ?_, r2, r3⟩
      simp only [N] at r1
      rw [f58_L0_eq guardT rfl]
      simp (disch := omega) only [N, fa52_0, fa52_1, shift_ptr, shift_pptr, Nat.zero_add, Nat.add_zero, pureFn_fn, List.append_nil, List.singleton_append, List.cons_append, List.nil_append, load24, wd_0, wd_1, len24, addN, b_lss, ltT, ltF, gG, load47, lb_all, load52, ws_all, s94, s97, s94', s119, ← hg, fa26_1, l11, bs24_1, a1, st, f58_J0_eq, add1]
      exact r1
theorem S58 (σ : Store) : ∃ u : Wd, pureV CC 58 [vLb x, vWd w] σ = some (vWd u) ∧ L u.p = (wl x (L w.p ++ L w.l) (L w.p).length).take (L w.p).length ∧ L u.l = (wl x (L w.p ++ L w.l) (L w.p).length).drop (L w.p).length := by
  obtain ⟨z1, z2, σ', h1, h2, h3⟩ := L58 hx hk hl h0 hin _ 0 (.p .nilsl) (.p .nilsl) [.mix [.p .nilsl, .p .nilsl], .mix [.p .nilsl, .p .nilsl]] rfl (Nat.zero_le _) rfl rfl (by rw [List.take_zero, List.take_nil]; exact Out.zero) (by rw [List.take_zero, List.drop_nil]; exact Out.zero) (fun r v s n c r' v' s' n' c' e1 e2 => by cases e1)
  refine ⟨⟨oI ((wl x (L w.p ++ L w.l) (L w.p).length).take (L w.p).length), oI ((wl x (L w.p ++ L w.l) (L w.p).length).drop (L w.p).length)⟩, ?_, L_oI _, L_oI _⟩
  refine pureV_free (by simp only [List.map_cons, List.map_nil, lb_view, wd_view]) rfl (F58_call (r := (.agg [z1, z2], σ')) ?_) ?_
  · simp only [N] at h1
    rw [F58_eq]
    simp only [box_lb, box_wd, gG, zero26, List.length_nil, List.nil_append, List.singleton_append, List.length_singleton]
    exact h1
  · have t1 := Out.twI h2 0
    have t2 := Out.twI h3 0
    have u1 := Out.tw h2 0
    have u2 := Out.tw h3 0
    have e1 : thaw 0 σ' z1 = some (.p (eSl (oI ((wl x (L w.p ++ L w.l) (L w.p).length).take (L w.p).length)))) := by
      rw [u1]; unfold oI; split
      · rfl
      · rw [loosens_ints]; rfl
    have e2 : thaw 0 σ' z2 = some (.p (eSl (oI ((wl x (L w.p ++ L w.l) (L w.p).length).drop (L w.p).length)))) := by
      rw [u2]; unfold oI; split
      · rfl
      · rw [loosens_ints]; rfl
    simp only [thawAll, thawPart, mapO, e1, e2]
    rfl
end
end Go.D
end
/- Chapter 13: the reference's Guarded. -/
section
set_option linter.unusedVariables false
set_option linter.unusedSimpArgs false
set_option maxRecDepth 8000
namespace Go.D
open Las
section
variable {f : Fm} {o : OI} (hf : FSm f) (hk : Ok (L f)) (ho : (L o).length ≤ 1000)
include hf hk ho
end
end Go.D
end
/- Chapter 13: IsGuarded of the program: whose operand each node is. -/
section
set_option linter.unusedVariables false
set_option linter.unusedSimpArgs false
set_option maxRecDepth 8000
namespace Go.D
open Las
namespace Las
def upd (U : List Int) (i : Nat) : List Int → List Int
  | [] => U
  | v :: us => upd (U.set v.toNat (i : Nat)) i us
def UpTo (F : List Nd) (i : Nat) (U : List Int) : Prop := U.length = F.length ∧ ∀ c, c < F.length → (∀ r, r < i → chd F r c → U.getD c 0 = r) ∧ ((∀ r, r < i → ¬ chd F r c) → U.getD c 0 = -1)
end Las
section
variable {f : Fm} (hf : FSm f) (hk : Ok (L f)) {u : Nat} (hu : 0 < u)
include hf hk hu
end
end Go.D
end
/- Chapter 13: IsGuarded of the program. -/
section
set_option linter.unusedVariables false
set_option linter.unusedSimpArgs false
set_option maxRecDepth 8000
namespace Go.D
open Las
namespace Las
theorem UpTo.cases {F : List Nd} {U : List Int} (hu : UpTo F F.length U) {c : Nat} (hc : c < F.length) : (∃ p, p < F.length ∧ chd F p c ∧ U.getD c 0 = p) ∨ ((∀ p, p < F.length → ¬ chd F p c) ∧ U.getD c 0 = -1) := by
  obtain ⟨h1, h2⟩ := hu.2 c hc
  by_cases h : ∃ p, p < F.length ∧ chd F p c
  · obtain ⟨p, p1, p2⟩ := h
    exact .inl ⟨p, p1, p2, h1 p p1 p2⟩
  · have h' : ∀ p, p < F.length → ¬ chd F p c := fun p p1 p2 => h ⟨p, p1, p2⟩
    exact .inr ⟨h', h2 h'⟩
end Las
end Go.D
end
/- Chapter 13: IsGuarded of the program; LassoGuards' law. -/
section
set_option linter.unusedVariables false
set_option linter.unusedSimpArgs false
set_option maxRecDepth 8000
namespace Go.D
open Las
section
variable {f : Fm} (hk : Ok (L f)) {u : Nat} {U : List Int} (hU : UpTo (L f) (L f).length U)
include hk hU
end
end Go.D
end
/- Chapter 13: LassoGuards' law. -/
section
set_option linter.unusedVariables false
set_option linter.unusedSimpArgs false
set_option maxRecDepth 8000
namespace Go.D
open Las
theorem b_eqB' (a b : Bool) : binOp PP .eql 4 (.p (.bool a)) (.p (.bool b)) = some (.p (.bool (a == b))) := Eq.trans (by kernel_rfl) rfl
theorem ex20 (a b : DV) : extractV (.tuple [a, b]) 0 = some a := rfl
theorem ex21 (a b : DV) : extractV (.tuple [a, b]) 1 = some b := rfl
end Go.D
end
/- Chapter 13: LassoBehaviours' law. -/
section
set_option linter.unusedVariables false
set_option linter.unusedSimpArgs false
set_option maxRecDepth 8000
namespace Go.D
open Las
theorem lsOk {x : Lb} {w : Wd} (h : (chkLs x w).2 = 0) : LbOk x ∧ 0 < (L w.l).length ∧ (L w.p).length + (L w.l).length ≤ 60 ∧ (∀ i, i < (L w.p ++ L w.l).length → 0 ≤ (L w.p ++ L w.l).getD i 0 ∧ (L w.p ++ L w.l).getD i 0 < x.g.n) ∧
    ((L w.p ++ L w.l).getD 0 0 ∈ L x.g.init) ∧ ∀ i, i < (L w.p ++ L w.l).length → prm x ((L w.p ++ L w.l).getD i 0) ((L w.p ++ L w.l).getD (nx (L w.p ++ L w.l).length (L w.p).length i) 0) = true := by
  unfold chkLs at h
  by_cases h1 : (chkLb x).2 = 0
  · rw [if_pos h1] at h
    by_cases h2 : L w.l = []
    · rw [if_pos h2] at h; exact absurd h (by decide)
    · rw [if_neg h2] at h
      have hp := List.length_pos_iff.2 h2
      by_cases h3 : (L w.p).length + (L w.l).length > 60
      · rw [if_pos h3] at h; exact absurd h (by decide)
      · rw [if_neg h3] at h
        obtain ⟨h4, h5⟩ := scnP_zero (by decide) _ _ h
        have h6 : decide ((L w.p ++ L w.l).getD 0 0 ∈ L x.g.init) = true := by
          cases hd : decide ((L w.p ++ L w.l).getD 0 0 ∈ L x.g.init) with
          | true => rfl
          | false => rw [hd, if_pos rfl] at h4; exact absurd h4 (by decide)
        rw [h6, if_neg (by simp)] at h4
        obtain ⟨_, h7⟩ := scnP_zero (by decide) _ _ h4
        refine ⟨lbOk h1, hp, by omega, fun i hi => ?_, decide_eq_true_iff.1 h6, fun i hi => ?_⟩
        · have := h5 i (Nat.zero_le _) (by omega)
          unfold badZ at this
          rw [Bool.not_eq_false'] at this
          have := (inR_iff _ _ _).1 this
          omega
        · have := h7 i (Nat.zero_le _) (by omega)
          unfold badT at this
          rwa [Bool.not_eq_false'] at this
  · rw [if_neg h1] at h
    exact absurd h h1
section
variable {x : Lb} (hx : LSm x) {w : Wd} (hl : (L w.p).length + (L w.l).length ≤ 1000)
include hx hl
theorem S116 (σ : Store) : pureV CC 116 [vLb x, vWd w] σ = some (.p (.int .i64 (chkLs x w).2)) := by
  refine pureV_free (by simp only [List.map_cons, List.map_nil, lb_view, wd_view]) rfl (F116_call (r := (.p (.int .i64 (chkLs x w).2), [])) ?_) rfl
  have h := fun σ => S41 hx hl σ
  rw [F116_eq]
  simp only [box_lb, box_wd, gG, load47, lb_all, load52, ws_all, shift_ptr, shift_pptr, Nat.zero_add, Nat.add_zero, pureFn_fn, List.append_nil, List.singleton_append, List.cons_append, List.nil_append, h, px0, px1]
theorem S57 (σ : Store) : pureV CC 57 [vLb x, vWd w] σ = some (.p (.int .i64 (chkLs x w).2)) := by
  refine pureV_free (by simp only [List.map_cons, List.map_nil, lb_view, wd_view]) rfl (F57_call (r := (.p (.int .i64 (chkLs x w).2), [])) ?_) rfl
  have h := fun σ => S43 hx hl σ
  rw [F57_eq]
  simp only [box_lb, box_wd, gG, load47, lb_all, load52, ws_all, shift_ptr, shift_pptr, Nat.zero_add, Nat.add_zero, pureFn_fn, List.append_nil, List.singleton_append, List.cons_append, List.nil_append, h, px0, px1]
theorem S56 (σ : Store) : pureV CC 56 [vLb x, vWd w] σ = some (.tuple [.p (.bool (decide ((chkLs x w).2 = 0) && isF x (L w.l))), .p (.int .i64 (chkLs x w).2)]) := by
  refine pureV_free (by simp only [List.map_cons, List.map_nil, lb_view, wd_view]) rfl (F56_call (r := (.tuple [.p (.bool (decide ((chkLs x w).2 = 0) && isF x (L w.l))), .p (.int .i64 (chkLs x w).2)], [])) ?_) rfl
  have h := fun σ => S116 hx hl σ
  have h2 := fun σ => S118 hx (Q := L w.l) (by omega) (RL.sl σ w.p) (RL.sl σ w.l)
  have ev : vWd w = .agg [.p (eSl w.p), .p (eSl w.l)] := rfl
  simp only [← ev] at h2
  rw [F56_eq]
  by_cases e : (chkLs x w).2 = 0
  · simp only [box_lb, box_wd, gG, load47, lb_all, load52, ws_all, shift_ptr, shift_pptr, Nat.zero_add, Nat.add_zero, pureFn_fn, List.append_nil, List.singleton_append, List.cons_append, List.nil_append, h, b_neq, eqT e, h2, decide_eq_true e, Bool.true_and]
    rw [e]
  · simp only [box_lb, box_wd, gG, load47, lb_all, load52, ws_all, shift_ptr, shift_pptr, Nat.zero_add, Nat.add_zero, pureFn_fn, List.append_nil, List.singleton_append, List.cons_append, List.nil_append, h, b_neq, eqF e, decide_eq_false e, Bool.false_and]
theorem S55 (σ : Store) : ∃ u : Wd, pureV CC 55 [vLb x, vWd w] σ = some (.tuple [vWd u, .p (.int .i64 (chkLs x w).2)]) ∧ ((chkLs x w).2 ≠ 0 → u = W0) ∧
    ((chkLs x w).2 = 0 → L u.p = (wl x (L w.p ++ L w.l) (L w.p).length).take (L w.p).length ∧ L u.l = (wl x (L w.p ++ L w.l) (L w.p).length).drop (L w.p).length) := by
  have h := fun σ => S116 hx hl σ
  have g0 : ([Row.mix [.p .nilsl, .p .nilsl]] : Store)[0]? = some (.mix [.p .nilsl, .p .nilsl]) := rfl
  have ev : vWd w = .agg [.p (eSl w.p), .p (eSl w.l)] := rfl
  by_cases e : (chkLs x w).2 = 0
  · obtain ⟨hk, h0, _, hin, _, _⟩ := lsOk e
    obtain ⟨u, u1, u2, u3⟩ := S117 hx hk (P := L w.p) (Q := L w.l) hl h0 hin (σ := [.mix [.p .nilsl, .p .nilsl]]) (RL.sl _ w.p) (RL.sl _ w.l)
    rw [← ev] at u1
    have sw := st_wd (lo := 0) u g0 (Nat.zero_le _) rfl
    have cw := ce_wd (σ := [.mix [.p .nilsl, .p .nilsl]]) (r := 0) u (by simp)
    refine ⟨u, ?_, fun hne => absurd e hne, fun _ => ⟨u2, u3⟩⟩
    rw [e]
    refine pureV_free (by simp only [List.map_cons, List.map_nil, lb_view, wd_view]) rfl (F55_call (r := (.tuple [vWd u, .p (.int .i64 0)], ([Row.mix [.p .nilsl, .p .nilsl]] : Store).set 0 (.mix [.p (eSl u.p), .p (eSl u.l)]))) ?_) (thaw_we u 0 0 _)
    rw [F55_eq]
    simp only [box_lb, box_wd, gG, zero26, List.length_nil, List.nil_append, load47, lb_all, load52, ws_all, shift_ptr, shift_pptr, Nat.zero_add, Nat.add_zero, pureFn_fn, List.append_nil, List.singleton_append, List.cons_append, List.nil_append, h, b_neq, eqT e, u1, sw, cw]
  · have sw := st_wd (lo := 0) W0 g0 (Nat.zero_le _) rfl
    have cw := ce_wd (σ := [.mix [.p .nilsl, .p .nilsl]]) (r := 0) W0 (by simp)
    refine ⟨W0, ?_, fun _ => rfl, fun h2 => absurd h2 e⟩
    refine pureV_free (by simp only [List.map_cons, List.map_nil, lb_view, wd_view]) rfl (F55_call (r := (.tuple [vWd W0, .p (.int .i64 (chkLs x w).2)], ([Row.mix [.p .nilsl, .p .nilsl]] : Store).set 0 (.mix [.p (eSl W0.p), .p (eSl W0.l)]))) ?_) (thaw_we W0 _ 0 _)
    rw [F55_eq]
    simp only [box_lb, box_wd, gG, zero26, List.length_nil, List.nil_append, load47, lb_all, load52, ws_all, shift_ptr, shift_pptr, Nat.zero_add, Nat.add_zero, pureFn_fn, List.append_nil, List.singleton_append, List.cons_append, List.nil_append, h, b_neq, eqF e, bld26_0, sw, cw]
end
theorem lt2_own (x : Lb) (s : Int) : ∀ (k i : Nat) (c : Int), lt2 (ownX x) s i k c = lt2 x s i k c
  | 0, _, _ => rfl
  | k + 1, i, c => by
    unfold lt2
    rw [lt2_own x s k]
    rfl
theorem ltr_own (x : Lb) (s t : Int) : ltr (ownX x) s t = ltr x s t := by
  unfold ltr
  rw [lt2_own]
  rfl
theorem wl_own (x : Lb) (A : List Int) (b : Nat) : wl (ownX x) A b = wl x A b := by
  unfold wl
  exact List.map_congr_left fun i _ => ltr_own x _ _
theorem chkLs_own2 (x : Lb) (w : Wd) : chkLs (ownX x) (ownW w) = chkLs x w := rfl
theorem call10 (x : Lb) (w : Wd) : ∃ σ', CC 0 10 [vLb x, vWd w] [] = some (.p (.bool true), σ') := by
  have haw := awake_true
  have h23 := fun σ => S23 x σ
  cases hb : smB x with
  | false =>
    refine ⟨[], F10_call ?_⟩
    rw [F10_eq]
    simp only [box_lb, box_wd, gG, shift_ptr, shift_pptr, Nat.zero_add, Nat.add_zero, pureFn_fn, List.append_nil, List.singleton_append, List.cons_append, List.nil_append, haw _, load47, lb_all, h23, hb]
  | true =>
    have hx := smB_ok hb
    by_cases c1 : (L w.p).length ≤ 70
    · by_cases c2 : (L w.l).length ≤ 70
      · have hl : (L w.p).length + (L w.l).length ≤ 1000 := by omega
        have h28 := fun σ => S28 hx σ
        have h42 := fun σ => S42 (w := w) (by omega) (by omega) σ
        obtain ⟨u, u1, u2, u3⟩ := S55 hx.own (w := ownW w) hl []
        rw [chkLs_own2] at u1 u2 u3
        rw [wl_own] at u3
        have g0 : ([Row.mix [.p .nilsl, .p .nilsl]] : Store)[0]? = some (.mix [.p .nilsl, .p .nilsl]) := rfl
        have sw := st_wd (lo := 0) u g0 (Nat.zero_le _) rfl
        have es : ([Row.mix [.p .nilsl, .p .nilsl]] : Store).set 0 (.mix [.p (eSl u.p), .p (eSl u.l)]) = [.mix [.p (eSl u.p), .p (eSl u.l)]] := rfl
        rw [es] at sw
        have ld : (loadN ([.mix [.p (eSl u.p), .p (eSl u.l)]] : Store) 2 (.ptr 0 0)).map DV.agg = some (vWd u) := rfl
        have h56 : ∀ σ, pureV CC 56 [vLb (ownX x), vWd (ownW w)] σ = some (.tuple [.p (.bool (decide ((chkLs x w).2 = 0) && isF x (L w.l))), .p (.int .i64 (chkLs x w).2)]) := fun σ => S56 hx.own (w := ownW w) hl σ
        have h57 := fun σ => S57 hx hl σ
        refine ⟨[.mix [.p (eSl u.p), .p (eSl u.l)]], F10_call ?_⟩
        rw [F10_eq]
        by_cases e : (chkLs x w).2 = 0
        · obtain ⟨hk, h0, _, hin, _, _⟩ := lsOk e
          obtain ⟨v2, v3⟩ := u3 e
          obtain ⟨v, w1, w2, w3⟩ := S58 hx hk hl h0 hin [.mix [.p (eSl u.p), .p (eSl u.l)]]
          have hwl := wl_len x (L w.p ++ L w.l) (L w.p).length
          have hal : (L w.p ++ L w.l).length = (L w.p).length + (L w.l).length := List.length_append
          have e1 : L u.p = L v.p := by rw [w2, v2]; rfl
          have e2 : L u.l = L v.l := by rw [w3, v3]; rfl
          have s33 := fun σ => S33 (u := u) (w := v) (by rw [e1, w2, List.length_take]; omega) (by rw [e2, w3, List.length_drop]; omega) σ
          rw [e1, e2] at s33
          simp only [eq_self, decide_true, Bool.and_self] at s33
          have h59 := fun σ => S59 hx (w := w) (by omega) σ
          have eb : (isF x (L w.l) == isF x (L w.l)) = true := by cases isF x (L w.l) <;> rfl
          simp (maxSteps := 1000000) (disch := omega) only [box_lb, box_wd, gG, shift_ptr, shift_pptr, Nat.zero_add, Nat.add_zero, pureFn_fn, List.append_nil, List.singleton_append, List.cons_append, List.nil_append, haw _, load47, lb_all, h23, hb, fa52_0, fa52_1, load24, wd_0, wd_1, len24, b_gtr, gtF, h28, load52, ws_all, h42, u1, ex20, ex21, zero26, List.length_nil, sw, h56, h57, b_neq, b_eql, eqT e, load26, ld, w1, s33, Bool.and_self, decide_eq_true e, Bool.true_and, h59, b_eqB', eb]
        · have eu := u2 e
          subst eu
          have s33 := fun σ => S33 (u := W0) (w := W0) (by simp [W0]) (by simp [W0]) σ
          simp only [eq_self, decide_true, Bool.and_self] at s33
          simp (maxSteps := 1000000) (disch := omega) only [box_lb, box_wd, gG, shift_ptr, shift_pptr, Nat.zero_add, Nat.add_zero, pureFn_fn, List.append_nil, List.singleton_append, List.cons_append, List.nil_append, haw _, load47, lb_all, h23, hb, fa52_0, fa52_1, load24, wd_0, wd_1, len24, b_gtr, gtF, h28, load52, ws_all, h42, u1, ex20, ex21, zero26, List.length_nil, sw, h56, h57, b_neq, b_eql, eqF e, eqT (rfl : (chkLs x w).2 = (chkLs x w).2), load26, ld, bld26_0, s33, Bool.and_self, decide_eq_false e, Bool.false_and]
      · refine ⟨[], F10_call ?_⟩
        rw [F10_eq]
        simp (maxSteps := 1000000) (disch := omega) only [box_lb, box_wd, gG, shift_ptr, shift_pptr, Nat.zero_add, Nat.add_zero, pureFn_fn, List.append_nil, List.singleton_append, List.cons_append, List.nil_append, haw _, load47, lb_all, h23, hb, fa52_0, fa52_1, load24, wd_0, wd_1, len24, b_gtr, gtF, gtT]
    · refine ⟨[], F10_call ?_⟩
      rw [F10_eq]
      simp (maxSteps := 1000000) (disch := omega) only [box_lb, box_wd, gG, shift_ptr, shift_pptr, Nat.zero_add, Nat.add_zero, pureFn_fn, List.append_nil, List.singleton_append, List.cons_append, List.nil_append, haw _, load47, lb_all, h23, hb, fa52_0, fa52_1, load24, wd_0, wd_1, len24, b_gtr, gtT]
end Go.D
end
/- LassoBehaviours: for every labelled graph and every behaviour the law answers true and leaves its arguments as they were: the given tied card, without further conditions. -/
section
set_option linter.unusedVariables false
set_option linter.unusedSimpArgs false
set_option maxRecDepth 100000
namespace Go.D
open Go.ChangeShapes Go.WideShapes Go.ChangeAt Go.RowKit

theorem lassoBehaviours_calls {H : Type} {enc : TypeId × Value → H} {W : World} {base : Nat} {args : Array Value} {ds : List (DataW H)} {ps : List MemPlace}
    (hval : ∀ (j : Nat) t v, ([47, 52] : List TypeId).toArray[j]? = some t → args[j]? = some v → Value.okWide PP W .any base t v)
    (hA : DataW.TrodAll enc PP W 0 (fun _ => true) true [47, 52] args.toList ds ps) :
    Calls PP 10 args W fun e W' => e = .returned (.bool true) ∧ Below W.heap.size W W' := by
  obtain ⟨v0, v1, d0, d1, p0, p1, rfl, rfl, rfl, h0, h1⟩ := trodAll_two hA
  obtain ⟨o0, ho0⟩ := read_lb (hval 0 47 v0 rfl rfl) h0
  obtain ⟨o1, ho1⟩ := read_ls (hval 1 52 v1 rfl rfl) h1
  obtain ⟨σ', hc⟩ := call10 o0 o1
  refine calls_of hc ⟨rfl, fun j h1 h2 => ?_⟩
  match j, h1 with
  | 0, _ => exact ho0
  | 1, _ => exact ho1

end Go.D
namespace Go.Proofs.YtpacancmcjbckaaGreatDoor
open Go.D Go.ChangeShapes Go.WideShapes Go.ChangeAt Go.RowKit

set_option maxRecDepth 100000 in
theorem lassoBehaviours_lifted (os : Os) (started : os.Started) (H : Type) (enc : TypeId × Value → H) :
    ReturnsInHanded {} Tryz.checked os 10 .any (fun w args => (Rows.lassoBehavioursSpec.pre enc Tryz.prog Tryz.f10 [] false w args ∧ laidMetH Tryz.prog Rows.lassoBehavioursRow.laid w) ∧ sizedMet enc Tryz.prog Tryz.f10 (OpenSpec.ofChange Rows.lassoBehavioursSpec) false w args)
      (Rows.lassoBehavioursSpec.post enc Tryz.prog Tryz.f10 false true false false) := by
  refine returnsInHanded_of_change_and (C := Tryz.checked) (X := fun w _ => laidMetH Tryz.prog Rows.lassoBehavioursRow.laid w) (fun _ _ _ hh h => h.of_heap hh) own_ok started (by kernel_rfl) Tryz.func10
    (ChangeSpec.witness_at (enc := enc) (C := Tryz.checked) (os := os) (X := fun w _ => laidMetH Tryz.prog Rows.lassoBehavioursRow.laid w) false (laidW os) #[.agg #[.int .i64 0, .slice none 0 0, .slice none 0 0, .slice none 0 0, .slice none 0 0, .slice none 0 0, .slice none 0 0, .slice none 0 0], .agg #[.slice none 0 0, .slice none 0 0]] 8 (World.laidAll_os _ _ _) (by kernel_rfl) (by kernel_rfl) (by kernel_rfl) (by kernel_rfl) (by kernel_rfl) (laidW_met os _)) ?_
  intro W base args ds gs before hval0 hW _ _ _ _
  have hval : ∀ (j : Nat) t v, Tryz.f10.params[j]? = some t → args[j]? = some v → Value.okWide Tryz.prog W .any base t v := hval0
  have hW' := hW
  obtain ⟨p, q, hA0, hV, rfl, _, _⟩ := hW
  have hA : DataW.TrodAll enc Tryz.prog W 0 (fun _ => true) true Tryz.f10.params.toList args.toList ds p := hA0
  rw [Tryz.params10] at hA hval
  have hA2 := hA
  obtain ⟨v0, v1, d0, d1, p0, p1, rfl, rfl, rfl, h0, h1⟩ := trodAll_two hA
  obtain ⟨rfl, rfl⟩ := trodVars_none hV
  have hlt : ∀ x ∈ p0 ++ p1, x.block < W.heap.size := fun x hx => by
    have := hW'.lt x (by simpa using hx)
    exact this
  have e0 : ∀ x ∈ p0, x.block < W.heap.size := fun x hx => hlt x (List.mem_append_left _ hx)
  have e1 : ∀ x ∈ p1, x.block < W.heap.size := fun x hx => hlt x (List.mem_append_right _ hx)
  refine (lassoBehaviours_calls (base := base) hval hA2).mono ?_
  rintro e W2 ⟨rfl, hnx⟩
  refine ⟨_, rfl, _, _, _, [], p0 ++ p1, [], hW', ?_, ?_, rfl, hnx.frame _, fun h => by cases h⟩
  · exact trodAll_mk1 (shut_bool ul4 true)
  · exact trodAll_mk2 (Below.trod laidOut_ok (by kernel_rfl) (of_decide_eq_true (by kernel_rfl)) h0 hnx e0) (Below.trod laidOut_ok (by kernel_rfl) (of_decide_eq_true (by kernel_rfl)) h1 hnx e1)

theorem lassoBehaviours_row : Rows.LassoBehavioursSaid :=
  OpenClaim.holds_of_wide 10 Tryz.f10 rfl rfl rfl rfl rfl rfl rfl ⟨rfl, rfl, rfl, rfl, rfl⟩ rfl rfl rfl rfl rfl (by kernel_rfl) Tryz.func10 (by kernel_rfl)
    (of_decide_eq_true (by kernel_rfl)) (by unfold Func.isWrapper; first | (rw [if_pos (by decide +kernel)]; kernel_rfl) | (rw [if_neg (by decide +kernel)]; exact ⟨rfl, rfl⟩))
    (fun os started H enc _ => lassoBehaviours_lifted os started H enc)

theorem lassoBehaviours_holds : Rows.LassoBehavioursCardSaid :=
  Claim7.holds_tied_plain_at .later [] [.data, .data, .data, .sentinel, .sentinel] true (true, "98bef7c5375844f969da89516d037819b1a57239a7494585b2bb93910f3c950f") true
    lassoBehaviours_row (fun _ h => by cases h) (by kernel_rfl) (fun _ h => by cases h) lassoBehaviours_row_tie rfl ⟨rfl, rfl⟩ (by kernel_rfl) rfl
    (fun f fn hf hfn => by
      obtain rfl : f = 10 := Option.some.inj ((show Tryz.prog.funcNamed "stutter/stutterlaw13.LassoBehaviours" = some 10 by kernel_rfl).symm.trans hf) |>.symm
      obtain rfl : fn = Tryz.f10 := (Option.some.inj (Tryz.func10.symm.trans hfn)).symm
      refine ⟨by kernel_rfl, fun j t ht => ?_⟩
      have hall : (Tryz.f10.params.toList.all fun t => Tryz.prog.wantsStandIn t == false) = true := by kernel_rfl
      have hm : t ∈ Tryz.f10.params.toList := by
        have := Array.mem_of_getElem? ht
        exact this.val
      exact eq_of_beq (List.all_eq_true.1 hall t hm))
    (by kernel_rfl)

end Go.Proofs.YtpacancmcjbckaaGreatDoor
end
