/- LassoStutters: for every labelled graph, formula and behaviour with a place the law answers true and leaves its arguments as they were: the given tied card, without further conditions. -/
import Derived.Test.YtpacancmcjbckaaGreatDoorEd
import Derived.Test.YtpacancmcjbckaaGreatDoorEh
import Derived.Test.YtpacancmcjbckaaGreatDoorEi
import Derived.Test.YtpacancmcjbckaaGreatDoorEf
import Derived.Test.YtpacancmcjbckaaGreatDoorEe
import Derived.Test.YtpacancmcjbckaaGreatDoorEc
import Derived.Test.YtpacancmcjbckaaGreatDoorTie
import Derived.Test.YtpacancmcjbckaaGreatDoorCards
import Derived.SevenTiedAt
/- Chapter 13: LassoWords' law. -/
section
set_option linter.unusedVariables false
set_option linter.unusedSimpArgs false
namespace Go.D
open Las
set_option maxRecDepth 4000
theorem b_eql30 (x y : Int) : binOp PP .eql 30 (.p (.int .i64 x)) (.p (.int .i64 y)) = some (.p (.bool (decide (x = y)))) := Eq.trans (by kernel_rfl) rfl
def awT : Prop := ∀ σ : Store, pureV CC 12 [] σ = some (.p (.bool true))
end Go.D
end
/- The examples of chapter 13: awake answers true. -/
section
set_option linter.unusedVariables false
set_option linter.unusedSimpArgs false
set_option maxRecDepth 100000
namespace Go.D
def exS1 : Store := [.mix [.p (exN [1]), .p (exN [2, 3])]]
def exS2 : Store := [.mix [.p (exN [1]), .p (exN [2, 3])], .mix [.p (.sl false 0 []), .p (exN [0])]]
theorem K48 (σ : Store) : pureV CC 48 [.p (.str lstr0)] σ = some (.tuple [.p exF, .p (pI 12), .p (pI 0)]) := pureV_run run48 rfl rfl
theorem K62a (σ : Store) : pureV CC 62 [.p (.int .i64 0)] σ = some (.p exA0) := pureV_run run62a rfl rfl
theorem K62b (σ : Store) : pureV CC 62 [.p (.int .i64 1)] σ = some (.p exA1) := pureV_run run62b rfl rfl
theorem K63 (σ : Store) : pureV CC 63 [.p .nilsl] σ = some exY := pureV_run run63 rfl rfl
theorem K38a (σ : Store) : pureV CC 38 [.p (.int .i64 8), .p (.sl true 2 [exA0, exA1])] σ = some (.p exU) := by
  rw [pureV_view (args' := [.p (pI 8), .p (.sl false 2 [exA0, exA1])]) rfl rfl]
  exact pureV_run run38a rfl rfl
theorem K38b (σ : Store) : pureV CC 38 [.p (.int .i64 7), .p (.sl true 1 [exA0])] σ = some (.p exB) := by
  rw [pureV_view (args' := [.p (pI 7), .p (.sl false 1 [exA0])]) rfl rfl]
  exact pureV_run run38b rfl rfl
theorem K32 (σ : Store) : pureV CC 32 [.agg [.p (.sl true 3 [.int .i64 1, .int .i64 1, .int .i64 2]), .p (.sl true 3 [.int .i64 3, .int .i64 2, .int .i64 2])]] σ = some (.tuple [.agg [.p (exN [1]), .p (exN [2, 3])], .p (pI 0)]) := by
  rw [pureV_view (args' := [.agg [.p (exN [1, 1, 2]), .p (exN [3, 2, 2])]]) rfl rfl]
  exact pureV_run run32 rfl rfl
theorem K29 (σ : Store) : pureV CC 29 [exL, .agg [.p .nilsl, .p (.sl true 1 [.int .i64 0])]] σ = some (.p (.bool true)) := by
  rw [pureV_view (args' := [exL, .agg [.p .nilsl, .p (exN [0])]]) rfl rfl]
  exact pureV_run run29 rfl rfl
theorem K20 (σ : Store) : pureV CC 20 [.p exU, .agg [.p (.sl true 2 [.int .i64 0, .int .i64 1]), .p (.sl true 2 [.int .i64 2, .int .i64 0])]] σ = some (.tuple [.p (.bool true), .p (pI 0)]) := by
  rw [pureV_view (args' := [.p exU, .agg [.p (exN [0, 1]), .p (exN [2, 0])]]) rfl rfl]
  exact pureV_run run20 rfl rfl
theorem K27 (σ : Store) : pureV CC 27 [exY, .p exB, .p (.int .i64 2)] σ = some (.tuple [exL, .p (pI 0)]) := pureV_run run27 rfl rfl
theorem K33 (σ : Store) : pureV CC 33 [.agg [.p (exN [1]), .p (exN [2, 3])], .agg [.p (.sl true 1 [.int .i64 1]), .p (.sl true 2 [.int .i64 2, .int .i64 3])]] σ = some (.p (.bool true)) := by
  rw [pureV_view (args' := [vWd ⟨some [1], some [2, 3]⟩, vWd ⟨some [1], some [2, 3]⟩]) rfl rfl]
  exact S33 (u := ⟨some [1], some [2, 3]⟩) (w := ⟨some [1], some [2, 3]⟩) (by decide) (by decide) σ
theorem kb64_2 (σ : Store) : buildSlice PP none 64 2 [(0, .p exA0), (1, .p exA1)] σ = some (.p (.sl true 2 [exA0, exA1]), σ) := Eq.trans (by kernel_rfl) rfl
theorem kb64_1 (σ : Store) : buildSlice PP none 64 1 [(0, .p exA0)] σ = some (.p (.sl true 1 [exA0]), σ) := Eq.trans (by kernel_rfl) rfl
theorem kb24_2 (a b : Int) (σ : Store) : buildSlice PP none 24 2 [(0, .p (.int .i64 a)), (1, .p (.int .i64 b))] σ = some (.p (.sl true 2 [.int .i64 a, .int .i64 b]), σ) := Eq.trans (by kernel_rfl) rfl
theorem kb24_3 (a b c : Int) (σ : Store) : buildSlice PP none 24 3 [(0, .p (.int .i64 a)), (1, .p (.int .i64 b)), (2, .p (.int .i64 c))] σ = some (.p (.sl true 3 [.int .i64 a, .int .i64 b, .int .i64 c]), σ) := Eq.trans (by kernel_rfl) rfl
theorem kb52 (p : PV) : build PP 52 [(1, .p p)] = some (.agg [.p .nilsl, .p p]) := Eq.trans (by kernel_rfl) rfl
theorem kz52 : zeroOf PP 52 = some [.p .nilsl, .p .nilsl] := Eq.trans (by kernel_rfl) rfl
theorem ks1 : store PP 0 26 (.ptr 0 0) (.agg [.p (exN [1]), .p (exN [2, 3])]) [.mix [.p .nilsl, .p .nilsl]] = some exS1 := Eq.trans (by kernel_rfl) rfl
theorem ks2 : store PP 0 52 (.ptr 1 0) exL (exS1 ++ [.mix [.p .nilsl, .p .nilsl]]) = some exS2 := Eq.trans (by kernel_rfl) rfl
theorem kl1 : exS1.length = 1 := rfl
theorem kd1 : load PP 26 (.ptr 0 0) exS2 = some (.agg [.p (exN [1]), .p (exN [2, 3])]) := Eq.trans (by kernel_rfl) rfl
theorem kd2 : load PP 52 (.ptr 1 0) exS2 = some exL := Eq.trans (by kernel_rfl) rfl
theorem kln (σ : Store) : len PP 23 (.p exF) σ = some (.p (.int .i64 4)) := Eq.trans (by kernel_rfl) rfl
theorem kx0 (a b : DV) : extractV (.tuple [a, b]) 0 = some a := rfl
theorem kx1 (a b : DV) : extractV (.tuple [a, b]) 1 = some b := rfl
theorem ke0 (a b c : DV) : extractV (.tuple [a, b, c]) 0 = some a := rfl
theorem ke1 (a b c : DV) : extractV (.tuple [a, b, c]) 1 = some b := rfl
theorem ke2 (a b c : DV) : extractV (.tuple [a, b, c]) 2 = some c := rfl
theorem awake_F12 : F12 guardT 0 [] = some (.p (.bool true), exS2) := by
  rw [F12_eq]
  simp only [pureFn_fn, List.append_nil, K48, gG, ke0, ke1, ke2, K62a, K62b, kb64_2, K38a, kb24_2, bld26 (x := .p _) (y := .p _) rfl rfl, K20, kx0, kx1, kb24_3, K32, zero26, List.length_nil, List.nil_append, ks1, kl1, K63, kb64_1, K38b, K27, kz52, ks2,
    b_eql30, eqT (rfl : (0 : Int) = 0), b_eql, eqT (rfl : (12 : Int) = 12), eqT (rfl : (4 : Int) = 4), kln, kd1, bs24_1, K33, kd2, kb52, K29]
theorem awake_true : awT := fun σ => pureV_free rfl rfl (F12_call awake_F12) rfl
end Go.D
end
/- Chapter 13: LassoGraphs' law. -/
section
set_option linter.unusedVariables false
set_option linter.unusedSimpArgs false
set_option maxRecDepth 8000
namespace Go.D
open Las
def ownG (g : Gr) : Gr := ⟨g.n, some (L g.init), some (L g.edges)⟩
theorem bs43_0 (σ : Store) : buildSlice PP none 43 0 [] σ = some (.p (.sl true 0 []), σ) := Eq.trans (by kernel_rfl) rfl
theorem src43 : srcType PP 43 = true := Eq.trans (by kernel_rfl) rfl
theorem bytes129 : bytes? PP 129 = some 24 := Eq.trans (by kernel_rfl) rfl
theorem box_grV (g : Gr) : boxV (vGr g) = some [.p (pI g.n), .p (eSl g.init), .p (eEs g.edges)] := rfl
theorem app43 {o : Option (List Edg)} {lo : Nat} (hl : (L o).length ≤ 10000) (σ : Store) : append PP lo false 43 43 (.p (.sl true 0 [])) (.p (eEs o)) σ = some (if (L o).length = 0 then (.p (.sl true 0 []), σ) else (.osl σ.length 0 3 (L o).length (eEdgs (L o)), σ ++ [.tok 0])) := by
  have hz : zeroOf PP 129 = some [.p (pI 0), .p (pI 0), .p (pI 0)] := zero129
  cases o with
  | none => simp [append, src43, u43, s129, bytes129, hz, source, appLit, eEs]
  | some l =>
    have hc : (eEdgs l).length = l.length * 3 := edgs_length l
    have h1 : l.length * 24 ≤ 140737488355328 := by simp at hl; omega
    have h2 : l.length ≤ 140737488355328 := by simp at hl; omega
    by_cases h0 : l = []
    · subst h0; simp [append, src43, u43, s129, bytes129, hz, source, appLit, eEs, eEdgs]
    · simp [append, src43, u43, s129, bytes129, hz, source, appLit, eEs, hc, h1, h2, h0, pures_map]
theorem st24_1 (a b c d : DV) (v : PV) (rest : Store) : store PP 0 24 (.ptr 0 1) (.p v) (.mix [a, b, c] :: rest) = some (.mix [a, .p v, c] :: rest) := Eq.trans (by kernel_rfl) rfl
theorem st43_2p (a b c : DV) (v : PV) (rest : Store) : store PP 0 43 (.ptr 0 2) (.p v) (.mix [a, b, c] :: rest) = some (.mix [a, b, .p v] :: rest) := Eq.trans (by kernel_rfl) rfl
theorem st43_2o (a b c : DV) (r ver sz n : Nat) (cs : List PV) (rest : Store) : store PP 0 43 (.ptr 0 2) (.osl r ver sz n cs) (.mix [a, b, c] :: rest) = some (.mix [a, b, .osl r ver sz n cs] :: rest) := Eq.trans (by kernel_rfl) rfl
theorem st45_p (a b c : DV) (x y z : PV) (m : Row) (rest : Store) : store PP 0 45 (.ptr 1 0) (.agg [.p x, .p y, .p z]) (m :: .mix [a, b, c] :: rest) = some (m :: .mix [.p x, .p y, .p z] :: rest) := Eq.trans (by kernel_rfl) rfl
theorem st45_o (a b c : DV) (x y : PV) (r ver sz n : Nat) (cs : List PV) (m : Row) (rest : Store) : store PP 0 45 (.ptr 1 0) (.agg [.p x, .p y, .osl r ver sz n cs]) (m :: .mix [a, b, c] :: rest) = some (m :: .mix [.p x, .p y, .osl r ver sz n cs] :: rest) := Eq.trans (by kernel_rfl) rfl
theorem ld45_0 (a b c : DV) (rest : Store) : loadN (.mix [a, b, c] :: rest) 3 (.ptr 0 0) = some [a, b, c] := Eq.trans (by kernel_rfl) rfl
theorem cv45 (a b c : DV) (m : Row) (rest : Store) : cellV PP 45 (.ptr 1 0) (m :: .mix [a, b, c] :: rest) = some (.agg [a, b, c]) := Eq.trans (by kernel_rfl) rfl
theorem S79 {g : Gr} (hi : (L g.init).length ≤ 1000) (he : (L g.edges).length ≤ 10000) (σ : Store) : pureV CC 79 [vGr g] σ = some (vGr (ownG g)) := by
  have s52 := fun σ => S52 (o := g.init) (by omega) σ
  have z45 : zeroOf PP 45 = some [.p (pI 0), .p .nilsl, .p .nilsl] := zero45
  have l1 : load1 (.ptr 0 1) ([Row.mix [.p (pI g.n), .p (eSl g.init), .p (eEs g.edges)], .mix [.p (pI 0), .p .nilsl, .p .nilsl]] : Store) = some (.p (eSl g.init)) := load1_ptr rfl rfl
  have l2 : load1 (.ptr 0 2) ([Row.mix [.p (pI g.n), .p (eSl g.init), .p (eEs g.edges)], .mix [.p (pI 0), .p .nilsl, .p .nilsl]] : Store) = some (.p (eEs g.edges)) := load1_ptr rfl rfl
  have ap := app43 (o := g.edges) (lo := 0) he ([Row.mix [.p (pI g.n), .p (eSl g.init), .p (eEs g.edges)], .mix [.p (pI 0), .p .nilsl, .p .nilsl]])
  by_cases h0 : (L g.edges).length = 0
  · rw [if_pos h0] at ap
    refine pureV_free (by simp only [List.map_cons, List.map_nil, gr_view]) rfl (F79_call (r := (.agg [.p (pI g.n), .p (eSl (some (L g.init))), .p (.sl true 0 [])], [.mix [.p (pI g.n), .p (eSl (some (L g.init))), .p (.sl true 0 [])], .mix [.p (pI g.n), .p (eSl (some (L g.init))), .p (.sl true 0 [])]])) ?_) ?_
    · rw [F79_eq]
      simp only [box_grV, gG, z45, List.length_nil, List.nil_append, List.singleton_append, List.length_singleton, fa45_1, fa45_2, shift_ptr, shift_pptr, Nat.zero_add, Nat.add_zero, pureFn_fn, List.append_nil, List.singleton_append, List.cons_append, List.nil_append, load24, load43, l1, l2, s52, bs43_0, ap, st24_1 (d := .undef), st43_2p, load45, ld45_0, st45_p, cv45]
    · have e : L g.edges = [] := List.length_eq_zero_iff.1 h0
      simp [thawAll, thawPart, mapO, thaw, thaw1, thawP, vGr, ownG, eEs, eEdgs, e, loosens, loosen, loosen_sl, loosens_ints, eSl]
  · rw [if_neg h0] at ap
    refine pureV_free (by simp only [List.map_cons, List.map_nil, gr_view]) rfl (F79_call (r := (.agg [.p (pI g.n), .p (eSl (some (L g.init))), .osl 2 0 3 (L g.edges).length (eEdgs (L g.edges))], [.mix [.p (pI g.n), .p (eSl (some (L g.init))), .osl 2 0 3 (L g.edges).length (eEdgs (L g.edges))], .mix [.p (pI g.n), .p (eSl (some (L g.init))), .osl 2 0 3 (L g.edges).length (eEdgs (L g.edges))], .tok 0])) ?_) ?_
    · rw [F79_eq]
      simp only [box_grV, gG, z45, List.length_nil, List.nil_append, List.singleton_append, List.length_singleton, List.length_cons, fa45_1, fa45_2, shift_ptr, shift_pptr, Nat.zero_add, Nat.add_zero, pureFn_fn, List.append_nil, List.singleton_append, List.cons_append, List.nil_append, load24, load43, l1, l2, s52, bs43_0, ap, st24_1 (d := .undef), st43_2o, load45, ld45_0, st45_o, cv45]
    · simp [thawAll, thawPart, mapO, thaw, thaw1, thawP, vGr, ownG, eEs, loosens_edgs, loosen, loosen_sl, loosens_ints, eSl]
def ownX (x : Lb) : Lb := ⟨ownG x.g, some (L x.la), some (L x.st), some (L x.en), some (L x.we), some (L x.sr)⟩
theorem LSm.own {x : Lb} (h : LSm x) : LSm (ownX x) := ⟨h.i, h.e, h.la, h.st, h.en, h.we, h.sr⟩
theorem bld47 (a b c d e f g h : PV) : build PP 47 [(0, .agg [.p a, .p b, .p c]), (1, .p d), (2, .p e), (3, .p f), (4, .p g), (5, .p h)] = some (.agg [.p a, .p b, .p c, .p d, .p e, .p f, .p g, .p h]) := Eq.trans (by kernel_rfl) rfl
theorem st47 (a b c d e f g h : PV) (z1 z2 z3 z4 z5 z6 z7 z8 : DV) : store PP 0 47 (.ptr 0 0) (.agg [.p a, .p b, .p c, .p d, .p e, .p f, .p g, .p h]) [.mix [z1, z2, z3, z4, z5, z6, z7, z8]] = some [.mix [.p a, .p b, .p c, .p d, .p e, .p f, .p g, .p h]] := Eq.trans (by kernel_rfl) rfl
theorem cv47 (a b c d e f g h : DV) : cellV PP 47 (.ptr 0 0) [.mix [a, b, c, d, e, f, g, h]] = some (.agg [a, b, c, d, e, f, g, h]) := Eq.trans (by kernel_rfl) rfl
theorem S28 {x : Lb} (hx : LSm x) (σ : Store) : pureV CC 28 [vLb x] σ = some (vLb (ownX x)) := by
  have s79 := fun σ => S79 hx.i hx.e σ
  have a1 := fun σ => S52 (o := x.la) (by have := hx.la; omega) σ
  have a2 := fun σ => S52 (o := x.st) (by have := hx.st; omega) σ
  have a3 := fun σ => S52 (o := x.en) (by have := hx.en; omega) σ
  have a4 := fun σ => S52 (o := x.we) (by have := hx.we; omega) σ
  have a5 := fun σ => S52 (o := x.sr) (by have := hx.sr; omega) σ
  refine pureV_free (by simp only [List.map_cons, List.map_nil, lb_view]) rfl (F28_call (r := (vLb (ownX x), [.mix [.p (pI x.g.n), .p (eSl (some (L x.g.init))), .p (eEs (some (L x.g.edges))), .p (eSl (some (L x.la))), .p (eSl (some (L x.st))), .p (eSl (some (L x.en))), .p (eSl (some (L x.we))), .p (eSl (some (L x.sr)))]])) ?_) ?_
  · rw [F28_eq]
    have hv : vGr (ownG x.g) = .agg [.p (pI x.g.n), .p (eSl (some (L x.g.init))), .p (eEs (some (L x.g.edges)))] := rfl
    simp only [box_lb, gG, zero47, List.length_nil, List.nil_append, fa47_0, fa47_1, fa47_2, fa47_3, fa47_4, fa47_5, shift_ptr, shift_pptr, Nat.zero_add, Nat.add_zero, pureFn_fn, List.append_nil, List.singleton_append, List.cons_append, List.nil_append, load45, load24, lb_g, lb_3, lb_4, lb_5, lb_6, lb_7, s79, a1, a2, a3, a4, a5, hv, bld47, st47, cv47]
    rfl
  · simp [thawAll, thawPart, mapO, thaw, thaw1, thawP, vLb, ownX, ownG, eEs, loosens_edgs, loosen, loosen_sl, loosen_es, loosens_ints, eSl]
theorem bld52 (a b : PV) : build PP 52 [(0, .p a), (1, .p b)] = some (.agg [.p a, .p b]) := Eq.trans (by kernel_rfl) rfl
theorem st52 (a b : PV) (z1 z2 : DV) : store PP 0 52 (.ptr 0 0) (.agg [.p a, .p b]) [.mix [z1, z2]] = some [.mix [.p a, .p b]] := Eq.trans (by kernel_rfl) rfl
theorem cv52 (a b : DV) : cellV PP 52 (.ptr 0 0) [.mix [a, b]] = some (.agg [a, b]) := Eq.trans (by kernel_rfl) rfl
def ownW (w : Wd) : Wd := ⟨some (L w.p), some (L w.l)⟩
theorem S42 {w : Wd} (h0 : (L w.p).length ≤ 1000000) (h1 : (L w.l).length ≤ 1000000) (σ : Store) : pureV CC 42 [vWd w] σ = some (vWd (ownW w)) := by
  have a1 := fun σ => S52 (o := w.p) h0 σ
  have a2 := fun σ => S52 (o := w.l) h1 σ
  refine pureV_free (by simp only [List.map_cons, List.map_nil, wd_view]) rfl (F42_call (r := (vWd (ownW w), [.mix [.p (eSl (some (L w.p))), .p (eSl (some (L w.l)))]])) ?_) ?_
  · rw [F42_eq]
    simp only [box_wd, gG, zero52, List.length_nil, List.nil_append, fa52_0, fa52_1, shift_ptr, shift_pptr, Nat.zero_add, Nat.add_zero, pureFn_fn, List.append_nil, List.singleton_append, List.cons_append, List.nil_append, load24, wd_0, wd_1, a1, a2, bld52, st52, cv52]
    rfl
  · simp [thawAll, thawPart, mapO, thaw, thaw1, thawP, vWd, ownW, loosen, loosen_sl, loosens_ints, eSl]
def smB (x : Lb) : Bool := decide ((L x.g.edges).length ≤ 120) && (decide ((L x.g.init).length ≤ 70) && (decide ((L x.la).length ≤ 70) && (decide ((L x.st).length ≤ 20) && (decide ((L x.en).length ≤ 20) && (decide ((L x.we).length ≤ 20) && decide ((L x.sr).length ≤ 20))))))
theorem S23 (x : Lb) (σ : Store) : pureV CC 23 [vLb x] σ = some (.p (.bool (smB x))) := by
  refine pureV_free (by simp only [List.map_cons, List.map_nil, lb_view]) rfl (F23_call (r := (.p (.bool (smB x)), [])) ?_) rfl
  rw [F23_eq]
  unfold smB
  by_cases h1 : (L x.g.edges).length ≤ 120
  · by_cases h2 : (L x.g.init).length ≤ 70
    · by_cases h3 : (L x.la).length ≤ 70
      · by_cases h4 : (L x.st).length ≤ 20
        · by_cases h5 : (L x.en).length ≤ 20
          · by_cases h6 : (L x.we).length ≤ 20
            · by_cases h7 : (L x.sr).length ≤ 20
              · rw [decide_eq_true h1, decide_eq_true h2, decide_eq_true h3, decide_eq_true h4, decide_eq_true h5, decide_eq_true h6, decide_eq_true h7]
                simp (disch := omega) only [box_lb, gG, fa47_0, fa47_1, fa47_2, fa47_3, fa47_4, fa47_5, fa45_1, fa45_2, shift_ptr, shift_pptr, Nat.zero_add, Nat.add_zero, pureFn_fn, List.append_nil, List.singleton_append, List.cons_append, List.nil_append, load43, load24, lb_1, lb_2, lb_3, lb_4, lb_5, lb_6, lb_7, len43, len24, b_leq, leT, Bool.and_self]
              · rw [decide_eq_false h7]
                simp (disch := omega) only [box_lb, gG, fa47_0, fa47_1, fa47_2, fa47_3, fa47_4, fa47_5, fa45_1, fa45_2, shift_ptr, shift_pptr, Nat.zero_add, Nat.add_zero, pureFn_fn, List.append_nil, List.singleton_append, List.cons_append, List.nil_append, load43, load24, lb_1, lb_2, lb_3, lb_4, lb_5, lb_6, lb_7, len43, len24, b_leq, leT, leF, Bool.and_false]
            · rw [decide_eq_false h6]
              simp (disch := omega) only [box_lb, gG, fa47_0, fa47_1, fa47_2, fa47_3, fa47_4, fa47_5, fa45_1, fa45_2, shift_ptr, shift_pptr, Nat.zero_add, Nat.add_zero, pureFn_fn, List.append_nil, List.singleton_append, List.cons_append, List.nil_append, load43, load24, lb_1, lb_2, lb_3, lb_4, lb_5, lb_6, lb_7, len43, len24, b_leq, leT, leF, Bool.and_false, Bool.false_and]
          · rw [decide_eq_false h5]
            simp (disch := omega) only [box_lb, gG, fa47_0, fa47_1, fa47_2, fa47_3, fa47_4, fa47_5, fa45_1, fa45_2, shift_ptr, shift_pptr, Nat.zero_add, Nat.add_zero, pureFn_fn, List.append_nil, List.singleton_append, List.cons_append, List.nil_append, load43, load24, lb_1, lb_2, lb_3, lb_4, lb_5, lb_6, lb_7, len43, len24, b_leq, leT, leF, Bool.and_false, Bool.false_and]
        · rw [decide_eq_false h4]
          simp (disch := omega) only [box_lb, gG, fa47_0, fa47_1, fa47_2, fa47_3, fa47_4, fa47_5, fa45_1, fa45_2, shift_ptr, shift_pptr, Nat.zero_add, Nat.add_zero, pureFn_fn, List.append_nil, List.singleton_append, List.cons_append, List.nil_append, load43, load24, lb_1, lb_2, lb_3, lb_4, lb_5, lb_6, lb_7, len43, len24, b_leq, leT, leF, Bool.and_false, Bool.false_and]
      · rw [decide_eq_false h3]
        simp (disch := omega) only [box_lb, gG, fa47_0, fa47_1, fa47_2, fa47_3, fa47_4, fa47_5, fa45_1, fa45_2, shift_ptr, shift_pptr, Nat.zero_add, Nat.add_zero, pureFn_fn, List.append_nil, List.singleton_append, List.cons_append, List.nil_append, load43, load24, lb_1, lb_2, lb_3, lb_4, lb_5, lb_6, lb_7, len43, len24, b_leq, leT, leF, Bool.and_false, Bool.false_and]
    · rw [decide_eq_false h2]
      simp (disch := omega) only [box_lb, gG, fa47_0, fa47_1, fa47_2, fa47_3, fa47_4, fa47_5, fa45_1, fa45_2, shift_ptr, shift_pptr, Nat.zero_add, Nat.add_zero, pureFn_fn, List.append_nil, List.singleton_append, List.cons_append, List.nil_append, load43, load24, lb_1, lb_2, lb_3, lb_4, lb_5, lb_6, lb_7, len43, len24, b_leq, leT, leF, Bool.and_false, Bool.false_and]
  · rw [decide_eq_false h1]
    simp (disch := omega) only [box_lb, gG, fa47_0, fa47_1, fa47_2, fa47_3, fa47_4, fa47_5, fa45_1, fa45_2, shift_ptr, shift_pptr, Nat.zero_add, Nat.add_zero, pureFn_fn, List.append_nil, List.singleton_append, List.cons_append, List.nil_append, load43, load24, lb_1, lb_2, lb_3, lb_4, lb_5, lb_6, lb_7, len43, len24, b_leq, leT, leF, Bool.and_false, Bool.false_and]
theorem smB_ok {x : Lb} (h : smB x = true) : LSm x := by
  unfold smB at h
  simp only [Bool.and_eq_true, decide_eq_true_iff] at h
  obtain ⟨h1, h2, h3, h4, h5, h6, h7⟩ := h
  exact ⟨by omega, by omega, by omega, by omega, by omega, by omega, by omega⟩
end Go.D
end
/- Chapter 13: LassoBehaviours' law. -/
section
set_option linter.unusedVariables false
set_option linter.unusedSimpArgs false
set_option maxRecDepth 8000
namespace Go.D
open Las
theorem wd_thaw (u : Wd) (m : Nat) (σ : Store) : thawAll m σ (vWd u) = some (vWd u) := by
  simp [thawAll, mapO, thawPart, vWd, thaw, thaw1, thawP, loosen_sl, loosen]
theorem b135' (n b : Nat) : build PP 135 [(0, .p (.int .i64 (n : Nat))), (1, .p (.int .i64 (b : Nat)))] = some (.agg (rgD n b)) := b135 n b
theorem bs130_r {p q : DV} (hp : p.one = true) (hq : q.one = true) (σ : Store) : buildSlice PP (some true) 130 2 [(0, p), (1, q)] σ = some (.rsl σ.length 1 0 2, σ ++ [.mix [p, q]]) := by
  cases p <;> first | (exfalso; simp [DV.one] at hp; done) | skip
  all_goals (cases q <;> first | (exfalso; simp [DV.one] at hq; done) | exact Eq.trans (by kernel_rfl) rfl)
section
variable {x : Lb} (hx : LSm x) (hk : LbOk x) {p q : DV} {P Q : List Int} (hl : P.length + Q.length ≤ 1000) (h0 : 0 < Q.length) (hin : ∀ i, i < (P ++ Q).length → 0 ≤ (P ++ Q).getD i 0 ∧ (P ++ Q).getD i 0 < x.g.n)
include hx hk hl h0 hin
theorem S117 {σ : Store} (hp : RL σ p P) (hq : RL σ q Q) : ∃ u : Wd, pureV CC 117 [vLb x, .agg [p, q]] σ = some (vWd u) ∧ L u.p = (wl x (P ++ Q) P.length).take P.length ∧ L u.l = (wl x (P ++ Q) P.length).drop P.length := by
  have key : ∀ (lo : Nat) (σ0 : Store), RL σ0 p P → RL σ0 q Q → lo ≤ σ0.length → ∃ (u : Wd) (σ' : Store), F117 guardT lo (vLb x) (.agg [p, q]) σ0 = some (vWd u, σ') ∧ L u.p = (wl x (P ++ Q) P.length).take P.length ∧ L u.l = (wl x (P ++ Q) P.length).drop P.length := by
    intro lo σ0 hp0 hq0 hlo
    have hAl : (P ++ Q).length = P.length + Q.length := List.length_append
    let σ1 : Store := σ0 ++ [.mix [p, q]]
    let σ2 : Store := σ1 ++ [.mix [.p .nilsl, .p .nilsl]]
    let σ3 : Store := σ2 ++ [.mix [p, q]]
    let σ4 : Store := σ3 ++ [.mix (rgD (P ++ Q).length P.length)]
    have e1 : σ0 ++ [.mix [p, q]] = σ1 := rfl
    have e2 : σ1 ++ [.mix [.p .nilsl, .p .nilsl]] = σ2 := rfl
    have e3 : σ2 ++ [.mix [p, q]] = σ3 := rfl
    have g1 : σ1[σ0.length]? = some (.mix [p, q]) := get_snoc
    have g2 : σ2[σ0.length]? = some (.mix [p, q]) := get_old g1
    have g3 : σ3[σ0.length]? = some (.mix [p, q]) := get_old g2
    have w2 : σ2[σ1.length]? = some (.mix [.p .nilsl, .p .nilsl]) := get_snoc
    have w4 : σ4[σ1.length]? = some (.mix [.p .nilsl, .p .nilsl]) := get_old (get_old w2)
    have r3 : σ3[σ2.length]? = some (.mix [p, q]) := get_snoc
    have r4 : σ4[σ3.length]? = some (.mix (rgD (P ++ Q).length P.length)) := get_snoc
    have l1 : σ1.length = σ0.length + 1 := by simp [σ1]
    have l2 : σ2.length = σ0.length + 2 := by simp [σ2, l1]
    have l3 : σ3.length = σ0.length + 3 := by simp [σ3, l2]
    have l4 : σ4.length = σ0.length + 4 := by simp [σ4, l3]
    have p3 : RL σ3 p P := ((hp0.ext _).ext _).ext _
    have q3 : RL σ3 q Q := ((hq0.ext _).ext _).ext _
    have a0 : load1 (.ptr σ0.length 0) σ2 = some p := load1_ptr g2 rfl
    have a1 : load1 (.ptr σ0.length 1) σ2 = some q := load1_ptr g2 rfl
    have a3 : load1 (.ptr σ0.length 0) σ3 = some p := load1_ptr g3 rfl
    have bs := bs130_r hp0.one hq0.one σ2
    rw [e3] at bs
    have s84 := S84q r3 p3 q3 (by omega) (by omega)
    have lA := (PL.some (P ++ Q)).len
    have stg := st135g (lo := lo) (σ := σ3) (by omega) (P ++ Q).length P.length
    obtain ⟨o1, o2, σ', f1, f2, f3⟩ := L117_0 hx hk (lo := lo) (rw := σ1.length) (rr := σ3.length) (A := P ++ Q) (b := P.length) (by omega) (by omega) hin [.p .nilsl, .p .nilsl] rfl (by omega) _ 0 (.p .nilsl) σ4 rfl (Nat.zero_le _) (by omega) (by rw [List.take_zero]; exact Out.zero) r4 w4
    refine ⟨⟨o1, o2⟩, σ', ?_, f2, f3⟩
    simp only [N] at f1
    rw [F117_eq]
    simp only [box_lb, box_two hp0 hq0, gG, zero26, e1, e2, fa52_0, fa52_1, shift_ptr, shift_pptr, Nat.zero_add, Nat.add_zero, pureFn_fn, List.append_nil, List.singleton_append, List.cons_append, List.nil_append, load24, a0, a1, bs, s84, lA, a3, p3.len, b135', zero135, stg]
    exact f1
  by_cases hf : rowFree1 p = true ∧ rowFree1 q = true
  · obtain ⟨u, σ', h1, h2⟩ := key 0 [] (hp.free hf.1 []) (hq.free hf.2 []) (Nat.le_refl _)
    exact ⟨u, pureV_free (by simp only [List.map_cons, List.map_nil, lb_view, ls_view hp hq]) (by have e : rowFree (vLb x) = true := rfl; have e2 : rowFree (.agg [p, q]) = (rowFree1 p && (rowFree1 q && true)) := rfl; simp only [List.all_cons, List.all_nil, e, e2, hf.1, hf.2, Bool.and_self]) (F117_call h1) (wd_thaw u _ _), h2⟩
  · obtain ⟨u, σ', h1, h2⟩ := key σ.length σ hp hq (Nat.le_refl _)
    refine ⟨u, pureV_rows (by simp only [List.map_cons, List.map_nil, lb_view, ls_view hp hq]) ?_ (F117_call h1) (wd_thaw u _ _), h2⟩
    rw [← Bool.not_eq_true]
    intro h
    simp only [List.all_cons, List.all_nil, rowFree, Bool.and_true, Bool.and_eq_true] at h
    exact hf ⟨h.2.1, h.2.2⟩
end
section
variable {x : Lb} (hx : LSm x) (hk : LbOk x)
include hx hk
end
section
variable {x : Lb} (hx : LSm x) (hk : LbOk x) {w : Wd} (hl : (L w.p).length + (L w.l).length ≤ 1000) (h0 : 0 < (L w.l).length) (hin : ∀ i, i < (L w.p ++ L w.l).length → 0 ≤ (L w.p ++ L w.l).getD i 0 ∧ (L w.p ++ L w.l).getD i 0 < x.g.n)
theorem st24_w0 {σ : Store} {lo r : Nat} {a b v : DV} (h : σ[r]? = some (.mix [a, b])) (hlo : lo ≤ r) (hv : v.one = true) : store PP lo 24 (.ptr r 0) v σ = some (σ.set r (.mix [v, b])) := by
  cases v <;> first | (exfalso; simp [DV.one] at hv; done) | simp [store, s24, DV.cells, storeN, h, hlo, DV.one, splice]
theorem st24_w1 {σ : Store} {lo r : Nat} {a b v : DV} (h : σ[r]? = some (.mix [a, b])) (hlo : lo ≤ r) (hv : v.one = true) : store PP lo 24 (.ptr r 1) v σ = some (σ.set r (.mix [a, v])) := by
  cases v <;> first | (exfalso; simp [DV.one] at hv; done) | simp [store, s24, DV.cells, storeN, h, hlo, DV.one, splice]
theorem Out.one {σ : Store} {lo sz n : Nat} {cs : List PV} {x : DV} (h : Out σ lo sz n cs x) : x.one = true := by
  rcases h.2 with ⟨_, rfl⟩ | ⟨_, _, _, rfl, _⟩ <;> rfl
theorem Out.setM {σ : Store} {lo sz n r : Nat} {cs : List PV} {x : DV} {c c' : List DV} (h : Out σ lo sz n cs x) (hr : σ[r]? = some (.mix c)) : Out (σ.set r (.mix c')) lo sz n cs x := by
  obtain ⟨h1, h2⟩ := h
  refine ⟨h1, ?_⟩
  rcases h2 with h2 | ⟨h0, r', v, h2, h3, h4⟩
  · exact .inl h2
  · refine .inr ⟨h0, r', v, h2, ?_, h4⟩
    rw [List.getElem?_set_ne]
    · exact h3
    · rintro rfl; rw [hr] at h3; cases h3
def Ap (x y : DV) : Prop := ∀ r v s n c r' v' s' n' c', x = .osl r v s n c → y = .osl r' v' s' n' c' → r ≠ r'
theorem Out.kp {σ σ' : Store} {lo sz n : Nat} {cs : List PV} {x y : DV} (h : Out σ lo sz n cs x) (ho : Others σ σ' y) (ha : Ap x y) : Out σ' lo sz n cs x := by
  obtain ⟨h1, h2⟩ := h
  refine ⟨h1, ?_⟩
  rcases h2 with h2 | ⟨h0, r', v, h2, h3, h4⟩
  · exact .inl h2
  · exact .inr ⟨h0, r', v, h2, ho r' _ h3 (fun r ver s m c e => ha _ _ _ _ _ _ _ _ _ _ h2 e), h4⟩
theorem wi_app {l : List Int} {v : Int} {lo : Nat} {σ : Store} {x y : DV} {l' : List Int} (ho : Out σ lo 1 l.length (eInts l) x) (hy : Out σ lo 1 l'.length (eInts l') y) (ha : Ap y x) (hn : l.length ≤ 100000) (hlo : lo ≤ σ.length) :
    ∃ x' σ', append PP lo false 24 24 x (.p (.sl true 1 [.int .i64 v])) σ = some (x', σ') ∧ Out σ' lo 1 (l ++ [v]).length (eInts (l ++ [v])) x' ∧ Out σ' lo 1 l'.length (eInts l') y ∧ Ap y x' ∧ Others σ σ' x ∧ σ.length ≤ σ'.length := by
  obtain ⟨x', σ', h1, h2, h3, h4⟩ := Out.pushI (v := v) ho hn hlo
  refine ⟨x', σ', h1, h2, hy.kp h3 ha, ?_, h3, h4⟩
  intro r ver s n c r' ver' s' n' c' ey ex
  rcases ho.2 with ⟨g1, rfl⟩ | ⟨g0, r0, v0, rfl, g3, g4⟩
  · -- the new list has a row of its own
    have hz : zeroOf PP 3 = some [.p (pI 0)] := zero3
    have hx : append PP lo false 24 24 (.p .nilsl) (.p (.sl true 1 [.int .i64 v])) σ = some (.osl σ.length 0 1 1 [.int .i64 v], σ ++ [.tok 0]) := by
      simp [append, src24, u24, s3, bytes3, hz, source, appNil, pures, DV.pure?]
    rw [hx] at h1
    injection h1 with h1
    injection h1 with h1 _
    rw [← h1] at ex
    injection ex with ex
    rw [← ex]
    rcases hy.2 with ⟨_, e⟩ | ⟨_, r1, v1, e, k1, _⟩
    · rw [e] at ey; cases ey
    · rw [e] at ey
      injection ey with ey
      rw [← ey]
      have := get_lt k1
      omega
  · have hx : ∃ n2 c2 σ2, append PP lo false 24 24 (.osl r0 v0 1 l.length (eInts l)) (.p (.sl true 1 [.int .i64 v])) σ = some (.osl r0 (v0 + 1) 1 n2 c2, σ2) := by
      have e1 : (l.length + 1) * 8 ≤ 140737488355328 := by omega
      have e2 : l.length + 1 ≤ 140737488355328 := by omega
      refine ⟨l.length + 1, eInts l ++ [pI v], σ.set r0 (.tok (v0 + 1)), ?_⟩
      simp only [append, src24, Bool.true_eq_false, if_false, u24, s3, bytes3, zero3, List.length_singleton, ne_eq, not_true_eq_false, Nat.one_ne_zero, or_self, source, Nat.mul_one, if_true, appTok]
      rw [if_pos ⟨e1, e2, by decide, trivial, by rw [ints_length], g4⟩, g3]
      simp only [if_true, List.map_cons, List.map_nil, pures, DV.pure?, Option.map_some]
    obtain ⟨n2, c2, σ2, hx⟩ := hx
    rw [hx] at h1
    injection h1 with h1
    injection h1 with h1 _
    rw [← h1] at ex
    injection ex with ex
    rw [← ex]
    exact ha _ _ _ _ _ _ _ _ _ _ ey rfl
theorem Ap.symm {x y : DV} (h : Ap x y) : Ap y x := fun r v s n c r' v' s' n' c' e1 e2 => (h _ _ _ _ _ _ _ _ _ _ e2 e1).symm
include hx hk hl h0 hin
end
end Go.D
end
/- Chapter 13: the reference's Guarded. -/
section
set_option linter.unusedVariables false
set_option linter.unusedSimpArgs false
set_option maxRecDepth 8000
namespace Go.D
open Las
section
variable {f : Fm} {o : OI} (hf : FSm f) (hk : Ok (L f)) (ho : (L o).length ≤ 1000)
include hf hk ho
omit ho in
theorem L115 {r m : Nat} {x : Nd} (hx : (L f).getD r default = x) (hr : r < (L f).length) (hrec : ∀ (v : Int), 0 ≤ v → v < r → ∀ τ : Store, pureV CC 115 [.p (eFm f), .p (.int .i64 v), .p (eSl o)] τ = some (.p (.bool (gR (L f) (L o) m v.toNat)))) :
    ∀ (d i : Nat) (σ : Store), (nA (L f) r).length - i = d → i ≤ (nA (L f) r).length → σ[0]? = some (.mix (ndD x)) → f115_L0 guardT 0 (.p (eFm f)) (.p (eSl o)) (.ptr 0 0) (N i) σ = some (.p (.bool (((nA (L f) r).drop i).all fun c => gR (L f) (L o) m c.toNat)), σ)
  | 0, i, σ, hd, hi, gs => by
    have ha : L x.a = nA (L f) r := by rw [← hx]; rfl
    have lA := (PL.sl x.a).len
    rw [ha] at lA
    have hlen := hf.2 r
    rw [f115_L0_eq guardT rfl, List.drop_eq_nil_of_le (by omega)]
    simp (disch := omega) only [fa67_2, shift_ptr, shift_pptr, Nat.zero_add, Nat.add_zero, pureFn_fn, List.append_nil, List.singleton_append, List.cons_append, List.nil_append, gG, load24, row_a gs, lA, N, b_lss, ltF, List.all_nil]
  | d + 1, i, σ, hd, hi, gs => by
    have ha : L x.a = nA (L f) r := by rw [← hx]; rfl
    have lA := (PL.sl x.a).len
    rw [ha] at lA
    have hlen := hf.2 r
    have hlt : i < (nA (L f) r).length := by omega
    have ix := (PL.sl x.a).idx (i := i) (by rw [ha]; exact hlt)
    have ld := load1_getD (l := nA (L f) r) hlt σ
    rw [ha] at ix
    have hin := stB_in _ _ _ (hk.good r hr).st i hlt
    have hq := hrec ((nA (L f) r).getD i 0) hin.1 hin.2.1 σ
    have ih := L115 hx hr hrec d (i + 1) σ (by omega) (by omega) gs
    have hdrop : (nA (L f) r).drop i = (nA (L f) r).getD i 0 :: (nA (L f) r).drop (i + 1) := drop_cons hlt
    rw [f115_L0_eq guardT rfl, hdrop, List.all_cons]
    cases hb : gR (L f) (L o) m ((nA (L f) r).getD i 0).toNat with
    | false =>
      rw [hb] at hq
      simp (disch := omega) only [fa67_2, shift_ptr, shift_pptr, Nat.zero_add, Nat.add_zero, pureFn_fn, List.append_nil, List.singleton_append, List.cons_append, List.nil_append, gG, load24, row_a gs, lA, N, b_lss, ltT, ix, load3, ld, hq, Bool.false_and]
    | true =>
      rw [hb] at hq
      simp only [N] at ih
      simp (disch := omega) only [fa67_2, shift_ptr, shift_pptr, Nat.zero_add, Nat.add_zero, pureFn_fn, List.append_nil, List.singleton_append, List.cons_append, List.nil_append, gG, load24, row_a gs, lA, N, b_lss, ltT, ix, load3, ld, hq, Bool.true_and, add1, ih]
theorem S115 : ∀ (m r : Nat), r < m → r < (L f).length → ∀ σ : Store, pureV CC 115 [.p (eFm f), N r, .p (eSl o)] σ = some (.p (.bool (gR (L f) (L o) m r)))
  | 0, r, h, _, _ => by omega
  | m + 1, r, hm, hr, σ => by
    have hlen := hf.2 r
    have hg := hk.good r hr
    have hnd := nd_all hr
    have hga := hg.a
    have hrec : ∀ (v : Int), 0 ≤ v → v < r → ∀ τ : Store, pureV CC 115 [.p (eFm f), .p (.int .i64 v), .p (eSl o)] τ = some (.p (.bool (gR (L f) (L o) m v.toNat))) := fun v v0 v1 τ => by
      have := S115 m v.toNat (by omega) (by omega) τ
      have e : N v.toNat = .p (.int .i64 v) := by unfold N; rw [Int.toNat_of_nonneg v0]
      rwa [e] at this
    have hdec : kd (L f) r = ((L f).getD r default).k := rfl
    have hone : ∀ r', r' < (L f).length → ar (kd (L f) r') = 1 → nA (L f) r' ≠ [] ∧ 0 ≤ (nA (L f) r').getD 0 0 ∧ (nA (L f) r').getD 0 0 < r' := fun r' h1 h2 => by
      have hg' := hk.good r' h1
      have h3 := hg'.a
      have hne : nA (L f) r' ≠ [] := fun e => by
        rw [e] at h3
        have : ar ((L f).getD r' default).k = 1 := h2
        rw [this] at h3; simp at h3
      obtain ⟨_, a, b, _⟩ := hg'.args hne
      exact ⟨hne, a, b⟩
    have hkid : ∀ (v : Int) (τ : Store), 0 ≤ v → v < (L f).length → indexAddr PP 23 (.p (eFm f)) (.p (.int .i64 v)) = some (.pptr (eNds (L f)) (v.toNat * 3)) ∧ load1 (.pptr (eNds (L f)) (v.toNat * 3)) τ = some (.p (.int .i64 (kd (L f) v.toNat))) ∧ load1 (.pptr (eNds (L f)) (v.toNat * 3 + 2)) τ = some (.p (eSl ((L f).getD v.toNat default).a)) := fun v τ v0 v1 => by
      have i1 := idx23 (f := f) (i := v.toNat) (by omega)
      rw [Int.toNat_of_nonneg v0] at i1
      exact ⟨i1, nd_k (by omega) τ, nd_a (by omega) τ⟩
    generalize hx : (L f).getD r default = x at *
    have ha : L x.a = nA (L f) r := by rw [← hx]; rfl
    have st := st67 (σ := []) (lo := 0) (z := [.p (pI 0), .p (pI 0), .p .nilsl]) x rfl (Nat.zero_le _)
    rw [List.length_nil, List.nil_append] at st
    have g : ([Row.mix (ndD x)] : Store)[0]? = some (.mix (ndD x)) := rfl
    refine pureV_free (by simp only [List.map_cons, List.map_nil, fm_view, sl_view]; rfl) rfl (F115_call (r := (.p (.bool (gR (L f) (L o) (m + 1) r)), [.mix (ndD x)])) ?_) rfl
    have hL := L115 hf hk hx hr hrec _ 0 [.mix (ndD x)] rfl (Nat.zero_le _) g
    rw [List.drop_zero] at hL
    rw [F115_eq]
    unfold gR
    rw [hdec, hx]
    by_cases k1 : x.k = 1
    · rw [if_pos k1]
      simp (disch := omega) only [N, idx23 hr, gG, load67, hnd, zero67, List.length_nil, List.nil_append, st, fa67_0, fa67_1, shift_ptr, shift_pptr, Nat.zero_add, Nat.add_zero, pureFn_fn, List.append_nil, List.singleton_append, List.cons_append, List.nil_append, load3, row_k g, row_n g, b_eql, eqT k1, S95 (show (L o).length ≤ 100000 by omega)]
    · rw [if_neg k1]
      by_cases e7 : x.k = 7
      · have e6 : ¬ x.k = 6 := by omega
        have har : ar (kd (L f) r) = 1 := by rw [hdec, e7]; rfl
        obtain ⟨hne, a0, a1⟩ := hone r hr har
        have hp := List.length_pos_iff.2 hne
        have i1 := (PL.sl x.a).idx (i := 0) (by rw [ha]; exact hp)
        have l1 := fun σ => load1_getD (l := nA (L f) r) hp σ
        have z0 : (.p (.int .i64 ((0 : Nat) : Int)) : DV) = .p (.int .i64 0) := rfl
        rw [z0, ha] at i1
        obtain ⟨q1, q2, _⟩ := hkid _ [Row.mix (ndD x)] a0 (by omega)
        have hc6 : c6 (L f) r = false := by unfold c6; rw [hdec, decide_eq_false e6]; rfl
        by_cases e1 : kd (L f) ((nA (L f) r).getD 0 0).toNat = 1
        · have hc7 : c7 (L f) r = true := by unfold c7; rw [hdec, decide_eq_true e7, decide_eq_true e1]; rfl
          rw [if_pos hc7]
          simp (disch := omega) only [N, idx23 hr, gG, load67, hnd, zero67, List.length_nil, List.nil_append, st, fa67_0, fa67_2, shift_ptr, shift_pptr, Nat.zero_add, Nat.add_zero, pureFn_fn, List.append_nil, List.singleton_append, List.cons_append, List.nil_append, load3, row_k g, load24, row_a g, b_eql, eqF k1, eqT e7, i1, l1, q1, q2, eqT e1]
        · have hc7 : ¬ c7 (L f) r = true := by unfold c7; rw [hdec, decide_eq_false e1, Bool.and_false]; simp
          rw [if_neg hc7, hc6, if_neg (by simp)]
          simp (disch := omega) only [N, idx23 hr, gG, load67, hnd, zero67, List.length_nil, List.nil_append, st, fa67_0, fa67_2, shift_ptr, shift_pptr, Nat.zero_add, Nat.add_zero, pureFn_fn, List.append_nil, List.singleton_append, List.cons_append, List.nil_append, load3, row_k g, load24, row_a g, b_eql, eqF k1, eqT e7, i1, l1, q1, q2, eqF e1, eqF e6]
          exact hL
      · have hc7 : ¬ c7 (L f) r = true := by unfold c7; rw [hdec, decide_eq_false e7, Bool.false_and]; simp
        rw [if_neg hc7]
        by_cases e6 : x.k = 6
        · have har : ar (kd (L f) r) = 1 := by rw [hdec, e6]; rfl
          obtain ⟨hne, a0, a1⟩ := hone r hr har
          have hp := List.length_pos_iff.2 hne
          have i1 := (PL.sl x.a).idx (i := 0) (by rw [ha]; exact hp)
          have l1 := fun σ => load1_getD (l := nA (L f) r) hp σ
          have z0 : (.p (.int .i64 ((0 : Nat) : Int)) : DV) = .p (.int .i64 0) := rfl
          rw [z0, ha] at i1
          obtain ⟨q1, q2, q3⟩ := hkid _ [Row.mix (ndD x)] a0 (by omega)
          by_cases e2 : kd (L f) ((nA (L f) r).getD 0 0).toNat = 2
          · have hr2 : ((nA (L f) r).getD 0 0).toNat < (L f).length := by omega
            obtain ⟨hne2, b0, b1⟩ := hone _ hr2 (by rw [e2]; rfl)
            have hp2 := List.length_pos_iff.2 hne2
            have ha2 : L ((L f).getD ((nA (L f) r).getD 0 0).toNat default).a = nA (L f) ((nA (L f) r).getD 0 0).toNat := rfl
            have i2 := (PL.sl ((L f).getD ((nA (L f) r).getD 0 0).toNat default).a).idx (i := 0) (by rw [ha2]; exact hp2)
            have l2 := fun σ => load1_getD (l := nA (L f) ((nA (L f) r).getD 0 0).toNat) hp2 σ
            rw [z0, ha2] at i2
            obtain ⟨s1, s2, _⟩ := hkid _ [Row.mix (ndD x)] b0 (by omega)
            by_cases e1 : kd (L f) ((nA (L f) ((nA (L f) r).getD 0 0).toNat).getD 0 0).toNat = 1
            · have hc6 : c6 (L f) r = true := by unfold c6; rw [hdec, decide_eq_true e6, decide_eq_true e2, decide_eq_true e1]; rfl
              rw [if_pos hc6]
              simp (disch := omega) only [N, idx23 hr, gG, load67, hnd, zero67, List.length_nil, List.nil_append, st, fa67_0, fa67_2, shift_ptr, shift_pptr, Nat.zero_add, Nat.add_zero, pureFn_fn, List.append_nil, List.singleton_append, List.cons_append, List.nil_append, load3, row_k g, load24, row_a g, b_eql, eqF k1, eqF e7, eqT e6, i1, l1, q1, q2, q3, eqT e2, i2, l2, s1, s2, eqT e1]
            · have hc6 : ¬ c6 (L f) r = true := by unfold c6; rw [decide_eq_false e1, Bool.and_false]; simp
              rw [if_neg hc6]
              simp (disch := omega) only [N, idx23 hr, gG, load67, hnd, zero67, List.length_nil, List.nil_append, st, fa67_0, fa67_2, shift_ptr, shift_pptr, Nat.zero_add, Nat.add_zero, pureFn_fn, List.append_nil, List.singleton_append, List.cons_append, List.nil_append, load3, row_k g, load24, row_a g, b_eql, eqF k1, eqF e7, eqT e6, i1, l1, q1, q2, q3, eqT e2, i2, l2, s1, s2, eqF e1]
              exact hL
          · have hc6 : ¬ c6 (L f) r = true := by unfold c6; rw [decide_eq_false e2, Bool.and_false, Bool.false_and]; simp
            rw [if_neg hc6]
            simp (disch := omega) only [N, idx23 hr, gG, load67, hnd, zero67, List.length_nil, List.nil_append, st, fa67_0, fa67_2, shift_ptr, shift_pptr, Nat.zero_add, Nat.add_zero, pureFn_fn, List.append_nil, List.singleton_append, List.cons_append, List.nil_append, load3, row_k g, load24, row_a g, b_eql, eqF k1, eqF e7, eqT e6, i1, l1, q1, q2, eqF e2]
            exact hL
        · have hc6 : ¬ c6 (L f) r = true := by unfold c6; rw [hdec, decide_eq_false e6]; simp
          rw [if_neg hc6]
          simp (disch := omega) only [N, idx23 hr, gG, load67, hnd, zero67, List.length_nil, List.nil_append, st, fa67_0, fa67_2, shift_ptr, shift_pptr, Nat.zero_add, Nat.add_zero, pureFn_fn, List.append_nil, List.singleton_append, List.cons_append, List.nil_append, load3, row_k g, load24, row_a g, b_eql, eqF k1, eqF e7, eqF e6]
          exact hL
theorem S54 (σ : Store) : pureV CC 54 [.p (eFm f), .p (eSl o)] σ = some (.p (.bool (gR (L f) (L o) (L f).length ((L f).length - 1)))) := by
  have hp := hk.pos
  have hle := hk.le
  have h := S115 hf hk ho (L f).length ((L f).length - 1) (by omega) (by omega) []
  refine pureV_free (by simp only [List.map_cons, List.map_nil, fm_view, sl_view]) rfl (F54_call (r := (.p (.bool (gR (L f) (L o) (L f).length ((L f).length - 1))), [])) ?_) rfl
  simp only [N] at h
  rw [F54_eq]
  simp (disch := omega) only [len23, N, gG, sub1, shift_ptr, shift_pptr, Nat.zero_add, Nat.add_zero, pureFn_fn, List.append_nil, List.singleton_append, List.cons_append, List.nil_append, h]
end
end Go.D
end
/- Chapter 13: IsGuarded of the program: whose operand each node is. -/
section
set_option linter.unusedVariables false
set_option linter.unusedSimpArgs false
set_option maxRecDepth 8000
namespace Go.D
open Las
namespace Las
def upd (U : List Int) (i : Nat) : List Int → List Int
  | [] => U
  | v :: us => upd (U.set v.toNat (i : Nat)) i us
def UpTo (F : List Nd) (i : Nat) (U : List Int) : Prop := U.length = F.length ∧ ∀ c, c < F.length → (∀ r, r < i → chd F r c → U.getD c 0 = r) ∧ ((∀ r, r < i → ¬ chd F r c) → U.getD c 0 = -1)
end Las
section
variable {f : Fm} (hf : FSm f) (hk : Ok (L f)) {u : Nat} (hu : 0 < u)
include hf hk hu
end
end Go.D
end
/- Chapter 13: IsGuarded of the program. -/
section
set_option linter.unusedVariables false
set_option linter.unusedSimpArgs false
set_option maxRecDepth 8000
namespace Go.D
open Las
namespace Las
theorem UpTo.cases {F : List Nd} {U : List Int} (hu : UpTo F F.length U) {c : Nat} (hc : c < F.length) : (∃ p, p < F.length ∧ chd F p c ∧ U.getD c 0 = p) ∨ ((∀ p, p < F.length → ¬ chd F p c) ∧ U.getD c 0 = -1) := by
  obtain ⟨h1, h2⟩ := hu.2 c hc
  by_cases h : ∃ p, p < F.length ∧ chd F p c
  · obtain ⟨p, p1, p2⟩ := h
    exact .inl ⟨p, p1, p2, h1 p p1 p2⟩
  · have h' : ∀ p, p < F.length → ¬ chd F p c := fun p p1 p2 => h ⟨p, p1, p2⟩
    exact .inr ⟨h', h2 h'⟩
end Las
end Go.D
end
/- Chapter 13: IsGuarded of the program; LassoGuards' law. -/
section
set_option linter.unusedVariables false
set_option linter.unusedSimpArgs false
set_option maxRecDepth 8000
namespace Go.D
open Las
section
variable {f : Fm} (hk : Ok (L f)) {u : Nat} {U : List Int} (hU : UpTo (L f) (L f).length U)
include hk hU
end
end Go.D
end
/- Chapter 13: LassoGuards' law. -/
section
set_option linter.unusedVariables false
set_option linter.unusedSimpArgs false
set_option maxRecDepth 8000
namespace Go.D
open Las
theorem b_eqB' (a b : Bool) : binOp PP .eql 4 (.p (.bool a)) (.p (.bool b)) = some (.p (.bool (a == b))) := Eq.trans (by kernel_rfl) rfl
theorem ex20 (a b : DV) : extractV (.tuple [a, b]) 0 = some a := rfl
theorem ex21 (a b : DV) : extractV (.tuple [a, b]) 1 = some b := rfl
end Go.D
end
/- Chapter 13: LassoBehaviours' law. -/
section
set_option linter.unusedVariables false
set_option linter.unusedSimpArgs false
set_option maxRecDepth 8000
namespace Go.D
open Las
theorem lsOk {x : Lb} {w : Wd} (h : (chkLs x w).2 = 0) : LbOk x ∧ 0 < (L w.l).length ∧ (L w.p).length + (L w.l).length ≤ 60 ∧ (∀ i, i < (L w.p ++ L w.l).length → 0 ≤ (L w.p ++ L w.l).getD i 0 ∧ (L w.p ++ L w.l).getD i 0 < x.g.n) ∧
    ((L w.p ++ L w.l).getD 0 0 ∈ L x.g.init) ∧ ∀ i, i < (L w.p ++ L w.l).length → prm x ((L w.p ++ L w.l).getD i 0) ((L w.p ++ L w.l).getD (nx (L w.p ++ L w.l).length (L w.p).length i) 0) = true := by
  unfold chkLs at h
  by_cases h1 : (chkLb x).2 = 0
  · rw [if_pos h1] at h
    by_cases h2 : L w.l = []
    · rw [if_pos h2] at h; exact absurd h (by decide)
    · rw [if_neg h2] at h
      have hp := List.length_pos_iff.2 h2
      by_cases h3 : (L w.p).length + (L w.l).length > 60
      · rw [if_pos h3] at h; exact absurd h (by decide)
      · rw [if_neg h3] at h
        obtain ⟨h4, h5⟩ := scnP_zero (by decide) _ _ h
        have h6 : decide ((L w.p ++ L w.l).getD 0 0 ∈ L x.g.init) = true := by
          cases hd : decide ((L w.p ++ L w.l).getD 0 0 ∈ L x.g.init) with
          | true => rfl
          | false => rw [hd, if_pos rfl] at h4; exact absurd h4 (by decide)
        rw [h6, if_neg (by simp)] at h4
        obtain ⟨_, h7⟩ := scnP_zero (by decide) _ _ h4
        refine ⟨lbOk h1, hp, by omega, fun i hi => ?_, decide_eq_true_iff.1 h6, fun i hi => ?_⟩
        · have := h5 i (Nat.zero_le _) (by omega)
          unfold badZ at this
          rw [Bool.not_eq_false'] at this
          have := (inR_iff _ _ _).1 this
          omega
        · have := h7 i (Nat.zero_le _) (by omega)
          unfold badT at this
          rwa [Bool.not_eq_false'] at this
  · rw [if_neg h1] at h
    exact absurd h h1
section
variable {x : Lb} (hx : LSm x) {w : Wd} (hl : (L w.p).length + (L w.l).length ≤ 1000)
include hx hl
theorem S116 (σ : Store) : pureV CC 116 [vLb x, vWd w] σ = some (.p (.int .i64 (chkLs x w).2)) := by
  refine pureV_free (by simp only [List.map_cons, List.map_nil, lb_view, wd_view]) rfl (F116_call (r := (.p (.int .i64 (chkLs x w).2), [])) ?_) rfl
  have h := fun σ => S41 hx hl σ
  rw [F116_eq]
  simp only [box_lb, box_wd, gG, load47, lb_all, load52, ws_all, shift_ptr, shift_pptr, Nat.zero_add, Nat.add_zero, pureFn_fn, List.append_nil, List.singleton_append, List.cons_append, List.nil_append, h, px0, px1]
theorem S57 (σ : Store) : pureV CC 57 [vLb x, vWd w] σ = some (.p (.int .i64 (chkLs x w).2)) := by
  refine pureV_free (by simp only [List.map_cons, List.map_nil, lb_view, wd_view]) rfl (F57_call (r := (.p (.int .i64 (chkLs x w).2), [])) ?_) rfl
  have h := fun σ => S43 hx hl σ
  rw [F57_eq]
  simp only [box_lb, box_wd, gG, load47, lb_all, load52, ws_all, shift_ptr, shift_pptr, Nat.zero_add, Nat.add_zero, pureFn_fn, List.append_nil, List.singleton_append, List.cons_append, List.nil_append, h, px0, px1]
theorem S56 (σ : Store) : pureV CC 56 [vLb x, vWd w] σ = some (.tuple [.p (.bool (decide ((chkLs x w).2 = 0) && isF x (L w.l))), .p (.int .i64 (chkLs x w).2)]) := by
  refine pureV_free (by simp only [List.map_cons, List.map_nil, lb_view, wd_view]) rfl (F56_call (r := (.tuple [.p (.bool (decide ((chkLs x w).2 = 0) && isF x (L w.l))), .p (.int .i64 (chkLs x w).2)], [])) ?_) rfl
  have h := fun σ => S116 hx hl σ
  have h2 := fun σ => S118 hx (Q := L w.l) (by omega) (RL.sl σ w.p) (RL.sl σ w.l)
  have ev : vWd w = .agg [.p (eSl w.p), .p (eSl w.l)] := rfl
  simp only [← ev] at h2
  rw [F56_eq]
  by_cases e : (chkLs x w).2 = 0
  · simp only [box_lb, box_wd, gG, load47, lb_all, load52, ws_all, shift_ptr, shift_pptr, Nat.zero_add, Nat.add_zero, pureFn_fn, List.append_nil, List.singleton_append, List.cons_append, List.nil_append, h, b_neq, eqT e, h2, decide_eq_true e, Bool.true_and]
    rw [e]
  · simp only [box_lb, box_wd, gG, load47, lb_all, load52, ws_all, shift_ptr, shift_pptr, Nat.zero_add, Nat.add_zero, pureFn_fn, List.append_nil, List.singleton_append, List.cons_append, List.nil_append, h, b_neq, eqF e, decide_eq_false e, Bool.false_and]
theorem S55 (σ : Store) : ∃ u : Wd, pureV CC 55 [vLb x, vWd w] σ = some (.tuple [vWd u, .p (.int .i64 (chkLs x w).2)]) ∧ ((chkLs x w).2 ≠ 0 → u = W0) ∧
    ((chkLs x w).2 = 0 → L u.p = (wl x (L w.p ++ L w.l) (L w.p).length).take (L w.p).length ∧ L u.l = (wl x (L w.p ++ L w.l) (L w.p).length).drop (L w.p).length) := by
  have h := fun σ => S116 hx hl σ
  have g0 : ([Row.mix [.p .nilsl, .p .nilsl]] : Store)[0]? = some (.mix [.p .nilsl, .p .nilsl]) := rfl
  have ev : vWd w = .agg [.p (eSl w.p), .p (eSl w.l)] := rfl
  by_cases e : (chkLs x w).2 = 0
  · obtain ⟨hk, h0, _, hin, _, _⟩ := lsOk e
    obtain ⟨u, u1, u2, u3⟩ := S117 hx hk (P := L w.p) (Q := L w.l) hl h0 hin (σ := [.mix [.p .nilsl, .p .nilsl]]) (RL.sl _ w.p) (RL.sl _ w.l)
    rw [← ev] at u1
    have sw := st_wd (lo := 0) u g0 (Nat.zero_le _) rfl
    have cw := ce_wd (σ := [.mix [.p .nilsl, .p .nilsl]]) (r := 0) u (by simp)
    refine ⟨u, ?_, fun hne => absurd e hne, fun _ => ⟨u2, u3⟩⟩
    rw [e]
    refine pureV_free (by simp only [List.map_cons, List.map_nil, lb_view, wd_view]) rfl (F55_call (r := (.tuple [vWd u, .p (.int .i64 0)], ([Row.mix [.p .nilsl, .p .nilsl]] : Store).set 0 (.mix [.p (eSl u.p), .p (eSl u.l)]))) ?_) (thaw_we u 0 0 _)
    rw [F55_eq]
    simp only [box_lb, box_wd, gG, zero26, List.length_nil, List.nil_append, load47, lb_all, load52, ws_all, shift_ptr, shift_pptr, Nat.zero_add, Nat.add_zero, pureFn_fn, List.append_nil, List.singleton_append, List.cons_append, List.nil_append, h, b_neq, eqT e, u1, sw, cw]
  · have sw := st_wd (lo := 0) W0 g0 (Nat.zero_le _) rfl
    have cw := ce_wd (σ := [.mix [.p .nilsl, .p .nilsl]]) (r := 0) W0 (by simp)
    refine ⟨W0, ?_, fun _ => rfl, fun h2 => absurd h2 e⟩
    refine pureV_free (by simp only [List.map_cons, List.map_nil, lb_view, wd_view]) rfl (F55_call (r := (.tuple [vWd W0, .p (.int .i64 (chkLs x w).2)], ([Row.mix [.p .nilsl, .p .nilsl]] : Store).set 0 (.mix [.p (eSl W0.p), .p (eSl W0.l)]))) ?_) (thaw_we W0 _ 0 _)
    rw [F55_eq]
    simp only [box_lb, box_wd, gG, zero26, List.length_nil, List.nil_append, load47, lb_all, load52, ws_all, shift_ptr, shift_pptr, Nat.zero_add, Nat.add_zero, pureFn_fn, List.append_nil, List.singleton_append, List.cons_append, List.nil_append, h, b_neq, eqF e, bld26_0, sw, cw]
end
theorem lt2_own (x : Lb) (s : Int) : ∀ (k i : Nat) (c : Int), lt2 (ownX x) s i k c = lt2 x s i k c
  | 0, _, _ => rfl
  | k + 1, i, c => by
    unfold lt2
    rw [lt2_own x s k]
    rfl
theorem ltr_own (x : Lb) (s t : Int) : ltr (ownX x) s t = ltr x s t := by
  unfold ltr
  rw [lt2_own]
  rfl
theorem wl_own (x : Lb) (A : List Int) (b : Nat) : wl (ownX x) A b = wl x A b := by
  unfold wl
  exact List.map_congr_left fun i _ => ltr_own x _ _
end Go.D
end
/- Chapter 13: the forms of a right word are right. Plain Lean. -/
section
set_option linter.unusedVariables false
set_option linter.unusedSimpArgs false
namespace Go.D
namespace Las
theorem wErr_mk {P Q : List Int} (h1 : Q ≠ []) (h2 : P.length + Q.length ≤ 60) (h3 : ∀ v ∈ P, oddB v = false) (h4 : ∀ v ∈ Q, oddB v = false) : wErr P Q = 0 := by
  have := List.length_pos_iff.2 h1
  unfold wErr
  rw [if_neg (by omega), if_neg (by omega), if_neg]
  rw [Bool.not_eq_true, Bool.or_eq_false_iff, List.any_eq_false, List.any_eq_false]
  exact ⟨fun v hv => by rw [h3 v hv]; simp, fun v hv => by rw [h4 v hv]; simp⟩
theorem hOn_ok {F : List Nd} {P Q : List Int} (hk : Ok F) (hw : wErr P Q = 0) : hOn F P Q = .tuple [.p (.bool (sem (atW P Q) F 0)), .p (.int .i64 0)] := by
  have hq := List.length_pos_iff.2 (wErr_zero hw).1
  have hb : bErr F P Q = 0 := by unfold bErr; rw [if_pos (ok_chk hk), hw]
  unfold hOn
  rw [hb, decide_eq_true rfl, Bool.true_and, says_sem hk hq]
end Las
end Go.D
end
/- Equations of functions 6, 36, 37, 38, printed by gen.py. -/
section
set_option linter.unusedVariables false
set_option maxRecDepth 10000
namespace Go.D
open Go.Proofs
open _root_.Go.D.Code (fstC sndC)
open _root_.Go.D.Ann (left right)
end Go.D
end
/- Chapter 13: Join of the reference. -/
section
set_option linter.unusedVariables false
set_option linter.unusedSimpArgs false
set_option maxRecDepth 8000
namespace Go.D
open Las
theorem Others.low {σ σ' : Store} {lo sz n : Nat} {cs : List PV} {x : DV} (h : Others σ σ' x) (ho : Out σ lo sz n cs x) {r : Nat} {row : Row} (hr : r < lo) (hi : σ[r]? = some row) : σ'[r]? = some row := by
  refine h r row hi ?_
  rintro r' ver sz' n' cs' rfl
  rcases ho.2 with ⟨_, h2⟩ | ⟨_, r2, ver2, h2, _, h3⟩
  · cases h2
  · injection h2 with e1
    omega
theorem Ap.push {σ : Store} {lo sz sz' n n' : Nat} {cs : List PV} {x x' y : DV} (hy : Out σ lo sz' n' cs y) (ha : Ap y x) (hx : ∃ r v c, x' = .osl r v sz (n + 1) c ∧ ((x = .p .nilsl ∧ r = σ.length) ∨ ∃ v0 c0, x = .osl r v0 sz n c0)) : Ap y x' := by
  intro r ver s m c r' ver' s' m' c' ey ex
  obtain ⟨r1, v1, c1, e1, h⟩ := hx
  rw [e1] at ex
  injection ex with ex
  rcases h with ⟨_, h⟩ | ⟨v0, c0, h⟩
  · rcases hy.2 with ⟨_, e⟩ | ⟨_, r2, v2, e, k1, _⟩
    · rw [e] at ey; cases ey
    · rw [e] at ey
      injection ey with ey
      have := get_lt k1
      omega
  · rw [← ex]
    exact ha _ _ _ _ _ _ _ _ _ _ ey h
theorem Out.low {σ σ' : Store} {lo sz n : Nat} {cs : List PV} {x : DV} (h : Out σ lo sz n cs x) (hk : ∀ (r v : Nat), σ[r]? = some (Row.tok v) → σ'[r]? = some (Row.tok v)) : Out σ' lo sz n cs x := by
  obtain ⟨h1, h2⟩ := h
  refine ⟨h1, ?_⟩
  rcases h2 with h2 | ⟨h0, r', v, h2, h3, h4⟩
  · exact .inl h2
  · exact .inr ⟨h0, r', v, h2, hk _ _ h3, h4⟩
theorem u64 : PP.underlying 64 = some (.slice 23) := Eq.trans (by kernel_rfl) rfl
section
variable {x0 x1 : DV}
end
theorem ok_args {F : List Nd} (h : Ok F) : ∀ j, j < F.length → (nA F j).length ≤ 1000 ∧ ∀ i, i < (nA F j).length → 0 ≤ (nA F j).getD i 0 ∧ (nA F j).getD i 0 ≤ 1000 := fun j hj => by
  have hg := h.good j hj
  have hl := h.le
  have h2 : ((nA F j).length : Int) ≤ 2 := by
    rw [hg.a]; unfold ar
    split
    · decide
    · split <;> decide
  refine ⟨by omega, fun i hi => ?_⟩
  have := stB_in _ _ _ hg.st i hi
  omega
end Go.D
end
/- Chapter 13: truths of the reference, node by node. -/
section
set_option linter.unusedVariables false
set_option linter.unusedSimpArgs false
set_option maxRecDepth 8000
namespace Go.D
open Las
section
variable {w : Wd} (hw : WOk (L w.p) (L w.l)) {x : Nd} (hk : inR x.k 0 9 = true) (hbad : bad x = false) {a b : NB} {x10 x11 : DV}
variable (h1 : ar x.k ≠ 0 → x10 = BV (tab ((L w.p).length + (L w.l).length) a)) (h2 : ar x.k = 2 → x11 = BV (tab ((L w.p).length + (L w.l).length) b))
include hw hk hbad h1 h2
end
end Go.D
end
/- Chapter 13: LassoTruths' law. -/
section
set_option linter.unusedVariables false
set_option linter.unusedSimpArgs false
set_option maxRecDepth 8000
namespace Go.D
open Las
section
variable {f : Fm} {w : Wd} (hf : FSm f) (hk : Ok (L f)) (hw : WOk (L w.p) (L w.l))
include hf hk hw
end
theorem tvK_own (g : Int → Int → NB → NB → NB) (F : List Nd) : ∀ (k r : Nat), tvK g (F.map ownN) k r = tvK g F k r
  | 0, r => rfl
  | k + 1, r => by
    unfold tvK
    rw [nA_own, (own_get F r).2.1, (own_get F r).2.2, tvK_own g F k, tvK_own g F k]
theorem says_own (F : List Nd) (P Q : List Int) : says (F.map ownN) P Q = says F P Q := by unfold says tv; rw [tvK_own, List.length_map]
theorem bErr_own (F : List Nd) (P Q : List Int) : bErr (F.map ownN) P Q = bErr F P Q := by unfold bErr; rw [chk_own]
theorem hOn_own (F : List Nd) (P Q : List Int) : hOn (F.map ownN) P Q = hOn F P Q := by unfold hOn; rw [bErr_own, says_own]
end Go.D
end
/- Equations of functions 11, 61, printed by gen.py. -/
section
set_option linter.unusedVariables false
set_option maxRecDepth 10000
namespace Go.D
open Go.Proofs
noncomputable section
variable (G : GuardT) (lo : Nat) {σ : Store} {r : DV × Store}
open _root_.Go.D.Code (fstC sndC)
open _root_.Go.D.Ann (left right)
def c11_0 : Code := bodyOf Tryz.f11
def a11_0 : Ann := (pol 11).ann
def a11_23 : Ann := right (left (right (right (right (right a11_0)))))
def a11_24 : Ann := left a11_23
def c11_25 : Code := fstC (fstC (sndC (fstC (sndC (sndC (sndC (sndC c11_0)))))))
def a11_32 : Ann := left (right (left a11_24))
def c11_39 : Code := sndC (fstC (fstC (sndC c11_25)))
def a11_39 : Ann := right (left a11_32)
def a11_42 : Ann := right (left a11_39)
def a11_43 : Ann := left a11_42
def c11_44 : Code := fstC (fstC (sndC (fstC c11_39)))
def c11_60 : Code := sndC c11_39
def a11_60 : Ann := right a11_39
def a11_62 : Ann := right a11_60
def a11_63 : Ann := left a11_62
def c11_64 : Code := fstC (fstC (sndC c11_60))
def c11_80 : Code := sndC (sndC c11_25)
def a11_80 : Ann := right (right (left a11_24))
def c11_81 : Code := sndC (sndC (sndC (sndC (sndC c11_0))))
def a11_81 : Ann := right (right (right (right (right a11_0))))
def a11_98 : Ann := right (left (right (right (right (right a11_81)))))
def a11_99 : Ann := left a11_98
def c11_100 : Code := fstC (fstC (sndC (fstC (sndC (sndC (sndC (sndC c11_81)))))))
def a11_107 : Ann := left (right (left a11_99))
def c11_115 : Code := sndC (sndC c11_100)
def a11_115 : Ann := right (right (left a11_99))
def c11_116 : Code := sndC (sndC (sndC (sndC (sndC c11_81))))
def a11_116 : Ann := right (right (right (right (right a11_81))))
def a11_119 : Ann := right (left a11_116)
def a11_120 : Ann := left a11_119
def c11_121 : Code := fstC (fstC (sndC (fstC c11_116)))
def a11_128 : Ann := left (right (left a11_120))
def c11_136 : Code := sndC (sndC c11_121)
def a11_136 : Ann := right (right (left a11_120))
def c11_137 : Code := sndC c11_116
def a11_137 : Ann := right a11_116
def f11_L0 (x1 x3 x5 x7 x8 : DV) (σ : Store) : RS :=
 codeF G PP (pol 11) CC lo (.loop c11_25) a11_24 (Z :: x1 :: Z :: x3 :: Z :: x5 :: Z :: x7 :: x8 :: zn 293 []) σ
 (blockC 0 a11_23 (seqC G PP (pol 11) CC lo c11_81 a11_81 (finR PP Tryz.f11.results.toList)))
def f11_J0_fr (x1 x3 x5 x7 x8 x64 x65 x66 x67 x68 x71 x72 x73 x74 x75 x76 x77 x78 x79 x80 x81 x82 x83 x84 : DV) : Frame := (Z :: x1 :: Z :: x3 :: Z :: x5 :: Z :: x7 :: x8 :: zn 55 (x64 :: x65 :: x66 :: x67 :: x68 :: Z :: Z :: x71 :: x72 :: x73 :: x74 :: x75 :: x76 :: x77 :: x78 :: x79 :: x80 :: x81 :: x82 :: x83 :: x84 :: zn 217 []))
def f11_J0 (x1 x3 x5 x7 x8 x64 x65 x66 x67 x68 x71 x72 x73 x74 x75 x76 x77 x78 x79 x80 x81 x82 x83 x84 : DV) (σ : Store) : RS :=
 (seqC G PP (pol 11) CC lo c11_39 a11_39 (blockC 1 a11_32 (seqC G PP (pol 11) CC lo c11_80 a11_80 (loopC G PP (pol 11) CC lo c11_25 a11_24 (blockC 0 a11_23 (seqC G PP (pol 11) CC lo c11_81 a11_81 (finR PP Tryz.f11.results.toList))))))) .normal (f11_J0_fr x1 x3 x5 x7 x8 x64 x65 x66 x67 x68 x71 x72 x73 x74 x75 x76 x77 x78 x79 x80 x81 x82 x83 x84) σ
def f11_L1 (x1 x3 x5 x7 x8 x9 : DV) (σ : Store) : RS :=
 codeF G PP (pol 11) CC lo (.loop c11_44) a11_43 (Z :: x1 :: Z :: x3 :: Z :: x5 :: Z :: x7 :: x8 :: x9 :: zn 292 []) σ
 (blockC 2 a11_42 (seqC G PP (pol 11) CC lo c11_60 a11_60 (blockC 1 a11_32 (seqC G PP (pol 11) CC lo c11_80 a11_80 (loopC G PP (pol 11) CC lo c11_25 a11_24 (blockC 0 a11_23 (seqC G PP (pol 11) CC lo c11_81 a11_81 (finR PP Tryz.f11.results.toList))))))))
def f11_L2 (x1 x3 x5 x7 x8 x10 : DV) (σ : Store) : RS :=
 codeF G PP (pol 11) CC lo (.loop c11_64) a11_63 (Z :: x1 :: Z :: x3 :: Z :: x5 :: Z :: x7 :: x8 :: Z :: x10 :: zn 291 []) σ
 (blockC 4 a11_62 (blockC 1 a11_32 (seqC G PP (pol 11) CC lo c11_80 a11_80 (loopC G PP (pol 11) CC lo c11_25 a11_24 (blockC 0 a11_23 (seqC G PP (pol 11) CC lo c11_81 a11_81 (finR PP Tryz.f11.results.toList)))))))
def f11_L3 (x1 x3 x11 x12 x13 x14 : DV) (σ : Store) : RS :=
 codeF G PP (pol 11) CC lo (.loop c11_100) a11_99 (Z :: x1 :: Z :: x3 :: zn 7 (x11 :: x12 :: x13 :: x14 :: zn 287 [])) σ
 (blockC 6 a11_98 (seqC G PP (pol 11) CC lo c11_116 a11_116 (finR PP Tryz.f11.results.toList)))
def f11_J1_fr (x1 x3 x11 x12 x13 x14 x153 x154 x155 x156 x157 x160 x161 x162 x163 x164 x165 x166 x167 x168 x169 x170 x171 x172 x173 x174 x175 x176 x177 x178 x179 x180 x181 x182 : DV) : Frame := (Z :: x1 :: Z :: x3 :: zn 7 (x11 :: x12 :: x13 :: x14 :: zn 138 (x153 :: x154 :: x155 :: x156 :: x157 :: Z :: Z :: x160 :: x161 :: x162 :: x163 :: x164 :: x165 :: x166 :: x167 :: x168 :: x169 :: x170 :: x171 :: x172 :: x173 :: x174 :: x175 :: x176 :: x177 :: x178 :: x179 :: x180 :: x181 :: x182 :: zn 119 [])))
def f11_J1 (x1 x3 x11 x12 x13 x14 x153 x154 x155 x156 x157 x160 x161 x162 x163 x164 x165 x166 x167 x168 x169 x170 x171 x172 x173 x174 x175 x176 x177 x178 x179 x180 x181 x182 : DV) (σ : Store) : RS :=
 (blockC 7 a11_107 (seqC G PP (pol 11) CC lo c11_115 a11_115 (loopC G PP (pol 11) CC lo c11_100 a11_99 (blockC 6 a11_98 (seqC G PP (pol 11) CC lo c11_116 a11_116 (finR PP Tryz.f11.results.toList)))))) .normal (f11_J1_fr x1 x3 x11 x12 x13 x14 x153 x154 x155 x156 x157 x160 x161 x162 x163 x164 x165 x166 x167 x168 x169 x170 x171 x172 x173 x174 x175 x176 x177 x178 x179 x180 x181 x182) σ
def f11_L4 (x1 x3 x11 x12 x13 x15 : DV) (σ : Store) : RS :=
 codeF G PP (pol 11) CC lo (.loop c11_121) a11_120 (Z :: x1 :: Z :: x3 :: zn 7 (x11 :: x12 :: x13 :: Z :: x15 :: zn 286 [])) σ
 (blockC 8 a11_119 (seqC G PP (pol 11) CC lo c11_137 a11_137 (finR PP Tryz.f11.results.toList)))
def f11_J2_fr (x1 x3 x11 x12 x13 x15 x183 x184 x185 x186 x187 x190 x191 x192 x193 x194 x195 x196 x197 x198 x199 x200 x201 x202 x203 x204 x205 x206 x207 x208 x209 x210 x211 x212 x213 x214 x215 x216 : DV) : Frame := (Z :: x1 :: Z :: x3 :: zn 7 (x11 :: x12 :: x13 :: Z :: x15 :: zn 167 (x183 :: x184 :: x185 :: x186 :: x187 :: Z :: Z :: x190 :: x191 :: x192 :: x193 :: x194 :: x195 :: x196 :: x197 :: x198 :: x199 :: x200 :: x201 :: x202 :: x203 :: x204 :: x205 :: x206 :: x207 :: x208 :: x209 :: x210 :: x211 :: x212 :: x213 :: x214 :: x215 :: x216 :: zn 85 [])))
def f11_J2 (x1 x3 x11 x12 x13 x15 x183 x184 x185 x186 x187 x190 x191 x192 x193 x194 x195 x196 x197 x198 x199 x200 x201 x202 x203 x204 x205 x206 x207 x208 x209 x210 x211 x212 x213 x214 x215 x216 : DV) (σ : Store) : RS :=
 (blockC 9 a11_128 (seqC G PP (pol 11) CC lo c11_136 a11_136 (loopC G PP (pol 11) CC lo c11_121 a11_120 (blockC 8 a11_119 (seqC G PP (pol 11) CC lo c11_137 a11_137 (finR PP Tryz.f11.results.toList)))))) .normal (f11_J2_fr x1 x3 x11 x12 x13 x15 x183 x184 x185 x186 x187 x190 x191 x192 x193 x194 x195 x196 x197 x198 x199 x200 x201 x202 x203 x204 x205 x206 x207 x208 x209 x210 x211 x212 x213 x214 x215 x216) σ
def F11 (x0 x1 x2 : DV) (σ : Store) : RS :=
 codeF G PP (pol 11) CC lo c11_0 a11_0 (x0 :: x1 :: x2 :: zn 299 []) σ (finR PP Tryz.f11.results.toList)
theorem f11_L0_eq (G : GuardT) (hG : GuardOk G) (lo : Nat) (x1 x3 x5 x7 x8 : DV) (σ : Store) : f11_L0 G lo x1 x3 x5 x7 x8 σ =
 (fieldAddr PP 47 x3 2).bind fun x65 =>
 (load PP 24 x65 σ).bind fun x66 =>
 (len PP 24 x66 σ).bind fun x67 =>
 (binOp PP .lss 3 x8 x67).bind fun x68 =>
 condK x68
 (
 (fieldAddr PP 47 x3 2).bind fun x71 =>
 (load PP 24 x71 σ).bind fun x72 =>
 (indexAddr PP 24 x72 x8).bind fun x74 =>
 (load PP 3 x74 σ).bind fun x75 =>
 (binOp PP .neq 3 x75 (DV.p (PV.int IntKind.i64 (-1)))).bind fun x76 =>
 condK x76
 (
 (fieldAddr PP 47 x3 2).bind fun x78 =>
 (load PP 24 x78 σ).bind fun x79 =>
 (indexAddr PP 24 x79 x8).bind fun x81 =>
 (load PP 3 x81 σ).bind fun x82 =>
 (buildSlice PP none 24 1 [(0, x82)] σ).bind fun r83_22 =>
 (append PP lo false 24 24 x7 r83_22.1 r83_22.2).bind fun r84_23 =>
 f11_J0 G lo x1 x3 x5 r84_23.1 x8 x8 x65 x66 x67 x68 x71 x72 x8 x74 x75 x76 x7 x78 x79 x8 x81 x82 r83_22.1 r84_23.1 r84_23.2
 )
 (
 f11_J0 G lo x1 x3 x5 x7 x8 x8 x65 x66 x67 x68 x71 x72 x8 x74 x75 x76 Z Z Z Z Z Z Z Z σ
 )
 )
 (
 (pureFn CC (DV.fn 54 []) [x1, x7] σ).bind fun x139 =>
 (unOp .not x139).bind fun x140 =>
 condK x140
 (
 some ((DV.p (PV.bool true)), σ)
 )
 (
 (fieldAddr PP 98 x5 0).bind fun x141 =>
 (load PP 52 x141 σ).bind fun x142 =>
 (zeroOf PP 52).bind fun z11 =>
 (store PP lo 52 (DV.ptr (List.length σ) 0) x142 (σ ++ [Row.mix z11])).bind fun σ46 =>
 (fieldAddr PP 98 x5 1).bind fun x143 =>
 (load PP 3 x143 σ46).bind fun x144 =>
 (fieldAddr PP 52 (DV.ptr (List.length σ) 0) 0).bind fun x145 =>
 (load PP 24 x145 σ46).bind fun x146 =>
 (len PP 24 x146 σ46).bind fun x147 =>
 (fieldAddr PP 52 (DV.ptr (List.length σ) 0) 1).bind fun x148 =>
 (load PP 24 x148 σ46).bind fun x149 =>
 (len PP 24 x149 σ46).bind fun x150 =>
 (binOp PP .add 3 x147 x150).bind fun x151 =>
 (pureFn CC (DV.fn 61 []) [x144, x151] σ46).bind fun x152 =>
 (zeroOf PP 52).bind fun z13 =>
 f11_L3 G lo x1 x3 (DV.ptr (List.length σ) 0) x152 (DV.ptr (List.length σ46) 0) I0 (σ46 ++ [Row.mix z13])
 )
 ) := (loopF_eq G hG).trans (by kernel_rfl)
theorem f11_J0_eq (G : GuardT) (lo : Nat) (x1 x3 x5 x7 x8 x64 x65 x66 x67 x68 x71 x72 x73 x74 x75 x76 x77 x78 x79 x80 x81 x82 x83 x84 : DV) (σ : Store) : f11_J0 G lo x1 x3 x5 x7 x8 x64 x65 x66 x67 x68 x71 x72 x73 x74 x75 x76 x77 x78 x79 x80 x81 x82 x83 x84 σ =
 f11_L1 G lo x1 x3 x5 x7 x8 I0 σ := by kernel_rfl
theorem f11_L1_eq (G : GuardT) (hG : GuardOk G) (lo : Nat) (x1 x3 x5 x7 x8 x9 : DV) (σ : Store) : f11_L1 G lo x1 x3 x5 x7 x8 x9 σ =
 (fieldAddr PP 47 x3 2).bind fun x86 =>
 (load PP 24 x86 σ).bind fun x87 =>
 (len PP 24 x87 σ).bind fun x88 =>
 (binOp PP .lss 3 x9 x88).bind fun x89 =>
 condK x89
 (
 (fieldAddr PP 47 x3 2).bind fun x92 =>
 (load PP 24 x92 σ).bind fun x93 =>
 (indexAddr PP 24 x93 x8).bind fun x95 =>
 (load PP 3 x95 σ).bind fun x96 =>
 (binOp PP .neq 3 x96 (DV.p (PV.int IntKind.i64 (-1)))).bind fun x97 =>
 G _ x97 true ((fieldAddr PP 47 x3 3).bind fun v => some (v, σ)) σ fun x99 σ24 =>
 G _ x97 true ((load PP 24 x99 σ24).bind fun v => some (v, σ24)) σ24 fun x100 σ25 =>
 G _ x97 true (some (x9, σ25)) σ25 fun x101 σ26 =>
 G _ x97 true ((indexAddr PP 24 x100 x101).bind fun v => some (v, σ26)) σ26 fun x102 σ27 =>
 G _ x97 true ((load PP 3 x102 σ27).bind fun v => some (v, σ27)) σ27 fun x103 σ28 =>
 G _ x97 true ((fieldAddr PP 47 x3 2).bind fun v => some (v, σ28)) σ28 fun x104 σ29 =>
 G _ x97 true ((load PP 24 x104 σ29).bind fun v => some (v, σ29)) σ29 fun x105 σ30 =>
 G _ x97 true (some (x8, σ30)) σ30 fun x106 σ31 =>
 G _ x97 true ((indexAddr PP 24 x105 x106).bind fun v => some (v, σ31)) σ31 fun x107 σ32 =>
 G _ x97 true ((load PP 3 x107 σ32).bind fun v => some (v, σ32)) σ32 fun x108 σ33 =>
 G _ x97 true ((binOp PP .eql 3 x103 x108).bind fun v => some (v, σ33)) σ33 fun x109 σ34 =>
 (pickV x97 x109 (DV.p (PV.bool false))).bind fun x110 =>
 condK x110
 (
 some ((DV.p (PV.bool true)), σ34)
 )
 (
 (binOp PP .add 3 x9 I1).bind fun x91 =>
 f11_L1 G lo x1 x3 x5 x7 x8 x91 σ34
 )
 )
 (
 f11_L2 G lo x1 x3 x5 x7 x8 I0 σ
 ) := (loopF_eq G hG).trans (by kernel_rfl)
theorem f11_L2_eq (G : GuardT) (hG : GuardOk G) (lo : Nat) (x1 x3 x5 x7 x8 x10 : DV) (σ : Store) : f11_L2 G lo x1 x3 x5 x7 x8 x10 σ =
 (fieldAddr PP 47 x3 1).bind fun x112 =>
 (load PP 24 x112 σ).bind fun x113 =>
 (len PP 24 x113 σ).bind fun x114 =>
 (binOp PP .lss 3 x10 x114).bind fun x115 =>
 condK x115
 (
 (fieldAddr PP 47 x3 2).bind fun x118 =>
 (load PP 24 x118 σ).bind fun x119 =>
 (indexAddr PP 24 x119 x8).bind fun x121 =>
 (load PP 3 x121 σ).bind fun x122 =>
 (binOp PP .neq 3 x122 (DV.p (PV.int IntKind.i64 (-1)))).bind fun x123 =>
 G _ x123 true ((fieldAddr PP 47 x3 1).bind fun v => some (v, σ)) σ fun x125 σ35 =>
 G _ x123 true ((load PP 24 x125 σ35).bind fun v => some (v, σ35)) σ35 fun x126 σ36 =>
 G _ x123 true (some (x10, σ36)) σ36 fun x127 σ37 =>
 G _ x123 true ((indexAddr PP 24 x126 x127).bind fun v => some (v, σ37)) σ37 fun x128 σ38 =>
 G _ x123 true ((load PP 3 x128 σ38).bind fun v => some (v, σ38)) σ38 fun x129 σ39 =>
 G _ x123 true ((fieldAddr PP 47 x3 2).bind fun v => some (v, σ39)) σ39 fun x130 σ40 =>
 G _ x123 true ((load PP 24 x130 σ40).bind fun v => some (v, σ40)) σ40 fun x131 σ41 =>
 G _ x123 true (some (x8, σ41)) σ41 fun x132 σ42 =>
 G _ x123 true ((indexAddr PP 24 x131 x132).bind fun v => some (v, σ42)) σ42 fun x133 σ43 =>
 G _ x123 true ((load PP 3 x133 σ43).bind fun v => some (v, σ43)) σ43 fun x134 σ44 =>
 G _ x123 true ((pureFn CC (DV.fn 60 []) [x129, x134] σ44).bind fun v => some (v, σ44)) σ44 fun x135 σ45 =>
 (pickV x123 x135 (DV.p (PV.bool false))).bind fun x136 =>
 condK x136
 (
 some ((DV.p (PV.bool true)), σ45)
 )
 (
 (binOp PP .add 3 x10 I1).bind fun x117 =>
 f11_L2 G lo x1 x3 x5 x7 x8 x117 σ45
 )
 )
 (
 (binOp PP .add 3 x8 I1).bind fun x70 =>
 f11_L0 G lo x1 x3 x5 x7 x70 σ
 ) := (loopF_eq G hG).trans (by kernel_rfl)
theorem f11_L3_eq (G : GuardT) (hG : GuardOk G) (lo : Nat) (x1 x3 x11 x12 x13 x14 : DV) (σ : Store) : f11_L3 G lo x1 x3 x11 x12 x13 x14 σ =
 (fieldAddr PP 52 x11 0).bind fun x154 =>
 (load PP 24 x154 σ).bind fun x155 =>
 (len PP 24 x155 σ).bind fun x156 =>
 (binOp PP .lss 3 x14 x156).bind fun x157 =>
 condK x157
 (
 (fieldAddr PP 52 x13 0).bind fun x160 =>
 (load PP 24 x160 σ).bind fun x161 =>
 (fieldAddr PP 52 x11 0).bind fun x162 =>
 (load PP 24 x162 σ).bind fun x163 =>
 (indexAddr PP 24 x163 x14).bind fun x165 =>
 (load PP 3 x165 σ).bind fun x166 =>
 (buildSlice PP none 24 1 [(0, x166)] σ).bind fun r167_47 =>
 (append PP lo false 24 24 x161 r167_47.1 r167_47.2).bind fun r168_48 =>
 (fieldAddr PP 52 x13 0).bind fun x169 =>
 (store PP lo 24 x169 r168_48.1 r168_48.2).bind fun σ49 =>
 (binOp PP .eql 3 x14 x12).bind fun x172 =>
 condK x172
 (
 (fieldAddr PP 52 x13 0).bind fun x173 =>
 (load PP 24 x173 σ49).bind fun x174 =>
 (fieldAddr PP 52 x11 0).bind fun x175 =>
 (load PP 24 x175 σ49).bind fun x176 =>
 (indexAddr PP 24 x176 x14).bind fun x178 =>
 (load PP 3 x178 σ49).bind fun x179 =>
 (buildSlice PP none 24 1 [(0, x179)] σ49).bind fun r180_50 =>
 (append PP lo false 24 24 x174 r180_50.1 r180_50.2).bind fun r181_51 =>
 (fieldAddr PP 52 x13 0).bind fun x182 =>
 (store PP lo 24 x182 r181_51.1 r181_51.2).bind fun σ52 =>
 f11_J1 G lo x1 x3 x11 x12 x13 x14 x14 x154 x155 x156 x157 x160 x161 x162 x163 x14 x165 x166 r167_47.1 r168_48.1 x169 x14 x12 x172 x173 x174 x175 x176 x14 x178 x179 r180_50.1 r181_51.1 x182 σ52
 )
 (
 f11_J1 G lo x1 x3 x11 x12 x13 x14 x14 x154 x155 x156 x157 x160 x161 x162 x163 x14 x165 x166 r167_47.1 r168_48.1 x169 x14 x12 x172 Z Z Z Z Z Z Z Z Z Z σ49
 )
 )
 (
 f11_L4 G lo x1 x3 x11 x12 x13 I0 σ
 ) := (loopF_eq G hG).trans (by kernel_rfl)
theorem f11_J1_eq (G : GuardT) (lo : Nat) (x1 x3 x11 x12 x13 x14 x153 x154 x155 x156 x157 x160 x161 x162 x163 x164 x165 x166 x167 x168 x169 x170 x171 x172 x173 x174 x175 x176 x177 x178 x179 x180 x181 x182 : DV) (σ : Store) : f11_J1 G lo x1 x3 x11 x12 x13 x14 x153 x154 x155 x156 x157 x160 x161 x162 x163 x164 x165 x166 x167 x168 x169 x170 x171 x172 x173 x174 x175 x176 x177 x178 x179 x180 x181 x182 σ =
 (binOp PP .add 3 x14 I1).bind fun x159 =>
 f11_L3 G lo x1 x3 x11 x12 x13 x159 σ := by kernel_rfl
theorem f11_L4_eq (G : GuardT) (hG : GuardOk G) (lo : Nat) (x1 x3 x11 x12 x13 x15 : DV) (σ : Store) : f11_L4 G lo x1 x3 x11 x12 x13 x15 σ =
 (fieldAddr PP 52 x11 1).bind fun x184 =>
 (load PP 24 x184 σ).bind fun x185 =>
 (len PP 24 x185 σ).bind fun x186 =>
 (binOp PP .lss 3 x15 x186).bind fun x187 =>
 condK x187
 (
 (fieldAddr PP 52 x13 1).bind fun x190 =>
 (load PP 24 x190 σ).bind fun x191 =>
 (fieldAddr PP 52 x11 1).bind fun x192 =>
 (load PP 24 x192 σ).bind fun x193 =>
 (indexAddr PP 24 x193 x15).bind fun x195 =>
 (load PP 3 x195 σ).bind fun x196 =>
 (buildSlice PP none 24 1 [(0, x196)] σ).bind fun r197_53 =>
 (append PP lo false 24 24 x191 r197_53.1 r197_53.2).bind fun r198_54 =>
 (fieldAddr PP 52 x13 1).bind fun x199 =>
 (store PP lo 24 x199 r198_54.1 r198_54.2).bind fun σ55 =>
 (fieldAddr PP 52 x11 0).bind fun x201 =>
 (load PP 24 x201 σ55).bind fun x202 =>
 (len PP 24 x202 σ55).bind fun x203 =>
 (binOp PP .add 3 x15 x203).bind fun x204 =>
 (binOp PP .eql 3 x204 x12).bind fun x206 =>
 condK x206
 (
 (fieldAddr PP 52 x13 1).bind fun x207 =>
 (load PP 24 x207 σ55).bind fun x208 =>
 (fieldAddr PP 52 x11 1).bind fun x209 =>
 (load PP 24 x209 σ55).bind fun x210 =>
 (indexAddr PP 24 x210 x15).bind fun x212 =>
 (load PP 3 x212 σ55).bind fun x213 =>
 (buildSlice PP none 24 1 [(0, x213)] σ55).bind fun r214_56 =>
 (append PP lo false 24 24 x208 r214_56.1 r214_56.2).bind fun r215_57 =>
 (fieldAddr PP 52 x13 1).bind fun x216 =>
 (store PP lo 24 x216 r215_57.1 r215_57.2).bind fun σ58 =>
 f11_J2 G lo x1 x3 x11 x12 x13 x15 x15 x184 x185 x186 x187 x190 x191 x192 x193 x15 x195 x196 r197_53.1 r198_54.1 x199 x15 x201 x202 x203 x204 x12 x206 x207 x208 x209 x210 x15 x212 x213 r214_56.1 r215_57.1 x216 σ58
 )
 (
 f11_J2 G lo x1 x3 x11 x12 x13 x15 x15 x184 x185 x186 x187 x190 x191 x192 x193 x15 x195 x196 r197_53.1 r198_54.1 x199 x15 x201 x202 x203 x204 x12 x206 Z Z Z Z Z Z Z Z Z Z σ55
 )
 )
 (
 (load PP 47 x3 σ).bind fun x218 =>
 (pureFn CC (DV.fn 28 []) [x218] σ).bind fun x219 =>
 (load PP 52 x11 σ).bind fun x220 =>
 (pureFn CC (DV.fn 42 []) [x220] σ).bind fun x221 =>
 (pureFn CC (DV.fn 55 []) [x219, x221] σ).bind fun x222 =>
 (extractV x222 0).bind fun x223 =>
 (extractV x222 1).bind fun x224 =>
 (zeroOf PP 26).bind fun z16 =>
 (store PP lo 26 (DV.ptr (List.length σ) 0) x223 (σ ++ [Row.mix z16])).bind fun σ59 =>
 (load PP 47 x3 σ59).bind fun x226 =>
 (pureFn CC (DV.fn 28 []) [x226] σ59).bind fun x227 =>
 (load PP 52 x13 σ59).bind fun x228 =>
 (pureFn CC (DV.fn 42 []) [x228] σ59).bind fun x229 =>
 (pureFn CC (DV.fn 55 []) [x227, x229] σ59).bind fun x230 =>
 (extractV x230 0).bind fun x231 =>
 (extractV x230 1).bind fun x232 =>
 (zeroOf PP 26).bind fun z18 =>
 (store PP lo 26 (DV.ptr (List.length σ59) 0) x231 (σ59 ++ [Row.mix z18])).bind fun σ60 =>
 (load PP 47 x3 σ60).bind fun x234 =>
 (pureFn CC (DV.fn 28 []) [x234] σ60).bind fun x235 =>
 (load PP 52 x11 σ60).bind fun x236 =>
 (pureFn CC (DV.fn 42 []) [x236] σ60).bind fun x237 =>
 (pureFn CC (DV.fn 56 []) [x235, x237] σ60).bind fun x238 =>
 (extractV x238 0).bind fun x239 =>
 (extractV x238 1).bind fun x240 =>
 (load PP 47 x3 σ60).bind fun x242 =>
 (pureFn CC (DV.fn 28 []) [x242] σ60).bind fun x243 =>
 (load PP 52 x13 σ60).bind fun x244 =>
 (pureFn CC (DV.fn 56 []) [x243, x244] σ60).bind fun x245 =>
 (extractV x245 0).bind fun x246 =>
 (extractV x245 1).bind fun x247 =>
 (binOp PP .neq 30 x224 I0).bind fun x249 =>
 G _ x249 false (some (x232, σ60)) σ60 fun x251 σ61 =>
 G _ x249 false ((binOp PP .neq 30 x251 I0).bind fun v => some (v, σ61)) σ61 fun x252 σ62 =>
 (pickV x249 (DV.p (PV.bool true)) x252).bind fun x253 =>
 G _ x253 false (some (x240, σ62)) σ62 fun x255 σ63 =>
 G _ x253 false ((binOp PP .neq 30 x255 I0).bind fun v => some (v, σ63)) σ63 fun x256 σ64 =>
 (pickV x253 (DV.p (PV.bool true)) x256).bind fun x257 =>
 G _ x257 false (some (x247, σ64)) σ64 fun x259 σ65 =>
 G _ x257 false ((binOp PP .neq 30 x259 I0).bind fun v => some (v, σ65)) σ65 fun x260 σ66 =>
 (pickV x257 (DV.p (PV.bool true)) x260).bind fun x261 =>
 G _ x261 false (some (x239, σ66)) σ66 fun x263 σ67 =>
 G _ x261 false (some (x246, σ67)) σ67 fun x264 σ68 =>
 G _ x261 false ((binOp PP .neq 4 x263 x264).bind fun v => some (v, σ68)) σ68 fun x265 σ69 =>
 (pickV x261 (DV.p (PV.bool true)) x265).bind fun x266 =>
 G _ x266 false ((load PP 26 (DV.ptr (List.length σ) 0) σ69).bind fun v => some (v, σ69)) σ69 fun x268 σ70 =>
 G _ x266 false ((pureFn CC (DV.fn 17 []) [x268] σ70).bind fun v => some (v, σ70)) σ70 fun x269 σ71 =>
 G _ x266 false ((binOp PP .neq 3 x269 I0).bind fun v => some (v, σ71)) σ71 fun x270 σ72 =>
 (pickV x266 (DV.p (PV.bool true)) x270).bind fun x271 =>
 G _ x271 false ((load PP 26 (DV.ptr (List.length σ59) 0) σ72).bind fun v => some (v, σ72)) σ72 fun x273 σ73 =>
 G _ x271 false ((pureFn CC (DV.fn 17 []) [x273] σ73).bind fun v => some (v, σ73)) σ73 fun x274 σ74 =>
 G _ x271 false ((binOp PP .neq 3 x274 I0).bind fun v => some (v, σ74)) σ74 fun x275 σ75 =>
 (pickV x271 (DV.p (PV.bool true)) x275).bind fun x276 =>
 condK x276
 (
 some ((DV.p (PV.bool false)), σ75)
 )
 (
 (pureFn CC (DV.fn 19 []) [x1] σ75).bind fun x279 =>
 (load PP 26 (DV.ptr (List.length σ) 0) σ75).bind fun x280 =>
 (pureFn CC (DV.fn 20 []) [x279, x280] σ75).bind fun x281 =>
 (extractV x281 0).bind fun x282 =>
 (extractV x281 1).bind fun x283 =>
 (pureFn CC (DV.fn 19 []) [x1] σ75).bind fun x286 =>
 (load PP 26 (DV.ptr (List.length σ59) 0) σ75).bind fun x287 =>
 (pureFn CC (DV.fn 20 []) [x286, x287] σ75).bind fun x288 =>
 (extractV x288 0).bind fun x289 =>
 (extractV x288 1).bind fun x290 =>
 (binOp PP .eql 30 x283 I0).bind fun x292 =>
 G _ x292 true (some (x290, σ75)) σ75 fun x294 σ76 =>
 G _ x292 true ((binOp PP .eql 30 x294 I0).bind fun v => some (v, σ76)) σ76 fun x295 σ77 =>
 (pickV x292 x295 (DV.p (PV.bool false))).bind fun x296 =>
 G _ x296 true (some (x282, σ77)) σ77 fun x298 σ78 =>
 G _ x296 true (some (x289, σ78)) σ78 fun x299 σ79 =>
 G _ x296 true ((binOp PP .eql 4 x298 x299).bind fun v => some (v, σ79)) σ79 fun x300 σ80 =>
 (pickV x296 x300 (DV.p (PV.bool false))).bind fun x301 =>
 some (x301, σ80)
 )
 ) := (loopF_eq G hG).trans (by kernel_rfl)
theorem f11_J2_eq (G : GuardT) (lo : Nat) (x1 x3 x11 x12 x13 x15 x183 x184 x185 x186 x187 x190 x191 x192 x193 x194 x195 x196 x197 x198 x199 x200 x201 x202 x203 x204 x205 x206 x207 x208 x209 x210 x211 x212 x213 x214 x215 x216 : DV) (σ : Store) : f11_J2 G lo x1 x3 x11 x12 x13 x15 x183 x184 x185 x186 x187 x190 x191 x192 x193 x194 x195 x196 x197 x198 x199 x200 x201 x202 x203 x204 x205 x206 x207 x208 x209 x210 x211 x212 x213 x214 x215 x216 σ =
 (binOp PP .add 3 x15 I1).bind fun x189 =>
 f11_L4 G lo x1 x3 x11 x12 x13 x189 σ := by kernel_rfl
theorem F11_eq (G : GuardT) (lo : Nat) (x0 x1 x2 : DV) (σ : Store) : F11 G lo x0 x1 x2 σ =
 (boxP x0).bind fun x3 =>
 (boxP x2).bind fun x5 =>
 (pureFn CC (DV.fn 12 []) [] σ).bind fun x28 =>
 (unOp .not x28).bind fun x29 =>
 condK x29
 (
 some ((DV.p (PV.bool false)), σ)
 )
 (
 (pureFn CC (DV.fn 13 []) [x1] σ).bind fun x31 =>
 (unOp .not x31).bind fun x32 =>
 G _ x32 false ((load PP 47 x3 σ).bind fun v => some (v, σ)) σ fun x34 σ1 =>
 G _ x32 false ((pureFn CC (DV.fn 23 []) [x34] σ1).bind fun v => some (v, σ1)) σ1 fun x35 σ2 =>
 G _ x32 false ((unOp .not x35).bind fun v => some (v, σ2)) σ2 fun x36 σ3 =>
 (pickV x32 (DV.p (PV.bool true)) x36).bind fun x37 =>
 G _ x37 false ((fieldAddr PP 98 x5 0).bind fun v => some (v, σ3)) σ3 fun x39 σ4 =>
 G _ x37 false ((fieldAddr PP 52 x39 0).bind fun v => some (v, σ4)) σ4 fun x40 σ5 =>
 G _ x37 false ((load PP 24 x40 σ5).bind fun v => some (v, σ5)) σ5 fun x41 σ6 =>
 G _ x37 false ((len PP 24 x41 σ6).bind fun v => some (v, σ6)) σ6 fun x42 σ7 =>
 G _ x37 false ((binOp PP .gtr 3 x42 (DV.p (PV.int IntKind.i64 (15)))).bind fun v => some (v, σ7)) σ7 fun x43 σ8 =>
 (pickV x37 (DV.p (PV.bool true)) x43).bind fun x44 =>
 G _ x44 false ((fieldAddr PP 98 x5 0).bind fun v => some (v, σ8)) σ8 fun x46 σ9 =>
 G _ x44 false ((fieldAddr PP 52 x46 1).bind fun v => some (v, σ9)) σ9 fun x47 σ10 =>
 G _ x44 false ((load PP 24 x47 σ10).bind fun v => some (v, σ10)) σ10 fun x48 σ11 =>
 G _ x44 false ((len PP 24 x48 σ11).bind fun v => some (v, σ11)) σ11 fun x49 σ12 =>
 G _ x44 false ((binOp PP .gtr 3 x49 (DV.p (PV.int IntKind.i64 (15)))).bind fun v => some (v, σ12)) σ12 fun x50 σ13 =>
 (pickV x44 (DV.p (PV.bool true)) x50).bind fun x51 =>
 G _ x51 false (some (x1, σ13)) σ13 fun x53 σ14 =>
 G _ x51 false ((pureFn CC (DV.fn 25 []) [x53] σ14).bind fun v => some (v, σ14)) σ14 fun x54 σ15 =>
 G _ x51 false ((binOp PP .neq 3 x54 I0).bind fun v => some (v, σ15)) σ15 fun x55 σ16 =>
 (pickV x51 (DV.p (PV.bool true)) x55).bind fun x56 =>
 G _ x56 false ((load PP 47 x3 σ16).bind fun v => some (v, σ16)) σ16 fun x58 σ17 =>
 G _ x56 false ((fieldAddr PP 98 x5 0).bind fun v => some (v, σ17)) σ17 fun x59 σ18 =>
 G _ x56 false ((load PP 52 x59 σ18).bind fun v => some (v, σ18)) σ18 fun x60 σ19 =>
 G _ x56 false ((pureFn CC (DV.fn 57 []) [x58, x60] σ19).bind fun v => some (v, σ19)) σ19 fun x61 σ20 =>
 G _ x56 false ((binOp PP .neq 3 x61 I0).bind fun v => some (v, σ20)) σ20 fun x62 σ21 =>
 (pickV x56 (DV.p (PV.bool true)) x62).bind fun x63 =>
 condK x63
 (
 some ((DV.p (PV.bool true)), σ21)
 )
 (
 f11_L0 G lo x1 x3 x5 (DV.p PV.nilsl) I0 σ21
 )
 ) := by kernel_rfl
theorem F11_call {lo : Nat} {x0 x1 x2 : DV} (h : F11 guardT lo x0 x1 x2 σ = some r) : CC lo 11 [x0, x1, x2] σ = some r :=
 callL_run Tryz.func11 (by decide +kernel) rfl (by decide +kernel) h
def c61_0 : Code := bodyOf Tryz.f61
def a61_0 : Ann := (pol 61).ann
def c61_10 : Code := sndC (sndC (sndC c61_0))
def a61_10 : Ann := right (right (right a61_0))
def f61_J0_fr (x0 x1 x4 x5 x6 x7 x8 x9 x10 x11 x12 x13 : DV) : Frame := [x0, x1, Z, Z, x4, x5, x6, x7, x8, x9, x10, x11, x12, x13, Z]
def f61_J0 (x0 x1 x4 x5 x6 x7 x8 x9 x10 x11 x12 x13 : DV) (σ : Store) : RS :=
 (seqC G PP (pol 61) CC lo c61_10 a61_10 (finR PP Tryz.f61.results.toList)) .normal (f61_J0_fr x0 x1 x4 x5 x6 x7 x8 x9 x10 x11 x12 x13) σ
def F61 (x0 x1 : DV) (σ : Store) : RS :=
 codeF G PP (pol 61) CC lo c61_0 a61_0 (x0 :: x1 :: zn 13 []) σ (finR PP Tryz.f61.results.toList)
theorem f61_J0_eq (G : GuardT) (lo : Nat) (x0 x1 x4 x5 x6 x7 x8 x9 x10 x11 x12 x13 : DV) (σ : Store) : f61_J0 G lo x0 x1 x4 x5 x6 x7 x8 x9 x10 x11 x12 x13 σ =
 some (x5, σ) := by kernel_rfl
theorem F61_eq (G : GuardT) (lo : Nat) (x0 x1 : DV) (σ : Store) : F61 G lo x0 x1 σ =
 (binOp PP .rem 3 x0 x1).bind fun x8 =>
 (binOp PP .lss 3 x8 I0).bind fun x10 =>
 condK x10
 (
 (binOp PP .add 3 x8 x1).bind fun x13 =>
 f61_J0 G lo x0 x1 I0 x13 x0 x1 x8 x8 x10 x8 x1 x13 σ
 )
 (
 f61_J0 G lo x0 x1 I0 x8 x0 x1 x8 x8 x10 Z Z Z σ
 ) := by kernel_rfl
theorem F61_call {lo : Nat} {x0 x1 : DV} (h : F61 guardT lo x0 x1 σ = some r) : CC lo 61 [x0, x1] σ = some r :=
 callL_run Tryz.func61 (by decide +kernel) rfl (by decide +kernel) h
end
end Go.D
end
/- Chapter 13: LassoStutters' law: the behaviour with a state repeated, and what is told of both. -/
section
set_option linter.unusedVariables false
set_option linter.unusedSimpArgs false
set_option maxRecDepth 8000
namespace Go.D
open Las
theorem lst1_ok {x : Lb} {A : List Int} {b : Nat} (h : ∀ i, i < A.length → prm x (A.getD i 0) (A.getD (nx A.length b i) 0) = true) : lst1 x A b 0 A.length = (0, 0) :=
  scnP_none _ _ fun j _ h2 => by unfold badT; rw [h j (by omega)]; rfl
theorem chk_rep {x : Lb} {w w' : Wd} {at' : Nat} (h : (chkLs x w).2 = 0) (ha : at' < (L w.p ++ L w.l).length) (hA : L w'.p ++ L w'.l = rpA (L w.p ++ L w.l) at') (hb : (L w'.p).length = bk (L w.p).length at') (hne : L w'.l ≠ []) (hl : (L w.p ++ L w.l).length ≤ 59) : (chkLs x w').2 = 0 := by
  obtain ⟨hk, h0, h60, hin, hi, hp⟩ := lsOk h
  have h1 : (chkLb x).2 = 0 := by
    unfold chkLs at h
    by_cases h1 : (chkLb x).2 = 0
    · exact h1
    · rw [if_neg h1] at h; exact absurd h h1
  have hAl : (L w.p ++ L w.l).length = (L w.p).length + (L w.l).length := List.length_append
  have hlen := rpA_len ha
  have hbl : (L w.p).length < (L w.p ++ L w.l).length := by omega
  have hl2 : (L w'.p).length + (L w'.l).length = (L w.p ++ L w.l).length + 1 := by rw [← List.length_append, hA, hlen]
  unfold chkLs
  rw [if_pos h1, if_neg hne, if_neg (by omega), hA, hb]
  unfold lst0
  have e1 : decide ((rpA (L w.p ++ L w.l) at').getD 0 0 ∈ L x.g.init) = true := by
    rw [rpA_get ha (by omega)]
    have : gz at' 0 = 0 := by unfold gz; rw [if_pos (Nat.zero_le _)]
    rw [this]; exact decide_eq_true hi
  have e2 : lst1 x (rpA (L w.p ++ L w.l) at') (bk (L w.p).length at') 0 (rpA (L w.p ++ L w.l) at').length = (0, 0) := lst1_ok fun i hi => by
    rw [hlen] at hi ⊢
    have hnx : nx ((L w.p ++ L w.l).length + 1) (bk (L w.p).length at') i < (L w.p ++ L w.l).length + 1 := by
      have := bk_lt (at' := at') hbl
      unfold nx; split <;> omega
    rw [rpA_get ha hi, rpA_get ha hnx, gz_nx hbl ha hi]
    by_cases c : i = at'
    · rw [if_pos c, c]
      have : gz at' at' = at' := by unfold gz; rw [if_pos (Nat.le_refl _)]
      rw [this]; exact prm_self x _
    · rw [if_neg c]
      exact hp _ (by unfold gz; split <;> omega)
  rw [scnP_none, e1, if_neg (by simp), e2]
  intro j _ h2
  rw [hlen] at h2
  unfold badZ
  rw [rpA_get ha (by omega)]
  have := hin (gz at' j) (by unfold gz; split <;> omega)
  rw [(inR_iff _ _ _).2 (by omega)]; rfl
structure Rp where
  w : Wd
  t : Int
def eRp (q : Rp) : List PV := [eSl q.w.p, eSl q.w.l, pI q.t]
def vRp (q : Rp) : DV := .agg [.p (eSl q.w.p), .p (eSl q.w.l), .p (pI q.t)]
theorem box_rp (q : Rp) : boxP (vRp q) = some (.pptr (eRp q) 0) := rfl
theorem fa98_0 (x : DV) : fieldAddr PP 98 x 0 = shiftPtr x 0 := Eq.trans (by kernel_rfl) rfl
theorem fa98_1 (x : DV) : fieldAddr PP 98 x 1 = shiftPtr x 2 := Eq.trans (by kernel_rfl) rfl
theorem rp_0 (q : Rp) (σ : Store) : load1 (.pptr (eRp q) 0) σ = some (.p (eSl q.w.p)) := load1_pptr rfl σ
theorem rp_1 (q : Rp) (σ : Store) : load1 (.pptr (eRp q) 1) σ = some (.p (eSl q.w.l)) := load1_pptr rfl σ
theorem rp_2 (q : Rp) (σ : Store) : load1 (.pptr (eRp q) 2) σ = some (.p (.int .i64 q.t)) := load1_pptr rfl σ
theorem rp_w (q : Rp) (σ : Store) : (loadN σ 2 (.pptr (eRp q) 0)).map DV.agg = some (vWd q.w) := rfl
theorem S61 {n : Nat} (h : 0 < n) (hn : n ≤ 1000) (t : Int) (σ : Store) : ∃ k : Nat, k < n ∧ pureV CC 61 [.p (.int .i64 t), .p (.int .i64 (n : Nat))] σ = some (.p (.int .i64 (k : Nat))) := by
  have hr : binOp PP .rem 3 (.p (.int .i64 t)) (.p (.int .i64 (n : Nat))) = some (.p (.int .i64 (t.tmod n))) := by
    show ((if (n : Int) = 0 then none else some (PV.int .i64 (t.tmod n))) : Option PV).map DV.p = _
    rw [if_neg (by omega)]; rfl
  have hlt : t.tmod n < n := Int.tmod_lt_of_pos t (by omega)
  have hgt : -(n : Int) < t.tmod n := by
    have := Int.tmod_lt_of_pos (b := (n : Int)) (-t) (by omega)
    rw [Int.neg_tmod] at this
    omega
  by_cases c : t.tmod n < 0
  · refine ⟨(t.tmod n + n).toNat, by omega, ?_⟩
    have e : (((t.tmod n + n).toNat : Nat) : Int) = t.tmod n + n := by omega
    rw [e]
    refine pureV_free rfl rfl (F61_call (r := (.p (.int .i64 (t.tmod n + n)), [])) ?_) rfl
    rw [F61_eq]
    simp only [hr, gG, b_lss, ltT c, b_add, wrap_ok (show -9223372036854775808 ≤ t.tmod n + n by omega) (show t.tmod n + n ≤ 9223372036854775807 by omega), f61_J0_eq]
  · refine ⟨(t.tmod n).toNat, by omega, ?_⟩
    have e : (((t.tmod n).toNat : Nat) : Int) = t.tmod n := by omega
    rw [e]
    refine pureV_free rfl rfl (F61_call (r := (.p (.int .i64 (t.tmod n)), [])) ?_) rfl
    rw [F61_eq]
    simp only [hr, gG, b_lss, ltF c, f61_J0_eq]
theorem wl_ok {x : Lb} (hk : LbOk x) {A : List Int} {b : Nat} (hb : b < A.length) (hA : A.length ≤ 60) (hin : ∀ i, i < A.length → 0 ≤ A.getD i 0 ∧ A.getD i 0 < x.g.n) : wErr ((wl x A b).take b) ((wl x A b).drop b) = 0 := by
  have hl := wl_len x A b
  have hv : ∀ v, v ∈ wl x A b → oddB v = false := fun v hv => by
    unfold wl at hv
    obtain ⟨i, hi, rfl⟩ := List.mem_map.1 hv
    have hi := List.mem_range.1 hi
    have := (ltr_eq hk (A.getD (nx A.length b i) 0) (hin i hi)).2
    obtain ⟨o1, o2⟩ := this
    unfold oddB
    rw [(inR_iff _ _ _).2 ⟨o1, o2⟩]; rfl
  refine wErr_mk (fun e => ?_) (by rw [List.length_take, List.length_drop]; omega) (fun v h => hv v (List.mem_of_mem_take h)) fun v h => hv v (List.mem_of_mem_drop h)
  have := congrArg List.length e
  rw [List.length_drop] at this
  simp at this; omega
section
variable {f : Fm} (hF : Ok (L f)) {x : Lb} (hx : LSm x) {w : Wd} (hs : (chkLs x w).2 = 0) (hw15 : (L w.p).length ≤ 15 ∧ (L w.l).length ≤ 15)
include hF hx hs hw15
theorem L11_end {at' rl ro : Nat} {y1 y2 : DV} {σ : Store} (ha : at' < (L w.p ++ L w.l).length) (hg : gR (L f) (stL x) (L f).length ((L f).length - 1) = true)
    {P' Q' : List Int} (hA : P' ++ Q' = rpA (L w.p ++ L w.l) at') (hb : P'.length = bk (L w.p).length at') (hq : Q' ≠ []) (hfair : isF x Q' = isF x (L w.l))
    (g1 : σ[rl]? = some (.mix [.p (eSl w.p), .p (eSl w.l)])) (g2 : σ[ro]? = some (.mix [y1, y2])) (o1 : Out σ 0 1 P'.length (eInts P') y1) (o2 : Out σ 0 1 Q'.length (eInts Q') y2) :
    ∃ σ', f11_L4 guardT 0 (.p (eFm f)) (.pptr (eLb x) 0) (.ptr rl 0) (N at') (.ptr ro 0) (N (L w.l).length) σ = some (.p (.bool true), σ') := by
  obtain ⟨hk, h0, h60, hin, _, _⟩ := lsOk hs
  have hAl : (L w.p ++ L w.l).length = (L w.p).length + (L w.l).length := List.length_append
  have hlen := rpA_len ha
  have hlen2 : P'.length + Q'.length = (L w.p ++ L w.l).length + 1 := by rw [← List.length_append, hA, hlen]
  have hqp := List.length_pos_iff.2 hq
  let w' : Wd := ⟨oI P', oI Q'⟩
  have ep : L w'.p = P' := L_oI P'
  have eq : L w'.l = Q' := L_oI Q'
  have hs' : (chkLs x w').2 = 0 := chk_rep (at' := at') hs ha (by rw [ep, eq]; exact hA) (by rw [ep]; exact hb) (by rw [eq]; exact hq) (by omega)
  have vo : view (.agg [y1, y2]) = vWd w' := by
    show DV.agg [viewCell y1, viewCell y2] = _
    have e1 : viewCell y1 = .p (eSl (oI P')) := by
      rcases o1.2 with ⟨h, rfl⟩ | ⟨h, r, v, rfl, _⟩
      · have : oI P' = none := by unfold oI; rw [if_pos h]
        rw [this]; rfl
      · have : oI P' = some P' := by unfold oI; rw [if_neg h]
        rw [this]; simp [viewCell, loosens_ints, eSl]
    have e2 : viewCell y2 = .p (eSl (oI Q')) := by
      rcases o2.2 with ⟨h, rfl⟩ | ⟨h, r, v, rfl, _⟩
      · have : oI Q' = none := by unfold oI; rw [if_pos h]
        rw [this]; rfl
      · have : oI Q' = some Q' := by unfold oI; rw [if_neg h]
        rw [this]; simp [viewCell, loosens_ints, eSl]
    rw [e1, e2]; rfl
  have h28 := fun σ => S28 hx σ
  have h42 := fun σ => S42 (w := w) (by omega) (by omega) σ
  have h42' : ∀ σ, pureV CC 42 [.agg [y1, y2]] σ = some (vWd (ownW w')) := fun σ => by
    rw [pureV_view (args' := [vWd w']) (by simp only [List.map_cons, List.map_nil, vo]) (by simp only [List.map_cons, List.map_nil, wd_view])]
    exact S42 (w := w') (by rw [ep]; omega) (by rw [eq]; omega) σ
  have hl : (L w.p).length + (L w.l).length ≤ 1000 := by omega
  have hl' : (L w'.p).length + (L w'.l).length ≤ 1000 := by rw [ep, eq]; omega
  obtain ⟨u, u1, _, u3⟩ := S55 hx.own (w := ownW w) hl σ
  have hsO : (chkLs (ownX x) (ownW w)).2 = 0 := hs
  have hsO' : (chkLs (ownX x) (ownW w')).2 = 0 := hs'
  obtain ⟨u4, u5⟩ := u3 hsO
  rw [hsO] at u1
  rw [wl_own] at u4 u5
  have ru : (σ ++ [Row.mix [.p .nilsl, .p .nilsl]])[σ.length]? = some (.mix [.p .nilsl, .p .nilsl]) := get_snoc
  have sw := st_wd (lo := 0) u ru (Nat.zero_le _) rfl
  have es : (σ ++ [Row.mix [.p .nilsl, .p .nilsl]]).set σ.length (.mix [.p (eSl u.p), .p (eSl u.l)]) = σ ++ [.mix [.p (eSl u.p), .p (eSl u.l)]] := by simp
  rw [es] at sw
  generalize hσ1 : σ ++ [Row.mix [.p (eSl u.p), .p (eSl u.l)]] = σ1 at *
  have g1' : σ1[rl]? = some (.mix [.p (eSl w.p), .p (eSl w.l)]) := by rw [← hσ1]; exact get_old g1
  have g2' : σ1[ro]? = some (.mix [y1, y2]) := by rw [← hσ1]; exact get_old g2
  have gu : σ1[σ.length]? = some (.mix [.p (eSl u.p), .p (eSl u.l)]) := by rw [← hσ1]; exact get_snoc
  obtain ⟨v, v1, _, v3⟩ := S55 hx.own (w := ownW w') hl' σ1
  obtain ⟨v4, v5⟩ := v3 hsO'
  rw [hsO'] at v1
  rw [wl_own] at v4 v5
  have rv : (σ1 ++ [Row.mix [.p .nilsl, .p .nilsl]])[σ1.length]? = some (.mix [.p .nilsl, .p .nilsl]) := get_snoc
  have sv := st_wd (lo := 0) v rv (Nat.zero_le _) rfl
  have es2 : (σ1 ++ [Row.mix [.p .nilsl, .p .nilsl]]).set σ1.length (.mix [.p (eSl v.p), .p (eSl v.l)]) = σ1 ++ [.mix [.p (eSl v.p), .p (eSl v.l)]] := by simp
  rw [es2] at sv
  generalize hσ2 : σ1 ++ [Row.mix [.p (eSl v.p), .p (eSl v.l)]] = σ2 at *
  have g1'' : σ2[rl]? = some (.mix [.p (eSl w.p), .p (eSl w.l)]) := by rw [← hσ2]; exact get_old g1'
  have g2'' : σ2[ro]? = some (.mix [y1, y2]) := by rw [← hσ2]; exact get_old g2'
  have gu' : σ2[σ.length]? = some (.mix [.p (eSl u.p), .p (eSl u.l)]) := by rw [← hσ2]; exact get_old gu
  have gv' : σ2[σ1.length]? = some (.mix [.p (eSl v.p), .p (eSl v.l)]) := by rw [← hσ2]; exact get_snoc
  have ldm : ∀ {τ : Store} {r : Nat} {a b : DV}, τ[r]? = some (.mix [a, b]) → (loadN τ 2 (.ptr r 0)).map DV.agg = some (.agg [a, b]) := fun {τ r a b} h => by
    rw [loadN_ptr (off := 0) (n := 2) (vs := [a, b]) h rfl (by simp)]; rfl
  have w0 : (loadN σ 2 (.ptr rl 0)).map DV.agg = some (vWd w) := ldm g1
  have w1 := ldm g2'
  have w2 : (loadN σ2 2 (.ptr rl 0)).map DV.agg = some (vWd w) := ldm g1''
  have w3 := ldm g2''
  have w4 : (loadN σ2 2 (.ptr σ.length 0)).map DV.agg = some (vWd u) := ldm gu'
  have w5 : (loadN σ2 2 (.ptr σ1.length 0)).map DV.agg = some (vWd v) := ldm gv'
  -- fairness
  have h56 : ∀ σ, pureV CC 56 [vLb (ownX x), vWd (ownW w)] σ = some (.tuple [.p (.bool (isF x (L w.l))), .p (.int .i64 0)]) := fun σ => by
    have h : pureV CC 56 [vLb (ownX x), vWd (ownW w)] σ = some (.tuple [.p (.bool (decide ((chkLs x w).2 = 0) && isF x (L w.l))), .p (.int .i64 (chkLs x w).2)]) := S56 hx.own (w := ownW w) hl σ
    rw [h, hs, decide_eq_true rfl, Bool.true_and]
  have h56' : ∀ σ, pureV CC 56 [vLb (ownX x), .agg [y1, y2]] σ = some (.tuple [.p (.bool (isF x (L w.l))), .p (.int .i64 0)]) := fun σ => by
    rw [pureV_view (args' := [vLb (ownX x), vWd w']) (by simp only [List.map_cons, List.map_nil, vo, lb_view]) (by simp only [List.map_cons, List.map_nil, wd_view, lb_view])]
    have h : pureV CC 56 [vLb (ownX x), vWd w'] σ = some (.tuple [.p (.bool (decide ((chkLs x w').2 = 0) && isF x (L w'.l))), .p (.int .i64 (chkLs x w').2)]) := S56 hx.own (w := w') hl' σ
    rw [h, hs', decide_eq_true rfl, Bool.true_and, eq, hfair]
  -- words
  have hbl : (L w.p).length < (L w.p ++ L w.l).length := by omega
  have hu : wErr (L u.p) (L u.l) = 0 := by rw [u4, u5]; exact wl_ok (A := L w.p ++ L w.l) hk hbl (by omega) hin
  have hinA : ∀ i, i < (rpA (L w.p ++ L w.l) at').length → 0 ≤ (rpA (L w.p ++ L w.l) at').getD i 0 ∧ (rpA (L w.p ++ L w.l) at').getD i 0 < x.g.n := fun i hi => by
    rw [hlen] at hi
    rw [rpA_get ha hi]
    exact hin _ (by unfold gz; split <;> omega)
  have ew : L (ownW w').p ++ L (ownW w').l = rpA (L w.p ++ L w.l) at' := by
    show L w'.p ++ L w'.l = _
    rw [ep, eq, hA]
  have ewp : (L (ownW w').p).length = bk (L w.p).length at' := by
    show (L w'.p).length = _
    rw [ep, hb]
  rw [ew, ewp] at v4 v5
  have hv : wErr (L v.p) (L v.l) = 0 := by rw [v4, v5]; exact wl_ok hk (by rw [hlen]; exact bk_lt hbl) (by omega) hinA
  obtain ⟨_, u60, _, _⟩ := wErr_zero hu
  obtain ⟨_, v60, _, _⟩ := wErr_zero hv
  have u17 := fun σ => S17 (w := u) (by omega) (by omega) σ
  have v17 := fun σ => S17 (w := v) (by omega) (by omega) σ
  rw [hu] at u17
  rw [hv] at v17
  have s19 := fun σ => S19 (show FSm f from ⟨by have := hF.le; omega, fun i => by
    rcases Nat.lt_or_ge i (L f).length with c | c
    · exact (ok_args hF i c).1
    · unfold nA; rw [List.getD_eq_getElem?_getD, List.getElem?_eq_none c]; exact Nat.zero_le _⟩) σ
  have hchk : (chk ((L f).map ownN)).2 = 0 := by rw [chk_own]; exact ok_chk hF
  have hfo : Ok (L (oF ((L f).map ownN))) := by rw [L_oF]; exact chk_ok hchk
  have e1 : ∀ P Q, hOn (L (oF ((L f).map ownN))) P Q = hOn (L f) P Q := fun P Q => by rw [L_oF]; exact hOn_own _ _ _
  have hfs : FSm (oF ((L f).map ownN)) := ⟨by have := hfo.le; omega, fun i => by
    rcases Nat.lt_or_ge i (L (oF ((L f).map ownN))).length with c | c
    · exact (ok_args hfo i c).1
    · unfold nA; rw [List.getD_eq_getElem?_getD, List.getElem?_eq_none c]; exact Nat.zero_le _⟩
  have hold2 : ∀ (u : Wd), wErr (L u.p) (L u.l) = 0 → ∀ σ, pureV CC 20 [.p (eFm (oF ((L f).map ownN))), vWd u] σ = some (.tuple [.p (.bool (sem (atW (L u.p) (L u.l)) (L f) 0)), .p (.int .i64 0)]) := fun u hu σ => by
    obtain ⟨_, k2, _, _⟩ := wErr_zero hu
    rw [S20 (w := u) hfs (by omega) (by omega) σ, e1]
    exact congrArg some (hOn_ok hF hu)
  have q1 := hold2 u hu
  have q2 := hold2 v hv
  have esem : sem (atW (L v.p) (L v.l)) (L f) 0 = sem (atW (L u.p) (L u.l)) (L f) 0 := by
    rw [v4, v5, u4, u5]
    exact sem_rep hk hF hbl ha hin hg
  rw [esem] at q2
  generalize sem (atW (L u.p) (L u.l)) (L f) 0 = bb at *
  have eb : (bb == bb) = true := by cases bb <;> rfl
  have ef : (isF x (L w.l) != isF x (L w.l)) = false := by cases isF x (L w.l) <;> rfl
  have hnlt : ¬ (((L w.l).length : Nat) : Int) < ((L w.l).length : Nat) := by omega
  have ll : load1 (.ptr rl 1) σ = some (.p (eSl w.l)) := load1_ptr g1 rfl
  refine ⟨σ2, ?_⟩
  rw [f11_L4_eq guardT rfl]
  simp (maxSteps := 1000000) (disch := omega) only [N, fa52_1, shift_ptr, shift_pptr, Nat.zero_add, Nat.add_zero, pureFn_fn, List.append_nil, List.singleton_append, List.cons_append, List.nil_append, load24, ll, len24, b_lss, ltF hnlt, gG, load47, lb_all, h28, load52, w0, h42, u1, ex20, ex21, zero26, sw, w1, h42', v1, sv, w2, w3, h56, h56', b_neq, eqT (rfl : (0 : Int) = 0), b_neB, ef, load26, w4, w5, u17, v17, s19, q1, q2, b_eql, b_eqB', eb]
end
end Go.D
end
/- Chapter 13: behaviours with a place as arguments. -/
section
set_option linter.unusedVariables false
set_option linter.unusedSimpArgs false
set_option maxRecDepth 100000
namespace Go.D
open Go.ChangeShapes Go.WideShapes Go.ChangeAt Go.RowKit
theorem dec52 {a : List PV} (h : Plain PP 52 a) : ∃ w : Wd, a = [eSl w.p, eSl w.l] := by
  have h1 := h.inv_struct Go.Proofs.Tryz.underlying52
  obtain ⟨a1, b1, h2, h3, rfl⟩ := PlainL.inv_cons h1
  obtain ⟨a2, b2, h4, h5, rfl⟩ := PlainL.inv_cons h3
  obtain ⟨p, rfl⟩ := dec24 h2
  obtain ⟨q, rfl⟩ := dec24 h4
  obtain rfl := PlainL.inv_nil h5
  exact ⟨⟨p, q⟩, rfl⟩
section
variable {H : Type} {enc : TypeId × Value → H} {W : World} {hd : Bool} {r : Reach} {b0 : Nat} {v : Value} {d : DataW H} {ps : List MemPlace}
theorem read_rp (hok : Value.okWide PP W r b0 98 v) (h : DataW.Trod enc PP W 0 (fun _ => true) hd 98 v d ps) : ∃ x : Rp, VRel (fun _ _ => none) (memOf W) (vRp x) v := by
  obtain ⟨c, h1, h2⟩ := read_struct 8 Go.Proofs.Tryz.underlying98 (by kernel_rfl) hok h
  have h3 := h1.inv_struct Go.Proofs.Tryz.underlying98
  obtain ⟨a1, b1, k1, h5, rfl⟩ := PlainL.inv_cons h3
  obtain ⟨a2, b2, k2, h7, rfl⟩ := PlainL.inv_cons h5
  obtain ⟨w, rfl⟩ := dec52 k1
  obtain ⟨t, rfl⟩ := dec3 k2
  obtain rfl := PlainL.inv_nil h7
  exact ⟨⟨w, t⟩, h2⟩
end
end Go.D
end
/- Chapter 13: LassoStutters' law. -/
section
set_option linter.unusedVariables false
set_option linter.unusedSimpArgs false
set_option maxRecDepth 8000
namespace Go.D
open Las
structure WI (w : Wd) (rl ro : Nat) (a b : List Int) (y1 y2 : DV) (σ : Store) : Prop where
  g1 : σ[rl]? = some (.mix [.p (eSl w.p), .p (eSl w.l)])
  g2 : σ[ro]? = some (.mix [y1, y2])
  ne : rl ≠ ro
  o1 : Out σ 0 1 a.length (eInts a) y1
  o2 : Out σ 0 1 b.length (eInts b) y2
  ap : Ap y1 y2
theorem WI.push1 {w : Wd} {rl ro : Nat} {a b : List Int} {y1 y2 : DV} {σ : Store} (h : WI w rl ro a b y1 y2 σ) (v : Int) (ha : a.length ≤ 1000) :
    ∃ y1' σ1 σ2, append PP 0 false 24 24 y1 (.p (.sl true 1 [.int .i64 v])) σ = some (y1', σ1) ∧ store PP 0 24 (.ptr ro 0) y1' σ1 = some σ2 ∧ WI w rl ro (a ++ [v]) b y1' y2 σ2 := by
  obtain ⟨y1', σ1, a1, a2, a3, a4, a5, a6⟩ := wi_app (v := v) h.o1 h.o2 h.ap.symm (by omega) (Nat.zero_le _)
  have k1 := a5.mix h.o1 h.g1 (fun v hv => by cases hv)
  have k2 := a5.mix h.o1 h.g2 (fun v hv => by cases hv)
  refine ⟨y1', σ1, _, a1, st24_w0 (lo := 0) k2 (Nat.zero_le _) a2.one, ?_, ?_, h.ne, a2.setM k2, a3.setM k2, a4.symm⟩
  · rw [List.getElem?_set_ne (Ne.symm h.ne)]; exact k1
  · rw [List.getElem?_set_self (get_lt k2)]
theorem WI.push2 {w : Wd} {rl ro : Nat} {a b : List Int} {y1 y2 : DV} {σ : Store} (h : WI w rl ro a b y1 y2 σ) (v : Int) (hb : b.length ≤ 1000) :
    ∃ y2' σ1 σ2, append PP 0 false 24 24 y2 (.p (.sl true 1 [.int .i64 v])) σ = some (y2', σ1) ∧ store PP 0 24 (.ptr ro 1) y2' σ1 = some σ2 ∧ WI w rl ro a (b ++ [v]) y1 y2' σ2 := by
  obtain ⟨y2', σ1, a1, a2, a3, a4, a5, a6⟩ := wi_app (v := v) h.o2 h.o1 h.ap (by omega) (Nat.zero_le _)
  have k1 := a5.mix h.o2 h.g1 (fun v hv => by cases hv)
  have k2 := a5.mix h.o2 h.g2 (fun v hv => by cases hv)
  refine ⟨y2', σ1, _, a1, st24_w1 (lo := 0) k2 (Nat.zero_le _) a2.one, ?_, ?_, h.ne, a3.setM k2, a2.setM k2, a4⟩
  · rw [List.getElem?_set_ne (Ne.symm h.ne)]; exact k1
  · rw [List.getElem?_set_self (get_lt k2)]
def rpI (l : List Int) (at' off : Nat) : Nat → List Int
  | 0 => []
  | i + 1 => rpI l at' off i ++ (if i + off = at' then [l.getD i 0, l.getD i 0] else [l.getD i 0])
theorem rpI_len (l : List Int) (at' off : Nat) : ∀ i, (rpI l at' off i).length ≤ 2 * i
  | 0 => Nat.le_refl _
  | i + 1 => by
    have := rpI_len l at' off i
    unfold rpI
    rw [List.length_append]
    split <;> simp <;> omega
theorem rpI_out {l : List Int} {at' off : Nat} : ∀ (i : Nat), i ≤ l.length → (at' < off ∨ off + i ≤ at') → rpI l at' off i = l.take i
  | 0, _, _ => rfl
  | i + 1, hi, h => by
    unfold rpI
    rw [if_neg (by omega), rpI_out i (by omega) (by omega), take_getD (by omega)]
theorem rpI_in {l : List Int} {at' off : Nat} (h1 : off ≤ at') : ∀ (i : Nat), i ≤ l.length → at' < off + i → rpI l at' off i = l.take (at' - off + 1) ++ (l.take i).drop (at' - off)
  | 0, _, h => by omega
  | i + 1, hi, h => by
    unfold rpI
    by_cases c : i + off = at'
    · rw [if_pos c, rpI_out i (by omega) (by omega)]
      have e : at' - off = i := by omega
      have hd : (l.take (i + 1)).drop i = [l.getD i 0] := by
        rw [take_getD (by omega), List.drop_append_of_le_length (by simp; omega), List.drop_eq_nil_of_le (by simp; omega)]; rfl
      rw [e, hd, take_getD (by omega)]
      simp
    · have q : (l.take (i + 1)).drop (at' - off) = (l.take i).drop (at' - off) ++ [l.getD i 0] := by
        rw [take_getD (show i < l.length by omega), List.drop_append_of_le_length (by rw [List.length_take]; omega)]
      rw [if_neg c, rpI_in h1 i (by omega) (by omega), q, List.append_assoc]
section
variable {f : Fm} {x : Lb} {w : Wd} (hw15 : (L w.p).length ≤ 15 ∧ (L w.l).length ≤ 15)
include hw15
theorem L11_4 {at' rl ro : Nat} {a : List Int} {y1 : DV} (hat : at' ≤ 100) : ∀ (k i : Nat) (y2 : DV) (σ : Store), (L w.l).length - i = k → i ≤ (L w.l).length → WI w rl ro a (rpI (L w.l) at' (L w.p).length i) y1 y2 σ →
    ∃ y2' σ', f11_L4 guardT 0 (.p (eFm f)) (.pptr (eLb x) 0) (.ptr rl 0) (N at') (.ptr ro 0) (N i) σ = f11_L4 guardT 0 (.p (eFm f)) (.pptr (eLb x) 0) (.ptr rl 0) (N at') (.ptr ro 0) (N (L w.l).length) σ' ∧ WI w rl ro a (rpI (L w.l) at' (L w.p).length (L w.l).length) y1 y2' σ'
  | 0, i, y2, σ, hk, hi, h => by
    have e : i = (L w.l).length := by omega
    subst e
    exact ⟨y2, σ, rfl, h⟩
  | k + 1, i, y2, σ, hk, hi, h => by
    have hlt : i < (L w.l).length := by omega
    have hll := rpI_len (L w.l) at' (L w.p).length i
    have l1 : load1 (.ptr rl 1) σ = some (.p (eSl w.l)) := load1_ptr h.g1 rfl
    have l2 : load1 (.ptr ro 1) σ = some y2 := load1_ptr h.g2 rfl
    obtain ⟨y', σ1, σ2, a1, a2, a3⟩ := h.push2 ((L w.l).getD i 0) (by omega)
    have l3 : load1 (.ptr rl 0) σ2 = some (.p (eSl w.p)) := load1_ptr a3.g1 rfl
    by_cases c : ((i + (L w.p).length : Nat) : Int) = (at' : Nat)
    · have l4 : load1 (.ptr rl 1) σ2 = some (.p (eSl w.l)) := load1_ptr a3.g1 rfl
      have l5 : load1 (.ptr ro 1) σ2 = some y' := load1_ptr a3.g2 rfl
      obtain ⟨y'', σ3, σ4, b1, b2, b3⟩ := a3.push2 ((L w.l).getD i 0) (by simp; omega)
      have e : rpI (L w.l) at' (L w.p).length i ++ [(L w.l).getD i 0] ++ [(L w.l).getD i 0] = rpI (L w.l) at' (L w.p).length (i + 1) := by
        conv => rhs; unfold rpI
        rw [if_pos (by omega)]; simp
      rw [e] at b3
      obtain ⟨y2', σ', c1, c2⟩ := L11_4 hat k (i + 1) y'' σ4 (by omega) (by omega) b3
      refine ⟨y2', σ', ?_, c2⟩
      rw [← c1]
      simp only [N]
      rw [f11_L4_eq guardT rfl]
      simp (disch := omega) only [fa52_0, fa52_1, shift_ptr, shift_pptr, Nat.zero_add, Nat.add_zero, pureFn_fn, List.append_nil, List.singleton_append, List.cons_append, List.nil_append, load24, l1, len24, b_lss, ltT, gG, l2, (PL.sl w.l).idx hlt, load3, load1_getD hlt, bs24_1, a1, a2, l3, addN, b_eql, eqT c, l4, l5, b1, b2, f11_J2_eq, add1]
    · have e : rpI (L w.l) at' (L w.p).length i ++ [(L w.l).getD i 0] = rpI (L w.l) at' (L w.p).length (i + 1) := by
        conv => rhs; unfold rpI
        rw [if_neg (by omega)]
      rw [e] at a3
      obtain ⟨y2', σ', c1, c2⟩ := L11_4 hat k (i + 1) y' σ2 (by omega) (by omega) a3
      refine ⟨y2', σ', ?_, c2⟩
      rw [← c1]
      simp only [N]
      rw [f11_L4_eq guardT rfl]
      simp (disch := omega) only [fa52_0, fa52_1, shift_ptr, shift_pptr, Nat.zero_add, Nat.add_zero, pureFn_fn, List.append_nil, List.singleton_append, List.cons_append, List.nil_append, load24, l1, len24, b_lss, ltT, gG, l2, (PL.sl w.l).idx hlt, load3, load1_getD hlt, bs24_1, a1, a2, l3, addN, b_eql, eqF c, f11_J2_eq, add1]
theorem L11_3 {at' rl ro : Nat} {b : List Int} {y2 : DV} (hat : at' ≤ 100) : ∀ (k i : Nat) (y1 : DV) (σ : Store), (L w.p).length - i = k → i ≤ (L w.p).length → WI w rl ro (rpI (L w.p) at' 0 i) b y1 y2 σ →
    ∃ y1' σ', f11_L3 guardT 0 (.p (eFm f)) (.pptr (eLb x) 0) (.ptr rl 0) (N at') (.ptr ro 0) (N i) σ = f11_L4 guardT 0 (.p (eFm f)) (.pptr (eLb x) 0) (.ptr rl 0) (N at') (.ptr ro 0) (N 0) σ' ∧ WI w rl ro (rpI (L w.p) at' 0 (L w.p).length) b y1' y2 σ'
  | 0, i, y1, σ, hk, hi, h => by
    have e : i = (L w.p).length := by omega
    subst e
    have l1 : load1 (.ptr rl 0) σ = some (.p (eSl w.p)) := load1_ptr h.g1 rfl
    have hnlt : ¬ (((L w.p).length : Nat) : Int) < ((L w.p).length : Nat) := by omega
    refine ⟨y1, σ, ?_, h⟩
    rw [f11_L3_eq guardT rfl]
    simp (disch := omega) only [N, fa52_0, shift_ptr, shift_pptr, Nat.zero_add, Nat.add_zero, pureFn_fn, List.append_nil, List.singleton_append, List.cons_append, List.nil_append, load24, l1, len24, b_lss, ltF hnlt, gG]
    rfl
  | k + 1, i, y1, σ, hk, hi, h => by
    have hlt : i < (L w.p).length := by omega
    have hll := rpI_len (L w.p) at' 0 i
    have l1 : load1 (.ptr rl 0) σ = some (.p (eSl w.p)) := load1_ptr h.g1 rfl
    have l2 : load1 (.ptr ro 0) σ = some y1 := load1_ptr h.g2 rfl
    obtain ⟨y', σ1, σ2, a1, a2, a3⟩ := h.push1 ((L w.p).getD i 0) (by omega)
    by_cases c : ((i : Nat) : Int) = (at' : Nat)
    · have l4 : load1 (.ptr rl 0) σ2 = some (.p (eSl w.p)) := load1_ptr a3.g1 rfl
      have l5 : load1 (.ptr ro 0) σ2 = some y' := load1_ptr a3.g2 rfl
      obtain ⟨y'', σ3, σ4, b1, b2, b3⟩ := a3.push1 ((L w.p).getD i 0) (by simp; omega)
      have e : rpI (L w.p) at' 0 i ++ [(L w.p).getD i 0] ++ [(L w.p).getD i 0] = rpI (L w.p) at' 0 (i + 1) := by
        conv => rhs; unfold rpI
        rw [if_pos (by omega)]; simp
      rw [e] at b3
      obtain ⟨y2', σ', c1, c2⟩ := L11_3 hat k (i + 1) y'' σ4 (by omega) (by omega) b3
      refine ⟨y2', σ', ?_, c2⟩
      rw [← c1]
      simp only [N]
      rw [f11_L3_eq guardT rfl]
      simp (disch := omega) only [fa52_0, shift_ptr, shift_pptr, Nat.zero_add, Nat.add_zero, pureFn_fn, List.append_nil, List.singleton_append, List.cons_append, List.nil_append, load24, l1, len24, b_lss, ltT, gG, l2, (PL.sl w.p).idx hlt, load3, load1_getD hlt, bs24_1, a1, a2, b_eql, eqT c, l4, l5, b1, b2, f11_J1_eq, add1]
    · have e : rpI (L w.p) at' 0 i ++ [(L w.p).getD i 0] = rpI (L w.p) at' 0 (i + 1) := by
        conv => rhs; unfold rpI
        rw [if_neg (by omega)]
      rw [e] at a3
      obtain ⟨y2', σ', c1, c2⟩ := L11_3 hat k (i + 1) y' σ2 (by omega) (by omega) a3
      refine ⟨y2', σ', ?_, c2⟩
      rw [← c1]
      simp only [N]
      rw [f11_L3_eq guardT rfl]
      simp (disch := omega) only [fa52_0, shift_ptr, shift_pptr, Nat.zero_add, Nat.add_zero, pureFn_fn, List.append_nil, List.singleton_append, List.cons_append, List.nil_append, load24, l1, len24, b_lss, ltT, gG, l2, (PL.sl w.p).idx hlt, load3, load1_getD hlt, bs24_1, a1, a2, b_eql, eqF c, f11_J1_eq, add1]
end
section
variable {f : Fm} {x : Lb} (hk : LbOk x) {x5 : DV}
include hk
theorem L11_2 {y : DV} {σ : Store} {i : Nat} (hi : i < (L x.st).length) : ∀ (d k : Nat), (L x.la).length - d = k → d ≤ (L x.la).length →
    f11_L2 guardT 0 (.p (eFm f)) (.pptr (eLb x) 0) x5 y (N i) (N d) σ = some (.p (.bool true), σ) ∨ f11_L2 guardT 0 (.p (eFm f)) (.pptr (eLb x) 0) x5 y (N i) (N d) σ = f11_L0 guardT 0 (.p (eFm f)) (.pptr (eLb x) 0) x5 y (N (i + 1)) σ := by
  have hla := hk.la
  have hn := hk.n
  have hs12 := hk.s12
  intro d k
  induction k generalizing d with
  | zero =>
    intro hd hd2
    right
    rw [f11_L2_eq guardT rfl]
    simp (disch := omega) only [N, fa47_1, shift_ptr, shift_pptr, Nat.zero_add, Nat.add_zero, pureFn_fn, List.append_nil, List.singleton_append, List.cons_append, List.nil_append, load24, lb_3, len24, b_lss, ltF, gG, add1]
  | succ k ih =>
    intro hd hd2
    have h : d < (L x.la).length := by omega
    have hh := ih (d + 1) (by omega) (by omega)
    simp only [N] at hh
    by_cases c1 : (L x.st).getD i 0 = -1
    · have e : f11_L2 guardT 0 (.p (eFm f)) (.pptr (eLb x) 0) x5 y (N i) (N d) σ = f11_L2 guardT 0 (.p (eFm f)) (.pptr (eLb x) 0) x5 y (N i) (N (d + 1)) σ := by
        rw [f11_L2_eq guardT rfl]
        simp (disch := omega) only [N, fa47_1, fa47_2, shift_ptr, shift_pptr, Nat.zero_add, Nat.add_zero, pureFn_fn, List.append_nil, List.singleton_append, List.cons_append, List.nil_append, load24, lb_3, lb_4, len24, b_lss, ltT, gG, (PL.sl x.st).idx hi, load3, load1_getD hi, b_neq, eqT c1, add1]
      rw [e]; exact hh
    · have hsv := hk.sv i hi
      obtain ⟨v0, v1⟩ := hsv
      have s60 := fun σ => S60 (x := (L x.la).getD d 0) (m := (L x.st).getD i 0) (hk.lv d h) ⟨by omega, v1⟩ σ
      cases c2 : bit ((L x.la).getD d 0) ((L x.st).getD i 0) with
      | true =>
        left
        rw [f11_L2_eq guardT rfl]
        simp (disch := omega) only [N, fa47_1, fa47_2, shift_ptr, shift_pptr, Nat.zero_add, Nat.add_zero, pureFn_fn, List.append_nil, List.singleton_append, List.cons_append, List.nil_append, load24, lb_3, lb_4, len24, b_lss, ltT, gG, (PL.sl x.st).idx hi, (PL.sl x.la).idx h, load3, load1_getD hi, load1_getD h, b_neq, eqF c1, s60, c2]
      | false =>
        have e : f11_L2 guardT 0 (.p (eFm f)) (.pptr (eLb x) 0) x5 y (N i) (N d) σ = f11_L2 guardT 0 (.p (eFm f)) (.pptr (eLb x) 0) x5 y (N i) (N (d + 1)) σ := by
          rw [f11_L2_eq guardT rfl]
          simp (disch := omega) only [N, fa47_1, fa47_2, shift_ptr, shift_pptr, Nat.zero_add, Nat.add_zero, pureFn_fn, List.append_nil, List.singleton_append, List.cons_append, List.nil_append, load24, lb_3, lb_4, len24, b_lss, ltT, gG, (PL.sl x.st).idx hi, (PL.sl x.la).idx h, load3, load1_getD hi, load1_getD h, b_neq, eqF c1, s60, c2, add1]
        rw [e]; exact hh
theorem L11_1 {y : DV} {σ : Store} {i : Nat} (hi : i < (L x.st).length) : ∀ (k d : Nat), (L x.st).length - d = k → d ≤ (L x.st).length →
    f11_L1 guardT 0 (.p (eFm f)) (.pptr (eLb x) 0) x5 y (N i) (N d) σ = some (.p (.bool true), σ) ∨ f11_L1 guardT 0 (.p (eFm f)) (.pptr (eLb x) 0) x5 y (N i) (N d) σ = f11_L2 guardT 0 (.p (eFm f)) (.pptr (eLb x) 0) x5 y (N i) (N 0) σ := by
  have hs12 := hk.s12
  have hse := hk.se
  intro k
  induction k with
  | zero =>
    intro d hd hd2
    right
    rw [f11_L1_eq guardT rfl]
    simp (disch := omega) only [N, fa47_2, shift_ptr, shift_pptr, Nat.zero_add, Nat.add_zero, pureFn_fn, List.append_nil, List.singleton_append, List.cons_append, List.nil_append, load24, lb_4, len24, b_lss, ltF, gG]
    rfl
  | succ k ih =>
    intro d hd hd2
    have h : d < (L x.en).length := by omega
    have hh := ih (d + 1) (by omega) (by omega)
    simp only [N] at hh
    by_cases c1 : (L x.st).getD i 0 = -1
    · have e : f11_L1 guardT 0 (.p (eFm f)) (.pptr (eLb x) 0) x5 y (N i) (N d) σ = f11_L1 guardT 0 (.p (eFm f)) (.pptr (eLb x) 0) x5 y (N i) (N (d + 1)) σ := by
        rw [f11_L1_eq guardT rfl]
        simp (disch := omega) only [N, fa47_2, shift_ptr, shift_pptr, Nat.zero_add, Nat.add_zero, pureFn_fn, List.append_nil, List.singleton_append, List.cons_append, List.nil_append, load24, lb_4, len24, b_lss, ltT, gG, (PL.sl x.st).idx hi, load3, load1_getD hi, b_neq, eqT c1, add1]
      rw [e]; exact hh
    · by_cases c2 : (L x.en).getD d 0 = (L x.st).getD i 0
      · left
        rw [f11_L1_eq guardT rfl]
        simp (disch := omega) only [N, fa47_2, fa47_3, shift_ptr, shift_pptr, Nat.zero_add, Nat.add_zero, pureFn_fn, List.append_nil, List.singleton_append, List.cons_append, List.nil_append, load24, lb_4, lb_5, len24, b_lss, ltT, gG, (PL.sl x.st).idx hi, (PL.sl x.en).idx h, load3, load1_getD hi, load1_getD h, b_neq, eqF c1, b_eql, eqT c2]
      · have e : f11_L1 guardT 0 (.p (eFm f)) (.pptr (eLb x) 0) x5 y (N i) (N d) σ = f11_L1 guardT 0 (.p (eFm f)) (.pptr (eLb x) 0) x5 y (N i) (N (d + 1)) σ := by
          rw [f11_L1_eq guardT rfl]
          simp (disch := omega) only [N, fa47_2, fa47_3, shift_ptr, shift_pptr, Nat.zero_add, Nat.add_zero, pureFn_fn, List.append_nil, List.singleton_append, List.cons_append, List.nil_append, load24, lb_4, lb_5, len24, b_lss, ltT, gG, (PL.sl x.st).idx hi, (PL.sl x.en).idx h, load3, load1_getD hi, load1_getD h, b_neq, eqF c1, b_eql, eqF c2, add1]
        rw [e]; exact hh
theorem L11_0 : ∀ (k i : Nat) (y : DV) (σ : Store), (L x.st).length - i = k → i ≤ (L x.st).length → Out σ 0 1 (((L x.st).take i).filter fun v => !decide (v = -1)).length (eInts (((L x.st).take i).filter fun v => !decide (v = -1))) y →
    (∃ σ', f11_L0 guardT 0 (.p (eFm f)) (.pptr (eLb x) 0) x5 y (N i) σ = some (.p (.bool true), σ')) ∨ ∃ y' σ', f11_L0 guardT 0 (.p (eFm f)) (.pptr (eLb x) 0) x5 y (N i) σ = f11_L0 guardT 0 (.p (eFm f)) (.pptr (eLb x) 0) x5 y' (N (L x.st).length) σ' ∧ Out σ' 0 1 (stL x).length (eInts (stL x)) y'
  | 0, i, y, σ, hd, hi, ho => by
    have e : i = (L x.st).length := by omega
    subst e
    rw [List.take_length] at ho
    exact .inr ⟨y, σ, rfl, ho⟩
  | k + 1, i, y, σ, hd, hi, ho => by
    have hs12 := hk.s12
    have h : i < (L x.st).length := by omega
    have hfl : (((L x.st).take i).filter fun v => !decide (v = -1)).length ≤ i := by
      have := List.length_filter_le (fun v => !decide (v = -1)) ((L x.st).take i)
      rw [List.length_take] at this
      omega
    have ht : ((L x.st).take (i + 1)).filter (fun v => !decide (v = -1)) = ((L x.st).take i).filter (fun v => !decide (v = -1)) ++ (if (L x.st).getD i 0 = -1 then [] else [(L x.st).getD i 0]) := by
      rw [take_getD h, List.filter_append]
      congr 1
      by_cases c : (L x.st).getD i 0 = -1
      · rw [if_pos c, List.filter_cons_of_neg (by rw [decide_eq_true c]; simp)]; rfl
      · rw [if_neg c, List.filter_cons_of_pos (by rw [decide_eq_false c]; rfl)]; rfl
    have step : ∀ (y' : DV) (σ' : Store), Out σ' 0 1 (((L x.st).take (i + 1)).filter fun v => !decide (v = -1)).length (eInts (((L x.st).take (i + 1)).filter fun v => !decide (v = -1))) y' →
        (∃ σ'', f11_L1 guardT 0 (.p (eFm f)) (.pptr (eLb x) 0) x5 y' (N i) (N 0) σ' = some (.p (.bool true), σ'')) ∨ ∃ y'' σ'', f11_L1 guardT 0 (.p (eFm f)) (.pptr (eLb x) 0) x5 y' (N i) (N 0) σ' = f11_L0 guardT 0 (.p (eFm f)) (.pptr (eLb x) 0) x5 y'' (N (L x.st).length) σ'' ∧ Out σ'' 0 1 (stL x).length (eInts (stL x)) y'' := by
      intro y' σ' ho'
      rcases L11_1 (f := f) hk (x5 := x5) (y := y') (σ := σ') h _ 0 rfl (Nat.zero_le _) with e | e
      · exact .inl ⟨σ', e⟩
      · rcases L11_2 (f := f) hk (x5 := x5) (y := y') (σ := σ') h 0 _ rfl (Nat.zero_le _) with e2 | e2
        · exact .inl ⟨σ', e.trans e2⟩
        · rcases L11_0 k (i + 1) y' σ' (by omega) (by omega) ho' with ⟨σ'', e3⟩ | ⟨y'', σ'', e3, e4⟩
          · exact .inl ⟨σ'', e.trans (e2.trans e3)⟩
          · exact .inr ⟨y'', σ'', e.trans (e2.trans e3), e4⟩
    by_cases c : (L x.st).getD i 0 = -1
    · rw [if_pos c, List.append_nil] at ht
      rw [← ht] at ho
      have e : f11_L0 guardT 0 (.p (eFm f)) (.pptr (eLb x) 0) x5 y (N i) σ = f11_L1 guardT 0 (.p (eFm f)) (.pptr (eLb x) 0) x5 y (N i) (N 0) σ := by
        rw [f11_L0_eq guardT rfl]
        simp (disch := omega) only [N, fa47_2, shift_ptr, shift_pptr, Nat.zero_add, Nat.add_zero, pureFn_fn, List.append_nil, List.singleton_append, List.cons_append, List.nil_append, load24, lb_4, len24, b_lss, ltT, gG, (PL.sl x.st).idx h, load3, load1_getD h, b_neq, eqT c, f11_J0_eq]
        rfl
      rw [e]
      exact step y σ ho
    · rw [if_neg c] at ht
      obtain ⟨y', σ', a1, a2, _, _⟩ := Out.pushI (v := (L x.st).getD i 0) ho (by omega) (Nat.zero_le _)
      rw [← ht] at a2
      have e : f11_L0 guardT 0 (.p (eFm f)) (.pptr (eLb x) 0) x5 y (N i) σ = f11_L1 guardT 0 (.p (eFm f)) (.pptr (eLb x) 0) x5 y' (N i) (N 0) σ' := by
        rw [f11_L0_eq guardT rfl]
        simp (disch := omega) only [N, fa47_2, shift_ptr, shift_pptr, Nat.zero_add, Nat.add_zero, pureFn_fn, List.append_nil, List.singleton_append, List.cons_append, List.nil_append, load24, lb_4, len24, b_lss, ltT, gG, (PL.sl x.st).idx h, load3, load1_getD h, b_neq, eqF c, bs24_1, a1, f11_J0_eq]
        rfl
      rw [e]
      exact step y' σ' a2
end
theorem st52g {σ : Store} (w : Wd) : store PP 0 52 (.ptr σ.length 0) (vWd w) (σ ++ [.mix [.p .nilsl, .p .nilsl]]) = some (σ ++ [.mix [.p (eSl w.p), .p (eSl w.l)]]) := by
  have s52 : size? PP 52 = some 2 := Eq.trans (by kernel_rfl) rfl
  simp [store, s52, DV.cells, vWd, storeN, DV.one, splice]
theorem call11 (x : Lb) (f : Fm) (q : Rp) : ∃ σ', CC 0 11 [vLb x, .p (eFm f), vRp q] [] = some (.p (.bool true), σ') := by
  have haw := awake_true
  obtain ⟨b, b1, b2⟩ := S13 f []
  have h23 := fun σ => S23 x σ
  have ldw : (loadN ([] : Store) 2 (.pptr (eRp q) 0)).map DV.agg = some (vWd q.w) := rp_w q _
  cases b with
  | false =>
    refine ⟨[], F11_call ?_⟩
    rw [F11_eq]
    simp (maxSteps := 1000000) only [box_lb, box_rp, gG, shift_ptr, shift_pptr, Nat.zero_add, Nat.add_zero, pureFn_fn, List.append_nil, List.singleton_append, List.cons_append, List.nil_append, haw _, b1]
  | true =>
    have hf := b2 rfl
    cases hs : smB x with
    | false =>
      refine ⟨[], F11_call ?_⟩
      rw [F11_eq]
      simp (maxSteps := 1000000) only [box_lb, box_rp, gG, shift_ptr, shift_pptr, Nat.zero_add, Nat.add_zero, pureFn_fn, List.append_nil, List.singleton_append, List.cons_append, List.nil_append, haw _, b1, load47, lb_all, h23, hs]
    | true =>
      have hx := smB_ok hs
      by_cases d1 : (L q.w.p).length ≤ 15
      · by_cases d2 : (L q.w.l).length ≤ 15
        · have h25 := fun σ => S25 hf σ
          by_cases hc : (chk (L f)).2 = 0
          · have hl : (L q.w.p).length + (L q.w.l).length ≤ 1000 := by omega
            have h57 := fun σ => S57 hx hl σ
            by_cases hE : (chkLs x q.w).2 = 0
            · have hF := chk_ok hc
              obtain ⟨hk, h0, h60, hin, _, _⟩ := lsOk hE
              have hs12 := hk.s12
              -- the atoms of steps
              have key : ∃ σ', f11_L0 guardT 0 (.p (eFm f)) (.pptr (eLb x) 0) (.pptr (eRp q) 0) (.p .nilsl) (N 0) [] = some (.p (.bool true), σ') := by
                rcases L11_0 (f := f) hk (x5 := .pptr (eRp q) 0) _ 0 (.p .nilsl) [] rfl (Nat.zero_le _) (by rw [List.take_zero]; exact Out.zero) with h | ⟨y, σ, e1, ho⟩
                · exact h
                · have hsl : (stL x).length ≤ 12 := by
                    have := List.length_filter_le (fun v => !decide (v = -1)) (L x.st)
                    unfold stL; omega
                  obtain ⟨o, v1, v2⟩ := (out_pl ho).vw
                  have h54 : ∀ σ, pureV CC 54 [.p (eFm f), y] σ = some (.p (.bool (gR (L f) (stL x) (L f).length ((L f).length - 1)))) := fun σ => by
                    rw [pureV_view (args' := [.p (eFm f), .p (eSl o)]) (by simp only [List.map_cons, List.map_nil, fm_view, v1]) (by simp only [List.map_cons, List.map_nil, fm_view, sl_view]), ← v2]
                    exact S54 (o := o) hf hF (by rw [v2]; omega) σ
                  have hnlt : ¬ (((L x.st).length : Nat) : Int) < ((L x.st).length : Nat) := by omega
                  cases hg : gR (L f) (stL x) (L f).length ((L f).length - 1) with
                  | false =>
                    refine ⟨σ, e1.trans ?_⟩
                    rw [f11_L0_eq guardT rfl]
                    simp (disch := omega) only [N, fa47_2, shift_ptr, shift_pptr, Nat.zero_add, Nat.add_zero, pureFn_fn, List.append_nil, List.singleton_append, List.cons_append, List.nil_append, load24, lb_4, len24, b_lss, ltF hnlt, gG, h54, hg]
                  | true =>
                    have hAl : (L q.w.p ++ L q.w.l).length = (L q.w.p).length + (L q.w.l).length := List.length_append
                    obtain ⟨at', ha, hat⟩ := S61 (n := (L q.w.p).length + (L q.w.l).length) (by omega) (by omega) q.t (σ ++ [.mix [.p (eSl q.w.p), .p (eSl q.w.l)]])
                    have sw := st52g (σ := σ) q.w
                    have g1 : (σ ++ [Row.mix [.p (eSl q.w.p), .p (eSl q.w.l)]])[σ.length]? = some (.mix [.p (eSl q.w.p), .p (eSl q.w.l)]) := get_snoc
                    have k0 : load1 (.ptr σ.length 0) (σ ++ [Row.mix [.p (eSl q.w.p), .p (eSl q.w.l)]]) = some (.p (eSl q.w.p)) := load1_ptr g1 rfl
                    have k1 : load1 (.ptr σ.length 1) (σ ++ [Row.mix [.p (eSl q.w.p), .p (eSl q.w.l)]]) = some (.p (eSl q.w.l)) := load1_ptr g1 rfl
                    have k2 : load1 (.pptr (eRp q) 2) (σ ++ [Row.mix [.p (eSl q.w.p), .p (eSl q.w.l)]]) = some (.p (.int .i64 q.t)) := rp_2 q _
                    have hz : zeroOf PP 52 = some [.p .nilsl, .p .nilsl] := zero52
                    generalize hσ1 : σ ++ [Row.mix [.p (eSl q.w.p), .p (eSl q.w.l)]] = σ1 at *
                    have hl1 : σ1.length = σ.length + 1 := by rw [← hσ1]; simp
                    have wi : WI q.w σ.length σ1.length (rpI (L q.w.p) at' 0 0) (rpI (L q.w.l) at' (L q.w.p).length 0) (.p .nilsl) (.p .nilsl) (σ1 ++ [.mix [.p .nilsl, .p .nilsl]]) :=
                      ⟨get_old g1, get_snoc, by omega, Out.zero, Out.zero, fun r v s n c r' v' s' n' c' e1 e2 => by cases e1⟩
                    obtain ⟨y1, σ2, m1, m2⟩ := L11_3 (f := f) (x := x) (w := q.w) ⟨d1, d2⟩ (at' := at') (by omega) _ 0 (.p .nilsl) _ rfl (Nat.zero_le _) wi
                    obtain ⟨y2, σ3, n1, n2⟩ := L11_4 (f := f) (x := x) (w := q.w) ⟨d1, d2⟩ (at' := at') (by omega) _ 0 (.p .nilsl) _ rfl (Nat.zero_le _) m2
                    have fin : ∀ (P' Q' : List Int), rpI (L q.w.p) at' 0 (L q.w.p).length = P' → rpI (L q.w.l) at' (L q.w.p).length (L q.w.l).length = Q' → P' ++ Q' = rpA (L q.w.p ++ L q.w.l) at' → P'.length = bk (L q.w.p).length at' → Q' ≠ [] → isF x Q' = isF x (L q.w.l) →
                        ∃ σ', f11_L4 guardT 0 (.p (eFm f)) (.pptr (eLb x) 0) (.ptr σ.length 0) (N at') (.ptr σ1.length 0) (N (L q.w.l).length) σ3 = some (.p (.bool true), σ') := by
                      intro P' Q' eP eQ h1 h2 h3 h4
                      rw [eP, eQ] at n2
                      exact L11_end hF hx hE ⟨d1, d2⟩ (by rw [hAl]; exact ha) hg h1 h2 h3 h4 n2.g1 n2.g2 n2.o1 n2.o2
                    have fin2 : ∃ σ', f11_L4 guardT 0 (.p (eFm f)) (.pptr (eLb x) 0) (.ptr σ.length 0) (N at') (.ptr σ1.length 0) (N (L q.w.l).length) σ3 = some (.p (.bool true), σ') := by
                      by_cases c : at' < (L q.w.p).length
                      · refine fin (rpA (L q.w.p) at') (L q.w.l) ?_ ?_ ?_ ?_ (List.length_pos_iff.1 h0) rfl
                        · rw [rpI_in (Nat.zero_le _) _ (Nat.le_refl _) (by omega), List.take_length]; rfl
                        · rw [rpI_out _ (Nat.le_refl _) (.inl c), List.take_length]
                        · unfold rpA
                          rw [List.append_assoc, List.take_append_of_le_length (by omega), List.drop_append_of_le_length (by omega)]
                        · rw [rpA_len c]; unfold bk; rw [if_pos c]
                      · have hb : at' - (L q.w.p).length < (L q.w.l).length := by omega
                        have hrl := rpA_len hb
                        refine fin (L q.w.p) (rpA (L q.w.l) (at' - (L q.w.p).length)) ?_ ?_ ?_ ?_ (fun e => ?_) (isF_rep x hb)
                        · rw [rpI_out _ (Nat.le_refl _) (.inr (by omega)), List.take_length]
                        · rw [rpI_in (by omega) _ (Nat.le_refl _) (by omega), List.take_length]; rfl
                        · unfold rpA
                          rw [List.take_append, List.drop_append, List.take_of_length_le (show (L q.w.p).length ≤ at' + 1 by omega), List.drop_eq_nil_of_le (show (L q.w.p).length ≤ at' by omega), List.nil_append, show at' + 1 - (L q.w.p).length = at' - (L q.w.p).length + 1 by omega, List.append_assoc]
                        · unfold bk; rw [if_neg c]
                        · rw [e] at hrl; simp at hrl
                    obtain ⟨σ', hfin⟩ := fin2
                    have hall := m1.trans (n1.trans hfin)
                    refine ⟨σ', e1.trans ?_⟩
                    simp only [N] at hall
                    rw [f11_L0_eq guardT rfl]
                    simp (maxSteps := 1000000) (disch := omega) only [N, fa47_2, shift_ptr, shift_pptr, Nat.zero_add, Nat.add_zero, pureFn_fn, List.append_nil, List.singleton_append, List.cons_append, List.nil_append, load24, lb_4, len24, b_lss, ltF hnlt, gG, h54, hg, fa98_0, fa98_1, load52, rp_w, hz, sw, load3, k2, fa52_0, fa52_1, k0, k1, addN, hat]
                    exact hall
              obtain ⟨σ', hkey⟩ := key
              refine ⟨σ', F11_call ?_⟩
              simp only [N] at hkey
              rw [F11_eq]
              simp (maxSteps := 1000000) (disch := omega) only [box_lb, box_rp, gG, shift_ptr, shift_pptr, Nat.zero_add, Nat.add_zero, pureFn_fn, List.append_nil, List.singleton_append, List.cons_append, List.nil_append, haw _, b1, load47, lb_all, h23, hs, fa98_0, fa52_0, fa52_1, load24, rp_0, rp_1, len24, b_gtr, gtF, h25, hc, b_neq, eqT (rfl : (0 : Int) = 0), load52, ldw, h57, hE]
              exact hkey
            · refine ⟨[], F11_call ?_⟩
              rw [F11_eq]
              simp (maxSteps := 1000000) (disch := omega) only [box_lb, box_rp, gG, shift_ptr, shift_pptr, Nat.zero_add, Nat.add_zero, pureFn_fn, List.append_nil, List.singleton_append, List.cons_append, List.nil_append, haw _, b1, load47, lb_all, h23, hs, fa98_0, fa52_0, fa52_1, load24, rp_0, rp_1, len24, b_gtr, gtF, h25, hc, b_neq, eqT (rfl : (0 : Int) = 0), load52, ldw, h57, eqF hE]
          · refine ⟨[], F11_call ?_⟩
            rw [F11_eq]
            simp (maxSteps := 1000000) (disch := omega) only [box_lb, box_rp, gG, shift_ptr, shift_pptr, Nat.zero_add, Nat.add_zero, pureFn_fn, List.append_nil, List.singleton_append, List.cons_append, List.nil_append, haw _, b1, load47, lb_all, h23, hs, fa98_0, fa52_0, fa52_1, load24, rp_0, rp_1, len24, b_gtr, gtF, h25, b_neq, eqF hc]
        · refine ⟨[], F11_call ?_⟩
          rw [F11_eq]
          simp (maxSteps := 1000000) (disch := omega) only [box_lb, box_rp, gG, shift_ptr, shift_pptr, Nat.zero_add, Nat.add_zero, pureFn_fn, List.append_nil, List.singleton_append, List.cons_append, List.nil_append, haw _, b1, load47, lb_all, h23, hs, fa98_0, fa52_0, fa52_1, load24, rp_0, rp_1, len24, b_gtr, gtF, gtT]
      · refine ⟨[], F11_call ?_⟩
        rw [F11_eq]
        simp (maxSteps := 1000000) (disch := omega) only [box_lb, box_rp, gG, shift_ptr, shift_pptr, Nat.zero_add, Nat.add_zero, pureFn_fn, List.append_nil, List.singleton_append, List.cons_append, List.nil_append, haw _, b1, load47, lb_all, h23, hs, fa98_0, fa52_0, fa52_1, load24, rp_0, rp_1, len24, b_gtr, gtT]
end Go.D
end
/- LassoStutters: for every labelled graph, formula and behaviour with a place the law answers true and leaves its arguments as they were: the given tied card, without further conditions. -/
section
set_option linter.unusedVariables false
set_option linter.unusedSimpArgs false
set_option maxRecDepth 100000
namespace Go.D
open Go.ChangeShapes Go.WideShapes Go.ChangeAt Go.RowKit

theorem lassoStutters_calls {H : Type} {enc : TypeId × Value → H} {W : World} {base : Nat} {args : Array Value} {ds : List (DataW H)} {ps : List MemPlace}
    (hval : ∀ (j : Nat) t v, ([47, 23, 98] : List TypeId).toArray[j]? = some t → args[j]? = some v → Value.okWide PP W .any base t v)
    (hA : DataW.TrodAll enc PP W 0 (fun _ => true) true [47, 23, 98] args.toList ds ps) :
    Calls PP 11 args W fun e W' => e = .returned (.bool true) ∧ Below W.heap.size W W' := by
  obtain ⟨v0, v1, v2, d0, d1, d2, p0, p1, p2, rfl, rfl, rfl, h0, h1, h2⟩ := trodAll_three hA
  obtain ⟨o0, ho0⟩ := read_lb (hval 0 47 v0 rfl rfl) h0
  obtain ⟨o1, ho1⟩ := read_fm (hval 1 23 v1 rfl rfl) h1
  obtain ⟨o2, ho2⟩ := read_rp (hval 2 98 v2 rfl rfl) h2
  obtain ⟨σ', hc⟩ := call11 o0 o1 o2
  refine calls_of hc ⟨rfl, fun j h1 h2 => ?_⟩
  match j, h1 with
  | 0, _ => exact ho0
  | 1, _ => exact ho1
  | 2, _ => exact ho2

end Go.D
namespace Go.Proofs.YtpacancmcjbckaaGreatDoor
open Go.D Go.ChangeShapes Go.WideShapes Go.ChangeAt Go.RowKit

set_option maxRecDepth 100000 in
theorem lassoStutters_lifted (os : Os) (started : os.Started) (H : Type) (enc : TypeId × Value → H) :
    ReturnsInHanded {} Tryz.checked os 11 .any (fun w args => (Rows.lassoStuttersSpec.pre enc Tryz.prog Tryz.f11 [] false w args ∧ laidMetH Tryz.prog Rows.lassoStuttersRow.laid w) ∧ sizedMet enc Tryz.prog Tryz.f11 (OpenSpec.ofChange Rows.lassoStuttersSpec) false w args)
      (Rows.lassoStuttersSpec.post enc Tryz.prog Tryz.f11 false true false false) := by
  refine returnsInHanded_of_change_and (C := Tryz.checked) (X := fun w _ => laidMetH Tryz.prog Rows.lassoStuttersRow.laid w) (fun _ _ _ hh h => h.of_heap hh) own_ok started (by kernel_rfl) Tryz.func11
    (ChangeSpec.witness_at (enc := enc) (C := Tryz.checked) (os := os) (X := fun w _ => laidMetH Tryz.prog Rows.lassoStuttersRow.laid w) false (laidW os) #[.agg #[.int .i64 0, .slice none 0 0, .slice none 0 0, .slice none 0 0, .slice none 0 0, .slice none 0 0, .slice none 0 0, .slice none 0 0], .slice none 0 0, .agg #[.slice none 0 0, .slice none 0 0, .int .i64 0]] 8 (World.laidAll_os _ _ _) (by kernel_rfl) (by kernel_rfl) (by kernel_rfl) (by kernel_rfl) (by kernel_rfl) (laidW_met os _)) ?_
  intro W base args ds gs before hval0 hW _ _ _ _
  have hval : ∀ (j : Nat) t v, Tryz.f11.params[j]? = some t → args[j]? = some v → Value.okWide Tryz.prog W .any base t v := hval0
  have hW' := hW
  obtain ⟨p, q, hA0, hV, rfl, _, _⟩ := hW
  have hA : DataW.TrodAll enc Tryz.prog W 0 (fun _ => true) true Tryz.f11.params.toList args.toList ds p := hA0
  rw [Tryz.params11] at hA hval
  have hA2 := hA
  obtain ⟨v0, v1, v2, d0, d1, d2, p0, p1, p2, rfl, rfl, rfl, h0, h1, h2⟩ := trodAll_three hA
  obtain ⟨rfl, rfl⟩ := trodVars_none hV
  have hlt : ∀ x ∈ p0 ++ p1 ++ p2, x.block < W.heap.size := fun x hx => by
    have := hW'.lt x (by simpa using hx)
    exact this
  have e0 : ∀ x ∈ p0, x.block < W.heap.size := fun x hx => hlt x (List.mem_append_left _ (List.mem_append_left _ hx))
  have e1 : ∀ x ∈ p1, x.block < W.heap.size := fun x hx => hlt x (List.mem_append_left _ (List.mem_append_right _ hx))
  have e2 : ∀ x ∈ p2, x.block < W.heap.size := fun x hx => hlt x (List.mem_append_right _ hx)
  refine (lassoStutters_calls (base := base) hval hA2).mono ?_
  rintro e W2 ⟨rfl, hnx⟩
  refine ⟨_, rfl, _, _, _, [], p0 ++ (p1 ++ p2), [], hW', ?_, ?_, rfl, hnx.frame _, fun h => by cases h⟩
  · exact trodAll_mk1 (shut_bool ul4 true)
  · exact trodAll_mk3 (Below.trod laidOut_ok (by kernel_rfl) (of_decide_eq_true (by kernel_rfl)) h0 hnx e0) (Below.trod laidOut_ok (by kernel_rfl) (of_decide_eq_true (by kernel_rfl)) h1 hnx e1) (Below.trod laidOut_ok (by kernel_rfl) (of_decide_eq_true (by kernel_rfl)) h2 hnx e2)

theorem lassoStutters_row : Rows.LassoStuttersSaid :=
  OpenClaim.holds_of_wide 11 Tryz.f11 rfl rfl rfl rfl rfl rfl rfl ⟨rfl, rfl, rfl, rfl, rfl⟩ rfl rfl rfl rfl rfl (by kernel_rfl) Tryz.func11 (by kernel_rfl)
    (of_decide_eq_true (by kernel_rfl)) (by unfold Func.isWrapper; first | (rw [if_pos (by decide +kernel)]; kernel_rfl) | (rw [if_neg (by decide +kernel)]; exact ⟨rfl, rfl⟩))
    (fun os started H enc _ => lassoStutters_lifted os started H enc)

theorem lassoStutters_holds : Rows.LassoStuttersCardSaid :=
  Claim7.holds_tied_plain_at .later [] [.data, .data, .data, .sentinel, .sentinel] true (true, "98bef7c5375844f969da89516d037819b1a57239a7494585b2bb93910f3c950f") true
    lassoStutters_row (fun _ h => by cases h) (by kernel_rfl) (fun _ h => by cases h) lassoStutters_row_tie rfl ⟨rfl, rfl⟩ (by kernel_rfl) rfl
    (fun f fn hf hfn => by
      obtain rfl : f = 11 := Option.some.inj ((show Tryz.prog.funcNamed "stutter/stutterlaw13.LassoStutters" = some 11 by kernel_rfl).symm.trans hf) |>.symm
      obtain rfl : fn = Tryz.f11 := (Option.some.inj (Tryz.func11.symm.trans hfn)).symm
      refine ⟨by kernel_rfl, fun j t ht => ?_⟩
      have hall : (Tryz.f11.params.toList.all fun t => Tryz.prog.wantsStandIn t == false) = true := by kernel_rfl
      have hm : t ∈ Tryz.f11.params.toList := by
        have := Array.mem_of_getElem? ht
        exact this.val
      exact eq_of_beq (List.all_eq_true.1 hall t hm))
    (by kernel_rfl)

end Go.Proofs.YtpacancmcjbckaaGreatDoor
end
