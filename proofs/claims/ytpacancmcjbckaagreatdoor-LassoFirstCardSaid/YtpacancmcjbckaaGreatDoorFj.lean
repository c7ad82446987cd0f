/- LassoFirst: for every labelled graph, formula and number the law answers true and leaves its arguments as they were: the given tied card, without further conditions. -/
import Derived.Test.YtpacancmcjbckaaGreatDoorFd
import Derived.Test.YtpacancmcjbckaaGreatDoorFh
import Derived.Test.YtpacancmcjbckaaGreatDoorFi
import Derived.Test.YtpacancmcjbckaaGreatDoorFe
import Derived.Test.YtpacancmcjbckaaGreatDoorFf
import Derived.Test.YtpacancmcjbckaaGreatDoorFc
import Derived.Test.YtpacancmcjbckaaGreatDoorTie
import Derived.Test.YtpacancmcjbckaaGreatDoorCards
import Derived.SevenTiedAt
/- Chapter 13: LassoWords' law. -/
section
set_option linter.unusedVariables false
set_option linter.unusedSimpArgs false
namespace Go.D
open Las
set_option maxRecDepth 4000
theorem b_eql30 (x y : Int) : binOp PP .eql 30 (.p (.int .i64 x)) (.p (.int .i64 y)) = some (.p (.bool (decide (x = y)))) := Eq.trans (by kernel_rfl) rfl
def awT : Prop := ∀ σ : Store, pureV CC 12 [] σ = some (.p (.bool true))
end Go.D
end
/- The examples of chapter 13: awake answers true. -/
section
set_option linter.unusedVariables false
set_option linter.unusedSimpArgs false
set_option maxRecDepth 100000
namespace Go.D
def exS1 : Store := [.mix [.p (exN [1]), .p (exN [2, 3])]]
def exS2 : Store := [.mix [.p (exN [1]), .p (exN [2, 3])], .mix [.p (.sl false 0 []), .p (exN [0])]]
theorem K48 (σ : Store) : pureV CC 48 [.p (.str lstr0)] σ = some (.tuple [.p exF, .p (pI 12), .p (pI 0)]) := pureV_run run48 rfl rfl
theorem K62a (σ : Store) : pureV CC 62 [.p (.int .i64 0)] σ = some (.p exA0) := pureV_run run62a rfl rfl
theorem K62b (σ : Store) : pureV CC 62 [.p (.int .i64 1)] σ = some (.p exA1) := pureV_run run62b rfl rfl
theorem K63 (σ : Store) : pureV CC 63 [.p .nilsl] σ = some exY := pureV_run run63 rfl rfl
theorem K38a (σ : Store) : pureV CC 38 [.p (.int .i64 8), .p (.sl true 2 [exA0, exA1])] σ = some (.p exU) := by
  rw [pureV_view (args' := [.p (pI 8), .p (.sl false 2 [exA0, exA1])]) rfl rfl]
  exact pureV_run run38a rfl rfl
theorem K38b (σ : Store) : pureV CC 38 [.p (.int .i64 7), .p (.sl true 1 [exA0])] σ = some (.p exB) := by
  rw [pureV_view (args' := [.p (pI 7), .p (.sl false 1 [exA0])]) rfl rfl]
  exact pureV_run run38b rfl rfl
theorem K32 (σ : Store) : pureV CC 32 [.agg [.p (.sl true 3 [.int .i64 1, .int .i64 1, .int .i64 2]), .p (.sl true 3 [.int .i64 3, .int .i64 2, .int .i64 2])]] σ = some (.tuple [.agg [.p (exN [1]), .p (exN [2, 3])], .p (pI 0)]) := by
  rw [pureV_view (args' := [.agg [.p (exN [1, 1, 2]), .p (exN [3, 2, 2])]]) rfl rfl]
  exact pureV_run run32 rfl rfl
theorem K29 (σ : Store) : pureV CC 29 [exL, .agg [.p .nilsl, .p (.sl true 1 [.int .i64 0])]] σ = some (.p (.bool true)) := by
  rw [pureV_view (args' := [exL, .agg [.p .nilsl, .p (exN [0])]]) rfl rfl]
  exact pureV_run run29 rfl rfl
theorem K20 (σ : Store) : pureV CC 20 [.p exU, .agg [.p (.sl true 2 [.int .i64 0, .int .i64 1]), .p (.sl true 2 [.int .i64 2, .int .i64 0])]] σ = some (.tuple [.p (.bool true), .p (pI 0)]) := by
  rw [pureV_view (args' := [.p exU, .agg [.p (exN [0, 1]), .p (exN [2, 0])]]) rfl rfl]
  exact pureV_run run20 rfl rfl
theorem K27 (σ : Store) : pureV CC 27 [exY, .p exB, .p (.int .i64 2)] σ = some (.tuple [exL, .p (pI 0)]) := pureV_run run27 rfl rfl
theorem K33 (σ : Store) : pureV CC 33 [.agg [.p (exN [1]), .p (exN [2, 3])], .agg [.p (.sl true 1 [.int .i64 1]), .p (.sl true 2 [.int .i64 2, .int .i64 3])]] σ = some (.p (.bool true)) := by
  rw [pureV_view (args' := [vWd ⟨some [1], some [2, 3]⟩, vWd ⟨some [1], some [2, 3]⟩]) rfl rfl]
  exact S33 (u := ⟨some [1], some [2, 3]⟩) (w := ⟨some [1], some [2, 3]⟩) (by decide) (by decide) σ
theorem kb64_2 (σ : Store) : buildSlice PP none 64 2 [(0, .p exA0), (1, .p exA1)] σ = some (.p (.sl true 2 [exA0, exA1]), σ) := Eq.trans (by kernel_rfl) rfl
theorem kb64_1 (σ : Store) : buildSlice PP none 64 1 [(0, .p exA0)] σ = some (.p (.sl true 1 [exA0]), σ) := Eq.trans (by kernel_rfl) rfl
theorem kb24_2 (a b : Int) (σ : Store) : buildSlice PP none 24 2 [(0, .p (.int .i64 a)), (1, .p (.int .i64 b))] σ = some (.p (.sl true 2 [.int .i64 a, .int .i64 b]), σ) := Eq.trans (by kernel_rfl) rfl
theorem kb24_3 (a b c : Int) (σ : Store) : buildSlice PP none 24 3 [(0, .p (.int .i64 a)), (1, .p (.int .i64 b)), (2, .p (.int .i64 c))] σ = some (.p (.sl true 3 [.int .i64 a, .int .i64 b, .int .i64 c]), σ) := Eq.trans (by kernel_rfl) rfl
theorem kb52 (p : PV) : build PP 52 [(1, .p p)] = some (.agg [.p .nilsl, .p p]) := Eq.trans (by kernel_rfl) rfl
theorem kz52 : zeroOf PP 52 = some [.p .nilsl, .p .nilsl] := Eq.trans (by kernel_rfl) rfl
theorem ks1 : store PP 0 26 (.ptr 0 0) (.agg [.p (exN [1]), .p (exN [2, 3])]) [.mix [.p .nilsl, .p .nilsl]] = some exS1 := Eq.trans (by kernel_rfl) rfl
theorem ks2 : store PP 0 52 (.ptr 1 0) exL (exS1 ++ [.mix [.p .nilsl, .p .nilsl]]) = some exS2 := Eq.trans (by kernel_rfl) rfl
theorem kl1 : exS1.length = 1 := rfl
theorem kd1 : load PP 26 (.ptr 0 0) exS2 = some (.agg [.p (exN [1]), .p (exN [2, 3])]) := Eq.trans (by kernel_rfl) rfl
theorem kd2 : load PP 52 (.ptr 1 0) exS2 = some exL := Eq.trans (by kernel_rfl) rfl
theorem kln (σ : Store) : len PP 23 (.p exF) σ = some (.p (.int .i64 4)) := Eq.trans (by kernel_rfl) rfl
theorem kx0 (a b : DV) : extractV (.tuple [a, b]) 0 = some a := rfl
theorem kx1 (a b : DV) : extractV (.tuple [a, b]) 1 = some b := rfl
theorem ke0 (a b c : DV) : extractV (.tuple [a, b, c]) 0 = some a := rfl
theorem ke1 (a b c : DV) : extractV (.tuple [a, b, c]) 1 = some b := rfl
theorem ke2 (a b c : DV) : extractV (.tuple [a, b, c]) 2 = some c := rfl
theorem awake_F12 : F12 guardT 0 [] = some (.p (.bool true), exS2) := by
  rw [F12_eq]
  simp only [pureFn_fn, List.append_nil, K48, gG, ke0, ke1, ke2, K62a, K62b, kb64_2, K38a, kb24_2, bld26 (x := .p _) (y := .p _) rfl rfl, K20, kx0, kx1, kb24_3, K32, zero26, List.length_nil, List.nil_append, ks1, kl1, K63, kb64_1, K38b, K27, kz52, ks2,
    b_eql30, eqT (rfl : (0 : Int) = 0), b_eql, eqT (rfl : (12 : Int) = 12), eqT (rfl : (4 : Int) = 4), kln, kd1, bs24_1, K33, kd2, kb52, K29]
theorem awake_true : awT := fun σ => pureV_free rfl rfl (F12_call awake_F12) rfl
end Go.D
end
/- Chapter 13: LassoGraphs' law. -/
section
set_option linter.unusedVariables false
set_option linter.unusedSimpArgs false
set_option maxRecDepth 8000
namespace Go.D
open Las
def ownG (g : Gr) : Gr := ⟨g.n, some (L g.init), some (L g.edges)⟩
theorem bs43_0 (σ : Store) : buildSlice PP none 43 0 [] σ = some (.p (.sl true 0 []), σ) := Eq.trans (by kernel_rfl) rfl
theorem src43 : srcType PP 43 = true := Eq.trans (by kernel_rfl) rfl
theorem bytes129 : bytes? PP 129 = some 24 := Eq.trans (by kernel_rfl) rfl
theorem box_grV (g : Gr) : boxV (vGr g) = some [.p (pI g.n), .p (eSl g.init), .p (eEs g.edges)] := rfl
theorem app43 {o : Option (List Edg)} {lo : Nat} (hl : (L o).length ≤ 10000) (σ : Store) : append PP lo false 43 43 (.p (.sl true 0 [])) (.p (eEs o)) σ = some (if (L o).length = 0 then (.p (.sl true 0 []), σ) else (.osl σ.length 0 3 (L o).length (eEdgs (L o)), σ ++ [.tok 0])) := by
  have hz : zeroOf PP 129 = some [.p (pI 0), .p (pI 0), .p (pI 0)] := zero129
  cases o with
  | none => simp [append, src43, u43, s129, bytes129, hz, source, appLit, eEs]
  | some l =>
    have hc : (eEdgs l).length = l.length * 3 := edgs_length l
    have h1 : l.length * 24 ≤ 140737488355328 := by simp at hl; omega
    have h2 : l.length ≤ 140737488355328 := by simp at hl; omega
    by_cases h0 : l = []
    · subst h0; simp [append, src43, u43, s129, bytes129, hz, source, appLit, eEs, eEdgs]
    · simp [append, src43, u43, s129, bytes129, hz, source, appLit, eEs, hc, h1, h2, h0, pures_map]
theorem st24_1 (a b c d : DV) (v : PV) (rest : Store) : store PP 0 24 (.ptr 0 1) (.p v) (.mix [a, b, c] :: rest) = some (.mix [a, .p v, c] :: rest) := Eq.trans (by kernel_rfl) rfl
theorem st43_2p (a b c : DV) (v : PV) (rest : Store) : store PP 0 43 (.ptr 0 2) (.p v) (.mix [a, b, c] :: rest) = some (.mix [a, b, .p v] :: rest) := Eq.trans (by kernel_rfl) rfl
theorem st43_2o (a b c : DV) (r ver sz n : Nat) (cs : List PV) (rest : Store) : store PP 0 43 (.ptr 0 2) (.osl r ver sz n cs) (.mix [a, b, c] :: rest) = some (.mix [a, b, .osl r ver sz n cs] :: rest) := Eq.trans (by kernel_rfl) rfl
theorem st45_p (a b c : DV) (x y z : PV) (m : Row) (rest : Store) : store PP 0 45 (.ptr 1 0) (.agg [.p x, .p y, .p z]) (m :: .mix [a, b, c] :: rest) = some (m :: .mix [.p x, .p y, .p z] :: rest) := Eq.trans (by kernel_rfl) rfl
theorem st45_o (a b c : DV) (x y : PV) (r ver sz n : Nat) (cs : List PV) (m : Row) (rest : Store) : store PP 0 45 (.ptr 1 0) (.agg [.p x, .p y, .osl r ver sz n cs]) (m :: .mix [a, b, c] :: rest) = some (m :: .mix [.p x, .p y, .osl r ver sz n cs] :: rest) := Eq.trans (by kernel_rfl) rfl
theorem ld45_0 (a b c : DV) (rest : Store) : loadN (.mix [a, b, c] :: rest) 3 (.ptr 0 0) = some [a, b, c] := Eq.trans (by kernel_rfl) rfl
theorem cv45 (a b c : DV) (m : Row) (rest : Store) : cellV PP 45 (.ptr 1 0) (m :: .mix [a, b, c] :: rest) = some (.agg [a, b, c]) := Eq.trans (by kernel_rfl) rfl
theorem S79 {g : Gr} (hi : (L g.init).length ≤ 1000) (he : (L g.edges).length ≤ 10000) (σ : Store) : pureV CC 79 [vGr g] σ = some (vGr (ownG g)) := by
  have s52 := fun σ => S52 (o := g.init) (by omega) σ
  have z45 : zeroOf PP 45 = some [.p (pI 0), .p .nilsl, .p .nilsl] := zero45
  have l1 : load1 (.ptr 0 1) ([Row.mix [.p (pI g.n), .p (eSl g.init), .p (eEs g.edges)], .mix [.p (pI 0), .p .nilsl, .p .nilsl]] : Store) = some (.p (eSl g.init)) := load1_ptr rfl rfl
  have l2 : load1 (.ptr 0 2) ([Row.mix [.p (pI g.n), .p (eSl g.init), .p (eEs g.edges)], .mix [.p (pI 0), .p .nilsl, .p .nilsl]] : Store) = some (.p (eEs g.edges)) := load1_ptr rfl rfl
  have ap := app43 (o := g.edges) (lo := 0) he ([Row.mix [.p (pI g.n), .p (eSl g.init), .p (eEs g.edges)], .mix [.p (pI 0), .p .nilsl, .p .nilsl]])
  by_cases h0 : (L g.edges).length = 0
  · rw [if_pos h0] at ap
    refine pureV_free (by simp only [List.map_cons, List.map_nil, gr_view]) rfl (F79_call (r := (.agg [.p (pI g.n), .p (eSl (some (L g.init))), .p (.sl true 0 [])], [.mix [.p (pI g.n), .p (eSl (some (L g.init))), .p (.sl true 0 [])], .mix [.p (pI g.n), .p (eSl (some (L g.init))), .p (.sl true 0 [])]])) ?_) ?_
    · rw [F79_eq]
      simp only [box_grV, gG, z45, List.length_nil, List.nil_append, List.singleton_append, List.length_singleton, fa45_1, fa45_2, shift_ptr, shift_pptr, Nat.zero_add, Nat.add_zero, pureFn_fn, List.append_nil, List.singleton_append, List.cons_append, List.nil_append, load24, load43, l1, l2, s52, bs43_0, ap, st24_1 (d := .undef), st43_2p, load45, ld45_0, st45_p, cv45]
    · have e : L g.edges = [] := List.length_eq_zero_iff.1 h0
      simp [thawAll, thawPart, mapO, thaw, thaw1, thawP, vGr, ownG, eEs, eEdgs, e, loosens, loosen, loosen_sl, loosens_ints, eSl]
  · rw [if_neg h0] at ap
    refine pureV_free (by simp only [List.map_cons, List.map_nil, gr_view]) rfl (F79_call (r := (.agg [.p (pI g.n), .p (eSl (some (L g.init))), .osl 2 0 3 (L g.edges).length (eEdgs (L g.edges))], [.mix [.p (pI g.n), .p (eSl (some (L g.init))), .osl 2 0 3 (L g.edges).length (eEdgs (L g.edges))], .mix [.p (pI g.n), .p (eSl (some (L g.init))), .osl 2 0 3 (L g.edges).length (eEdgs (L g.edges))], .tok 0])) ?_) ?_
    · rw [F79_eq]
      simp only [box_grV, gG, z45, List.length_nil, List.nil_append, List.singleton_append, List.length_singleton, List.length_cons, fa45_1, fa45_2, shift_ptr, shift_pptr, Nat.zero_add, Nat.add_zero, pureFn_fn, List.append_nil, List.singleton_append, List.cons_append, List.nil_append, load24, load43, l1, l2, s52, bs43_0, ap, st24_1 (d := .undef), st43_2o, load45, ld45_0, st45_o, cv45]
    · simp [thawAll, thawPart, mapO, thaw, thaw1, thawP, vGr, ownG, eEs, loosens_edgs, loosen, loosen_sl, loosens_ints, eSl]
def ownX (x : Lb) : Lb := ⟨ownG x.g, some (L x.la), some (L x.st), some (L x.en), some (L x.we), some (L x.sr)⟩
theorem LSm.own {x : Lb} (h : LSm x) : LSm (ownX x) := ⟨h.i, h.e, h.la, h.st, h.en, h.we, h.sr⟩
theorem bld47 (a b c d e f g h : PV) : build PP 47 [(0, .agg [.p a, .p b, .p c]), (1, .p d), (2, .p e), (3, .p f), (4, .p g), (5, .p h)] = some (.agg [.p a, .p b, .p c, .p d, .p e, .p f, .p g, .p h]) := Eq.trans (by kernel_rfl) rfl
theorem st47 (a b c d e f g h : PV) (z1 z2 z3 z4 z5 z6 z7 z8 : DV) : store PP 0 47 (.ptr 0 0) (.agg [.p a, .p b, .p c, .p d, .p e, .p f, .p g, .p h]) [.mix [z1, z2, z3, z4, z5, z6, z7, z8]] = some [.mix [.p a, .p b, .p c, .p d, .p e, .p f, .p g, .p h]] := Eq.trans (by kernel_rfl) rfl
theorem cv47 (a b c d e f g h : DV) : cellV PP 47 (.ptr 0 0) [.mix [a, b, c, d, e, f, g, h]] = some (.agg [a, b, c, d, e, f, g, h]) := Eq.trans (by kernel_rfl) rfl
theorem S28 {x : Lb} (hx : LSm x) (σ : Store) : pureV CC 28 [vLb x] σ = some (vLb (ownX x)) := by
  have s79 := fun σ => S79 hx.i hx.e σ
  have a1 := fun σ => S52 (o := x.la) (by have := hx.la; omega) σ
  have a2 := fun σ => S52 (o := x.st) (by have := hx.st; omega) σ
  have a3 := fun σ => S52 (o := x.en) (by have := hx.en; omega) σ
  have a4 := fun σ => S52 (o := x.we) (by have := hx.we; omega) σ
  have a5 := fun σ => S52 (o := x.sr) (by have := hx.sr; omega) σ
  refine pureV_free (by simp only [List.map_cons, List.map_nil, lb_view]) rfl (F28_call (r := (vLb (ownX x), [.mix [.p (pI x.g.n), .p (eSl (some (L x.g.init))), .p (eEs (some (L x.g.edges))), .p (eSl (some (L x.la))), .p (eSl (some (L x.st))), .p (eSl (some (L x.en))), .p (eSl (some (L x.we))), .p (eSl (some (L x.sr)))]])) ?_) ?_
  · rw [F28_eq]
    have hv : vGr (ownG x.g) = .agg [.p (pI x.g.n), .p (eSl (some (L x.g.init))), .p (eEs (some (L x.g.edges)))] := rfl
    simp only [box_lb, gG, zero47, List.length_nil, List.nil_append, fa47_0, fa47_1, fa47_2, fa47_3, fa47_4, fa47_5, shift_ptr, shift_pptr, Nat.zero_add, Nat.add_zero, pureFn_fn, List.append_nil, List.singleton_append, List.cons_append, List.nil_append, load45, load24, lb_g, lb_3, lb_4, lb_5, lb_6, lb_7, s79, a1, a2, a3, a4, a5, hv, bld47, st47, cv47]
    rfl
  · simp [thawAll, thawPart, mapO, thaw, thaw1, thawP, vLb, ownX, ownG, eEs, loosens_edgs, loosen, loosen_sl, loosen_es, loosens_ints, eSl]
def smB (x : Lb) : Bool := decide ((L x.g.edges).length ≤ 120) && (decide ((L x.g.init).length ≤ 70) && (decide ((L x.la).length ≤ 70) && (decide ((L x.st).length ≤ 20) && (decide ((L x.en).length ≤ 20) && (decide ((L x.we).length ≤ 20) && decide ((L x.sr).length ≤ 20))))))
theorem S23 (x : Lb) (σ : Store) : pureV CC 23 [vLb x] σ = some (.p (.bool (smB x))) := by
  refine pureV_free (by simp only [List.map_cons, List.map_nil, lb_view]) rfl (F23_call (r := (.p (.bool (smB x)), [])) ?_) rfl
  rw [F23_eq]
  unfold smB
  by_cases h1 : (L x.g.edges).length ≤ 120
  · by_cases h2 : (L x.g.init).length ≤ 70
    · by_cases h3 : (L x.la).length ≤ 70
      · by_cases h4 : (L x.st).length ≤ 20
        · by_cases h5 : (L x.en).length ≤ 20
          · by_cases h6 : (L x.we).length ≤ 20
            · by_cases h7 : (L x.sr).length ≤ 20
              · rw [decide_eq_true h1, decide_eq_true h2, decide_eq_true h3, decide_eq_true h4, decide_eq_true h5, decide_eq_true h6, decide_eq_true h7]
                simp (disch := omega) only [box_lb, gG, fa47_0, fa47_1, fa47_2, fa47_3, fa47_4, fa47_5, fa45_1, fa45_2, shift_ptr, shift_pptr, Nat.zero_add, Nat.add_zero, pureFn_fn, List.append_nil, List.singleton_append, List.cons_append, List.nil_append, load43, load24, lb_1, lb_2, lb_3, lb_4, lb_5, lb_6, lb_7, len43, len24, b_leq, leT, Bool.and_self]
              · rw [decide_eq_false h7]
                simp (disch := omega) only [box_lb, gG, fa47_0, fa47_1, fa47_2, fa47_3, fa47_4, fa47_5, fa45_1, fa45_2, shift_ptr, shift_pptr, Nat.zero_add, Nat.add_zero, pureFn_fn, List.append_nil, List.singleton_append, List.cons_append, List.nil_append, load43, load24, lb_1, lb_2, lb_3, lb_4, lb_5, lb_6, lb_7, len43, len24, b_leq, leT, leF, Bool.and_false]
            · rw [decide_eq_false h6]
              simp (disch := omega) only [box_lb, gG, fa47_0, fa47_1, fa47_2, fa47_3, fa47_4, fa47_5, fa45_1, fa45_2, shift_ptr, shift_pptr, Nat.zero_add, Nat.add_zero, pureFn_fn, List.append_nil, List.singleton_append, List.cons_append, List.nil_append, load43, load24, lb_1, lb_2, lb_3, lb_4, lb_5, lb_6, lb_7, len43, len24, b_leq, leT, leF, Bool.and_false, Bool.false_and]
          · rw [decide_eq_false h5]
            simp (disch := omega) only [box_lb, gG, fa47_0, fa47_1, fa47_2, fa47_3, fa47_4, fa47_5, fa45_1, fa45_2, shift_ptr, shift_pptr, Nat.zero_add, Nat.add_zero, pureFn_fn, List.append_nil, List.singleton_append, List.cons_append, List.nil_append, load43, load24, lb_1, lb_2, lb_3, lb_4, lb_5, lb_6, lb_7, len43, len24, b_leq, leT, leF, Bool.and_false, Bool.false_and]
        · rw [decide_eq_false h4]
          simp (disch := omega) only [box_lb, gG, fa47_0, fa47_1, fa47_2, fa47_3, fa47_4, fa47_5, fa45_1, fa45_2, shift_ptr, shift_pptr, Nat.zero_add, Nat.add_zero, pureFn_fn, List.append_nil, List.singleton_append, List.cons_append, List.nil_append, load43, load24, lb_1, lb_2, lb_3, lb_4, lb_5, lb_6, lb_7, len43, len24, b_leq, leT, leF, Bool.and_false, Bool.false_and]
      · rw [decide_eq_false h3]
        simp (disch := omega) only [box_lb, gG, fa47_0, fa47_1, fa47_2, fa47_3, fa47_4, fa47_5, fa45_1, fa45_2, shift_ptr, shift_pptr, Nat.zero_add, Nat.add_zero, pureFn_fn, List.append_nil, List.singleton_append, List.cons_append, List.nil_append, load43, load24, lb_1, lb_2, lb_3, lb_4, lb_5, lb_6, lb_7, len43, len24, b_leq, leT, leF, Bool.and_false, Bool.false_and]
    · rw [decide_eq_false h2]
      simp (disch := omega) only [box_lb, gG, fa47_0, fa47_1, fa47_2, fa47_3, fa47_4, fa47_5, fa45_1, fa45_2, shift_ptr, shift_pptr, Nat.zero_add, Nat.add_zero, pureFn_fn, List.append_nil, List.singleton_append, List.cons_append, List.nil_append, load43, load24, lb_1, lb_2, lb_3, lb_4, lb_5, lb_6, lb_7, len43, len24, b_leq, leT, leF, Bool.and_false, Bool.false_and]
  · rw [decide_eq_false h1]
    simp (disch := omega) only [box_lb, gG, fa47_0, fa47_1, fa47_2, fa47_3, fa47_4, fa47_5, fa45_1, fa45_2, shift_ptr, shift_pptr, Nat.zero_add, Nat.add_zero, pureFn_fn, List.append_nil, List.singleton_append, List.cons_append, List.nil_append, load43, load24, lb_1, lb_2, lb_3, lb_4, lb_5, lb_6, lb_7, len43, len24, b_leq, leT, leF, Bool.and_false, Bool.false_and]
theorem smB_ok {x : Lb} (h : smB x = true) : LSm x := by
  unfold smB at h
  simp only [Bool.and_eq_true, decide_eq_true_iff] at h
  obtain ⟨h1, h2, h3, h4, h5, h6, h7⟩ := h
  exact ⟨by omega, by omega, by omega, by omega, by omega, by omega, by omega⟩
theorem chkLb_own (x : Lb) : chkLb (ownX x) = chkLb x := rfl
end Go.D
end
/- Chapter 13: LassoBehaviours' law. -/
section
set_option linter.unusedVariables false
set_option linter.unusedSimpArgs false
set_option maxRecDepth 8000
namespace Go.D
open Las
theorem wd_thaw (u : Wd) (m : Nat) (σ : Store) : thawAll m σ (vWd u) = some (vWd u) := by
  simp [thawAll, mapO, thawPart, vWd, thaw, thaw1, thawP, loosen_sl, loosen]
theorem b135' (n b : Nat) : build PP 135 [(0, .p (.int .i64 (n : Nat))), (1, .p (.int .i64 (b : Nat)))] = some (.agg (rgD n b)) := b135 n b
theorem bs130_r {p q : DV} (hp : p.one = true) (hq : q.one = true) (σ : Store) : buildSlice PP (some true) 130 2 [(0, p), (1, q)] σ = some (.rsl σ.length 1 0 2, σ ++ [.mix [p, q]]) := by
  cases p <;> first | (exfalso; simp [DV.one] at hp; done) | skip
  all_goals (cases q <;> first | (exfalso; simp [DV.one] at hq; done) | exact Eq.trans (by kernel_rfl) rfl)
section
variable {x : Lb} (hx : LSm x) (hk : LbOk x) {p q : DV} {P Q : List Int} (hl : P.length + Q.length ≤ 1000) (h0 : 0 < Q.length) (hin : ∀ i, i < (P ++ Q).length → 0 ≤ (P ++ Q).getD i 0 ∧ (P ++ Q).getD i 0 < x.g.n)
include hx hk hl h0 hin
theorem S117 {σ : Store} (hp : RL σ p P) (hq : RL σ q Q) : ∃ u : Wd, pureV CC 117 [vLb x, .agg [p, q]] σ = some (vWd u) ∧ L u.p = (wl x (P ++ Q) P.length).take P.length ∧ L u.l = (wl x (P ++ Q) P.length).drop P.length := by
  have key : ∀ (lo : Nat) (σ0 : Store), RL σ0 p P → RL σ0 q Q → lo ≤ σ0.length → ∃ (u : Wd) (σ' : Store), F117 guardT lo (vLb x) (.agg [p, q]) σ0 = some (vWd u, σ') ∧ L u.p = (wl x (P ++ Q) P.length).take P.length ∧ L u.l = (wl x (P ++ Q) P.length).drop P.length := by
    intro lo σ0 hp0 hq0 hlo
    have hAl : (P ++ Q).length = P.length + Q.length := List.length_append
    let σ1 : Store := σ0 ++ [.mix [p, q]]
    let σ2 : Store := σ1 ++ [.mix [.p .nilsl, .p .nilsl]]
    let σ3 : Store := σ2 ++ [.mix [p, q]]
    let σ4 : Store := σ3 ++ [.mix (rgD (P ++ Q).length P.length)]
    have e1 : σ0 ++ [.mix [p, q]] = σ1 := rfl
    have e2 : σ1 ++ [.mix [.p .nilsl, .p .nilsl]] = σ2 := rfl
    have e3 : σ2 ++ [.mix [p, q]] = σ3 := rfl
    have g1 : σ1[σ0.length]? = some (.mix [p, q]) := get_snoc
    have g2 : σ2[σ0.length]? = some (.mix [p, q]) := get_old g1
    have g3 : σ3[σ0.length]? = some (.mix [p, q]) := get_old g2
    have w2 : σ2[σ1.length]? = some (.mix [.p .nilsl, .p .nilsl]) := get_snoc
    have w4 : σ4[σ1.length]? = some (.mix [.p .nilsl, .p .nilsl]) := get_old (get_old w2)
    have r3 : σ3[σ2.length]? = some (.mix [p, q]) := get_snoc
    have r4 : σ4[σ3.length]? = some (.mix (rgD (P ++ Q).length P.length)) := get_snoc
    have l1 : σ1.length = σ0.length + 1 := by simp [σ1]
    have l2 : σ2.length = σ0.length + 2 := by simp [σ2, l1]
    have l3 : σ3.length = σ0.length + 3 := by simp [σ3, l2]
    have l4 : σ4.length = σ0.length + 4 := by simp [σ4, l3]
    have p3 : RL σ3 p P := ((hp0.ext _).ext _).ext _
    have q3 : RL σ3 q Q := ((hq0.ext _).ext _).ext _
    have a0 : load1 (.ptr σ0.length 0) σ2 = some p := load1_ptr g2 rfl
    have a1 : load1 (.ptr σ0.length 1) σ2 = some q := load1_ptr g2 rfl
    have a3 : load1 (.ptr σ0.length 0) σ3 = some p := load1_ptr g3 rfl
    have bs := bs130_r hp0.one hq0.one σ2
    rw [e3] at bs
    have s84 := S84q r3 p3 q3 (by omega) (by omega)
    have lA := (PL.some (P ++ Q)).len
    have stg := st135g (lo := lo) (σ := σ3) (by omega) (P ++ Q).length P.length
    obtain ⟨o1, o2, σ', f1, f2, f3⟩ := L117_0 hx hk (lo := lo) (rw := σ1.length) (rr := σ3.length) (A := P ++ Q) (b := P.length) (by omega) (by omega) hin [.p .nilsl, .p .nilsl] rfl (by omega) _ 0 (.p .nilsl) σ4 rfl (Nat.zero_le _) (by omega) (by rw [List.take_zero]; exact Out.zero) r4 w4
    refine ⟨⟨o1, o2⟩, σ', ?_, f2, f3⟩
    simp only [N] at f1
    rw [F117_eq]
    simp only [box_lb, box_two hp0 hq0, gG, zero26, e1, e2, fa52_0, fa52_1, shift_ptr, shift_pptr, Nat.zero_add, Nat.add_zero, pureFn_fn, List.append_nil, List.singleton_append, List.cons_append, List.nil_append, load24, a0, a1, bs, s84, lA, a3, p3.len, b135', zero135, stg]
    exact f1
  by_cases hf : rowFree1 p = true ∧ rowFree1 q = true
  · obtain ⟨u, σ', h1, h2⟩ := key 0 [] (hp.free hf.1 []) (hq.free hf.2 []) (Nat.le_refl _)
    exact ⟨u, pureV_free (by simp only [List.map_cons, List.map_nil, lb_view, ls_view hp hq]) (by have e : rowFree (vLb x) = true := rfl; have e2 : rowFree (.agg [p, q]) = (rowFree1 p && (rowFree1 q && true)) := rfl; simp only [List.all_cons, List.all_nil, e, e2, hf.1, hf.2, Bool.and_self]) (F117_call h1) (wd_thaw u _ _), h2⟩
  · obtain ⟨u, σ', h1, h2⟩ := key σ.length σ hp hq (Nat.le_refl _)
    refine ⟨u, pureV_rows (by simp only [List.map_cons, List.map_nil, lb_view, ls_view hp hq]) ?_ (F117_call h1) (wd_thaw u _ _), h2⟩
    rw [← Bool.not_eq_true]
    intro h
    simp only [List.all_cons, List.all_nil, rowFree, Bool.and_true, Bool.and_eq_true] at h
    exact hf ⟨h.2.1, h.2.2⟩
end
section
variable {x : Lb} (hx : LSm x) (hk : LbOk x)
include hx hk
theorem L119 {s t : Int} : ∀ (k i : Nat) (c : Int), (L x.st).length - i = k → i ≤ (L x.st).length → okL c →
    f119_L0 guardT 0 (.p (.int .i64 s)) (.p (.int .i64 t)) (.pptr (eLb x) 0) (.p (.int .i64 c)) (N i) [] = some (.p (.int .i64 (ltR x s t i k c)), [])
  | 0, i, c, hd, hi, hc => by
    have he := hx.st
    rw [f119_L0_eq guardT rfl]
    simp (disch := omega) only [N, fa47_2, shift_ptr, shift_pptr, Nat.zero_add, Nat.add_zero, pureFn_fn, List.append_nil, List.singleton_append, List.cons_append, List.nil_append, load24, lb_4, len24, b_lss, ltF, gG, ltR]
  | k + 1, i, c, hd, hi, hc => by
    have he := hx.st
    have hse := hk.se
    have h : i < (L x.st).length := by omega
    have h2 : i < (L x.en).length := by omega
    have hsv := hk.sv i h
    have hev := hk.ev i h2
    have bb : ∀ u v w : Int, build PP 129 [(0, .p (.int .i64 u)), (1, .p (.int .i64 v)), (2, .p (.int .i64 w))] = some (.agg (edgD ⟨u, v, w⟩)) := fun u v w => Eq.trans (by kernel_rfl) rfl
    have s162 := fun s t a σ => S162 (x := x) hx.e s t a σ
    have s164 := fun s a σ => S164 (x := x) hx.e s a σ
    let c1 := if stA x s t (i : Nat) = true then wA c ((L x.st).getD i 0) else c
    let c2 := if enb x s (i : Nat) = true then wA c1 ((L x.en).getD i 0) else c1
    have hc1 : okL c1 := by
      show okL (if stA x s t (i : Nat) = true then wA c ((L x.st).getD i 0) else c)
      split
      · exact wA_ok hc hsv
      · exact hc
    have hc2 : okL c2 := by
      show okL (if enb x s (i : Nat) = true then wA c1 ((L x.en).getD i 0) else c1)
      split
      · exact wA_ok hc1 hev
      · exact hc1
    have ih := L119 (s := s) (t := t) k (i + 1) c2 (by omega) (by omega) hc2
    have e : ltR x s t i (k + 1) c = ltR x s t (i + 1) k c2 := rfl
    rw [e, ← ih]
    simp only [N]
    -- the second half
    have half : (∀ (y : Int), y = c1 → ∀ (a1 a2 a3 a4 a5 a6 a7 a8 a9 a10 a11 a12 a13 a14 a15 a16 a17 a18 a19 a20 a21 a22 a23 a24 a25 a26 a27 : DV),
        f119_J0 guardT 0 (.p (.int .i64 s)) (.p (.int .i64 t)) (.pptr (eLb x) 0) (.p (.int .i64 y)) (.p (.int .i64 (i : Nat))) a1 a2 a3 a4 a5 a6 a7 a8 a9 a10 a11 a12 a13 a14 a15 a16 a17 a18 a19 a20 a21 a22 a23 a24 a25 a26 a27 [] =
        f119_L0 guardT 0 (.p (.int .i64 s)) (.p (.int .i64 t)) (.pptr (eLb x) 0) (.p (.int .i64 c2)) (.p (.int .i64 ((i + 1 : Nat) : Int))) []) := by
      rintro y rfl
      intros
      rw [f119_J0_eq]
      by_cases n2 : (L x.en).getD i 0 = -1
      · have ec : c2 = c1 := by
          show (if enb x s (i : Nat) = true then wA c1 ((L x.en).getD i 0) else c1) = c1
          rw [n2]
          split <;> rfl
        rw [ec]
        simp (disch := omega) only [fa47_3, shift_ptr, shift_pptr, Nat.zero_add, Nat.add_zero, pureFn_fn, List.append_nil, List.singleton_append, List.cons_append, List.nil_append, load24, lb_5, gG, (PL.sl x.en).idx h2, load3, load1_getD h2, b_neq, eqT n2, f119_J1_eq, add1]
      · have s163 := fun σ => S163 (c := c1) (n := (L x.en).getD i 0) hc1 (by obtain ⟨u1, u2⟩ := hev; omega) σ
        cases ce : enb x s (i : Nat) with
        | true =>
          have ec : c2 = wA c1 ((L x.en).getD i 0) := by
            show (if enb x s (i : Nat) = true then wA c1 ((L x.en).getD i 0) else c1) = _
            rw [ce, if_pos rfl]
          rw [ec]
          simp (disch := omega) only [fa47_0, fa47_3, shift_ptr, shift_pptr, Nat.zero_add, Nat.add_zero, pureFn_fn, List.append_nil, List.singleton_append, List.cons_append, List.nil_append, load24, load45, lb_g, lb_5, gG, (PL.sl x.en).idx h2, load3, load1_getD h2, b_neq, eqF n2, s164, ce, s163, f119_J1_eq, add1]
        | false =>
          have ec : c2 = c1 := by
            show (if enb x s (i : Nat) = true then wA c1 ((L x.en).getD i 0) else c1) = _
            rw [ce, if_neg (by simp)]
          rw [ec]
          simp (disch := omega) only [fa47_0, fa47_3, shift_ptr, shift_pptr, Nat.zero_add, Nat.add_zero, pureFn_fn, List.append_nil, List.singleton_append, List.cons_append, List.nil_append, load24, load45, lb_g, lb_5, gG, (PL.sl x.en).idx h2, load3, load1_getD h2, b_neq, eqF n2, s164, ce, f119_J1_eq, add1]
    rw [f119_L0_eq guardT rfl]
    by_cases n1 : (L x.st).getD i 0 = -1
    · have ec : c = c1 := by
        show c = (if stA x s t (i : Nat) = true then wA c ((L x.st).getD i 0) else c)
        rw [n1]
        split <;> rfl
      have hh := half c ec
      simp (disch := omega) only [fa47_2, shift_ptr, shift_pptr, Nat.zero_add, Nat.add_zero, pureFn_fn, List.append_nil, List.singleton_append, List.cons_append, List.nil_append, load24, lb_4, len24, b_lss, ltT, gG, (PL.sl x.st).idx h, load3, load1_getD h, b_neq, eqT n1, hh]
    · have s163 := fun σ => S163 (c := c) (n := (L x.st).getD i 0) hc (by obtain ⟨u1, u2⟩ := hsv; omega) σ
      cases ca : stA x s t (i : Nat) with
      | true =>
        have ec : wA c ((L x.st).getD i 0) = c1 := by
          show _ = (if stA x s t (i : Nat) = true then wA c ((L x.st).getD i 0) else c)
          rw [ca, if_pos rfl]
        have hh := half _ ec
        simp (disch := omega) only [fa47_0, fa47_2, shift_ptr, shift_pptr, Nat.zero_add, Nat.add_zero, pureFn_fn, List.append_nil, List.singleton_append, List.cons_append, List.nil_append, load24, load45, lb_g, lb_4, len24, b_lss, ltT, gG, (PL.sl x.st).idx h, load3, load1_getD h, b_neq, eqF n1, bb, s162, ca, s163, hh]
      | false =>
        have ec : c = c1 := by
          show _ = (if stA x s t (i : Nat) = true then wA c ((L x.st).getD i 0) else c)
          rw [ca, if_neg (by simp)]
        have hh := half _ ec
        simp (disch := omega) only [fa47_0, fa47_2, shift_ptr, shift_pptr, Nat.zero_add, Nat.add_zero, pureFn_fn, List.append_nil, List.singleton_append, List.cons_append, List.nil_append, load24, load45, lb_g, lb_4, len24, b_lss, ltT, gG, (PL.sl x.st).idx h, load3, load1_getD h, b_neq, eqF n1, bb, s162, ca, hh]
theorem S119 {s : Int} (t : Int) (hs : 0 ≤ s ∧ s < x.g.n) (σ : Store) : pureV CC 119 [vLb x, .p (.int .i64 s), .p (.int .i64 t)] σ = some (.p (.int .i64 (ltr x s t))) := by
  have hla := hk.la
  obtain ⟨s0, s1⟩ := hs
  have ix := (PL.sl x.la).idx (i := s.toNat) (by omega)
  have ld := load1_getD (l := L x.la) (i := s.toNat) (by omega)
  rw [Int.toNat_of_nonneg s0] at ix
  have h := L119 hx hk (s := s) (t := t) (L x.st).length 0 ((L x.la).getD s.toNat 0) rfl (Nat.zero_le _) (hk.lv _ (by omega))
  rw [(ltr_eq hk t ⟨s0, s1⟩).1] at h
  simp only [N] at h
  refine pureV_free (by simp only [List.map_cons, List.map_nil, lb_view, int_view]) rfl (F119_call (r := (.p (.int .i64 (ltr x s t)), [])) ?_) rfl
  rw [F119_eq]
  simp only [box_lb, gG, fa47_1, shift_ptr, shift_pptr, Nat.zero_add, Nat.add_zero, pureFn_fn, List.append_nil, List.singleton_append, List.cons_append, List.nil_append, load24, lb_3, ix, load3, ld]
  exact h
end
section
variable {x : Lb} (hx : LSm x) (hk : LbOk x) {w : Wd} (hl : (L w.p).length + (L w.l).length ≤ 1000) (h0 : 0 < (L w.l).length) (hin : ∀ i, i < (L w.p ++ L w.l).length → 0 ≤ (L w.p ++ L w.l).getD i 0 ∧ (L w.p ++ L w.l).getD i 0 < x.g.n)
theorem st24_w0 {σ : Store} {lo r : Nat} {a b v : DV} (h : σ[r]? = some (.mix [a, b])) (hlo : lo ≤ r) (hv : v.one = true) : store PP lo 24 (.ptr r 0) v σ = some (σ.set r (.mix [v, b])) := by
  cases v <;> first | (exfalso; simp [DV.one] at hv; done) | simp [store, s24, DV.cells, storeN, h, hlo, DV.one, splice]
theorem st24_w1 {σ : Store} {lo r : Nat} {a b v : DV} (h : σ[r]? = some (.mix [a, b])) (hlo : lo ≤ r) (hv : v.one = true) : store PP lo 24 (.ptr r 1) v σ = some (σ.set r (.mix [a, v])) := by
  cases v <;> first | (exfalso; simp [DV.one] at hv; done) | simp [store, s24, DV.cells, storeN, h, hlo, DV.one, splice]
theorem Out.one {σ : Store} {lo sz n : Nat} {cs : List PV} {x : DV} (h : Out σ lo sz n cs x) : x.one = true := by
  rcases h.2 with ⟨_, rfl⟩ | ⟨_, _, _, rfl, _⟩ <;> rfl
theorem Out.setM {σ : Store} {lo sz n r : Nat} {cs : List PV} {x : DV} {c c' : List DV} (h : Out σ lo sz n cs x) (hr : σ[r]? = some (.mix c)) : Out (σ.set r (.mix c')) lo sz n cs x := by
  obtain ⟨h1, h2⟩ := h
  refine ⟨h1, ?_⟩
  rcases h2 with h2 | ⟨h0, r', v, h2, h3, h4⟩
  · exact .inl h2
  · refine .inr ⟨h0, r', v, h2, ?_, h4⟩
    rw [List.getElem?_set_ne]
    · exact h3
    · rintro rfl; rw [hr] at h3; cases h3
def Ap (x y : DV) : Prop := ∀ r v s n c r' v' s' n' c', x = .osl r v s n c → y = .osl r' v' s' n' c' → r ≠ r'
theorem Out.kp {σ σ' : Store} {lo sz n : Nat} {cs : List PV} {x y : DV} (h : Out σ lo sz n cs x) (ho : Others σ σ' y) (ha : Ap x y) : Out σ' lo sz n cs x := by
  obtain ⟨h1, h2⟩ := h
  refine ⟨h1, ?_⟩
  rcases h2 with h2 | ⟨h0, r', v, h2, h3, h4⟩
  · exact .inl h2
  · exact .inr ⟨h0, r', v, h2, ho r' _ h3 (fun r ver s m c e => ha _ _ _ _ _ _ _ _ _ _ h2 e), h4⟩
theorem wi_app {l : List Int} {v : Int} {lo : Nat} {σ : Store} {x y : DV} {l' : List Int} (ho : Out σ lo 1 l.length (eInts l) x) (hy : Out σ lo 1 l'.length (eInts l') y) (ha : Ap y x) (hn : l.length ≤ 100000) (hlo : lo ≤ σ.length) :
    ∃ x' σ', append PP lo false 24 24 x (.p (.sl true 1 [.int .i64 v])) σ = some (x', σ') ∧ Out σ' lo 1 (l ++ [v]).length (eInts (l ++ [v])) x' ∧ Out σ' lo 1 l'.length (eInts l') y ∧ Ap y x' ∧ Others σ σ' x ∧ σ.length ≤ σ'.length := by
  obtain ⟨x', σ', h1, h2, h3, h4⟩ := Out.pushI (v := v) ho hn hlo
  refine ⟨x', σ', h1, h2, hy.kp h3 ha, ?_, h3, h4⟩
  intro r ver s n c r' ver' s' n' c' ey ex
  rcases ho.2 with ⟨g1, rfl⟩ | ⟨g0, r0, v0, rfl, g3, g4⟩
  · -- the new list has a row of its own
    have hz : zeroOf PP 3 = some [.p (pI 0)] := zero3
    have hx : append PP lo false 24 24 (.p .nilsl) (.p (.sl true 1 [.int .i64 v])) σ = some (.osl σ.length 0 1 1 [.int .i64 v], σ ++ [.tok 0]) := by
      simp [append, src24, u24, s3, bytes3, hz, source, appNil, pures, DV.pure?]
    rw [hx] at h1
    injection h1 with h1
    injection h1 with h1 _
    rw [← h1] at ex
    injection ex with ex
    rw [← ex]
    rcases hy.2 with ⟨_, e⟩ | ⟨_, r1, v1, e, k1, _⟩
    · rw [e] at ey; cases ey
    · rw [e] at ey
      injection ey with ey
      rw [← ey]
      have := get_lt k1
      omega
  · have hx : ∃ n2 c2 σ2, append PP lo false 24 24 (.osl r0 v0 1 l.length (eInts l)) (.p (.sl true 1 [.int .i64 v])) σ = some (.osl r0 (v0 + 1) 1 n2 c2, σ2) := by
      have e1 : (l.length + 1) * 8 ≤ 140737488355328 := by omega
      have e2 : l.length + 1 ≤ 140737488355328 := by omega
      refine ⟨l.length + 1, eInts l ++ [pI v], σ.set r0 (.tok (v0 + 1)), ?_⟩
      simp only [append, src24, Bool.true_eq_false, if_false, u24, s3, bytes3, zero3, List.length_singleton, ne_eq, not_true_eq_false, Nat.one_ne_zero, or_self, source, Nat.mul_one, if_true, appTok]
      rw [if_pos ⟨e1, e2, by decide, trivial, by rw [ints_length], g4⟩, g3]
      simp only [if_true, List.map_cons, List.map_nil, pures, DV.pure?, Option.map_some]
    obtain ⟨n2, c2, σ2, hx⟩ := hx
    rw [hx] at h1
    injection h1 with h1
    injection h1 with h1 _
    rw [← h1] at ex
    injection ex with ex
    rw [← ex]
    exact ha _ _ _ _ _ _ _ _ _ _ ey rfl
theorem Ap.symm {x y : DV} (h : Ap x y) : Ap y x := fun r v s n c r' v' s' n' c' e1 e2 => (h _ _ _ _ _ _ _ _ _ _ e2 e1).symm
include hx hk hl h0 hin
theorem L58 : ∀ (k i : Nat) (y1 y2 : DV) (σ : Store), (L w.p ++ L w.l).length - i = k → i ≤ (L w.p ++ L w.l).length → σ[0]? = some (.mix [.p .nilsl, .p .nilsl]) → σ[1]? = some (.mix [y1, y2]) →
    Out σ 0 1 (((wl x (L w.p ++ L w.l) (L w.p).length).take i).take (L w.p).length).length (eInts (((wl x (L w.p ++ L w.l) (L w.p).length).take i).take (L w.p).length)) y1 →
    Out σ 0 1 (((wl x (L w.p ++ L w.l) (L w.p).length).take i).drop (L w.p).length).length (eInts (((wl x (L w.p ++ L w.l) (L w.p).length).take i).drop (L w.p).length)) y2 → Ap y1 y2 →
    ∃ (z1 z2 : DV) (σ' : Store), f58_L0 guardT 0 (.pptr (eLb x) 0) (.pptr (eWd w) 0) (.ptr 0 0) (.ptr 1 0) (N i) σ = some (.agg [z1, z2], σ') ∧ Out σ' 0 1 ((wl x (L w.p ++ L w.l) (L w.p).length).take (L w.p).length).length (eInts ((wl x (L w.p ++ L w.l) (L w.p).length).take (L w.p).length)) z1 ∧
      Out σ' 0 1 ((wl x (L w.p ++ L w.l) (L w.p).length).drop (L w.p).length).length (eInts ((wl x (L w.p ++ L w.l) (L w.p).length).drop (L w.p).length)) z2
  | 0, i, y1, y2, σ, hd, hi, g0, g1, o1, o2, ha => by
    have hwl := wl_len x (L w.p ++ L w.l) (L w.p).length
    have hlen : (L w.p ++ L w.l).length = (L w.p).length + (L w.l).length := List.length_append
    rw [List.take_of_length_le (show (wl x (L w.p ++ L w.l) (L w.p).length).length ≤ i by omega)] at o1 o2
    have ld : (loadN σ 2 (.ptr 1 0)).map DV.agg = some (.agg [y1, y2]) := by
      rw [loadN_ptr (off := 0) (n := 2) (vs := [y1, y2]) g1 rfl (by simp)]; rfl
    have st := st26 (lo := 0) (r := 0) (σ := σ) (c := [y1, y2]) g0 (Nat.zero_le _) rfl rfl (by simp [o1.one, o2.one])
    have ce : cellV PP 26 (.ptr 0 0) (σ.set 0 (.mix [y1, y2])) = some (.agg [y1, y2]) := cell26 (by rw [List.getElem?_set_self (get_lt g0)]) rfl
    refine ⟨y1, y2, σ.set 0 (.mix [y1, y2]), ?_, o1.setM g0, o2.setM g0⟩
    rw [f58_L0_eq guardT rfl]
    simp (disch := omega) only [N, fa52_0, fa52_1, shift_ptr, shift_pptr, Nat.zero_add, Nat.add_zero, pureFn_fn, List.append_nil, List.singleton_append, List.cons_append, List.nil_append, load24, wd_0, wd_1, len24, addN, b_lss, ltF, gG, load26, ld, st, ce]
  | k + 1, i, y1, y2, σ, hd, hi, g0, g1, o1, o2, ha => by
    have hwl := wl_len x (L w.p ++ L w.l) (L w.p).length
    have hlen : (L w.p ++ L w.l).length = (L w.p).length + (L w.l).length := List.length_append
    have h : i < (L w.p ++ L w.l).length := by omega
    have hnx : nx ((L w.p).length + (L w.l).length) (L w.p).length i < (L w.p).length + (L w.l).length := nx_lt (by omega) (by omega)
    have s94 := fun σ => S94 (w := w) hl (i := i) (by omega) σ
    have s94' := fun σ => S94 (w := w) hl hnx σ
    have s97 := fun σ => S97 (w := w) hl (i := i) (by omega) σ
    have s119 := fun t σ => S119 hx hk t (hin i h) σ
    have hg := wl_get x (L w.p ++ L w.l) (L w.p).length h
    rw [hlen] at hg
    have l10 : load1 (.ptr 1 0) σ = some y1 := load1_ptr g1 rfl
    have l11 : load1 (.ptr 1 1) σ = some y2 := load1_ptr g1 rfl
    have ht := take_getD (l := wl x (L w.p ++ L w.l) (L w.p).length) (i := i) (by omega)
    have hll : ((wl x (L w.p ++ L w.l) (L w.p).length).take i).length = i := by simp; omega
    generalize hW : wl x (L w.p ++ L w.l) (L w.p).length = W at *
    by_cases c : i < (L w.p).length
    · have e1 : (W.take (i + 1)).take (L w.p).length = (W.take i).take (L w.p).length ++ [W.getD i 0] := by
        have q1 : (W.take (i + 1)).take (L w.p).length = W.take (i + 1) := List.take_of_length_le (by rw [List.length_take]; omega)
        have q2 : (W.take i).take (L w.p).length = W.take i := List.take_of_length_le (by rw [List.length_take]; omega)
        rw [q1, q2, ht]
      have e2 : (W.take (i + 1)).drop (L w.p).length = (W.take i).drop (L w.p).length := by
        have q1 : (W.take (i + 1)).drop (L w.p).length = [] := List.drop_eq_nil_of_le (by rw [List.length_take]; omega)
        have q2 : (W.take i).drop (L w.p).length = [] := List.drop_eq_nil_of_le (by rw [List.length_take]; omega)
        rw [q1, q2]
      obtain ⟨y1', σ2, a1, a2, a3, a4, a5, a6⟩ := wi_app (v := W.getD i 0) o1 o2 ha.symm (by simp; omega) (Nat.zero_le _)
      have k0 := a5.mix o1 g0 (fun v hv => by cases hv)
      have k1 := a5.mix o1 g1 (fun v hv => by cases hv)
      rw [← e1] at a2
      rw [← e2] at a3
      have st := st24_w0 (lo := 0) k1 (Nat.zero_le _) a2.one
      have n0 : (σ2.set 1 (.mix [y1', y2]))[0]? = some (.mix [.p .nilsl, .p .nilsl]) := by rw [List.getElem?_set_ne (by decide)]; exact k0
      have n1 : (σ2.set 1 (.mix [y1', y2]))[1]? = some (.mix [y1', y2]) := by rw [List.getElem?_set_self (get_lt k1)]
      obtain ⟨z1, z2, σ', r1, r2, r3⟩ := L58 k (i + 1) y1' y2 _ (by omega) (by omega) n0 n1 (by rw [hW]; exact a2.setM k1) (by rw [hW]; exact a3.setM k1) a4.symm
      rw [hW] at r2 r3
      refine ⟨z1, z2, σ', ?_, r2, r3⟩
      simp only [N] at r1
      rw [f58_L0_eq guardT rfl]
      simp (disch := omega) only [N, fa52_0, fa52_1, shift_ptr, shift_pptr, Nat.zero_add, Nat.add_zero, pureFn_fn, List.append_nil, List.singleton_append, List.cons_append, List.nil_append, load24, wd_0, wd_1, len24, addN, b_lss, ltT, gG, load47, lb_all, load52, ws_all, s94, s97, s94', s119, ← hg, fa26_0, l10, bs24_1, a1, st, f58_J0_eq, add1]
      exact r1
    · have e1 : (W.take (i + 1)).take (L w.p).length = (W.take i).take (L w.p).length := by
        rw [List.take_take, List.take_take, Nat.min_eq_left (by omega), Nat.min_eq_left (by omega)]
      have e2 : (W.take (i + 1)).drop (L w.p).length = (W.take i).drop (L w.p).length ++ [W.getD i 0] := by
        rw [ht, List.drop_append_of_le_length (by rw [hll]; omega)]
      obtain ⟨y2', σ2, a1, a2, a3, a4, a5, a6⟩ := wi_app (v := W.getD i 0) o2 o1 ha (by simp; omega) (Nat.zero_le _)
      have k0 := a5.mix o2 g0 (fun v hv => by cases hv)
      have k1 := a5.mix o2 g1 (fun v hv => by cases hv)
      rw [← e2] at a2
      rw [← e1] at a3
      have st := st24_w1 (lo := 0) k1 (Nat.zero_le _) a2.one
      have n0 : (σ2.set 1 (.mix [y1, y2']))[0]? = some (.mix [.p .nilsl, .p .nilsl]) := by rw [List.getElem?_set_ne (by decide)]; exact k0
      have n1 : (σ2.set 1 (.mix [y1, y2']))[1]? = some (.mix [y1, y2']) := by rw [List.getElem?_set_self (get_lt k1)]
      obtain ⟨z1, z2, σ', r1, r2, r3⟩ := L58 k (i + 1) y1 y2' _ (by omega) (by omega) n0 n1 (by rw [hW]; exact a3.setM k1) (by rw [hW]; exact a2.setM k1) a4
      rw [hW] at r2 r3
      refine ⟨z1, z2, σ', ?_, r2, r3⟩
      simp only [N] at r1
      rw [f58_L0_eq guardT rfl]
      simp (disch := omega) only [N, fa52_0, fa52_1, shift_ptr, shift_pptr, Nat.zero_add, Nat.add_zero, pureFn_fn, List.append_nil, List.singleton_append, List.cons_append, List.nil_append, load24, wd_0, wd_1, len24, addN, b_lss, ltT, ltF, gG, load47, lb_all, load52, ws_all, s94, s97, s94', s119, ← hg, fa26_1, l11, bs24_1, a1, st, f58_J0_eq, add1]
      exact r1
theorem S58 (σ : Store) : ∃ u : Wd, pureV CC 58 [vLb x, vWd w] σ = some (vWd u) ∧ L u.p = (wl x (L w.p ++ L w.l) (L w.p).length).take (L w.p).length ∧ L u.l = (wl x (L w.p ++ L w.l) (L w.p).length).drop (L w.p).length := by
  obtain ⟨z1, z2, σ', h1, h2, h3⟩ := L58 hx hk hl h0 hin _ 0 (.p .nilsl) (.p .nilsl) [.mix [.p .nilsl, .p .nilsl], .mix [.p .nilsl, .p .nilsl]] rfl (Nat.zero_le _) rfl rfl (by rw [List.take_zero, List.take_nil]; exact Out.zero) (by rw [List.take_zero, List.drop_nil]; exact Out.zero) (fun r v s n c r' v' s' n' c' e1 e2 => by cases e1)
  refine ⟨⟨oI ((wl x (L w.p ++ L w.l) (L w.p).length).take (L w.p).length), oI ((wl x (L w.p ++ L w.l) (L w.p).length).drop (L w.p).length)⟩, ?_, L_oI _, L_oI _⟩
  refine pureV_free (by simp only [List.map_cons, List.map_nil, lb_view, wd_view]) rfl (F58_call (r := (.agg [z1, z2], σ')) ?_) ?_
  · simp only [N] at h1
    rw [F58_eq]
    simp only [box_lb, box_wd, gG, zero26, List.length_nil, List.nil_append, List.singleton_append, List.length_singleton]
    exact h1
  · have t1 := Out.twI h2 0
    have t2 := Out.twI h3 0
    have u1 := Out.tw h2 0
    have u2 := Out.tw h3 0
    have e1 : thaw 0 σ' z1 = some (.p (eSl (oI ((wl x (L w.p ++ L w.l) (L w.p).length).take (L w.p).length)))) := by
      rw [u1]; unfold oI; split
      · rfl
      · rw [loosens_ints]; rfl
    have e2 : thaw 0 σ' z2 = some (.p (eSl (oI ((wl x (L w.p ++ L w.l) (L w.p).length).drop (L w.p).length)))) := by
      rw [u2]; unfold oI; split
      · rfl
      · rw [loosens_ints]; rfl
    simp only [thawAll, thawPart, mapO, e1, e2]
    rfl
end
end Go.D
end
/- Chapter 13: the reference's Guarded. -/
section
set_option linter.unusedVariables false
set_option linter.unusedSimpArgs false
set_option maxRecDepth 8000
namespace Go.D
open Las
section
variable {f : Fm} {o : OI} (hf : FSm f) (hk : Ok (L f)) (ho : (L o).length ≤ 1000)
include hf hk ho
end
end Go.D
end
/- Chapter 13: IsGuarded of the program: whose operand each node is. -/
section
set_option linter.unusedVariables false
set_option linter.unusedSimpArgs false
set_option maxRecDepth 8000
namespace Go.D
open Las
namespace Las
def upd (U : List Int) (i : Nat) : List Int → List Int
  | [] => U
  | v :: us => upd (U.set v.toNat (i : Nat)) i us
def UpTo (F : List Nd) (i : Nat) (U : List Int) : Prop := U.length = F.length ∧ ∀ c, c < F.length → (∀ r, r < i → chd F r c → U.getD c 0 = r) ∧ ((∀ r, r < i → ¬ chd F r c) → U.getD c 0 = -1)
end Las
section
variable {f : Fm} (hf : FSm f) (hk : Ok (L f)) {u : Nat} (hu : 0 < u)
include hf hk hu
end
end Go.D
end
/- Chapter 13: IsGuarded of the program. -/
section
set_option linter.unusedVariables false
set_option linter.unusedSimpArgs false
set_option maxRecDepth 8000
namespace Go.D
open Las
namespace Las
theorem UpTo.cases {F : List Nd} {U : List Int} (hu : UpTo F F.length U) {c : Nat} (hc : c < F.length) : (∃ p, p < F.length ∧ chd F p c ∧ U.getD c 0 = p) ∨ ((∀ p, p < F.length → ¬ chd F p c) ∧ U.getD c 0 = -1) := by
  obtain ⟨h1, h2⟩ := hu.2 c hc
  by_cases h : ∃ p, p < F.length ∧ chd F p c
  · obtain ⟨p, p1, p2⟩ := h
    exact .inl ⟨p, p1, p2, h1 p p1 p2⟩
  · have h' : ∀ p, p < F.length → ¬ chd F p c := fun p p1 p2 => h ⟨p, p1, p2⟩
    exact .inr ⟨h', h2 h'⟩
end Las
end Go.D
end
/- Chapter 13: IsGuarded of the program; LassoGuards' law. -/
section
set_option linter.unusedVariables false
set_option linter.unusedSimpArgs false
set_option maxRecDepth 8000
namespace Go.D
open Las
section
variable {f : Fm} (hk : Ok (L f)) {u : Nat} {U : List Int} (hU : UpTo (L f) (L f).length U)
include hk hU
end
end Go.D
end
/- Chapter 13: LassoGuards' law. -/
section
set_option linter.unusedVariables false
set_option linter.unusedSimpArgs false
set_option maxRecDepth 8000
namespace Go.D
open Las
theorem ex20 (a b : DV) : extractV (.tuple [a, b]) 0 = some a := rfl
theorem ex21 (a b : DV) : extractV (.tuple [a, b]) 1 = some b := rfl
end Go.D
end
/- Chapter 13: LassoBehaviours' law. -/
section
set_option linter.unusedVariables false
set_option linter.unusedSimpArgs false
set_option maxRecDepth 8000
namespace Go.D
open Las
section
variable {x : Lb} (hx : LSm x) {w : Wd} (hl : (L w.p).length + (L w.l).length ≤ 1000)
include hx hl
end
theorem lt2_own (x : Lb) (s : Int) : ∀ (k i : Nat) (c : Int), lt2 (ownX x) s i k c = lt2 x s i k c
  | 0, _, _ => rfl
  | k + 1, i, c => by
    unfold lt2
    rw [lt2_own x s k]
    rfl
theorem ltr_own (x : Lb) (s t : Int) : ltr (ownX x) s t = ltr x s t := by
  unfold ltr
  rw [lt2_own]
  rfl
theorem wl_own (x : Lb) (A : List Int) (b : Nat) : wl (ownX x) A b = wl x A b := by
  unfold wl
  exact List.map_congr_left fun i _ => ltr_own x _ _
end Go.D
end
/- Chapter 13: what a formula says along an infinite word; words that are alike but for stuttering. Plain Lean. -/
section
set_option linter.unusedVariables false
set_option linter.unusedSimpArgs false
namespace Go.D
namespace Las
structure Bis (R : Nat → Nat → Prop) : Prop where
  fw : ∀ {i j}, R i j → ∀ i', i ≤ i' → ∃ j', j ≤ j' ∧ R i' j' ∧ ∀ m', j ≤ m' → m' < j' → ∃ m, i ≤ m ∧ m < i' ∧ R m m'
  bw : ∀ {i j}, R i j → ∀ j', j ≤ j' → ∃ i', i ≤ i' ∧ R i' j' ∧ ∀ m, i ≤ m → m < i' → ∃ m', j ≤ m' ∧ m' < j' ∧ R m m'
def pre (u : Nat → Int) (n : Nat) : List Int := (List.range n).map u
end Las
end Go.D
end
/- Chapter 13: formulas put together, in plain Lean. -/
section
set_option linter.unusedVariables false
set_option linter.unusedSimpArgs false
namespace Go.D
namespace Las
structure Emb (F : List Nd) (d : Nat) (H : List Nd) : Prop where
  le : d + F.length ≤ H.length
  k : ∀ i, i < F.length → (H.getD (d + i) default).k = (F.getD i default).k
  n : ∀ i, i < F.length → (H.getD (d + i) default).n = (F.getD i default).n
  a : ∀ i, i < F.length → nA H (d + i) = (nA F i).map (· + (d : Int))
section
variable {F H : List Nd} {d : Nat} (he : Emb F d H)
include he
end
end Las
end Go.D
end
/- Chapter 13: a state that is repeated; a guarded formula says the same. Plain Lean. -/
section
set_option linter.unusedVariables false
set_option linter.unusedSimpArgs false
namespace Go.D
namespace Las
structure Walk (φ : Nat → Nat) (still : Nat → Prop) : Prop where
  stay : ∀ t, still t → φ (t + 1) = φ t ∧ ¬ still (t + 1)
  go : ∀ t, ¬ still t → φ (t + 1) = φ t + 1
theorem Walk.mono {φ : Nat → Nat} {S : Nat → Prop} (h : Walk φ S) {i j : Nat} (hij : i ≤ j) : φ i ≤ φ j := by
  induction j with
  | zero => rw [show i = 0 by omega]; exact Nat.le_refl _
  | succ j ih =>
    rcases Nat.lt_or_ge j i with c | c
    · rw [show i = j + 1 by omega]; exact Nat.le_refl _
    · have := ih c
      by_cases hs : S j
      · rw [(h.stay j hs).1]; exact this
      · rw [h.go j hs]; omega
section
variable {x : Lb} (hk : LbOk x)
include hk
end
end Las
end Go.D
end
/- Chapter 13: the forms of a right word are right. Plain Lean. -/
section
set_option linter.unusedVariables false
set_option linter.unusedSimpArgs false
namespace Go.D
namespace Las
theorem wErr_mk {P Q : List Int} (h1 : Q ≠ []) (h2 : P.length + Q.length ≤ 60) (h3 : ∀ v ∈ P, oddB v = false) (h4 : ∀ v ∈ Q, oddB v = false) : wErr P Q = 0 := by
  have := List.length_pos_iff.2 h1
  unfold wErr
  rw [if_neg (by omega), if_neg (by omega), if_neg]
  rw [Bool.not_eq_true, Bool.or_eq_false_iff, List.any_eq_false, List.any_eq_false]
  exact ⟨fun v hv => by rw [h3 v hv]; simp, fun v hv => by rw [h4 v hv]; simp⟩
end Las
end Go.D
end
/- Equations of functions 6, 36, 37, 38, printed by gen.py. -/
section
set_option linter.unusedVariables false
set_option maxRecDepth 10000
namespace Go.D
open Go.Proofs
open _root_.Go.D.Code (fstC sndC)
open _root_.Go.D.Ann (left right)
end Go.D
end
/- Chapter 13: Join of the reference. -/
section
set_option linter.unusedVariables false
set_option linter.unusedSimpArgs false
set_option maxRecDepth 8000
namespace Go.D
open Las
theorem Others.low {σ σ' : Store} {lo sz n : Nat} {cs : List PV} {x : DV} (h : Others σ σ' x) (ho : Out σ lo sz n cs x) {r : Nat} {row : Row} (hr : r < lo) (hi : σ[r]? = some row) : σ'[r]? = some row := by
  refine h r row hi ?_
  rintro r' ver sz' n' cs' rfl
  rcases ho.2 with ⟨_, h2⟩ | ⟨_, r2, ver2, h2, _, h3⟩
  · cases h2
  · injection h2 with e1
    omega
theorem Ap.push {σ : Store} {lo sz sz' n n' : Nat} {cs : List PV} {x x' y : DV} (hy : Out σ lo sz' n' cs y) (ha : Ap y x) (hx : ∃ r v c, x' = .osl r v sz (n + 1) c ∧ ((x = .p .nilsl ∧ r = σ.length) ∨ ∃ v0 c0, x = .osl r v0 sz n c0)) : Ap y x' := by
  intro r ver s m c r' ver' s' m' c' ey ex
  obtain ⟨r1, v1, c1, e1, h⟩ := hx
  rw [e1] at ex
  injection ex with ex
  rcases h with ⟨_, h⟩ | ⟨v0, c0, h⟩
  · rcases hy.2 with ⟨_, e⟩ | ⟨_, r2, v2, e, k1, _⟩
    · rw [e] at ey; cases ey
    · rw [e] at ey
      injection ey with ey
      have := get_lt k1
      omega
  · rw [← ex]
    exact ha _ _ _ _ _ _ _ _ _ _ ey h
theorem Out.low {σ σ' : Store} {lo sz n : Nat} {cs : List PV} {x : DV} (h : Out σ lo sz n cs x) (hk : ∀ (r v : Nat), σ[r]? = some (Row.tok v) → σ'[r]? = some (Row.tok v)) : Out σ' lo sz n cs x := by
  obtain ⟨h1, h2⟩ := h
  refine ⟨h1, ?_⟩
  rcases h2 with h2 | ⟨h0, r', v, h2, h3, h4⟩
  · exact .inl h2
  · exact .inr ⟨h0, r', v, h2, hk _ _ h3, h4⟩
theorem u64 : PP.underlying 64 = some (.slice 23) := Eq.trans (by kernel_rfl) rfl
section
variable {x0 x1 : DV}
end
end Go.D
end
/- Chapter 13: truths of the reference, node by node. -/
section
set_option linter.unusedVariables false
set_option linter.unusedSimpArgs false
set_option maxRecDepth 8000
namespace Go.D
open Las
theorem ba_st {σ : Store} {r i lo : Nat} {A : List Bool} {v : Bool} (h : σ[r]? = some (.arr (eBools A))) (hi : i < A.length) (hlo : lo ≤ r) : store PP lo 4 (.ptr r i) (.p (.bool v)) σ = some (σ.set r (.arr (eBools (A.set i v)))) := by
  have e : splice (eBools A) i [PV.bool v] = eBools (A.set i v) := by
    have h1 : [PV.bool v] = eBools [v] := rfl
    rw [h1, spliceB, List.length_singleton, take_set_drop hi]
  have hb : i + 1 ≤ (eBools A).length := by rw [bools_length]; omega
  simp [store, s4, DV.cells, storeN, h, e, hb, pures, DV.pure?, hlo]
theorem ba_thaw {σ : Store} {r : Nat} {A : List Bool} (h : σ[r]? = some (.arr (eBools A))) : thawAll 0 σ (.rsl r 1 0 A.length) = some (BV A) := by
  have hb2 : 0 + A.length * 1 ≤ (eBools A).length := by rw [bools_length]; omega
  have ht : ((eBools A).drop 0).take (A.length * 1) = eBools A := by rw [List.drop_zero, Nat.mul_one, List.take_of_length_le (by rw [bools_length]; exact Nat.le_refl _)]
  simp only [thawAll, thawPart, thaw, thaw1, thawP, Nat.zero_le, if_pos, h, hb2, ht, loosens_bools, Option.map_some]
  rfl
section
variable {w : Wd} (hw : WOk (L w.p) (L w.l)) {x : Nd} (hk : inR x.k 0 9 = true) (hbad : bad x = false) {a b : NB} {x10 x11 : DV}
variable (h1 : ar x.k ≠ 0 → x10 = BV (tab ((L w.p).length + (L w.l).length) a)) (h2 : ar x.k = 2 → x11 = BV (tab ((L w.p).length + (L w.l).length) b))
include hw hk hbad h1 h2
theorem step22 {i : Nat} (hi : i < (L w.p).length + (L w.l).length) {σ : Store} (gs : σ[0]? = some (.mix (ndD x))) :
    f22_L0 guardT 0 (.pptr (eWd w) 0) (.ptr 0 0) (N ((L w.p).length + (L w.l).length)) (.rsl 1 1 0 ((L w.p).length + (L w.l).length)) x10 x11 (N i) σ =
      (store PP 0 4 (.ptr 1 i) (.p (.bool (tk ((L w.p).length + (L w.l).length) (L w.p).length (L w.p ++ L w.l) x.k x.n a b i))) σ).bind fun σ' =>
        f22_L0 guardT 0 (.pptr (eWd w) 0) (.ptr 0 0) (N ((L w.p).length + (L w.l).length)) (.rsl 1 1 0 ((L w.p).length + (L w.l).length)) x10 x11 (N (i + 1)) σ' := by
  have hle := hw.le
  have hne := hw.ne
  have hb : (L w.p).length < (L w.p).length + (L w.l).length := by omega
  have hrng := hw.rng i hi
  rw [inR_iff] at hk
  have gk := row_k gs
  have gn := row_n gs
  have ix := fun g : NB => BV_idx (l := tab ((L w.p).length + (L w.l).length) g) (i := i) (by rw [tab_len]; exact hi)
  have da := BV_ld (l := tab ((L w.p).length + (L w.l).length) a) (i := i) (by rw [tab_len]; exact hi) σ
  have db := BV_ld (l := tab ((L w.p).length + (L w.l).length) b) (i := i) (by rw [tab_len]; exact hi) σ
  rw [tab_get hi] at da db
  have hal := atW_app (P := L w.p) (Q := L w.l) hi
  rw [f22_L0_eq guardT rfl]
  have hcase : x.k = 0 ∨ x.k = 1 ∨ x.k = 2 ∨ x.k = 3 ∨ x.k = 4 ∨ x.k = 5 ∨ x.k = 6 ∨ x.k = 7 ∨ x.k = 8 ∨ x.k = 9 := by omega
  generalize hv : tk ((L w.p).length + (L w.l).length) (L w.p).length (L w.p ++ L w.l) x.k x.n a b i = v
  rcases hcase with e | e | e | e | e | e | e | e | e | e
  · rw [e] at hv gk
    have hv' : v = true := hv.symm
    subst hv'
    simp (disch := omega) only [N, b_lss, ltT, gG, fa67_0, shift_ptr, shift_pptr, Nat.zero_add, Nat.add_zero, pureFn_fn, List.append_nil, List.singleton_append, List.cons_append, List.nil_append, load3, gk, b_eql, Int.reduceEq, br_idx hi, add1, eqT (rfl : (0 : Int) = 0)]
  · rw [e] at hv gk
    have hm : 0 ≤ x.n ∧ x.n ≤ 11 := by
      unfold bad at hbad
      rw [if_pos e, Bool.not_eq_false', inR_iff] at hbad
      exact hbad
    have hv' : bit (atW (L w.p) (L w.l) i) x.n = v := by rw [hal]; exact hv
    rw [← hal] at hrng
    have h69 := S69 (w := w) hi (by omega) σ
    simp (disch := omega) only [N, b_lss, ltT, gG, fa67_0, fa67_1, shift_ptr, shift_pptr, Nat.zero_add, Nat.add_zero, pureFn_fn, List.append_nil, List.singleton_append, List.cons_append, List.nil_append, load3, gk, gn, b_eql, Int.reduceEq, load26, wd_all, h69, S60 hrng hm, hv', br_idx hi, add1]
  · rw [e] at hv gk
    obtain rfl := h1 (by rw [e]; decide)
    have hv' : (!a i) = v := hv
    simp (disch := omega) only [N, b_lss, ltT, gG, fa67_0, shift_ptr, shift_pptr, Nat.zero_add, Nat.add_zero, pureFn_fn, List.append_nil, List.singleton_append, List.cons_append, List.nil_append, load3, gk, b_eql, Int.reduceEq, ix, load4, da, hv', br_idx hi, add1]
  · rw [e] at hv gk
    obtain rfl := h1 (by rw [e]; decide)
    obtain rfl := h2 (by rw [e]; decide)
    have hv' : (a i && b i) = v := hv
    cases q : a i with
    | true =>
      rw [q] at da hv'
      rw [Bool.true_and] at hv'
      simp (disch := omega) only [N, b_lss, ltT, gG, fa67_0, shift_ptr, shift_pptr, Nat.zero_add, Nat.add_zero, pureFn_fn, List.append_nil, List.singleton_append, List.cons_append, List.nil_append, load3, gk, b_eql, Int.reduceEq, ix, load4, da, db, hv', br_idx hi, add1]
    | false =>
      rw [q] at da hv'
      rw [Bool.false_and] at hv'
      simp (disch := omega) only [N, b_lss, ltT, gG, fa67_0, shift_ptr, shift_pptr, Nat.zero_add, Nat.add_zero, pureFn_fn, List.append_nil, List.singleton_append, List.cons_append, List.nil_append, load3, gk, b_eql, Int.reduceEq, ix, load4, da, db, ← hv', br_idx hi, add1]
  · rw [e] at hv gk
    obtain rfl := h1 (by rw [e]; decide)
    obtain rfl := h2 (by rw [e]; decide)
    have hv' : (a i || b i) = v := hv
    cases q : a i with
    | false =>
      rw [q] at da hv'
      rw [Bool.false_or] at hv'
      simp (disch := omega) only [N, b_lss, ltT, gG, fa67_0, shift_ptr, shift_pptr, Nat.zero_add, Nat.add_zero, pureFn_fn, List.append_nil, List.singleton_append, List.cons_append, List.nil_append, load3, gk, b_eql, Int.reduceEq, ix, load4, da, db, hv', br_idx hi, add1]
    | true =>
      rw [q] at da hv'
      rw [Bool.true_or] at hv'
      simp (disch := omega) only [N, b_lss, ltT, gG, fa67_0, shift_ptr, shift_pptr, Nat.zero_add, Nat.add_zero, pureFn_fn, List.append_nil, List.singleton_append, List.cons_append, List.nil_append, load3, gk, b_eql, Int.reduceEq, ix, load4, da, db, ← hv', br_idx hi, add1]
  · rw [e] at hv gk
    obtain rfl := h1 (by rw [e]; decide)
    obtain rfl := h2 (by rw [e]; decide)
    have hv' : (!a i || b i) = v := hv
    cases q : a i with
    | true =>
      rw [q] at da hv'
      rw [Bool.not_true, Bool.false_or] at hv'
      simp (disch := omega) only [N, b_lss, ltT, gG, fa67_0, shift_ptr, shift_pptr, Nat.zero_add, Nat.add_zero, pureFn_fn, List.append_nil, List.singleton_append, List.cons_append, List.nil_append, load3, gk, b_eql, Int.reduceEq, ix, load4, da, db, hv', br_idx hi, add1]
    | false =>
      rw [q] at da hv'
      rw [Bool.not_false, Bool.true_or] at hv'
      simp (disch := omega) only [N, b_lss, ltT, gG, fa67_0, shift_ptr, shift_pptr, Nat.zero_add, Nat.add_zero, pureFn_fn, List.append_nil, List.singleton_append, List.cons_append, List.nil_append, load3, gk, b_eql, Int.reduceEq, ix, load4, da, db, ← hv', br_idx hi, add1]
  · rw [e] at hv gk
    obtain rfl := h1 (by rw [e]; decide)
    have hv' : (!laR ((L w.p).length + (L w.l).length) (L w.p).length (fun j => a j == false) ((L w.p).length + (L w.l).length) i) = v := by
      rw [← hv]
      show _ = !soP _ _ (fun j => !a j) i
      rw [← soP_ref hb hi, laR_congr hb (f := fun j => a j == false) (g := fun j => !a j) (fun j _ => by cases a j <;> rfl)]
    have h73 := S73 hw (g := a) (b := false) hi σ
    simp only [N] at h73
    simp (disch := omega) only [N, b_lss, ltT, gG, fa67_0, shift_ptr, shift_pptr, Nat.zero_add, Nat.add_zero, pureFn_fn, List.append_nil, List.singleton_append, List.cons_append, List.nil_append, load3, gk, b_eql, Int.reduceEq, load26, wd_all, h73, hv', br_idx hi, add1]
  · rw [e] at hv gk
    obtain rfl := h1 (by rw [e]; decide)
    have hv' : laR ((L w.p).length + (L w.l).length) (L w.p).length (fun j => a j == true) ((L w.p).length + (L w.l).length) i = v := by
      rw [← hv]
      show _ = soP _ _ a i
      rw [← soP_ref hb hi, laR_congr hb (f := fun j => a j == true) (g := a) (fun j _ => by cases a j <;> rfl)]
    have h73 := S73 hw (g := a) (b := true) hi σ
    simp only [N] at h73
    simp (disch := omega) only [N, b_lss, ltT, gG, fa67_0, shift_ptr, shift_pptr, Nat.zero_add, Nat.add_zero, pureFn_fn, List.append_nil, List.singleton_append, List.cons_append, List.nil_append, load3, gk, b_eql, Int.reduceEq, load26, wd_all, h73, hv', br_idx hi, add1]
  · rw [e] at hv gk
    obtain rfl := h1 (by rw [e]; decide)
    obtain rfl := h2 (by rw [e]; decide)
    have hv' : leR ((L w.p).length + (L w.l).length) (L w.p).length a (fun j => laR ((L w.p).length + (L w.l).length) (L w.p).length (fun j => b j == true) ((L w.p).length + (L w.l).length) j) ((L w.p).length + (L w.l).length) i = v := by
      rw [← hv]
      show _ = !soP _ _ (fun j => !(!a j || soP _ _ b j)) i
      rw [leR_la, ← soP_ref hb hi]
      congr 1
      refine laR_congr hb (fun j hj => ?_) _ _
      rw [laR_congr hb (f := fun j => b j == true) (g := b) (fun j _ => by cases b j <;> rfl), soP_ref hb hj]
      cases a j <;> rfl
    have h74 := S74 hw (a := a) (b := b) hi σ
    simp only [N] at h74
    simp (disch := omega) only [N, b_lss, ltT, gG, fa67_0, shift_ptr, shift_pptr, Nat.zero_add, Nat.add_zero, pureFn_fn, List.append_nil, List.singleton_append, List.cons_append, List.nil_append, load3, gk, b_eql, Int.reduceEq, load26, wd_all, b115, h74, hv', br_idx hi, add1]
  · rw [e] at hv gk
    obtain rfl := h1 (by rw [e]; decide)
    obtain rfl := h2 (by rw [e]; decide)
    have hv' : untR ((L w.p).length + (L w.l).length) (L w.p).length a b ((L w.p).length + (L w.l).length) i = v := by
      rw [← hv]
      exact unP_ref hb hi
    have h75 := S75 hw (a := a) (b := b) hi σ
    simp only [N] at h75
    simp (disch := omega) only [N, b_lss, ltT, gG, fa67_0, shift_ptr, shift_pptr, Nat.zero_add, Nat.add_zero, pureFn_fn, List.append_nil, List.singleton_append, List.cons_append, List.nil_append, load3, gk, b_eql, Int.reduceEq, load26, wd_all, b115, h75, hv', br_idx hi, add1, eqT (rfl : (9 : Int) = 9)]
theorem L22 : ∀ (d i : Nat) (σ : Store), (L w.p).length + (L w.l).length - i = d → i ≤ (L w.p).length + (L w.l).length → σ[0]? = some (.mix (ndD x)) →
    σ[1]? = some (.arr (eBools (tab ((L w.p).length + (L w.l).length) fun j => if j < i then tk ((L w.p).length + (L w.l).length) (L w.p).length (L w.p ++ L w.l) x.k x.n a b j else false))) →
    ∃ σ', f22_L0 guardT 0 (.pptr (eWd w) 0) (.ptr 0 0) (N ((L w.p).length + (L w.l).length)) (.rsl 1 1 0 ((L w.p).length + (L w.l).length)) x10 x11 (N i) σ = some (.rsl 1 1 0 ((L w.p).length + (L w.l).length), σ') ∧
      σ'[1]? = some (.arr (eBools (tab ((L w.p).length + (L w.l).length) (tk ((L w.p).length + (L w.l).length) (L w.p).length (L w.p ++ L w.l) x.k x.n a b))))
  | 0, i, σ, hd, hi, gs, g1 => by
    have e : i = (L w.p).length + (L w.l).length := by omega
    subst e
    refine ⟨σ, ?_, ?_⟩
    · rw [f22_L0_eq guardT rfl]
      simp (disch := omega) only [N, b_lss, ltF, gG]
    · rw [g1, tab_congr (fun j hj => by rw [if_pos hj])]
  | d + 1, i, σ, hd, hi, gs, g1 => by
    have hlt : i < (L w.p).length + (L w.l).length := by omega
    have hst := ba_st (v := tk ((L w.p).length + (L w.l).length) (L w.p).length (L w.p ++ L w.l) x.k x.n a b i) g1 (i := i) (by rw [tab_len]; exact hlt) (Nat.zero_le _)
    rw [tab_set] at hst
    rw [step22 hw hk hbad h1 h2 hlt gs, hst, obind]
    refine L22 d (i + 1) _ (by omega) (by omega) (by rw [List.getElem?_set_ne (by decide)]; exact gs) ?_
    rw [List.getElem?_set_self (get_lt g1)]
    congr 3
    refine tab_congr fun j hj => ?_
    by_cases e : j = i
    · subst e; rw [if_pos rfl, if_pos (by omega)]
    · by_cases e2 : j < i
      · rw [if_neg e, if_pos e2, if_pos (by omega)]
      · rw [if_neg e, if_neg e2, if_neg (by omega)]
end
end Go.D
end
/- Chapter 13: LassoTruths' law. -/
section
set_option linter.unusedVariables false
set_option linter.unusedSimpArgs false
set_option maxRecDepth 8000
namespace Go.D
open Las
section
variable {f : Fm} {w : Wd} (hf : FSm f) (hk : Ok (L f)) (hw : WOk (L w.p) (L w.l))
include hf hk hw
theorem S22 : ∀ (m r : Nat), r < m → r < (L f).length → ∀ σ : Store, pureV CC 22 [.p (eFm f), N r, vWd w] σ = some (BV (tab ((L w.p).length + (L w.l).length) (tv (tk ((L w.p).length + (L w.l).length) (L w.p).length (L w.p ++ L w.l)) (L f) r)))
  | 0, r, h, _, _ => by omega
  | m + 1, r, hm, hr, σ => by
    have hle := hw.le
    have hne := hw.ne
    have hg := hk.good r hr
    have hlen := hf.2 r
    have ha : L ((L f).getD r default).a = nA (L f) r := rfl
    have hnd := nd_all hr
    have hga := hg.a
    have hgk := hg.k
    have hgb := hg.b
    have hargs := fun h0 => hg.args h0
    have hleaf : nA (L f) r = [] → ∀ a b : NB, tv (tk ((L w.p).length + (L w.l).length) (L w.p).length (L w.p ++ L w.l)) (L f) r = tk ((L w.p).length + (L w.l).length) (L w.p).length (L w.p ++ L w.l) ((L f).getD r default).k ((L f).getD r default).n a b := fun h0 a b => by
      rw [h0] at hga
      exact tv_leaf (ar_zero hga.symm) a b
    have hnode := fun h0 => tv_eq (g := tk ((L w.p).length + (L w.l).length) (L w.p).length (L w.p ++ L w.l)) hg h0
    have hrec : ∀ (v : Int), 0 ≤ v → v < r → ∀ τ : Store, pureV CC 22 [.p (eFm f), .p (.int .i64 v), vWd w] τ = some (BV (tab ((L w.p).length + (L w.l).length) (tv (tk ((L w.p).length + (L w.l).length) (L w.p).length (L w.p ++ L w.l)) (L f) v.toNat))) := fun v v0 v1 τ => by
      have := S22 m v.toNat (by omega) (by omega) τ
      have e : N v.toNat = .p (.int .i64 v) := by unfold N; rw [Int.toNat_of_nonneg v0]
      rwa [e] at this
    generalize hx : (L f).getD r default = x at *
    have st := st67 (σ := []) (lo := 0) (z := [.p (pI 0), .p (pI 0), .p .nilsl]) x rfl (Nat.zero_le _)
    rw [List.length_nil, List.nil_append] at st
    have mk := mk34 (n := (L w.p).length + (L w.l).length) (by omega) [Row.mix (ndD x)]
    have g : ([Row.mix (ndD x)] : Store)[0]? = some (.mix (ndD x)) := rfl
    have g2 : ([Row.mix (ndD x), Row.arr (eBools (List.replicate ((L w.p).length + (L w.l).length) false))] : Store)[0]? = some (.mix (ndD x)) := rfl
    have ini : ∀ (a b : NB), ([Row.mix (ndD x), Row.arr (eBools (List.replicate ((L w.p).length + (L w.l).length) false))] : Store)[1]? = some (.arr (eBools (tab ((L w.p).length + (L w.l).length) fun j => if j < 0 then tk ((L w.p).length + (L w.l).length) (L w.p).length (L w.p ++ L w.l) x.k x.n a b j else false))) := fun a b => by
      rw [rep_tab]
      show some (Row.arr _) = _
      congr 3
    have fin : ∀ {a b : NB} {x10 x11 : DV}, (ar x.k ≠ 0 → x10 = BV (tab ((L w.p).length + (L w.l).length) a)) → (ar x.k = 2 → x11 = BV (tab ((L w.p).length + (L w.l).length) b)) →
        tv (tk ((L w.p).length + (L w.l).length) (L w.p).length (L w.p ++ L w.l)) (L f) r = tk ((L w.p).length + (L w.l).length) (L w.p).length (L w.p ++ L w.l) x.k x.n a b →
        (∀ σ', f22_L0 guardT 0 (.pptr (eWd w) 0) (.ptr 0 0) (N ((L w.p).length + (L w.l).length)) (.rsl 1 1 0 ((L w.p).length + (L w.l).length)) x10 x11 (N 0) ([Row.mix (ndD x), Row.arr (eBools (List.replicate ((L w.p).length + (L w.l).length) false))]) = some (.rsl 1 1 0 ((L w.p).length + (L w.l).length), σ') → F22 guardT 0 (.p (eFm f)) (N r) (vWd w) [] = some (.rsl 1 1 0 ((L w.p).length + (L w.l).length), σ')) →
        pureV CC 22 [.p (eFm f), N r, vWd w] σ = some (BV (tab ((L w.p).length + (L w.l).length) (tv (tk ((L w.p).length + (L w.l).length) (L w.p).length (L w.p ++ L w.l)) (L f) r))) := fun {a b x10 x11} q1 q2 q3 q4 => by
      obtain ⟨σ', r1, r2⟩ := L22 hw hgk hgb q1 q2 _ 0 _ rfl (Nat.zero_le _) g2 (ini a b)
      have hth := ba_thaw r2
      rw [tab_len, ← q3] at hth
      exact pureV_free (by simp only [List.map_cons, List.map_nil, fm_view, wd_view]; rfl) rfl (F22_call (r := (_, σ')) (q4 σ' r1)) hth
    have lP := (PL.sl w.p).len
    have lQ := (PL.sl w.l).len
    have lA := (PL.sl x.a).len
    rw [ha] at lA
    by_cases h0 : nA (L f) r = []
    · have hz : ¬ (((nA (L f) r).length : Nat) : Int) > 0 := by rw [h0]; decide
      have hz1 : ¬ (((nA (L f) r).length : Nat) : Int) > 1 := by rw [h0]; decide
      have har : ar x.k = 0 := by rw [← hga, h0]; rfl
      refine fin (a := fun _ => false) (b := fun _ => false) (x10 := .p .nilsl) (x11 := .p .nilsl) (fun h => absurd har h) (fun h => by rw [har] at h; exact absurd h (by decide)) (hleaf h0 _ _) (fun σ' hL => ?_)
      rw [F22_eq]
      simp only [N] at hL
      simp (disch := omega) only [box_wd, gG, N, idx23 hr, load67, hnd, zero67, List.length_nil, List.nil_append, st, fa26_0, fa26_1, shift_ptr, shift_pptr, Nat.zero_add, Nat.add_zero, pureFn_fn, List.append_nil, List.singleton_append, List.cons_append, List.nil_append, load24, wd_0, wd_1, lP, lQ, addN, mk, List.length_singleton, fa67_2, row_a g2, lA, b_gtr, gtF hz, f22_J0_eq, gtF hz1, f22_J1_eq]
      exact hL
    · obtain ⟨a1, a2, a3, a4⟩ := hargs h0
      have hpa := List.length_pos_iff.2 h0
      have hz : (((nA (L f) r).length : Nat) : Int) > 0 := by omega
      have i1 := (PL.sl x.a).idx (i := 0) (by rw [ha]; exact hpa)
      have l1 := fun σ => load1_getD (l := nA (L f) r) hpa σ
      have z0 : (.p (.int .i64 ((0 : Nat) : Int)) : DV) = .p (.int .i64 0) := rfl
      rw [z0, ha] at i1
      have r1 := hrec _ a2 a3
      have hopA : opA (tk ((L w.p).length + (L w.l).length) (L w.p).length (L w.p ++ L w.l)) (L f) r = tv (tk ((L w.p).length + (L w.l).length) (L w.p).length (L w.p ++ L w.l)) (L f) ((nA (L f) r).getD 0 0).toNat := rfl
      rw [← hopA] at r1
      by_cases hz1 : (((nA (L f) r).length : Nat) : Int) > 1
      · have hl2 : (nA (L f) r).length = 2 := by
          have : ar x.k ≤ 2 := by unfold ar; split; decide; split <;> decide
          omega
        have i2 := (PL.sl x.a).idx (i := 1) (by rw [ha]; omega)
        have l2 := fun σ => load1_getD (l := nA (L f) r) (i := 1) (by omega) σ
        have z1 : (.p (.int .i64 ((1 : Nat) : Int)) : DV) = .p (.int .i64 1) := rfl
        rw [z1, ha] at i2
        have hlast : (nA (L f) r).getD ((nA (L f) r).length - 1) 0 = (nA (L f) r).getD 1 0 := by rw [hl2]
        have r2 := hrec ((nA (L f) r).getD 1 0) (by rw [← hlast]; omega) (by rw [← hlast]; omega)
        have hopB : opB (tk ((L w.p).length + (L w.l).length) (L w.p).length (L w.p ++ L w.l)) (L f) r = tv (tk ((L w.p).length + (L w.l).length) (L w.p).length (L w.p ++ L w.l)) (L f) ((nA (L f) r).getD 1 0).toNat := by unfold opB; rw [hlast]
        rw [← hopB] at r2
        refine fin (fun _ => rfl) (fun _ => rfl) (hnode h0) (fun σ' hL => ?_)
        rw [F22_eq]
        simp only [N] at hL
        simp (disch := omega) only [box_wd, gG, N, idx23 hr, load67, hnd, zero67, List.length_nil, List.nil_append, st, fa26_0, fa26_1, shift_ptr, shift_pptr, Nat.zero_add, Nat.add_zero, pureFn_fn, List.append_nil, List.singleton_append, List.cons_append, List.nil_append, load24, wd_0, wd_1, lP, lQ, addN, mk, List.length_singleton, fa67_2, row_a g2, lA, b_gtr, gtT hz, i1, load3, l1, load26, wd_all, r1, f22_J0_eq, gtT hz1, i2, l2, r2, f22_J1_eq]
        exact hL
      · refine fin (b := opB (tk ((L w.p).length + (L w.l).length) (L w.p).length (L w.p ++ L w.l)) (L f) r) (x11 := .p .nilsl) (fun _ => rfl) (fun h => by rw [← hga] at h; omega) (hnode h0) (fun σ' hL => ?_)
        rw [F22_eq]
        simp only [N] at hL
        simp (disch := omega) only [box_wd, gG, N, idx23 hr, load67, hnd, zero67, List.length_nil, List.nil_append, st, fa26_0, fa26_1, shift_ptr, shift_pptr, Nat.zero_add, Nat.add_zero, pureFn_fn, List.append_nil, List.singleton_append, List.cons_append, List.nil_append, load24, wd_0, wd_1, lP, lQ, addN, mk, List.length_singleton, fa67_2, row_a g2, lA, b_gtr, gtT hz, i1, load3, l1, load26, wd_all, r1, f22_J0_eq, gtF hz1, f22_J1_eq]
        exact hL
end
theorem tvK_own (g : Int → Int → NB → NB → NB) (F : List Nd) : ∀ (k r : Nat), tvK g (F.map ownN) k r = tvK g F k r
  | 0, r => rfl
  | k + 1, r => by
    unfold tvK
    rw [nA_own, (own_get F r).2.1, (own_get F r).2.2, tvK_own g F k, tvK_own g F k]
theorem says_own (F : List Nd) (P Q : List Int) : says (F.map ownN) P Q = says F P Q := by unfold says tv; rw [tvK_own, List.length_map]
end Go.D
end
/- Equations of functions 11, 61, printed by gen.py. -/
section
set_option linter.unusedVariables false
set_option maxRecDepth 10000
namespace Go.D
open Go.Proofs
open _root_.Go.D.Code (fstC sndC)
open _root_.Go.D.Ann (left right)
end Go.D
end
/- Chapter 13: LassoStutters' law: the behaviour with a state repeated, and what is told of both. -/
section
set_option linter.unusedVariables false
set_option linter.unusedSimpArgs false
set_option maxRecDepth 8000
namespace Go.D
open Las
structure Rp where
  w : Wd
  t : Int
theorem wl_ok {x : Lb} (hk : LbOk x) {A : List Int} {b : Nat} (hb : b < A.length) (hA : A.length ≤ 60) (hin : ∀ i, i < A.length → 0 ≤ A.getD i 0 ∧ A.getD i 0 < x.g.n) : wErr ((wl x A b).take b) ((wl x A b).drop b) = 0 := by
  have hl := wl_len x A b
  have hv : ∀ v, v ∈ wl x A b → oddB v = false := fun v hv => by
    unfold wl at hv
    obtain ⟨i, hi, rfl⟩ := List.mem_map.1 hv
    have hi := List.mem_range.1 hi
    have := (ltr_eq hk (A.getD (nx A.length b i) 0) (hin i hi)).2
    obtain ⟨o1, o2⟩ := this
    unfold oddB
    rw [(inR_iff _ _ _).2 ⟨o1, o2⟩]; rfl
  refine wErr_mk (fun e => ?_) (by rw [List.length_take, List.length_drop]; omega) (fun v h => hv v (List.mem_of_mem_take h)) fun v h => hv v (List.mem_of_mem_drop h)
  have := congrArg List.length e
  rw [List.length_drop] at this
  simp at this; omega
section
variable {f : Fm} (hF : Ok (L f)) {x : Lb} (hx : LSm x) {w : Wd} (hs : (chkLs x w).2 = 0) (hw15 : (L w.p).length ≤ 15 ∧ (L w.l).length ≤ 15)
include hF hx hs hw15
end
end Go.D
end
/- Equations of functions 27, 29, 30, 77, 81, 134, 135, 166, printed by gen.py. -/
section
set_option linter.unusedVariables false
set_option maxRecDepth 10000
namespace Go.D
open Go.Proofs
noncomputable section
variable (G : GuardT) (lo : Nat) {σ : Store} {r : DV × Store}
open _root_.Go.D.Code (fstC sndC)
open _root_.Go.D.Ann (left right)
def c27_0 : Code := bodyOf Tryz.f27
def a27_0 : Ann := (pol 27).ann
def a27_17 : Ann := right (left (right (right (right a27_0))))
def a27_18 : Ann := left a27_17
def c27_19 : Code := fstC (fstC (sndC (fstC (sndC (sndC (sndC c27_0))))))
def a27_26 : Ann := left (right (left a27_18))
def a27_29 : Ann := right (left a27_26)
def a27_30 : Ann := left a27_29
def c27_31 : Code := fstC (fstC (sndC (fstC (fstC (sndC c27_19)))))
def c27_53 : Code := sndC (sndC c27_19)
def a27_53 : Ann := right (right (left a27_18))
def c27_54 : Code := sndC (sndC (sndC (sndC c27_0)))
def a27_54 : Ann := right (right (right (right a27_0)))
def f27_L0 (x1 x2 x3 x6 x9 x10 : DV) (σ : Store) : RS :=
 codeF G PP (pol 27) CC lo (.loop c27_19) a27_18 (Z :: x1 :: x2 :: x3 :: Z :: Z :: x6 :: Z :: Z :: x9 :: x10 :: zn 60 []) σ
 (blockC 0 a27_17 (seqC G PP (pol 27) CC lo c27_54 a27_54 (finR PP Tryz.f27.results.toList)))
def f27_L1 (x1 x2 x3 x6 x9 x10 x32 x33 : DV) (σ : Store) : RS :=
 codeF G PP (pol 27) CC lo (.loop c27_31) a27_30 (Z :: x1 :: x2 :: x3 :: Z :: Z :: x6 :: Z :: Z :: x9 :: x10 :: zn 21 (x32 :: x33 :: zn 37 [])) σ
 (blockC 2 a27_29 (blockC 1 a27_26 (seqC G PP (pol 27) CC lo c27_53 a27_53 (loopC G PP (pol 27) CC lo c27_19 a27_18 (blockC 0 a27_17 (seqC G PP (pol 27) CC lo c27_54 a27_54 (finR PP Tryz.f27.results.toList)))))))
def F27 (x0 x1 x2 : DV) (σ : Store) : RS :=
 codeF G PP (pol 27) CC lo c27_0 a27_0 (x0 :: x1 :: x2 :: zn 68 []) σ (finR PP Tryz.f27.results.toList)
theorem f27_L0_eq (G : GuardT) (hG : GuardOk G) (lo : Nat) (x1 x2 x3 x6 x9 x10 : DV) (σ : Store) : f27_L0 G lo x1 x2 x3 x6 x9 x10 σ =
 (binOp PP .leq 3 x10 x2).bind fun x29 =>
 condK x29
 (
 f27_L1 G lo x1 x2 x3 x6 x9 x10 x10 I0 σ
 )
 (
 (build PP 52 []).bind fun x65 =>
 (binOp PP .gtr 3 x9 (DV.p (PV.int IntKind.i64 (400000)))).bind fun x67 =>
 (pureFn CC (DV.fn 67 []) [x67, (DV.p (PV.int IntKind.i64 (37)))] σ).bind fun x68 =>
 (buildSlice PP none 160 2 [(0, x68), (1, (DV.p (PV.int IntKind.i64 (25))))] σ).bind fun r69_5 =>
 (pureFn CC (DV.fn 66 []) [r69_5.1] r69_5.2).bind fun x70 =>
 (store PP lo 52 x6 x65 r69_5.2).bind fun σ6 =>
 (cellV PP 52 x6 σ6).bind fun v0 =>
 some ((DV.tuple [v0, x70]), σ6)
 ) := (loopF_eq G hG).trans (by kernel_rfl)
theorem f27_L1_eq (G : GuardT) (hG : GuardOk G) (lo : Nat) (x1 x2 x3 x6 x9 x10 x32 x33 : DV) (σ : Store) : f27_L1 G lo x1 x2 x3 x6 x9 x10 x32 x33 σ =
 (binOp PP .lss 3 x33 x32).bind fun x34 =>
 condK x34
 (
 (load PP 47 x3 σ).bind fun x36 =>
 (build PP 119 [(0, x36), (1, x1), (2, x10), (3, x33), (5, x9)]).bind fun x41 =>
 (boxV x41).bind fun z42 =>
 (plainFn CC lo (DV.fn 77 []) [(DV.ptr (List.length σ) 0)] (σ ++ [Row.mix z42])).bind fun r44_3 =>
 condK r44_3.1
 (
 (nilCheckV (DV.ptr (List.length σ) 0)).bind fun x46 =>
 (fieldAddr PP 119 x46 4).bind fun x47 =>
 (load PP 24 x47 r44_3.2).bind fun x48 =>
 (sliceOp PP 24 x48 none (some x33) none).bind fun x50 =>
 (pureFn CC (DV.fn 78 []) [x50] r44_3.2).bind fun x51 =>
 (nilCheckV (DV.ptr (List.length σ) 0)).bind fun x53 =>
 (fieldAddr PP 119 x53 4).bind fun x54 =>
 (load PP 24 x54 r44_3.2).bind fun x55 =>
 (sliceOp PP 24 x55 (some x33) none none).bind fun x57 =>
 (pureFn CC (DV.fn 78 []) [x57] r44_3.2).bind fun x58 =>
 (build PP 52 [(0, x51), (1, x58)]).bind fun x59 =>
 (store PP lo 52 x6 x59 r44_3.2).bind fun σ4 =>
 (cellV PP 52 x6 σ4).bind fun v0 =>
 some ((DV.tuple [v0, I0]), σ4)
 )
 (
 (nilCheckV (DV.ptr (List.length σ) 0)).bind fun x61 =>
 (fieldAddr PP 119 x61 5).bind fun x62 =>
 (load PP 3 x62 r44_3.2).bind fun x63 =>
 (binOp PP .add 3 x33 I1).bind fun x64 =>
 f27_L1 G lo x1 x2 x3 x6 x63 x10 x32 x64 r44_3.2
 )
 )
 (
 (binOp PP .add 3 x10 I1).bind fun x31 =>
 f27_L0 G lo x1 x2 x3 x6 x9 x31 σ
 ) := (loopF_eq G hG).trans (by kernel_rfl)
theorem F27_eq (G : GuardT) (lo : Nat) (x0 x1 x2 : DV) (σ : Store) : F27 G lo x0 x1 x2 σ =
 (boxP x0).bind fun x3 =>
 (zeroOf PP 52).bind fun z6 =>
 (load PP 47 x3 (σ ++ [Row.mix z6])).bind fun x13 =>
 (pureFn CC (DV.fn 76 []) [x13] (σ ++ [Row.mix z6])).bind fun x14 =>
 (pureFn CC (DV.fn 70 []) [x1] (σ ++ [Row.mix z6])).bind fun x16 =>
 (pureFn CC (DV.fn 65 []) [x2, I1, (DV.p (PV.int IntKind.i64 (6)))] (σ ++ [Row.mix z6])).bind fun x18 =>
 (unOp .not x18).bind fun x19 =>
 (pureFn CC (DV.fn 67 []) [x19, (DV.p (PV.int IntKind.i64 (3)))] (σ ++ [Row.mix z6])).bind fun x20 =>
 (buildSlice PP none 160 3 [(0, x14), (1, x16), (2, x20)] (σ ++ [Row.mix z6])).bind fun r21_1 =>
 (pureFn CC (DV.fn 66 []) [r21_1.1] r21_1.2).bind fun x22 =>
 (binOp PP .neq 30 x22 I0).bind fun x24 =>
 condK x24
 (
 (build PP 52 []).bind fun x25 =>
 (store PP lo 52 (DV.ptr (List.length σ) 0) x25 r21_1.2).bind fun σ2 =>
 (cellV PP 52 (DV.ptr (List.length σ) 0) σ2).bind fun v0 =>
 some ((DV.tuple [v0, x22]), σ2)
 )
 (
 f27_L0 G lo x1 x2 x3 (DV.ptr (List.length σ) 0) I0 I1 r21_1.2
 ) := by kernel_rfl
theorem F27_call {lo : Nat} {x0 x1 x2 : DV} (h : F27 guardT lo x0 x1 x2 σ = some r) : CC lo 27 [x0, x1, x2] σ = some r :=
 callL_run Tryz.func27 (by decide +kernel) rfl (by decide +kernel) h
def c29_0 : Code := bodyOf Tryz.f29
def a29_0 : Ann := (pol 29).ann
def F29 (x0 x1 : DV) (σ : Store) : RS :=
 codeF G PP (pol 29) CC lo c29_0 a29_0 (x0 :: x1 :: zn 15 []) σ (finR PP Tryz.f29.results.toList)
theorem F29_eq (G : GuardT) (lo : Nat) (x0 x1 : DV) (σ : Store) : F29 G lo x0 x1 σ =
 (boxP x0).bind fun x2 =>
 (boxP x1).bind fun x3 =>
 (fieldAddr PP 52 x2 0).bind fun x5 =>
 (load PP 24 x5 σ).bind fun x6 =>
 (fieldAddr PP 52 x3 0).bind fun x7 =>
 (load PP 24 x7 σ).bind fun x8 =>
 (pureFn CC (DV.fn 80 []) [x6, x8] σ).bind fun x9 =>
 G _ x9 true ((fieldAddr PP 52 x2 1).bind fun v => some (v, σ)) σ fun x11 σ1 =>
 G _ x9 true ((load PP 24 x11 σ1).bind fun v => some (v, σ1)) σ1 fun x12 σ2 =>
 G _ x9 true ((fieldAddr PP 52 x3 1).bind fun v => some (v, σ2)) σ2 fun x13 σ3 =>
 G _ x9 true ((load PP 24 x13 σ3).bind fun v => some (v, σ3)) σ3 fun x14 σ4 =>
 G _ x9 true ((pureFn CC (DV.fn 80 []) [x12, x14] σ4).bind fun v => some (v, σ4)) σ4 fun x15 σ5 =>
 (pickV x9 x15 (DV.p (PV.bool false))).bind fun x16 =>
 some (x16, σ5) := by kernel_rfl
theorem F29_call {lo : Nat} {x0 x1 : DV} (h : F29 guardT lo x0 x1 σ = some r) : CC lo 29 [x0, x1] σ = some r :=
 callL_run Tryz.func29 (by decide +kernel) rfl (by decide +kernel) h
def c30_0 : Code := bodyOf Tryz.f30
def a30_0 : Ann := (pol 30).ann
def a30_7 : Ann := right (left (right (right a30_0)))
def a30_8 : Ann := left a30_7
def c30_9 : Code := fstC (fstC (sndC (fstC (sndC (sndC c30_0)))))
def a30_16 : Ann := left (right (left a30_8))
def a30_19 : Ann := right (left a30_16)
def a30_20 : Ann := left a30_19
def c30_21 : Code := fstC (fstC (sndC (fstC (fstC (sndC c30_9)))))
def c30_31 : Code := sndC (sndC c30_9)
def a30_31 : Ann := right (right (left a30_8))
def c30_32 : Code := sndC (sndC (sndC c30_0))
def a30_32 : Ann := right (right (right a30_0))
def f30_L0 (x2 x6 x8 x9 : DV) (σ : Store) : RS :=
 codeF G PP (pol 30) CC lo (.loop c30_9) a30_8 (Z :: Z :: x2 :: Z :: Z :: Z :: x6 :: Z :: x8 :: x9 :: zn 41 []) σ
 (blockC 0 a30_7 (seqC G PP (pol 30) CC lo c30_32 a30_32 (finR PP Tryz.f30.results.toList)))
def f30_L1 (x2 x6 x8 x9 x10 : DV) (σ : Store) : RS :=
 codeF G PP (pol 30) CC lo (.loop c30_21) a30_20 (Z :: Z :: x2 :: Z :: Z :: Z :: x6 :: Z :: x8 :: x9 :: x10 :: zn 40 []) σ
 (blockC 2 a30_19 (blockC 1 a30_16 (seqC G PP (pol 30) CC lo c30_31 a30_31 (loopC G PP (pol 30) CC lo c30_9 a30_8 (blockC 0 a30_7 (seqC G PP (pol 30) CC lo c30_32 a30_32 (finR PP Tryz.f30.results.toList)))))))
def F30 (x0 x1 x2 : DV) (σ : Store) : RS :=
 codeF G PP (pol 30) CC lo c30_0 a30_0 (x0 :: x1 :: x2 :: zn 48 []) σ (finR PP Tryz.f30.results.toList)
theorem f30_L0_eq (G : GuardT) (hG : GuardOk G) (lo : Nat) (x2 x6 x8 x9 : DV) (σ : Store) : f30_L0 G lo x2 x6 x8 x9 σ =
 (binOp PP .leq 3 x9 x2).bind fun x17 =>
 G _ x17 true (some (x8, σ)) σ fun x19 σ1 =>
 G _ x17 true ((nilCheckV x19).bind fun v => some (v, σ1)) σ1 fun x20 σ2 =>
 G _ x17 true ((fieldAddr PP 124 x20 2).bind fun v => some (v, σ2)) σ2 fun x21 σ3 =>
 G _ x17 true ((load PP 4 x21 σ3).bind fun v => some (v, σ3)) σ3 fun x22 σ4 =>
 G _ x17 true ((unOp .not x22).bind fun v => some (v, σ4)) σ4 fun x23 σ5 =>
 (pickV x17 x23 (DV.p (PV.bool false))).bind fun x24 =>
 condK x24
 (
 f30_L1 G lo x2 x6 x8 x9 I0 σ5
 )
 (
 (nilCheckV x8).bind fun x44 =>
 (fieldAddr PP 124 x44 3).bind fun x45 =>
 (load PP 52 x45 σ5).bind fun x46 =>
 (nilCheckV x8).bind fun x48 =>
 (fieldAddr PP 124 x48 2).bind fun x49 =>
 (load PP 4 x49 σ5).bind fun x50 =>
 (store PP lo 52 x6 x46 σ5).bind fun σ12 =>
 bif (true && ((List.all [σ5, σ5, σ5, σ5, σ5, σ5, σ5, σ5, σ5, σ12, σ12] fun s => sameV (load PP 4 x49 σ5) (load PP 4 x49 s)) && true)) then
 (cellV PP 52 x6 σ12).bind fun v0 =>
 some ((DV.tuple [v0, x50]), σ12)
 else none
 ) := (loopF_eq G hG).trans (by kernel_rfl)
theorem f30_L1_eq (G : GuardT) (hG : GuardOk G) (lo : Nat) (x2 x6 x8 x9 x10 : DV) (σ : Store) : f30_L1 G lo x2 x6 x8 x9 x10 σ =
 (binOp PP .lss 3 x10 x9).bind fun x29 =>
 G _ x29 true (some (x8, σ)) σ fun x31 σ6 =>
 G _ x29 true ((nilCheckV x31).bind fun v => some (v, σ6)) σ6 fun x32 σ7 =>
 G _ x29 true ((fieldAddr PP 124 x32 2).bind fun v => some (v, σ7)) σ7 fun x33 σ8 =>
 G _ x29 true ((load PP 4 x33 σ8).bind fun v => some (v, σ8)) σ8 fun x34 σ9 =>
 G _ x29 true ((unOp .not x34).bind fun v => some (v, σ9)) σ9 fun x35 σ10 =>
 (pickV x29 x35 (DV.p (PV.bool false))).bind fun x36 =>
 condK x36
 (
 (plainFn CC lo (DV.fn 81 []) [x8, (DV.p PV.nilsl), x9, x10] σ10).bind fun r42_11 =>
 (binOp PP .add 3 x10 I1).bind fun x38 =>
 f30_L1 G lo x2 x6 x8 x9 x38 r42_11.2
 )
 (
 (binOp PP .add 3 x9 I1).bind fun x26 =>
 f30_L0 G lo x2 x6 x8 x26 σ10
 ) := (loopF_eq G hG).trans (by kernel_rfl)
theorem F30_eq (G : GuardT) (lo : Nat) (x0 x1 x2 : DV) (σ : Store) : F30 G lo x0 x1 x2 σ =
 (boxP x0).bind fun x3 =>
 (zeroOf PP 52).bind fun z6 =>
 (load PP 47 x3 (σ ++ [Row.mix z6])).bind fun x11 =>
 (build PP 124 [(0, x11), (1, x1)]).bind fun x13 =>
 (boxV x13).bind fun z14 =>
 f30_L0 G lo x2 (DV.ptr (List.length σ) 0) (DV.ptr (List.length (σ ++ [Row.mix z6])) 0) I1 ((σ ++ [Row.mix z6]) ++ [Row.mix z14]) := by kernel_rfl
theorem F30_call {lo : Nat} {x0 x1 x2 : DV} (h : F30 guardT lo x0 x1 x2 σ = some r) : CC lo 30 [x0, x1, x2] σ = some r :=
 callL_run Tryz.func30 (by decide +kernel) rfl (by decide +kernel) h
def c77_0 : Code := bodyOf Tryz.f77
def a77_0 : Ann := (pol 77).ann
def a77_17 : Ann := right (left (right (right (right (right a77_0)))))
def a77_18 : Ann := left a77_17
def c77_19 : Code := fstC (fstC (sndC (fstC (sndC (sndC (sndC (sndC c77_0)))))))
def c77_48 : Code := sndC (sndC (sndC c77_19))
def a77_48 : Ann := right (right (right (left a77_18)))
def c77_49 : Code := sndC (sndC (sndC (sndC (sndC c77_0))))
def a77_49 : Ann := right (right (right (right (right a77_0))))
def f77_L0 (x0 x3 x31 x32 : DV) (σ : Store) : RS :=
 codeF G PP (pol 77) CC lo (.loop c77_19) a77_18 (x0 :: Z :: Z :: x3 :: zn 27 (x31 :: x32 :: zn 66 [])) σ
 (blockC 0 a77_17 (seqC G PP (pol 77) CC lo c77_49 a77_49 (finR PP Tryz.f77.results.toList)))
def f77_J0_fr (x0 x3 x31 x32 : DV) : Frame := (x0 :: Z :: Z :: x3 :: zn 27 (x31 :: x32 :: zn 66 []))
def f77_J0 (x0 x3 x31 x32 : DV) (σ : Store) : RS :=
 (seqC G PP (pol 77) CC lo c77_48 a77_48 (loopC G PP (pol 77) CC lo c77_19 a77_18 (blockC 0 a77_17 (seqC G PP (pol 77) CC lo c77_49 a77_49 (finR PP Tryz.f77.results.toList))))) .normal (f77_J0_fr x0 x3 x31 x32) σ
def F77 (x0 : DV) (σ : Store) : RS :=
 codeF G PP (pol 77) CC lo c77_0 a77_0 (x0 :: zn 98 []) σ (finR PP Tryz.f77.results.toList)
theorem f77_L0_eq (G : GuardT) (hG : GuardOk G) (lo : Nat) (x0 x3 x31 x32 : DV) (σ : Store) : f77_L0 G lo x0 x3 x31 x32 σ =
 (binOp PP .lss 3 x32 x31).bind fun x33 =>
 condK x33
 (
 (binOp PP .eql 3 x3 I0).bind fun x36 =>
 G _ x36 true (some (x0, σ)) σ fun x38 σ2 =>
 G _ x36 true ((nilCheckV x38).bind fun v => some (v, σ2)) σ2 fun x39 σ3 =>
 G _ x36 true ((fieldAddr PP 119 x39 0).bind fun v => some (v, σ3)) σ3 fun x40 σ4 =>
 G _ x36 true ((fieldAddr PP 47 x40 0).bind fun v => some (v, σ4)) σ4 fun x41 σ5 =>
 G _ x36 true ((fieldAddr PP 45 x41 1).bind fun v => some (v, σ5)) σ5 fun x42 σ6 =>
 G _ x36 true ((load PP 24 x42 σ6).bind fun v => some (v, σ6)) σ6 fun x43 σ7 =>
 G _ x36 true (some (x32, σ7)) σ7 fun x44 σ8 =>
 G _ x36 true ((pureFn CC (DV.fn 91 []) [x43, x44] σ8).bind fun v => some (v, σ8)) σ8 fun x45 σ9 =>
 (pickV x36 x45 (DV.p (PV.bool false))).bind fun x46 =>
 G _ x46 false (some (x3, σ9)) σ9 fun x48 σ10 =>
 G _ x46 false ((binOp PP .gtr 3 x48 I0).bind fun v => some (v, σ10)) σ10 fun x49 σ11 =>
 G _ x46 false (some (x49, σ11)) σ11 fun x50 σ12 =>
 G _ x50 true (some (x0, σ12)) σ12 fun x51 σ13 =>
 G _ x50 true ((nilCheckV x51).bind fun v => some (v, σ13)) σ13 fun x52 σ14 =>
 G _ x50 true ((fieldAddr PP 119 x52 0).bind fun v => some (v, σ14)) σ14 fun x53 σ15 =>
 G _ x50 true ((load PP 47 x53 σ15).bind fun v => some (v, σ15)) σ15 fun x54 σ16 =>
 G _ x50 true (some (x0, σ16)) σ16 fun x55 σ17 =>
 G _ x50 true ((nilCheckV x55).bind fun v => some (v, σ17)) σ17 fun x56 σ18 =>
 G _ x50 true ((fieldAddr PP 119 x56 4).bind fun v => some (v, σ18)) σ18 fun x57 σ19 =>
 G _ x50 true ((load PP 24 x57 σ19).bind fun v => some (v, σ19)) σ19 fun x58 σ20 =>
 G _ x50 true (some (x3, σ20)) σ20 fun x59 σ21 =>
 G _ x50 true ((binOp PP .sub 3 x59 I1).bind fun v => some (v, σ21)) σ21 fun x60 σ22 =>
 G _ x50 true ((maxMin true [x60, I0]).bind fun v => some (v, σ22)) σ22 fun x61 σ23 =>
 G _ x50 true ((indexAddr PP 24 x58 x61).bind fun v => some (v, σ23)) σ23 fun x62 σ24 =>
 G _ x50 true ((load PP 3 x62 σ24).bind fun v => some (v, σ24)) σ24 fun x63 σ25 =>
 G _ x50 true (some (x32, σ25)) σ25 fun x64 σ26 =>
 G _ x50 true ((pureFn CC (DV.fn 92 []) [x54, x63, x64] σ26).bind fun v => some (v, σ26)) σ26 fun x65 σ27 =>
 G _ x46 false ((pickV x50 x65 (DV.p (PV.bool false))).bind fun v => some (v, σ27)) σ27 fun x66 σ28 =>
 (pickV x46 (DV.p (PV.bool true)) x66).bind fun x67 =>
 (unOp .not x67).bind fun x69 =>
 G _ x69 false (some (x0, σ28)) σ28 fun x71 σ29 =>
 G _ x69 false ((nilCheckV x71).bind fun v => some (v, σ29)) σ29 fun x72 σ30 =>
 G _ x69 false ((fieldAddr PP 119 x72 5).bind fun v => some (v, σ30)) σ30 fun x73 σ31 =>
 G _ x69 false ((load PP 3 x73 σ31).bind fun v => some (v, σ31)) σ31 fun x74 σ32 =>
 G _ x69 false ((binOp PP .gtr 3 x74 (DV.p (PV.int IntKind.i64 (400000)))).bind fun v => some (v, σ32)) σ32 fun x75 σ33 =>
 (pickV x69 (DV.p (PV.bool true)) x75).bind fun x76 =>
 condK x76
 (
 f77_J0 G lo x0 x3 x31 x32 σ33
 )
 (
 (nilCheckV x0).bind fun x79 =>
 (fieldAddr PP 119 x79 4).bind fun x80 =>
 (load PP 24 x80 σ33).bind fun x81 =>
 (buildSlice PP none 24 1 [(0, x32)] σ33).bind fun r83_34 =>
 (append PP lo true 24 24 x81 r83_34.1 r83_34.2).bind fun r84_35 =>
 (nilCheckV x0).bind fun x85 =>
 (fieldAddr PP 119 x85 4).bind fun x86 =>
 (store PP lo 24 x86 r84_35.1 r84_35.2).bind fun σ36 =>
 (plainFn CC lo (DV.fn 77 []) [x0] σ36).bind fun r88_37 =>
 condK r88_37.1
 (
 some ((DV.p (PV.bool true)), r88_37.2)
 )
 (
 (nilCheckV x0).bind fun x91 =>
 (fieldAddr PP 119 x91 4).bind fun x92 =>
 (load PP 24 x92 r88_37.2).bind fun x93 =>
 (sliceOp PP 24 x93 none (some x3) none).bind fun x95 =>
 (nilCheckV x0).bind fun x96 =>
 (fieldAddr PP 119 x96 4).bind fun x97 =>
 (store PP lo 24 x97 x95 r88_37.2).bind fun σ38 =>
 f77_J0 G lo x0 x3 x31 x32 σ38
 )
 )
 )
 (
 some ((DV.p (PV.bool false)), σ)
 ) := (loopF_eq G hG).trans (by kernel_rfl)
theorem f77_J0_eq (G : GuardT) (lo : Nat) (x0 x3 x31 x32 : DV) (σ : Store) : f77_J0 G lo x0 x3 x31 x32 σ =
 (binOp PP .add 3 x32 I1).bind fun x98 =>
 f77_L0 G lo x0 x3 x31 x98 σ := by kernel_rfl
theorem F77_eq (G : GuardT) (lo : Nat) (x0 : DV) (σ : Store) : F77 G lo x0 σ =
 (nilCheckV x0).bind fun x7 =>
 (fieldAddr PP 119 x7 5).bind fun x8 =>
 (load PP 3 x8 σ).bind fun x9 =>
 (binOp PP .add 3 x9 I1).bind fun x10 =>
 (nilCheckV x0).bind fun x11 =>
 (fieldAddr PP 119 x11 5).bind fun x12 =>
 (store PP lo 3 x12 x10 σ).bind fun σ1 =>
 (nilCheckV x0).bind fun x14 =>
 (fieldAddr PP 119 x14 4).bind fun x15 =>
 (load PP 24 x15 σ1).bind fun x16 =>
 (len PP 24 x16 σ1).bind fun x17 =>
 (nilCheckV x0).bind fun x20 =>
 (fieldAddr PP 119 x20 2).bind fun x21 =>
 (load PP 3 x21 σ1).bind fun x22 =>
 (binOp PP .eql 3 x17 x22).bind fun x23 =>
 condK x23
 (
 (pureFn CC (DV.fn 134 []) [x0] σ1).bind fun x25 =>
 some (x25, σ1)
 )
 (
 (nilCheckV x0).bind fun x27 =>
 (fieldAddr PP 119 x27 0).bind fun x28 =>
 (fieldAddr PP 47 x28 0).bind fun x29 =>
 (fieldAddr PP 45 x29 0).bind fun x30 =>
 (load PP 3 x30 σ1).bind fun x31 =>
 f77_L0 G lo x0 x17 x31 I0 σ1
 ) := by kernel_rfl
theorem F77_call {lo : Nat} {x0 : DV} (h : F77 guardT lo x0 σ = some r) : CC lo 77 [x0] σ = some r :=
 callL_run Tryz.func77 (by decide +kernel) rfl (by decide +kernel) h
def c81_0 : Code := bodyOf Tryz.f81
def a81_0 : Ann := (pol 81).ann
def a81_24 : Ann := right (right (right a81_0))
def a81_25 : Ann := left a81_24
def c81_26 : Code := fstC (fstC (sndC (sndC (sndC c81_0))))
def a81_33 : Ann := left (right (left a81_25))
def c81_39 : Code := sndC (sndC c81_26)
def a81_39 : Ann := right (right (left a81_25))
def f81_L0 (x0 x1 x2 x3 x9 : DV) (σ : Store) : RS :=
 codeF G PP (pol 81) CC lo (.loop c81_26) a81_25 (x0 :: x1 :: x2 :: x3 :: zn 5 (x9 :: zn 107 [])) σ
 (blockC 0 a81_24 (finR PP Tryz.f81.results.toList))
def f81_J0_fr (x0 x1 x2 x3 x9 x58 x59 x60 x61 x62 x63 x64 x65 x66 x67 x68 x69 x70 x71 x72 x75 x76 x77 x78 x79 x80 x81 x82 x83 x84 x85 x86 x87 x88 x89 x90 x91 x92 x93 x94 x95 x96 x97 x98 x99 x100 x101 x102 x103 x104 x105 x106 x107 x108 x109 x110 x111 x112 x113 x114 x115 x116 : DV) : Frame := (x0 :: x1 :: x2 :: x3 :: zn 5 (x9 :: zn 48 ([x58, x59, x60, x61, x62, x63, x64, x65, x66, x67, x68, x69, x70, x71, x72, Z, Z, x75, x76, x77, x78, x79, x80, x81, x82, x83, x84, x85, x86, x87, x88, x89, x90, x91, x92, x93, x94, x95, x96, x97, x98, x99, x100, x101, x102, x103, x104, x105, x106, x107, x108, x109, x110, x111, x112, x113, x114, x115, x116])))
def f81_J0 (x0 x1 x2 x3 x9 x58 x59 x60 x61 x62 x63 x64 x65 x66 x67 x68 x69 x70 x71 x72 x75 x76 x77 x78 x79 x80 x81 x82 x83 x84 x85 x86 x87 x88 x89 x90 x91 x92 x93 x94 x95 x96 x97 x98 x99 x100 x101 x102 x103 x104 x105 x106 x107 x108 x109 x110 x111 x112 x113 x114 x115 x116 : DV) (σ : Store) : RS :=
 (blockC 1 a81_33 (seqC G PP (pol 81) CC lo c81_39 a81_39 (loopC G PP (pol 81) CC lo c81_26 a81_25 (blockC 0 a81_24 (finR PP Tryz.f81.results.toList))))) .normal (f81_J0_fr x0 x1 x2 x3 x9 x58 x59 x60 x61 x62 x63 x64 x65 x66 x67 x68 x69 x70 x71 x72 x75 x76 x77 x78 x79 x80 x81 x82 x83 x84 x85 x86 x87 x88 x89 x90 x91 x92 x93 x94 x95 x96 x97 x98 x99 x100 x101 x102 x103 x104 x105 x106 x107 x108 x109 x110 x111 x112 x113 x114 x115 x116) σ
def F81 (x0 x1 x2 x3 : DV) (σ : Store) : RS :=
 codeF G PP (pol 81) CC lo c81_0 a81_0 (x0 :: x1 :: x2 :: x3 :: zn 113 []) σ (finR PP Tryz.f81.results.toList)
theorem f81_L0_eq (G : GuardT) (hG : GuardOk G) (lo : Nat) (x0 x1 x2 x3 x9 : DV) (σ : Store) : f81_L0 G lo x0 x1 x2 x3 x9 σ =
 (nilCheckV x0).bind fun x60 =>
 (fieldAddr PP 124 x60 0).bind fun x61 =>
 (fieldAddr PP 47 x61 0).bind fun x62 =>
 (fieldAddr PP 45 x62 0).bind fun x63 =>
 (load PP 3 x63 σ).bind fun x64 =>
 (binOp PP .lss 3 x9 x64).bind fun x65 =>
 G _ x65 true (some (x0, σ)) σ fun x67 σ7 =>
 G _ x65 true ((nilCheckV x67).bind fun v => some (v, σ7)) σ7 fun x68 σ8 =>
 G _ x65 true ((fieldAddr PP 124 x68 2).bind fun v => some (v, σ8)) σ8 fun x69 σ9 =>
 G _ x65 true ((load PP 4 x69 σ9).bind fun v => some (v, σ9)) σ9 fun x70 σ10 =>
 G _ x65 true ((unOp .not x70).bind fun v => some (v, σ10)) σ10 fun x71 σ11 =>
 (pickV x65 x71 (DV.p (PV.bool false))).bind fun x72 =>
 condK x72
 (
 (len PP 24 x1 σ11).bind fun x76 =>
 (binOp PP .eql 3 x76 I0).bind fun x77 =>
 G _ x77 true (some (x0, σ11)) σ11 fun x79 σ12 =>
 G _ x77 true ((nilCheckV x79).bind fun v => some (v, σ12)) σ12 fun x80 σ13 =>
 G _ x77 true ((fieldAddr PP 124 x80 0).bind fun v => some (v, σ13)) σ13 fun x81 σ14 =>
 G _ x77 true ((fieldAddr PP 47 x81 0).bind fun v => some (v, σ14)) σ14 fun x82 σ15 =>
 G _ x77 true ((fieldAddr PP 45 x82 1).bind fun v => some (v, σ15)) σ15 fun x83 σ16 =>
 G _ x77 true ((load PP 24 x83 σ16).bind fun v => some (v, σ16)) σ16 fun x84 σ17 =>
 G _ x77 true (some (x9, σ17)) σ17 fun x85 σ18 =>
 G _ x77 true ((pureFn CC (DV.fn 95 []) [x84, x85] σ18).bind fun v => some (v, σ18)) σ18 fun x86 σ19 =>
 (pickV x77 x86 (DV.p (PV.bool false))).bind fun x87 =>
 G _ x87 false (some (x1, σ19)) σ19 fun x89 σ20 =>
 G _ x87 false ((len PP 24 x89 σ20).bind fun v => some (v, σ20)) σ20 fun x90 σ21 =>
 G _ x87 false ((binOp PP .gtr 3 x90 I0).bind fun v => some (v, σ21)) σ21 fun x91 σ22 =>
 G _ x87 false (some (x91, σ22)) σ22 fun x92 σ23 =>
 G _ x92 true (some (x0, σ23)) σ23 fun x93 σ24 =>
 G _ x92 true ((nilCheckV x93).bind fun v => some (v, σ24)) σ24 fun x94 σ25 =>
 G _ x92 true ((fieldAddr PP 124 x94 0).bind fun v => some (v, σ25)) σ25 fun x95 σ26 =>
 G _ x92 true ((fieldAddr PP 47 x95 0).bind fun v => some (v, σ26)) σ26 fun x96 σ27 =>
 G _ x92 true ((load PP 45 x96 σ27).bind fun v => some (v, σ27)) σ27 fun x97 σ28 =>
 G _ x92 true (some (x1, σ28)) σ28 fun x98 σ29 =>
 G _ x92 true (some (x1, σ29)) σ29 fun x99 σ30 =>
 G _ x92 true ((len PP 24 x99 σ30).bind fun v => some (v, σ30)) σ30 fun x100 σ31 =>
 G _ x92 true ((binOp PP .sub 3 x100 I1).bind fun v => some (v, σ31)) σ31 fun x101 σ32 =>
 G _ x92 true ((indexAddr PP 24 x98 x101).bind fun v => some (v, σ32)) σ32 fun x102 σ33 =>
 G _ x92 true ((load PP 3 x102 σ33).bind fun v => some (v, σ33)) σ33 fun x103 σ34 =>
 G _ x92 true (some (x9, σ34)) σ34 fun x104 σ35 =>
 G _ x92 true ((pureFn CC (DV.fn 96 []) [x97, x103, x104] σ35).bind fun v => some (v, σ35)) σ35 fun x105 σ36 =>
 G _ x87 false ((pickV x92 x105 (DV.p (PV.bool false))).bind fun v => some (v, σ36)) σ36 fun x106 σ37 =>
 (pickV x87 (DV.p (PV.bool true)) x106).bind fun x107 =>
 condK x107
 (
 (plainFn CC lo (DV.fn 52 []) [x1] σ37).bind fun r110_38 =>
 (buildSlice PP none 24 1 [(0, x9)] r110_38.2).bind fun r112_39 =>
 (append PP lo false 24 24 r110_38.1 r112_39.1 r112_39.2).bind fun r113_40 =>
 (plainFn CC lo (DV.fn 81 []) [x0, r113_40.1, x2, x3] r113_40.2).bind fun r116_41 =>
 f81_J0 G lo x0 x1 x2 x3 x9 x9 x0 x60 x61 x62 x63 x64 x65 x65 x67 x68 x69 x70 x71 x72 x1 x76 x77 x77 x79 x80 x81 x82 x83 x84 x85 x86 x87 x87 x89 x90 x91 x92 x93 x94 x95 x96 x97 x98 x99 x100 x101 x102 x103 x104 x105 x106 x107 x0 x1 r110_38.1 x9 r112_39.1 r113_40.1 x2 x3 r116_41.1 r116_41.2
 )
 (
 f81_J0 G lo x0 x1 x2 x3 x9 x9 x0 x60 x61 x62 x63 x64 x65 x65 x67 x68 x69 x70 x71 x72 x1 x76 x77 x77 x79 x80 x81 x82 x83 x84 x85 x86 x87 x87 x89 x90 x91 x92 x93 x94 x95 x96 x97 x98 x99 x100 x101 x102 x103 x104 x105 x106 x107 Z Z Z Z Z Z Z Z Z σ37
 )
 )
 (
 some ((DV.tuple []), σ11)
 ) := (loopF_eq G hG).trans (by kernel_rfl)
theorem f81_J0_eq (G : GuardT) (lo : Nat) (x0 x1 x2 x3 x9 x58 x59 x60 x61 x62 x63 x64 x65 x66 x67 x68 x69 x70 x71 x72 x75 x76 x77 x78 x79 x80 x81 x82 x83 x84 x85 x86 x87 x88 x89 x90 x91 x92 x93 x94 x95 x96 x97 x98 x99 x100 x101 x102 x103 x104 x105 x106 x107 x108 x109 x110 x111 x112 x113 x114 x115 x116 : DV) (σ : Store) : f81_J0 G lo x0 x1 x2 x3 x9 x58 x59 x60 x61 x62 x63 x64 x65 x66 x67 x68 x69 x70 x71 x72 x75 x76 x77 x78 x79 x80 x81 x82 x83 x84 x85 x86 x87 x88 x89 x90 x91 x92 x93 x94 x95 x96 x97 x98 x99 x100 x101 x102 x103 x104 x105 x106 x107 x108 x109 x110 x111 x112 x113 x114 x115 x116 σ =
 (binOp PP .add 3 x9 I1).bind fun x74 =>
 f81_L0 G lo x0 x1 x2 x3 x74 σ := by kernel_rfl
theorem F81_eq (G : GuardT) (lo : Nat) (x0 x1 x2 x3 : DV) (σ : Store) : F81 G lo x0 x1 x2 x3 σ =
 (nilCheckV x0).bind fun x11 =>
 (fieldAddr PP 124 x11 2).bind fun x12 =>
 (load PP 4 x12 σ).bind fun x13 =>
 condK x13
 (
 some ((DV.tuple []), σ)
 )
 (
 (len PP 24 x1 σ).bind fun x15 =>
 (binOp PP .eql 3 x15 x2).bind fun x17 =>
 condK x17
 (
 (sliceOp PP 24 x1 none (some x3) none).bind fun x20 =>
 (sliceOp PP 24 x1 (some x3) none none).bind fun x23 =>
 (build PP 52 [(0, x20), (1, x23)]).bind fun x24 =>
 (zeroOf PP 52).bind fun z8 =>
 (store PP lo 52 (DV.ptr (List.length σ) 0) x24 (σ ++ [Row.mix z8])).bind fun σ1 =>
 (nilCheckV x0).bind fun x26 =>
 (fieldAddr PP 124 x26 0).bind fun x27 =>
 (fieldAddr PP 47 x27 0).bind fun x28 =>
 (load PP 45 x28 σ1).bind fun x29 =>
 (binOp PP .sub 3 x2 I1).bind fun x32 =>
 (indexAddr PP 24 x1 x32).bind fun x33 =>
 (load PP 3 x33 σ1).bind fun x34 =>
 (indexAddr PP 24 x1 x3).bind fun x37 =>
 (load PP 3 x37 σ1).bind fun x38 =>
 (pureFn CC (DV.fn 96 []) [x29, x34, x38] σ1).bind fun x39 =>
 G _ x39 true (some (x0, σ1)) σ1 fun x41 σ2 =>
 G _ x39 true ((load PP 52 (DV.ptr (List.length σ) 0) σ2).bind fun v => some (v, σ2)) σ2 fun x42 σ3 =>
 G _ x39 true ((pureFn CC (DV.fn 135 []) [x41, x42] σ3).bind fun v => some (v, σ3)) σ3 fun x43 σ4 =>
 (pickV x39 x43 (DV.p (PV.bool false))).bind fun x44 =>
 condK x44
 (
 (nilCheckV x0).bind fun x46 =>
 (fieldAddr PP 124 x46 2).bind fun x47 =>
 (store PP lo 4 x47 (DV.p (PV.bool true)) σ4).bind fun σ5 =>
 (fieldAddr PP 52 (DV.ptr (List.length σ) 0) 0).bind fun x49 =>
 (load PP 24 x49 σ5).bind fun x50 =>
 (pureFn CC (DV.fn 52 []) [x50] σ5).bind fun x51 =>
 (fieldAddr PP 52 (DV.ptr (List.length σ) 0) 1).bind fun x52 =>
 (load PP 24 x52 σ5).bind fun x53 =>
 (pureFn CC (DV.fn 52 []) [x53] σ5).bind fun x54 =>
 (build PP 52 [(0, x51), (1, x54)]).bind fun x55 =>
 (nilCheckV x0).bind fun x56 =>
 (fieldAddr PP 124 x56 3).bind fun x57 =>
 (store PP lo 52 x57 x55 σ5).bind fun σ6 =>
 some ((DV.tuple []), σ6)
 )
 (
 some ((DV.tuple []), σ4)
 )
 )
 (
 f81_L0 G lo x0 x1 x2 x3 I0 σ
 )
 ) := by kernel_rfl
theorem F81_call {lo : Nat} {x0 x1 x2 x3 : DV} (h : F81 guardT lo x0 x1 x2 x3 σ = some r) : CC lo 81 [x0, x1, x2, x3] σ = some r :=
 callL_run Tryz.func81 (by decide +kernel) rfl (by decide +kernel) h
def c134_0 : Code := bodyOf Tryz.f134
def a134_0 : Ann := (pol 134).ann
def F134 (x0 : DV) (σ : Store) : RS :=
 codeF G PP (pol 134) CC lo c134_0 a134_0 (x0 :: zn 72 []) σ (finR PP Tryz.f134.results.toList)
theorem F134_eq (G : GuardT) (lo : Nat) (x0 : DV) (σ : Store) : F134 G lo x0 σ =
 (nilCheckV x0).bind fun x5 =>
 (fieldAddr PP 119 x5 4).bind fun x6 =>
 (load PP 24 x6 σ).bind fun x7 =>
 (nilCheckV x0).bind fun x9 =>
 (fieldAddr PP 119 x9 3).bind fun x10 =>
 (load PP 3 x10 σ).bind fun x11 =>
 (sliceOp PP 24 x7 none (some x11) none).bind fun x12 =>
 (nilCheckV x0).bind fun x14 =>
 (fieldAddr PP 119 x14 4).bind fun x15 =>
 (load PP 24 x15 σ).bind fun x16 =>
 (nilCheckV x0).bind fun x18 =>
 (fieldAddr PP 119 x18 3).bind fun x19 =>
 (load PP 3 x19 σ).bind fun x20 =>
 (sliceOp PP 24 x16 (some x20) none none).bind fun x21 =>
 (build PP 52 [(0, x12), (1, x21)]).bind fun x22 =>
 (zeroOf PP 52).bind fun z3 =>
 (store PP lo 52 (DV.ptr (List.length σ) 0) x22 (σ ++ [Row.mix z3])).bind fun σ1 =>
 (nilCheckV x0).bind fun x24 =>
 (fieldAddr PP 119 x24 0).bind fun x25 =>
 (load PP 47 x25 σ1).bind fun x26 =>
 (nilCheckV x0).bind fun x28 =>
 (fieldAddr PP 119 x28 4).bind fun x29 =>
 (load PP 24 x29 σ1).bind fun x30 =>
 (nilCheckV x0).bind fun x32 =>
 (fieldAddr PP 119 x32 2).bind fun x33 =>
 (load PP 3 x33 σ1).bind fun x34 =>
 (binOp PP .sub 3 x34 I1).bind fun x35 =>
 (indexAddr PP 24 x30 x35).bind fun x36 =>
 (load PP 3 x36 σ1).bind fun x37 =>
 (nilCheckV x0).bind fun x39 =>
 (fieldAddr PP 119 x39 4).bind fun x40 =>
 (load PP 24 x40 σ1).bind fun x41 =>
 (nilCheckV x0).bind fun x43 =>
 (fieldAddr PP 119 x43 3).bind fun x44 =>
 (load PP 3 x44 σ1).bind fun x45 =>
 (indexAddr PP 24 x41 x45).bind fun x46 =>
 (load PP 3 x46 σ1).bind fun x47 =>
 (pureFn CC (DV.fn 92 []) [x26, x37, x47] σ1).bind fun x48 =>
 G _ x48 true (some (x0, σ1)) σ1 fun x50 σ2 =>
 G _ x48 true ((nilCheckV x50).bind fun v => some (v, σ2)) σ2 fun x51 σ3 =>
 G _ x48 true ((fieldAddr PP 119 x51 0).bind fun v => some (v, σ3)) σ3 fun x52 σ4 =>
 G _ x48 true ((load PP 47 x52 σ4).bind fun v => some (v, σ4)) σ4 fun x53 σ5 =>
 G _ x48 true ((load PP 52 (DV.ptr (List.length σ) 0) σ5).bind fun v => some (v, σ5)) σ5 fun x54 σ6 =>
 G _ x48 true ((pureFn CC (DV.fn 118 []) [x53, x54] σ6).bind fun v => some (v, σ6)) σ6 fun x55 σ7 =>
 (pickV x48 x55 (DV.p (PV.bool false))).bind fun x56 =>
 G _ x56 true (some (x0, σ7)) σ7 fun x58 σ8 =>
 G _ x56 true ((nilCheckV x58).bind fun v => some (v, σ8)) σ8 fun x59 σ9 =>
 G _ x56 true ((fieldAddr PP 119 x59 1).bind fun v => some (v, σ9)) σ9 fun x60 σ10 =>
 G _ x56 true ((load PP 23 x60 σ10).bind fun v => some (v, σ10)) σ10 fun x61 σ11 =>
 G _ x56 true (some (x0, σ11)) σ11 fun x62 σ12 =>
 G _ x56 true ((nilCheckV x62).bind fun v => some (v, σ12)) σ12 fun x63 σ13 =>
 G _ x56 true ((fieldAddr PP 119 x63 0).bind fun v => some (v, σ13)) σ13 fun x64 σ14 =>
 G _ x56 true ((load PP 47 x64 σ14).bind fun v => some (v, σ14)) σ14 fun x65 σ15 =>
 G _ x56 true ((load PP 52 (DV.ptr (List.length σ) 0) σ15).bind fun v => some (v, σ15)) σ15 fun x66 σ16 =>
 G _ x56 true ((pureFn CC (DV.fn 117 []) [x65, x66] σ16).bind fun v => some (v, σ16)) σ16 fun x67 σ17 =>
 G _ x56 true ((pureFn CC (DV.fn 72 []) [x61, x67] σ17).bind fun v => some (v, σ17)) σ17 fun x68 σ18 =>
 G _ x56 true ((indexAddr PP 34 x68 I0).bind fun v => some (v, σ18)) σ18 fun x69 σ19 =>
 G _ x56 true ((load PP 4 x69 σ19).bind fun v => some (v, σ19)) σ19 fun x70 σ20 =>
 G _ x56 true ((unOp .not x70).bind fun v => some (v, σ20)) σ20 fun x71 σ21 =>
 (pickV x56 x71 (DV.p (PV.bool false))).bind fun x72 =>
 some (x72, σ21) := by kernel_rfl
theorem F134_call {lo : Nat} {x0 : DV} (h : F134 guardT lo x0 σ = some r) : CC lo 134 [x0] σ = some r :=
 callL_run Tryz.func134 (by decide +kernel) rfl (by decide +kernel) h
def c135_0 : Code := bodyOf Tryz.f135
def a135_0 : Ann := (pol 135).ann
def F135 (x0 x1 : DV) (σ : Store) : RS :=
 codeF G PP (pol 135) CC lo c135_0 a135_0 (x0 :: x1 :: zn 23 []) σ (finR PP Tryz.f135.results.toList)
theorem F135_eq (G : GuardT) (lo : Nat) (x0 x1 : DV) (σ : Store) : F135 G lo x0 x1 σ =
 (boxP x1).bind fun x3 =>
 (nilCheckV x0).bind fun x6 =>
 (fieldAddr PP 124 x6 0).bind fun x7 =>
 (load PP 47 x7 σ).bind fun x8 =>
 (load PP 52 x3 σ).bind fun x9 =>
 (pureFn CC (DV.fn 59 []) [x8, x9] σ).bind fun x10 =>
 G _ x10 true (some (x0, σ)) σ fun x12 σ1 =>
 G _ x10 true ((nilCheckV x12).bind fun v => some (v, σ1)) σ1 fun x13 σ2 =>
 G _ x10 true ((fieldAddr PP 124 x13 1).bind fun v => some (v, σ2)) σ2 fun x14 σ3 =>
 G _ x10 true ((load PP 23 x14 σ3).bind fun v => some (v, σ3)) σ3 fun x15 σ4 =>
 G _ x10 true (some (x0, σ4)) σ4 fun x16 σ5 =>
 G _ x10 true ((nilCheckV x16).bind fun v => some (v, σ5)) σ5 fun x17 σ6 =>
 G _ x10 true ((fieldAddr PP 124 x17 0).bind fun v => some (v, σ6)) σ6 fun x18 σ7 =>
 G _ x10 true ((load PP 47 x18 σ7).bind fun v => some (v, σ7)) σ7 fun x19 σ8 =>
 G _ x10 true ((load PP 52 x3 σ8).bind fun v => some (v, σ8)) σ8 fun x20 σ9 =>
 G _ x10 true ((pureFn CC (DV.fn 58 []) [x19, x20] σ9).bind fun v => some (v, σ9)) σ9 fun x21 σ10 =>
 G _ x10 true ((pureFn CC (DV.fn 166 []) [x15, x21] σ10).bind fun v => some (v, σ10)) σ10 fun x22 σ11 =>
 G _ x10 true ((unOp .not x22).bind fun v => some (v, σ11)) σ11 fun x23 σ12 =>
 (pickV x10 x23 (DV.p (PV.bool false))).bind fun x24 =>
 some (x24, σ12) := by kernel_rfl
theorem F135_call {lo : Nat} {x0 x1 : DV} (h : F135 guardT lo x0 x1 σ = some r) : CC lo 135 [x0, x1] σ = some r :=
 callL_run Tryz.func135 (by decide +kernel) rfl (by decide +kernel) h
def c166_0 : Code := bodyOf Tryz.f166
def a166_0 : Ann := (pol 166).ann
def F166 (x0 x1 : DV) (σ : Store) : RS :=
 codeF G PP (pol 166) CC lo c166_0 a166_0 (x0 :: x1 :: zn 11 []) σ (finR PP Tryz.f166.results.toList)
theorem F166_eq (G : GuardT) (lo : Nat) (x0 x1 : DV) (σ : Store) : F166 G lo x0 x1 σ =
 (boxP x1).bind fun x3 =>
 (len PP 23 x0 σ).bind fun x7 =>
 (binOp PP .sub 3 x7 I1).bind fun x8 =>
 (load PP 26 x3 σ).bind fun x9 =>
 (pureFn CC (DV.fn 22 []) [x0, x8, x9] σ).bind fun x10 =>
 (indexAddr PP 34 x10 I0).bind fun x11 =>
 (load PP 4 x11 σ).bind fun x12 =>
 some (x12, σ) := by kernel_rfl
theorem F166_call {lo : Nat} {x0 x1 : DV} (h : F166 guardT lo x0 x1 σ = some r) : CC lo 166 [x0, x1] σ = some r :=
 callL_run Tryz.func166 (by decide +kernel) rfl (by decide +kernel) h
end
end Go.D
end
/- Chapter 13: the search for a behaviour against a formula: plain terms; whether states are what is looked for. -/
section
set_option linter.unusedVariables false
set_option linter.unusedSimpArgs false
set_option maxRecDepth 8000
namespace Go.D
open Las
def suc (x : Lb) (A : List Int) (i : Int) : Bool := if A = [] then decide (i ∈ L x.g.init) else prm x (lastI A) i
def hol (x : Lb) (F : List Nd) (A : List Int) (b : Nat) : Bool := (says F ((wl x A b).take b) ((wl x A b).drop b)).getD 0 false
def fnd (x : Lb) (F : List Nd) (b : Nat) (A : List Int) : Bool := prm x (A.getD (A.length - 1) 0) (A.getD b 0) && (isF x (A.drop b) && !hol x F A b)
def firstS {α : Type} (g : Nat → Option α) : Nat → Nat → Option α
  | _, 0 => none
  | i, d + 1 => match g i with
    | some a => some a
    | none => firstS g (i + 1) d
def dfs (x : Lb) (q : List Int → Bool) : Nat → List Int → Option (List Int)
  | 0, A => if q A = true then some A else none
  | k + 1, A => firstS (fun i => if suc x A (i : Nat) = true then dfs x q k (A ++ [((i : Nat) : Int)]) else none) 0 x.g.n.toNat
def nbg (N : Nat) : Nat → Nat
  | 0 => 1
  | k + 1 => 1 + N * nbg N k
def InR (x : Lb) (A : List Int) : Prop := ∀ i, i < A.length → 0 ≤ A.getD i 0 ∧ A.getD i 0 < x.g.n
theorem InR.snoc {x : Lb} {A : List Int} (h : InR x A) {v : Int} (hv : 0 ≤ v ∧ v < x.g.n) : InR x (A ++ [v]) := by
  intro i hi
  rw [List.length_append] at hi
  by_cases c : i < A.length
  · rw [List.getD_eq_getElem?_getD, List.getElem?_append_left c, ← List.getD_eq_getElem?_getD]; exact h i c
  · have e : i = A.length := by simp at hi; omega
    subst e
    rw [List.getD_eq_getElem?_getD, List.getElem?_append_right (Nat.le_refl _), Nat.sub_self]; exact hv
theorem firstS_some {α : Type} {g : Nat → Option α} : ∀ (d i : Nat) {a : α}, firstS g i d = some a → ∃ j, g j = some a ∧ i ≤ j ∧ j < i + d
  | 0, i, a, h => by unfold firstS at h; exact absurd h (by simp)
  | d + 1, i, a, h => by
    unfold firstS at h
    cases hg : g i with
    | some b => rw [hg] at h; injection h with h; subst h; exact ⟨i, hg, by omega, by omega⟩
    | none =>
      rw [hg] at h
      obtain ⟨j, h1, h2, h3⟩ := firstS_some d (i + 1) h
      exact ⟨j, h1, by omega, by omega⟩
theorem dfs_len {x : Lb} {q : List Int → Bool} : ∀ (k : Nat) (A A' : List Int), dfs x q k A = some A' → A'.length = A.length + k
  | 0, A, A', h => by
    unfold dfs at h
    split at h
    · injection h with h; subst h; rfl
    · exact absurd h (by simp)
  | k + 1, A, A', h => by
    unfold dfs at h
    obtain ⟨j, h1, _, _⟩ := firstS_some _ _ h
    split at h1
    · have := dfs_len k _ _ h1
      rw [this, List.length_append]; simp; omega
    · exact absurd h1 (by simp)
def sC (x : Lb) (f : Fm) (n b : Nat) (sv : DV) (lk : Nat) : List DV :=
  [.p (pI x.g.n), .p (eSl x.g.init), .p (eEs x.g.edges), .p (eSl x.la), .p (eSl x.st), .p (eSl x.en), .p (eSl x.we), .p (eSl x.sr), .p (eFm f), N n, N b, sv, N lk]
theorem fa119_0 (x : DV) : fieldAddr PP 119 x 0 = shiftPtr x 0 := Eq.trans (by kernel_rfl) rfl
theorem fa119_1 (x : DV) : fieldAddr PP 119 x 1 = shiftPtr x 8 := Eq.trans (by kernel_rfl) rfl
theorem fa119_2 (x : DV) : fieldAddr PP 119 x 2 = shiftPtr x 9 := Eq.trans (by kernel_rfl) rfl
theorem fa119_3 (x : DV) : fieldAddr PP 119 x 3 = shiftPtr x 10 := Eq.trans (by kernel_rfl) rfl
theorem fa119_4 (x : DV) : fieldAddr PP 119 x 4 = shiftPtr x 11 := Eq.trans (by kernel_rfl) rfl
theorem fa119_5 (x : DV) : fieldAddr PP 119 x 5 = shiftPtr x 12 := Eq.trans (by kernel_rfl) rfl
theorem load23q (x : DV) (σ : Store) : load PP 23 x σ = load1 x σ := Eq.trans (by kernel_rfl) rfl
theorem st_sv {σ : Store} {lo r : Nat} {x : Lb} {f : Fm} {n b lk : Nat} {sv v : DV} (h : σ[r]? = some (.mix (sC x f n b sv lk))) (hlo : lo ≤ r) (hv : v.one = true) : store PP lo 24 (.ptr r 11) v σ = some (σ.set r (.mix (sC x f n b v lk))) := by
  cases v <;> first | (exfalso; simp [DV.one] at hv; done) | simp [store, s24, DV.cells, storeN, h, hlo, DV.one, splice, sC]
theorem st_lk {σ : Store} {lo r : Nat} {x : Lb} {f : Fm} {n b lk : Nat} {sv : DV} (h : σ[r]? = some (.mix (sC x f n b sv lk))) (hlo : lo ≤ r) (lk' : Nat) : store PP lo 3 (.ptr r 12) (N lk') σ = some (σ.set r (.mix (sC x f n b sv lk'))) := by
  simp [store, s3, DV.cells, storeN, h, hlo, DV.one, splice, sC, N]
section
variable {σ : Store} {r : Nat} {x : Lb} {f : Fm} {n b lk : Nat} {sv : DV} (h : σ[r]? = some (.mix (sC x f n b sv lk)))
include h
theorem sc_n : load1 (.ptr r 0) σ = some (.p (.int .i64 x.g.n)) := load1_ptr h rfl
theorem sc_i : load1 (.ptr r 1) σ = some (.p (eSl x.g.init)) := load1_ptr h rfl
theorem sc_f : load1 (.ptr r 8) σ = some (.p (eFm f)) := load1_ptr h rfl
theorem sc_z : load1 (.ptr r 9) σ = some (N n) := load1_ptr h rfl
theorem sc_b : load1 (.ptr r 10) σ = some (N b) := load1_ptr h rfl
theorem sc_s : load1 (.ptr r 11) σ = some sv := load1_ptr h rfl
theorem sc_l : load1 (.ptr r 12) σ = some (N lk) := load1_ptr h rfl
theorem sc_x : (loadN σ 8 (.ptr r 0)).map DV.agg = some (vLb x) := by
  rw [loadN_ptr (off := 0) (n := 8) (vs := [.p (pI x.g.n), .p (eSl x.g.init), .p (eEs x.g.edges), .p (eSl x.la), .p (eSl x.st), .p (eSl x.en), .p (eSl x.we), .p (eSl x.sr)]) h rfl (by simp [sC])]; rfl
end
def SV (σ : Store) (r : Nat) (sv : DV) (A : List Int) : Prop :=
  (sv = .p .nilsl ∧ A = []) ∨ ∃ rr B, sv = .rsl rr 1 0 A.length ∧ σ[rr]? = some (.mix (ints B)) ∧ A = B.take A.length ∧ A.length ≤ B.length ∧ B.length ≤ 100 ∧ r < rr
theorem SV.rl {σ : Store} {r : Nat} {sv : DV} {A : List Int} (h : SV σ r sv A) : RL σ sv A := by
  rcases h with ⟨rfl, rfl⟩ | ⟨rr, B, rfl, h1, h2, h3, _, _⟩
  · exact .inl ⟨none, rfl, rfl⟩
  · exact .inr ⟨rr, 0, rfl, ⟨B, h1, by rw [List.drop_zero]; exact h2.symm, by omega⟩⟩
theorem SV.keep {σ σ' : Store} {r : Nat} {sv : DV} {A : List Int} (h : SV σ r sv A) (hk : ∀ j row, r < j → σ[j]? = some row → σ'[j]? = some row) : SV σ' r sv A := by
  rcases h with h | ⟨rr, B, h0, h1, h2, h3, h4, h5⟩
  · exact .inl h
  · exact .inr ⟨rr, B, h0, hk _ _ h5 h1, h2, h3, h4, h5⟩
theorem SV.one {σ : Store} {r : Nat} {sv : DV} {A : List Int} (h : SV σ r sv A) : sv.one = true := h.rl.one
theorem SV.push {σ : Store} {lo r : Nat} {sv : DV} {A : List Int} (h : SV σ r sv A) (hr : r < σ.length) (hlo : lo ≤ r) (hA : A.length ≤ 50) (v : Int) :
    ∃ sv' σ', append PP lo true 24 24 sv (.p (.sl true 1 [.int .i64 v])) σ = some (sv', σ') ∧ SV σ' r sv' (A ++ [v]) ∧ (∀ j row, j ≤ r → σ[j]? = some row → σ'[j]? = some row) ∧ σ.length ≤ σ'.length := by
  have hsrc : source σ 1 (.p (.sl true 1 [.int .i64 v])) = some (1, [.p (.int .i64 v)]) := rfl
  rcases h with ⟨rfl, rfl⟩ | ⟨rr, B, rfl, h1, h2, h3, h4, h5⟩
  · refine ⟨.rsl σ.length 1 0 1, σ ++ [.mix (ints [v])], ?_, .inr ⟨σ.length, [v], rfl, get_snoc, rfl, by simp, by simp, hr⟩, fun j row hj hg => get_old hg, by simp⟩
    simp [append, src24, u24, s3, bytes3, zero3, hsrc, appNil]
    rfl
  · have hl : 0 + A.length * 1 = A.length := by omega
    have e1 : (A.length + 1) * 8 ≤ 140737488355328 := by omega
    have e2 : A.length + 1 ≤ 140737488355328 := by omega
    have e3 : lo ≤ rr := by omega
    by_cases c : A.length + 1 ≤ B.length
    · refine ⟨.rsl rr 1 0 (A.length + 1), σ.set rr (.mix (ints (B.take A.length ++ [v] ++ B.drop (A.length + 1)))), ?_, .inr ⟨rr, B.take A.length ++ [v] ++ B.drop (A.length + 1), by simp, ?_, ?_, by simp; omega, by simp; omega, h5⟩, fun j row hj hg => ?_, by simp⟩
      · have es : splice (ints B) A.length [DV.p (.int .i64 v)] = ints (B.take A.length ++ [v] ++ B.drop (A.length + 1)) := by
          have : [DV.p (.int .i64 v)] = ints [v] := rfl
          unfold splice
          rw [this, ints_take, ints_len, ints_drop, ints_app, ints_app]; rfl
        have hle : 0 + (A.length + 1) * 1 ≤ (ints B).length := by rw [ints_len]; omega
        simp only [append, src24, Bool.true_eq_false, if_false, u24, s3, bytes3, zero3, List.length_singleton, ne_eq, not_true_eq_false, Nat.one_ne_zero, or_self, hsrc, appRow, h1, hl, es]
        rw [if_pos ⟨e1, e2, by decide, trivial, e3⟩, if_pos hle]
        rfl
      · rw [List.getElem?_set_self (get_lt h1)]
      · rw [← h2]; exact List.take_left.symm
      · rw [List.getElem?_set_ne (by omega)]; exact hg
    · have hBA : B.length = A.length := by omega
      have hAB : A = B := by rw [h2, ← hBA, List.take_length]
      refine ⟨.rsl σ.length 1 0 (A.length + 1), σ.set rr .dead ++ [.mix (ints (B ++ [v]))], ?_, .inr ⟨σ.length, B ++ [v], by simp, ?_, ?_, by simp; omega, by simp; omega, hr⟩, fun j row hj hg => ?_, by simp⟩
      · have hle : ¬ 0 + (A.length + 1) * 1 ≤ (ints B).length := by rw [ints_len]; omega
        have heq : 0 + A.length * 1 = (ints B).length ∧ ([DV.p (.int .i64 v)].all DV.one) = true := ⟨by rw [ints_len]; omega, rfl⟩
        simp only [append, src24, Bool.true_eq_false, if_false, u24, s3, bytes3, zero3, List.length_singleton, ne_eq, not_true_eq_false, Nat.one_ne_zero, or_self, hsrc, appRow, h1]
        rw [if_pos ⟨e1, e2, by decide, trivial, e3⟩, if_neg hle, if_pos heq, List.drop_zero]
        have : ints B ++ [DV.p (.int .i64 v)] = ints (B ++ [v]) := by rw [show [DV.p (.int .i64 v)] = ints [v] from rfl, ints_app]
        rw [this]
      · rw [List.getElem?_append_right (by simp)]; simp
      · rw [hAB]; exact List.take_length.symm
      · rw [List.getElem?_append_left (by rw [List.length_set]; exact get_lt hg), List.getElem?_set_ne (by omega)]; exact hg
theorem SV.pop {σ : Store} {r : Nat} {sv : DV} {A : List Int} {v : Int} (h : SV σ r sv (A ++ [v])) : ∃ sv', sliceOp PP 24 sv none (some (.p (.int .i64 (A.length : Nat)))) none = some sv' ∧ SV σ r sv' A := by
  rcases h with ⟨_, h⟩ | ⟨rr, B, rfl, h1, h2, h3, h4, h5⟩
  · exact absurd h (by simp)
  · rw [List.length_append] at h2 h3
    refine ⟨.rsl rr 1 0 A.length, ?_, .inr ⟨rr, B, rfl, h1, ?_, by omega, h4, h5⟩⟩
    · rw [List.length_append]
      exact rs_take (by omega)
    · have := congrArg (List.take A.length) h2
      rw [List.take_append_of_le_length (Nat.le_refl _), List.take_length, List.take_take, Nat.min_eq_left (by omega)] at this
      exact this
theorem st52r {σ : Store} {lo : Nat} {p q : DV} (hlo : lo ≤ σ.length) (hp : p.one = true) (hq : q.one = true) : store PP lo 52 (.ptr σ.length 0) (.agg [p, q]) (σ ++ [.mix [.p .nilsl, .p .nilsl]]) = some (σ ++ [.mix [p, q]]) := by
  have s52 : size? PP 52 = some 2 := Eq.trans (by kernel_rfl) rfl
  simp [store, s52, DV.cells, storeN, hp, hq, splice, hlo]
theorem bld52y {p q : DV} (hp : p.one = true) (hq : q.one = true) : build PP 52 [(0, p), (1, q)] = some (.agg [p, q]) := by
  cases p <;> first | (exfalso; simp [DV.one] at hp; done) | skip
  all_goals (cases q <;> first | (exfalso; simp [DV.one] at hq; done) | exact Eq.trans (by kernel_rfl) rfl)
section
variable {x : Lb} (hx : LSm x) (hk : LbOk x) {f : Fm} (hf : FSm f) (hF : Ok (L f)) {n b : Nat} (hb : b < n) (hn : n ≤ 50)
include hx hk hf hF hb hn
theorem S134 {σ : Store} {r lk : Nat} {sv : DV} {A : List Int} (hA : A.length = n) (hin : InR x A) (hr : σ[r]? = some (.mix (sC x f n b sv lk))) (hs : SV σ r sv A) : pureV CC 134 [.ptr r 0] σ = some (.p (.bool (fnd x (L f) b A))) := by
  rcases hs with ⟨_, h⟩ | ⟨rr, B, rfl, h1, h2, h3, h4, h5⟩
  · rw [h] at hA; simp at hA; omega
  · have hBA : ∀ i, i < A.length → B.getD i 0 = A.getD i 0 := fun i hi => by
      conv => rhs; rw [h2]
      rw [List.getD_eq_getElem?_getD, List.getD_eq_getElem?_getD, List.getElem?_take, if_pos hi]
    -- the two slices
    have tk := rs_take (r := rr) (off := 0) (n := A.length) (k := b) (by omega)
    have dr := rs_drop (r := rr) (off := 0) (n := A.length) (k := b) (by omega)
    rw [Nat.zero_add] at dr
    have g0 : (σ ++ [Row.mix [.rsl rr 1 0 b, .rsl rr 1 b (A.length - b)]])[r]? = some (.mix (sC x f n b (.rsl rr 1 0 A.length) lk)) := get_old hr
    have g1 : (σ ++ [Row.mix [.rsl rr 1 0 b, .rsl rr 1 b (A.length - b)]])[rr]? = some (.mix (ints B)) := get_old h1
    have g2 : (σ ++ [Row.mix [.rsl rr 1 0 b, .rsl rr 1 b (A.length - b)]])[σ.length]? = some (.mix [.rsl rr 1 0 b, .rsl rr 1 b (A.length - b)]) := get_snoc
    have st := st52r (σ := σ) (lo := σ.length) (p := .rsl rr 1 0 b) (q := .rsl rr 1 b (A.length - b)) (Nat.le_refl _) rfl rfl
    have bl := bld52y (p := .rsl rr 1 0 b) (q := .rsl rr 1 b (A.length - b)) rfl rfl
    generalize hτ : σ ++ [Row.mix [.rsl rr 1 0 b, .rsl rr 1 b (A.length - b)]] = τ at *
    have lt : (A.take b).length = b := by rw [List.length_take]; omega
    have ld : (A.drop b).length = A.length - b := List.length_drop
    have rp : RL τ (.rsl rr 1 0 b) (A.take b) := .inr ⟨rr, 0, by rw [lt], ⟨B, g1, by
      rw [List.drop_zero, lt]
      conv => rhs; rw [h2]
      rw [List.take_take, Nat.min_eq_left (by omega)], by rw [lt]; omega⟩⟩
    have rq : RL τ (.rsl rr 1 b (A.length - b)) (A.drop b) := .inr ⟨rr, b, by rw [ld], ⟨B, g1, by
      rw [ld]
      conv => rhs; rw [h2]
      rw [List.drop_take], by rw [ld]; omega⟩⟩
    have ldw : (loadN τ 2 (.ptr σ.length 0)).map DV.agg = some (.agg [.rsl rr 1 0 b, .rsl rr 1 b (A.length - b)]) := by
      rw [loadN_ptr (off := 0) (n := 2) (vs := [.rsl rr 1 0 b, .rsl rr 1 b (A.length - b)]) g2 rfl (by simp)]; rfl
    have i1 := rs_idx (r := rr) (off := 0) (n := A.length) (i := n - 1) (by omega)
    have l1 := rs_ld (σ := τ) (i := 0 + (n - 1)) g1 (by omega)
    have i2 := rs_idx (r := rr) (off := 0) (n := A.length) (i := b) (by omega)
    have l2 := rs_ld (σ := τ) (i := 0 + b) g1 (by omega)
    rw [Nat.zero_add, hBA _ (by omega)] at l1
    rw [Nat.zero_add, hBA _ (by omega)] at l2
    rw [Nat.zero_add] at i1 i2
    have s92 := fun s t σ => S92 hx s t σ
    have s118 := S118 hx (Q := A.drop b) (by rw [ld]; omega) rp rq
    have hAq : A.take b ++ A.drop b = A := List.take_append_drop b A
    obtain ⟨u, u1, u2, u3⟩ := S117 hx hk (P := A.take b) (Q := A.drop b) (by rw [lt, ld]; omega) (by rw [ld]; omega) (by rw [hAq]; exact hin) rp rq
    rw [hAq, lt] at u2 u3
    have hw : wErr (L u.p) (L u.l) = 0 := by rw [u2, u3]; exact wl_ok hk (by omega) (by omega) hin
    have s72 := fun σ => S72 hf hF (wErr_ok hw) σ
    have hsl := says_len (L f) (L u.p) (L u.l)
    have hu0 := (wErr_ok hw).ne
    have i0 := BV_idx (l := says (L f) (L u.p) (L u.l)) (i := 0) (by omega)
    have d0 := BV_ld (l := says (L f) (L u.p) (L u.l)) (i := 0) (by omega) τ
    have z0 : (.p (.int .i64 ((0 : Nat) : Int)) : DV) = .p (.int .i64 0) := rfl
    rw [z0] at i0
    have eh : (says (L f) (L u.p) (L u.l)).getD 0 false = hol x (L f) A b := by rw [u2, u3]; rfl
    rw [eh] at d0
    have ln : n = A.length := hA.symm
    refine pureV_rows rfl rfl (F134_call (r := (.p (.bool (fnd x (L f) b A)), τ)) ?_) rfl
    have b0 := sc_b hr
    have s0 := sc_s hr
    have b1 := sc_b g0
    have s1 := sc_s g0
    have x1 := sc_x g0
    have f1 := sc_f g0
    have n1 := sc_z g0
    simp only [N] at b0 b1 n1
    rw [F134_eq]
    unfold fnd
    rw [← ln] at *
    simp only [hA] at *
    cases c1 : prm x (A.getD (n - 1) 0) (A.getD b 0) with
    | false =>
      simp (maxSteps := 1000000) (disch := omega) only [nil_ptr, gG, fa119_0, fa119_2, fa119_3, fa119_4, shift_ptr, shift_pptr, Nat.zero_add, Nat.add_zero, pureFn_fn, List.append_nil, List.singleton_append, List.cons_append, List.nil_append, load24, load3, s0, b0, tk, dr, bl, zero52, st, load47, x1, s1, n1, sub1, i1, l1, b1, i2, l2, s92, c1, Bool.false_and]
    | true =>
      cases c2 : isF x (A.drop b) with
      | false =>
        rw [c2] at s118
        simp (maxSteps := 1000000) (disch := omega) only [nil_ptr, gG, fa119_0, fa119_2, fa119_3, fa119_4, shift_ptr, shift_pptr, Nat.zero_add, Nat.add_zero, pureFn_fn, List.append_nil, List.singleton_append, List.cons_append, List.nil_append, load24, load3, s0, b0, tk, dr, bl, zero52, st, load47, x1, s1, n1, sub1, i1, l1, b1, i2, l2, s92, c1, load52, ldw, s118, Bool.true_and, Bool.false_and]
      | true =>
        rw [c2] at s118
        simp (maxSteps := 1000000) (disch := omega) only [nil_ptr, gG, fa119_0, fa119_1, fa119_2, fa119_3, fa119_4, shift_ptr, shift_pptr, Nat.zero_add, Nat.add_zero, pureFn_fn, List.append_nil, List.singleton_append, List.cons_append, List.nil_append, load24, load3, s0, b0, tk, dr, bl, zero52, st, load47, x1, s1, n1, sub1, i1, l1, b1, i2, l2, s92, c1, load52, ldw, s118, load23q, f1, u1, s72, i0, load4, d0, Bool.true_and]
end
end Go.D
end
/- Chapter 13: the program's search. -/
section
set_option linter.unusedVariables false
set_option linter.unusedSimpArgs false
set_option maxRecDepth 8000
namespace Go.D
open Las
theorem lastI_eq (A : List Int) : lastI A = A.getD (A.length - 1) 0 := rfl
theorem set_keep {σ : Store} {r : Nat} {x : Row} {j : Nat} {row : Row} (h : σ[j]? = some row) (hj : j ≠ r) : (σ.set r x)[j]? = some row := by
  rw [List.getElem?_set_ne (Ne.symm hj)]; exact h
section
variable {x : Lb} (hx : LSm x) (hk : LbOk x) {f : Fm} (hf : FSm f) (hF : Ok (L f)) {n b : Nat} (hb : b < n) (hn : n ≤ 50)
def Goes (x : Lb) (f : Fm) (n b : Nat) (k : Nat) : Prop :=
  ∀ (lo r : Nat) (A : List Int) (σ : Store) (sv : DV) (lk : Nat), A.length + k = n → InR x A → σ[r]? = some (.mix (sC x f n b sv lk)) → SV σ r sv A → lo ≤ r → lk + nbg x.g.n.toNat k ≤ 400000 →
  ∃ sv' lk' σ', CC lo 77 [.ptr r 0] σ = some (.p (.bool (dfs x (fnd x (L f) b) k A).isSome), σ') ∧ lk' ≤ lk + nbg x.g.n.toNat k ∧ σ'[r]? = some (.mix (sC x f n b sv' lk')) ∧ SV σ' r sv' ((dfs x (fnd x (L f) b) k A).getD A) ∧
    (∀ j row, j < r → σ[j]? = some row → σ'[j]? = some row) ∧ σ.length ≤ σ'.length
include hx hk hn
omit hn in
theorem L77 {k : Nat} (hgo : Goes x f n b k) {lo r : Nat} (hlo : lo ≤ r) {A : List Int} (hA : A.length + (k + 1) = n) (hn : n ≤ 50) (hin : InR x A) : ∀ (d i : Nat) (σ : Store) (sv : DV) (lk : Nat), i + d = x.g.n.toNat → σ[r]? = some (.mix (sC x f n b sv lk)) → SV σ r sv A → lk + d * nbg x.g.n.toNat k ≤ 400000 →
    ∃ sv' lk' σ', f77_L0 guardT lo (.ptr r 0) (N A.length) (.p (.int .i64 x.g.n)) (N i) σ = some (.p (.bool (firstS (fun i => if suc x A (i : Nat) = true then dfs x (fnd x (L f) b) k (A ++ [((i : Nat) : Int)]) else none) i d).isSome), σ') ∧ lk' ≤ lk + d * nbg x.g.n.toNat k ∧ σ'[r]? = some (.mix (sC x f n b sv' lk')) ∧
      SV σ' r sv' ((firstS (fun i => if suc x A (i : Nat) = true then dfs x (fnd x (L f) b) k (A ++ [((i : Nat) : Int)]) else none) i d).getD A) ∧ (∀ j row, j < r → σ[j]? = some row → σ'[j]? = some row) ∧ σ.length ≤ σ'.length
  | 0, i, σ, sv, lk, hd, hr, hs, hl => by
    have h60 := hk.n
    have hg := isG_n hk.g
    refine ⟨sv, lk, σ, ?_, by omega, hr, hs, fun j row _ h => h, Nat.le_refl _⟩
    rw [f77_L0_eq guardT rfl]
    have hnlt : ¬ ((i : Nat) : Int) < x.g.n := by omega
    simp only [N, b_lss, ltF hnlt, gG]
    rfl
  | d + 1, i, σ, sv, lk, hd, hr, hs, hl => by
    have h60 := hk.n
    have hg := isG_n hk.g
    have hlt : ((i : Nat) : Int) < x.g.n := by omega
    have hmul : (d + 1) * nbg x.g.n.toNat k = d * nbg x.g.n.toNat k + nbg x.g.n.toNat k := Nat.succ_mul _ _
    have hi0 := hx.i
    have s91 := fun σ => S91 (o := x.g.init) (by omega) ((i : Nat) : Int) σ
    have s92 := fun s t σ => S92 hx s t σ
    have sx := sc_x hr
    have si := sc_i hr
    have ss := sc_s hr
    have sl := sc_l hr
    simp only [N] at sl
    -- whether the state may follow
    have step : ∀ (sv0 : DV) (lk0 : Nat) (σ0 : Store), σ0[r]? = some (.mix (sC x f n b sv0 lk0)) → SV σ0 r sv0 A → lk0 + d * nbg x.g.n.toNat k ≤ 400000 → (∀ j row, j < r → σ[j]? = some row → σ0[j]? = some row) → σ.length ≤ σ0.length → lk0 ≤ lk + nbg x.g.n.toNat k →
        ∃ sv' lk' σ', f77_L0 guardT lo (.ptr r 0) (N A.length) (.p (.int .i64 x.g.n)) (N (i + 1)) σ0 = some (.p (.bool (firstS (fun i => if suc x A (i : Nat) = true then dfs x (fnd x (L f) b) k (A ++ [((i : Nat) : Int)]) else none) (i + 1) d).isSome), σ') ∧ lk' ≤ lk + (d + 1) * nbg x.g.n.toNat k ∧ σ'[r]? = some (.mix (sC x f n b sv' lk')) ∧
          SV σ' r sv' ((firstS (fun i => if suc x A (i : Nat) = true then dfs x (fnd x (L f) b) k (A ++ [((i : Nat) : Int)]) else none) (i + 1) d).getD A) ∧ (∀ j row, j < r → σ[j]? = some row → σ'[j]? = some row) ∧ σ.length ≤ σ'.length := by
      intro sv0 lk0 σ0 h1 h2 h3 h4 h5 h6
      obtain ⟨sv', lk', σ', a1, a2, a3, a4, a5, a6⟩ := L77 hgo hlo hA hn hin d (i + 1) σ0 sv0 lk0 (by omega) h1 h2 h3
      exact ⟨sv', lk', σ', a1, by omega, a3, a4, fun j row hj hg => a5 j row hj (h4 j row hj hg), by omega⟩
    have hsuc : ∀ (P : Prop), (suc x A ((i : Nat) : Int) = true → P) → (suc x A ((i : Nat) : Int) = false → P) → P := fun P h1 h2 => by
      cases h : suc x A ((i : Nat) : Int) with
      | true => exact h1 h
      | false => exact h2 h
    refine hsuc _ (fun hs1 => ?_) (fun hs1 => ?_)
    · -- it may
      have hr2 : r < σ.length := get_lt hr
      obtain ⟨sv1, σ1, p1, p2, p3, p4⟩ := hs.push (lo := lo) hr2 hlo (by omega) ((i : Nat) : Int)
      have q1 := p3 _ _ (Nat.le_refl _) hr
      have st1 := st_sv (lo := lo) (v := sv1) q1 hlo p2.one
      have g1 : (σ1.set r (.mix (sC x f n b sv1 lk)))[r]? = some (.mix (sC x f n b sv1 lk)) := by rw [List.getElem?_set_self (get_lt q1)]
      have k1 : SV (σ1.set r (.mix (sC x f n b sv1 lk))) r sv1 (A ++ [((i : Nat) : Int)]) := p2.keep fun j row hj hg => set_keep hg (by omega)
      obtain ⟨sv2, lk2, σ2, c1, c2, c3, c4, c5, c6⟩ := hgo lo r (A ++ [((i : Nat) : Int)]) _ sv1 lk (by simp; omega) (hin.snoc (by omega)) g1 k1 hlo (by omega)
      have pres : ∀ j row, j < r → σ[j]? = some row → σ2[j]? = some row := fun j row hj hg => c5 j row hj (set_keep (p3 j row (by omega) hg) (by omega))
      have hlen : σ.length ≤ σ2.length := by rw [List.length_set] at c6; omega
      cases hd2 : dfs x (fnd x (L f) b) k (A ++ [((i : Nat) : Int)]) with
      | some A' =>
        rw [hd2] at c1 c4
        refine ⟨sv2, lk2, σ2, ?_, by omega, c3, ?_, pres, hlen⟩
        · unfold firstS
          rw [if_pos hs1, hd2]
          rw [f77_L0_eq guardT rfl]
          by_cases hA0 : A = []
          · subst hA0
            unfold suc at hs1
            rw [if_pos rfl] at hs1
            have hz : N ([] : List Int).length = .p (.int .i64 0) := rfl
            rw [hz]
            simp (maxSteps := 1000000) (disch := omega) only [N, b_lss, ltT hlt, gG, b_eql, eqT (rfl : (0 : Int) = 0), nil_ptr, fa119_0, fa119_4, fa119_5, fa47_0, fa45_1, shift_ptr, shift_pptr, Nat.zero_add, Nat.add_zero, pureFn_fn, List.append_nil, List.singleton_append, List.cons_append, List.nil_append, load24, si, s91, hs1, load3, sl, b_gtr, gtF, ss, bs24_1, p1, st1, plainFn, c1, Option.isSome_some]
          · have hp := List.length_pos_iff.2 hA0
            unfold suc at hs1
            rw [if_neg hA0, lastI_eq] at hs1
            obtain ⟨pp, i1, l1⟩ := hs.rl.get (i := A.length - 1) (by omega)
            have hne : ¬ ((A.length : Nat) : Int) = 0 := by omega
            simp (maxSteps := 1000000) (disch := omega) only [N, b_lss, ltT hlt, gG, b_eql, eqF hne, nil_ptr, fa119_0, fa119_4, fa119_5, shift_ptr, shift_pptr, Nat.zero_add, Nat.add_zero, pureFn_fn, List.append_nil, List.singleton_append, List.cons_append, List.nil_append, load24, load47, sx, load3, b_gtr, gtT, ss, sub1, mx0, i1, l1, s92, hs1, sl, gtF, bs24_1, p1, st1, plainFn, c1, Option.isSome_some]
        · unfold firstS
          rw [if_pos hs1, hd2]; exact c4
      | none =>
        rw [hd2] at c1 c4
        obtain ⟨sv3, e1, e2⟩ := SV.pop (A := A) (v := ((i : Nat) : Int)) c4
        have st2 := st_sv (lo := lo) (v := sv3) c3 hlo e2.one
        have g3 : (σ2.set r (.mix (sC x f n b sv3 lk2)))[r]? = some (.mix (sC x f n b sv3 lk2)) := by rw [List.getElem?_set_self (get_lt c3)]
        have k3 : SV (σ2.set r (.mix (sC x f n b sv3 lk2))) r sv3 A := e2.keep fun j row hj hg => set_keep hg (by omega)
        obtain ⟨sv', lk', σ', a1, a2, a3, a4, a5, a6⟩ := step sv3 lk2 _ g3 k3 (by omega) (fun j row hj hg => set_keep (pres j row hj hg) (by omega)) (by rw [List.length_set]; exact hlen) (by omega)
        have ss2 := sc_s c3
        refine ⟨sv', lk', σ', ?_, a2, a3, ?_, a5, a6⟩
        · unfold firstS
          rw [if_pos hs1, hd2]
          rw [← a1, f77_L0_eq guardT rfl]
          by_cases hA0 : A = []
          · subst hA0
            unfold suc at hs1
            rw [if_pos rfl] at hs1
            change sliceOp PP 24 sv2 none (some (.p (.int .i64 0))) none = some sv3 at e1
            have hz : N ([] : List Int).length = .p (.int .i64 0) := rfl
            rw [hz]
            simp (maxSteps := 1000000) (disch := omega) only [N, b_lss, ltT hlt, gG, b_eql, eqT (rfl : (0 : Int) = 0), nil_ptr, fa119_0, fa119_4, fa119_5, fa47_0, fa45_1, shift_ptr, shift_pptr, Nat.zero_add, Nat.add_zero, pureFn_fn, List.append_nil, List.singleton_append, List.cons_append, List.nil_append, load24, si, s91, hs1, load3, sl, b_gtr, gtF, ss, bs24_1, p1, st1, plainFn, c1, Option.isSome_none, ss2, e1, st2, f77_J0_eq, add1]
          · have hp := List.length_pos_iff.2 hA0
            unfold suc at hs1
            rw [if_neg hA0, lastI_eq] at hs1
            obtain ⟨pp, i1, l1⟩ := hs.rl.get (i := A.length - 1) (by omega)
            have hne : ¬ ((A.length : Nat) : Int) = 0 := by omega
            simp (maxSteps := 1000000) (disch := omega) only [N, b_lss, ltT hlt, gG, b_eql, eqF hne, nil_ptr, fa119_0, fa119_4, fa119_5, shift_ptr, shift_pptr, Nat.zero_add, Nat.add_zero, pureFn_fn, List.append_nil, List.singleton_append, List.cons_append, List.nil_append, load24, load47, sx, load3, b_gtr, gtT, ss, sub1, mx0, i1, l1, s92, hs1, sl, gtF, bs24_1, p1, st1, plainFn, c1, Option.isSome_none, ss2, e1, st2, f77_J0_eq, add1]
        · unfold firstS
          rw [if_pos hs1, hd2]; exact a4
    · -- it may not
      obtain ⟨sv', lk', σ', a1, a2, a3, a4, a5, a6⟩ := step sv lk σ hr hs (by omega) (fun j row _ h => h) (Nat.le_refl _) (by omega)
      have hns : ¬ suc x A ((i : Nat) : Int) = true := by rw [hs1]; simp
      refine ⟨sv', lk', σ', ?_, a2, a3, ?_, a5, a6⟩
      · unfold firstS
        rw [if_neg hns]
        rw [← a1, f77_L0_eq guardT rfl]
        by_cases hA0 : A = []
        · subst hA0
          unfold suc at hs1
          rw [if_pos rfl] at hs1
          have hz : N ([] : List Int).length = .p (.int .i64 0) := rfl
          rw [hz]
          simp (maxSteps := 1000000) (disch := omega) only [N, b_lss, ltT hlt, gG, b_eql, eqT (rfl : (0 : Int) = 0), nil_ptr, fa119_0, fa47_0, fa45_1, shift_ptr, shift_pptr, Nat.zero_add, Nat.add_zero, pureFn_fn, List.append_nil, List.singleton_append, List.cons_append, List.nil_append, load24, si, s91, hs1, b_gtr, gtF, f77_J0_eq, add1]
        · have hp := List.length_pos_iff.2 hA0
          unfold suc at hs1
          rw [if_neg hA0, lastI_eq] at hs1
          obtain ⟨pp, i1, l1⟩ := hs.rl.get (i := A.length - 1) (by omega)
          have hne : ¬ ((A.length : Nat) : Int) = 0 := by omega
          simp (maxSteps := 1000000) (disch := omega) only [N, b_lss, ltT hlt, gG, b_eql, eqF hne, nil_ptr, fa119_0, fa119_4, shift_ptr, shift_pptr, Nat.zero_add, Nat.add_zero, pureFn_fn, List.append_nil, List.singleton_append, List.cons_append, List.nil_append, load24, load47, sx, load3, b_gtr, gtT, ss, sub1, mx0, i1, l1, s92, hs1, f77_J0_eq, add1]
      · unfold firstS
        rw [if_neg hns]; exact a4
include hf hF hb
theorem goes : ∀ k, Goes x f n b k
  | 0, lo, r, A, σ, sv, lk, hA, hin, hr, hs, hlo, hl => by
    have hnbg : nbg x.g.n.toNat 0 = 1 := rfl
    have st := st_lk (lo := lo) hr hlo (lk + 1)
    have g1 : (σ.set r (.mix (sC x f n b sv (lk + 1))))[r]? = some (.mix (sC x f n b sv (lk + 1))) := by rw [List.getElem?_set_self (get_lt hr)]
    have k1 : SV (σ.set r (.mix (sC x f n b sv (lk + 1)))) r sv A := hs.keep fun j row hj hg => set_keep hg (by omega)
    have sl := sc_l hr
    have ss := sc_s g1
    have sz := sc_z g1
    have s134 := S134 hx hk hf hF hb hn (show A.length = n by omega) hin g1 k1
    have hlen := k1.rl.len
    have e : ((A.length : Nat) : Int) = (n : Nat) := by omega
    have key : CC lo 77 [.ptr r 0] σ = some (.p (.bool (fnd x (L f) b A)), σ.set r (.mix (sC x f n b sv (lk + 1)))) := by
      refine F77_call ?_
      simp only [N] at sl st sz
      rw [F77_eq]
      simp (disch := omega) only [nil_ptr, gG, fa119_2, fa119_4, fa119_5, shift_ptr, shift_pptr, Nat.zero_add, Nat.add_zero, pureFn_fn, List.append_nil, List.singleton_append, List.cons_append, List.nil_append, load3, load24, sl, add1, st, ss, hlen, sz, b_eql, eqT e, s134]
    have ed : dfs x (fnd x (L f) b) 0 A = if fnd x (L f) b A = true then some A else none := rfl
    refine ⟨sv, lk + 1, _, ?_, by omega, g1, ?_, fun j row hj hg => set_keep hg (by omega), by simp⟩
    · rw [key, ed]
      cases fnd x (L f) b A <;> rfl
    · rw [ed]
      cases fnd x (L f) b A <;> exact k1
  | k + 1, lo, r, A, σ, sv, lk, hA, hin, hr, hs, hlo, hl => by
    have hnbg : nbg x.g.n.toNat (k + 1) = 1 + x.g.n.toNat * nbg x.g.n.toNat k := rfl
    have st := st_lk (lo := lo) hr hlo (lk + 1)
    have g1 : (σ.set r (.mix (sC x f n b sv (lk + 1))))[r]? = some (.mix (sC x f n b sv (lk + 1))) := by rw [List.getElem?_set_self (get_lt hr)]
    have k1 : SV (σ.set r (.mix (sC x f n b sv (lk + 1)))) r sv A := hs.keep fun j row hj hg => set_keep hg (by omega)
    have sl := sc_l hr
    have ss := sc_s g1
    have sz := sc_z g1
    have sn := sc_n g1
    have hlen := k1.rl.len
    have e : ¬ ((A.length : Nat) : Int) = (n : Nat) := by omega
    obtain ⟨sv', lk', σ', a1, a2, a3, a4, a5, a6⟩ := L77 hx hk (goes k) hlo hA hn hin x.g.n.toNat 0 _ sv (lk + 1) (by omega) g1 k1 (by omega)
    refine ⟨sv', lk', σ', F77_call ?_, by omega, a3, a4, fun j row hj hg => a5 j row hj (set_keep hg (by omega)), by rw [List.length_set] at a6; exact a6⟩
    have a1' : f77_L0 guardT lo (.ptr r 0) (N A.length) (.p (.int .i64 x.g.n)) (N 0) (σ.set r (.mix (sC x f n b sv (lk + 1)))) = some (.p (.bool (dfs x (fnd x (L f) b) (k + 1) A).isSome), σ') := a1
    rw [← a1']
    simp only [N] at sl st sz
    rw [F77_eq]
    simp (disch := omega) only [N, nil_ptr, gG, fa119_0, fa119_2, fa119_4, fa119_5, fa47_0, fa45_0, shift_ptr, shift_pptr, Nat.zero_add, Nat.add_zero, pureFn_fn, List.append_nil, List.singleton_append, List.cons_append, List.nil_append, load3, load24, sl, add1, st, ss, hlen, sz, b_eql, eqF e, sn]
    rfl
end
end Go.D
end
/- Chapter 13: FirstAgainst of the program. -/
section
set_option linter.unusedVariables false
set_option linter.unusedSimpArgs false
set_option maxRecDepth 8000
namespace Go.D
open Las
def lpP (x : Lb) (F : List Nd) (size : Nat) : Nat → Nat → Option (List Int × Nat) := firstS fun b => (dfs x (fnd x F b) size []).map fun A => (A, b)
def lpS (x : Lb) (F : List Nd) : Nat → Nat → Option (List Int × Nat) := firstS fun size => lpP x F size 0 size
def tot (N : Nat) : Nat → Nat
  | 0 => 0
  | m + 1 => tot N m + (m + 1) * nbg N (m + 1)
theorem nbg_mono {N M : Nat} (h : N ≤ M) : ∀ k, nbg N k ≤ nbg M k
  | 0 => Nat.le_refl _
  | k + 1 => by
    have := Nat.mul_le_mul h (nbg_mono h k)
    unfold nbg; omega
theorem tot_mono {N M : Nat} (h : N ≤ M) : ∀ m, tot N m ≤ tot M m
  | 0 => Nat.le_refl _
  | m + 1 => by
    have h1 := tot_mono h m
    have h2 := Nat.mul_le_mul (Nat.le_refl (m + 1)) (nbg_mono h (m + 1))
    unfold tot; omega
theorem tot_le (N : Nat) {m n : Nat} (h : m ≤ n) : tot N m ≤ tot N n := by
  induction n with
  | zero => rw [show m = 0 by omega]; exact Nat.le_refl _
  | succ n ih =>
    rcases Nat.lt_or_ge n m with c | c
    · rw [show m = n + 1 by omega]; exact Nat.le_refl _
    · have := ih c
      have e : tot N (n + 1) = tot N n + (n + 1) * nbg N (n + 1) := rfl
      omega
theorem tot_few {N m : Nat} (h : (N ≤ 4 ∧ m ≤ 5) ∨ (N ≤ 12 ∧ m ≤ 3)) : tot N m ≤ 400000 := by
  rcases h with ⟨h1, h2⟩ | ⟨h1, h2⟩
  · exact Nat.le_trans (Nat.le_trans (tot_mono h1 m) (tot_le 4 h2)) (by decide)
  · exact Nat.le_trans (Nat.le_trans (tot_mono h1 m) (tot_le 12 h2)) (by decide)
theorem bld119 (a1 a2 a3 a4 a5 a6 a7 a8 ff : PV) (n b lk : Nat) : build PP 119 [(0, .agg [.p a1, .p a2, .p a3, .p a4, .p a5, .p a6, .p a7, .p a8]), (1, .p ff), (2, N n), (3, N b), (5, N lk)] = some (.agg [.p a1, .p a2, .p a3, .p a4, .p a5, .p a6, .p a7, .p a8, .p ff, N n, N b, .p .nilsl, N lk]) := Eq.trans (by kernel_rfl) rfl
theorem bld52_0 : build PP 52 [] = some (.agg [.p .nilsl, .p .nilsl]) := Eq.trans (by kernel_rfl) rfl
theorem st52m {σ : Store} {lo r : Nat} {z : List DV} {p q : DV} (h : σ[r]? = some (.mix z)) (hz : z.length = 2) (hlo : lo ≤ r) (hp : p.one = true) (hq : q.one = true) : store PP lo 52 (.ptr r 0) (.agg [p, q]) σ = some (σ.set r (.mix [p, q])) := by
  have s52 : size? PP 52 = some 2 := Eq.trans (by kernel_rfl) rfl
  have e : splice z 0 [p, q] = [p, q] := by simp [splice, hz]
  simp [store, s52, DV.cells, storeN, h, hz, hp, hq, e, hlo]
theorem cell52 {σ : Store} {r : Nat} {p q : DV} (h : σ[r]? = some (.mix [p, q])) : cellV PP 52 (.ptr r 0) σ = some (.agg [p, q]) := by
  show load PP 52 (.ptr r 0) σ = _
  rw [load52, loadN_ptr (vs := [p, q]) h rfl (by simp)]; rfl
theorem S78R {σ : Store} {y : DV} {l : List Int} (h : RL σ y l) (hl : l.length ≤ 100000) : ∃ o, pureV CC 78 [y] σ = some (.p (eSl o)) ∧ L o = l := by
  rcases h with ⟨o, rfl, rfl⟩ | ⟨r, off, rfl, ⟨A, h1, h2, h3⟩⟩
  · exact ⟨o, S78 (by omega) σ, rfl⟩
  · exact ⟨some l, S78r (lo := 0) h1 h2 h3 hl, rfl⟩
section
variable {x : Lb} (hx : LSm x) (hk : LbOk x) {f : Fm} (hf : FSm f) (hF : Ok (L f)) {most : Nat} (hm : most ≤ 6)
include hx hk hf hF hm
omit hm in
theorem L27_1 {size : Nat} (hsz : 1 ≤ size ∧ size ≤ 6) : ∀ (d i : Nat) (σ : Store) (lk : Nat) (z : List DV), i + d = size → σ[0]? = some (.mix z) → z.length = 2 → lk + d * nbg x.g.n.toNat size ≤ 400000 →
    (∀ A b, lpP x (L f) size i d = some (A, b) → ∃ (u : Wd) (σ' : Store), f27_L1 guardT 0 (.p (eFm f)) (N most) (.pptr (eLb x) 0) (.ptr 0 0) (N lk) (N size) (N size) (N i) σ = some (.tuple [vWd u, .p (.int .i64 0)], σ') ∧ L u.p = A.take b ∧ L u.l = A.drop b) ∧
    (lpP x (L f) size i d = none → ∃ lk' σ', f27_L1 guardT 0 (.p (eFm f)) (N most) (.pptr (eLb x) 0) (.ptr 0 0) (N lk) (N size) (N size) (N i) σ = f27_L0 guardT 0 (.p (eFm f)) (N most) (.pptr (eLb x) 0) (.ptr 0 0) (N lk') (N (size + 1)) σ' ∧ lk' ≤ lk + d * nbg x.g.n.toNat size ∧ σ'[0]? = some (.mix z))
  | 0, i, σ, lk, z, hd, hr, hz, hl => by
    refine ⟨fun A b h => absurd h (by unfold lpP firstS; simp), fun _ => ⟨lk, σ, ?_, by omega, hr⟩⟩
    have hnlt : ¬ ((i : Nat) : Int) < (size : Nat) := by omega
    rw [f27_L1_eq guardT rfl]
    simp (disch := omega) only [N, b_lss, ltF hnlt, gG, add1]
  | d + 1, i, σ, lk, z, hd, hr, hz, hl => by
    have hlt : ((i : Nat) : Int) < (size : Nat) := by omega
    have hmul : (d + 1) * nbg x.g.n.toNat size = d * nbg x.g.n.toNat size + nbg x.g.n.toNat size := Nat.succ_mul _ _
    let σ1 : Store := σ ++ [.mix (sC x f size i (.p .nilsl) lk)]
    have g1 : σ1[σ.length]? = some (.mix (sC x f size i (.p .nilsl) lk)) := get_snoc
    have h0 : 0 < σ.length := get_lt hr
    have hsv : SV σ1 σ.length (.p .nilsl) [] := .inl ⟨rfl, rfl⟩
    obtain ⟨sv', lk', σ', c1, c2, c3, c4, c5, c6⟩ := goes hx hk hf hF (n := size) (b := i) (by omega) (by omega) size 0 σ.length [] σ1 (.p .nilsl) lk (by simp) (fun j hj => absurd hj (by simp)) g1 hsv (by omega) (by omega)
    have hr' : σ'[0]? = some (.mix z) := c5 0 _ h0 (get_old hr)
    have eσ1 : σ ++ [Row.mix (sC x f size i (.p .nilsl) lk)] = σ1 := rfl
    have bl := bld119 (pI x.g.n) (eSl x.g.init) (eEs x.g.edges) (eSl x.la) (eSl x.st) (eSl x.en) (eSl x.we) (eSl x.sr) (eFm f) size i lk
    have ev : vLb x = .agg [.p (pI x.g.n), .p (eSl x.g.init), .p (eEs x.g.edges), .p (eSl x.la), .p (eSl x.st), .p (eSl x.en), .p (eSl x.we), .p (eSl x.sr)] := rfl
    have bx : boxV (.agg [.p (pI x.g.n), .p (eSl x.g.init), .p (eEs x.g.edges), .p (eSl x.la), .p (eSl x.st), .p (eSl x.en), .p (eSl x.we), .p (eSl x.sr), .p (eFm f), N size, N i, .p .nilsl, N lk]) = some (sC x f size i (.p .nilsl) lk) := rfl
    rw [← ev] at bl
    have ss := sc_s c3
    have sl := sc_l c3
    simp only [N] at bl bx sl
    cases hd2 : dfs x (fnd x (L f) i) size [] with
    | some A =>
      rw [hd2] at c1 c4
      have hAl := dfs_len _ _ _ hd2
      have hAl2 : A.length = size := by simpa using hAl
      rcases c4 with ⟨_, e⟩ | ⟨rr, B, e0, e1, e2, e3, e4, e5⟩
      · rw [show A = [] from e] at hAl2; simp at hAl2; omega
      · have e2' : A = B.take A.length := e2
        have e3' : A.length ≤ B.length := e3
        have e0' : sv' = .rsl rr 1 0 A.length := e0
        have lt : (A.take i).length = i := by rw [List.length_take]; omega
        have ld : (A.drop i).length = A.length - i := List.length_drop
        have tk := rs_take (r := rr) (off := 0) (n := A.length) (k := i) (by omega)
        have dr := rs_drop (r := rr) (off := 0) (n := A.length) (k := i) (by omega)
        rw [Nat.zero_add] at dr
        have rp : RL σ' (.rsl rr 1 0 i) (A.take i) := .inr ⟨rr, 0, by rw [lt], ⟨B, e1, by
          rw [List.drop_zero, lt]
          conv => rhs; rw [e2']
          rw [List.take_take, Nat.min_eq_left (by omega)], by rw [lt]; omega⟩⟩
        have rq : RL σ' (.rsl rr 1 i (A.length - i)) (A.drop i) := .inr ⟨rr, i, by rw [ld], ⟨B, e1, by
          rw [ld]
          conv => rhs; rw [e2']
          rw [List.drop_take], by rw [ld]; omega⟩⟩
        obtain ⟨o1, f1, f2⟩ := S78R rp (by rw [lt]; omega)
        obtain ⟨o2, f3, f4⟩ := S78R rq (by rw [ld]; omega)
        have bl2 := bld52y (p := .p (eSl o1)) (q := .p (eSl o2)) rfl rfl
        have st := st52m (lo := 0) (p := .p (eSl o1)) (q := .p (eSl o2)) hr' hz (Nat.zero_le _) rfl rfl
        have ce := cell52 (σ := σ'.set 0 (.mix [.p (eSl o1), .p (eSl o2)])) (r := 0) (p := .p (eSl o1)) (q := .p (eSl o2)) (by rw [List.getElem?_set_self (get_lt hr')])
        have elp : lpP x (L f) size i (d + 1) = some (A, i) := by unfold lpP firstS; rw [hd2]; rfl
        refine ⟨fun A' b' h => ?_, fun h => absurd h (by rw [elp]; simp)⟩
        rw [elp] at h
        injection h with h
        injection h with h1 h2
        subst h1; subst h2
        refine ⟨⟨o1, o2⟩, σ'.set 0 (.mix [.p (eSl o1), .p (eSl o2)]), ?_, f2, f4⟩
        rw [f27_L1_eq guardT rfl]
        rw [e0'] at ss
        simp (maxSteps := 1000000) (disch := omega) only [N, b_lss, ltT hlt, gG, load47, lb_all, bl, bx, eσ1, plainFn, List.append_nil, c1, Option.isSome_some, nil_ptr, fa119_4, shift_ptr, shift_pptr, Nat.zero_add, Nat.add_zero, pureFn_fn, List.append_nil, List.singleton_append, List.cons_append, List.nil_append, load24, ss, tk, f1, dr, f3, bl2, st, ce]
        rfl
    | none =>
      rw [hd2] at c1 c4
      obtain ⟨q1, q2⟩ := L27_1 hsz d (i + 1) σ' lk' z (by omega) hr' hz (by omega)
      have elp : lpP x (L f) size i (d + 1) = lpP x (L f) size (i + 1) d := by
        unfold lpP
        conv => lhs; unfold firstS
        rw [hd2]; rfl
      have estep : f27_L1 guardT 0 (.p (eFm f)) (N most) (.pptr (eLb x) 0) (.ptr 0 0) (N lk) (N size) (N size) (N i) σ = f27_L1 guardT 0 (.p (eFm f)) (N most) (.pptr (eLb x) 0) (.ptr 0 0) (N lk') (N size) (N size) (N (i + 1)) σ' := by
        rw [f27_L1_eq guardT rfl]
        simp (maxSteps := 1000000) (disch := omega) only [N, b_lss, ltT hlt, gG, load47, lb_all, bl, bx, eσ1, plainFn, List.append_nil, c1, Option.isSome_none, nil_ptr, fa119_5, shift_ptr, shift_pptr, Nat.zero_add, Nat.add_zero, pureFn_fn, List.append_nil, List.singleton_append, List.cons_append, List.nil_append, load3, sl, add1]
      rw [elp, estep]
      refine ⟨q1, fun h => ?_⟩
      obtain ⟨lk'', σ'', r1, r2, r3⟩ := q2 h
      exact ⟨lk'', σ'', r1, by omega, r3⟩
theorem L27_0 : ∀ (d size : Nat) (σ : Store) (lk : Nat) (z : List DV), size + d = most + 1 → 1 ≤ size → σ[0]? = some (.mix z) → z.length = 2 → lk + tot x.g.n.toNat most ≤ 400000 + tot x.g.n.toNat (size - 1) →
    (∀ A b, lpS x (L f) size d = some (A, b) → ∃ (u : Wd) (σ' : Store), f27_L0 guardT 0 (.p (eFm f)) (N most) (.pptr (eLb x) 0) (.ptr 0 0) (N lk) (N size) σ = some (.tuple [vWd u, .p (.int .i64 0)], σ') ∧ L u.p = A.take b ∧ L u.l = A.drop b) ∧
    (lpS x (L f) size d = none → ∃ σ', f27_L0 guardT 0 (.p (eFm f)) (N most) (.pptr (eLb x) 0) (.ptr 0 0) (N lk) (N size) σ = some (.tuple [vWd W0, .p (.int .i64 25)], σ'))
  | 0, size, σ, lk, z, hd, h1, hr, hz, hl => by
    refine ⟨fun A b h => absurd h (by unfold lpS firstS; simp), fun _ => ?_⟩
    have hnlt : ¬ ((size : Nat) : Int) ≤ (most : Nat) := by omega
    have hlk : ¬ ((lk : Nat) : Int) > 400000 := by
      have : size - 1 = most := by omega
      rw [this] at hl
      omega
    have st := st52m (lo := 0) (p := .p .nilsl) (q := .p .nilsl) hr hz (Nat.zero_le _) rfl rfl
    have ce := cell52 (σ := σ.set 0 (.mix [.p .nilsl, .p .nilsl])) (r := 0) (p := .p .nilsl) (q := .p .nilsl) (by rw [List.getElem?_set_self (get_lt hr)])
    have q := fun σ => S66_2 (wrg false 37) 25 σ
    have eo : orL [wrg false 37, 25] = 25 := rfl
    rw [eo] at q
    refine ⟨σ.set 0 (.mix [.p .nilsl, .p .nilsl]), ?_⟩
    rw [f27_L0_eq guardT rfl]
    simp (disch := omega) only [N, b_leq, leF hnlt, gG, bld52_0, b_gtr, gtF hlk, shift_ptr, shift_pptr, Nat.zero_add, Nat.add_zero, pureFn_fn, List.append_nil, List.singleton_append, List.cons_append, List.nil_append, S67, bs160_2, q, st, ce]
    rfl
  | d + 1, size, σ, lk, z, hd, h1, hr, hz, hl => by
    have hle : ((size : Nat) : Int) ≤ (most : Nat) := by omega
    have htot : tot x.g.n.toNat size = tot x.g.n.toNat (size - 1) + size * nbg x.g.n.toNat size := by
      obtain ⟨s, rfl⟩ : ∃ s, size = s + 1 := ⟨size - 1, by omega⟩
      rfl
    have htm := tot_le x.g.n.toNat (show size ≤ most by omega)
    obtain ⟨q1, q2⟩ := L27_1 hx hk hf hF (size := size) ⟨h1, by omega⟩ size 0 σ lk z (by omega) hr hz (by omega)
    have estep : f27_L0 guardT 0 (.p (eFm f)) (N most) (.pptr (eLb x) 0) (.ptr 0 0) (N lk) (N size) σ = f27_L1 guardT 0 (.p (eFm f)) (N most) (.pptr (eLb x) 0) (.ptr 0 0) (N lk) (N size) (N size) (N 0) σ := by
      rw [f27_L0_eq guardT rfl]
      simp (disch := omega) only [N, b_leq, leT hle, gG]
      rfl
    rw [estep]
    cases hp : lpP x (L f) size 0 size with
    | some ab =>
      obtain ⟨A, b⟩ := ab
      have els : lpS x (L f) size (d + 1) = some (A, b) := by unfold lpS firstS; simp only [hp]
      rw [els]
      refine ⟨fun A' b' h => ?_, fun h => absurd h (by simp)⟩
      injection h with h
      injection h with h1 h2
      subst h1; subst h2
      exact q1 A b hp
    | none =>
      obtain ⟨lk', σ', r1, r2, r3⟩ := q2 hp
      obtain ⟨s1, s2⟩ := L27_0 d (size + 1) σ' lk' z (by omega) (by omega) r3 hz (by rw [Nat.add_sub_cancel, htot]; omega)
      have els : lpS x (L f) size (d + 1) = lpS x (L f) (size + 1) d := by
        conv => lhs; unfold lpS firstS
        simp only [hp]
        rfl
      rw [r1, els]
      exact ⟨s1, s2⟩
end
def faE (x : Lb) (F : List Nd) (m : Int) : Int := if (chkLb x).2 = 0 then if (chk F).2 = 0 then if inR m 1 6 = true then 0 else 3 else (chk F).2 else (chkLb x).2
section
variable {x : Lb} (hx : LSm x) {f : Fm} (hf : FSm f) (m : Int)
include hx hf
omit hx hf in
theorem S27_pre : ∃ E, E = faE x (L f) m ∧ ∀ σ, pureV CC 66 [.p (.sl true 3 [pI (chkLb x).2, pI (chk (L f)).2, pI (wrg (!inR m 1 6) 3)])] σ = some (.p (.int .i64 E)) := by
  refine ⟨_, rfl, fun σ => ?_⟩
  rw [S66_3]
  unfold faE
  congr 3
  by_cases h1 : (chkLb x).2 = 0
  · by_cases h2 : (chk (L f)).2 = 0
    · rw [if_pos h1, if_pos h2]
      cases inR m 1 6 <;> simp [orL, wrg, h1, h2]
    · rw [if_pos h1, if_neg h2]
      simp [orL, h1, h2]
  · rw [if_neg h1]
    simp [orL, h1]
theorem S27_err (hE : faE x (L f) m ≠ 0) (σ : Store) : pureV CC 27 [vLb x, .p (eFm f), .p (.int .i64 m)] σ = some (.tuple [vWd W0, .p (.int .i64 (faE x (L f) m))]) := by
  obtain ⟨E, e1, q⟩ := S27_pre (x := x) (f := f) m
  rw [← e1] at hE ⊢
  have s76 := fun σ => S76 hx σ
  have s70 := fun σ => S70 hf σ
  have g0 : ([Row.mix [.p .nilsl, .p .nilsl]] : Store)[0]? = some (.mix [.p .nilsl, .p .nilsl]) := rfl
  have st := st52m (lo := 0) (p := .p .nilsl) (q := .p .nilsl) g0 rfl (Nat.zero_le _) rfl rfl
  have es : ([Row.mix [.p .nilsl, .p .nilsl]] : Store).set 0 (.mix [.p .nilsl, .p .nilsl]) = [.mix [.p .nilsl, .p .nilsl]] := rfl
  rw [es] at st
  have ce := cell52 (σ := [.mix [.p .nilsl, .p .nilsl]]) (r := 0) (p := .p .nilsl) (q := .p .nilsl) rfl
  refine pureV_free (by simp only [List.map_cons, List.map_nil, lb_view, fm_view, int_view]) rfl (F27_call (r := (.tuple [vWd W0, .p (.int .i64 E)], [.mix [.p .nilsl, .p .nilsl]])) ?_) (thaw_we W0 _ 0 _)
  rw [F27_eq]
  simp (disch := omega) only [box_lb, gG, zero52, List.length_nil, List.nil_append, load47, lb_all, shift_ptr, shift_pptr, Nat.zero_add, Nat.add_zero, pureFn_fn, List.append_nil, List.singleton_append, List.cons_append, List.nil_append, s76, s70, S65, S67, bs160_3, q, b_neq, eqF hE, bld52_0, st, ce]
  rfl
theorem S27_ok {most : Nat} (hm : m = (most : Nat)) (hE : faE x (L f) m = 0) (hfew : tot x.g.n.toNat most ≤ 400000) (σ : Store) :
    (∀ A b, lpS x (L f) 1 most = some (A, b) → ∃ u : Wd, pureV CC 27 [vLb x, .p (eFm f), .p (.int .i64 m)] σ = some (.tuple [vWd u, .p (.int .i64 0)]) ∧ L u.p = A.take b ∧ L u.l = A.drop b) ∧
    (lpS x (L f) 1 most = none → pureV CC 27 [vLb x, .p (eFm f), .p (.int .i64 m)] σ = some (.tuple [vWd W0, .p (.int .i64 25)])) := by
  obtain ⟨E, e1, q⟩ := S27_pre (x := x) (f := f) m
  have hE0 : E = 0 := by rw [e1]; exact hE
  subst hE0
  have h1 : (chkLb x).2 = 0 := by
    unfold faE at hE
    by_cases h : (chkLb x).2 = 0
    · exact h
    · rw [if_neg h] at hE; exact absurd hE h
  have h2 : (chk (L f)).2 = 0 := by
    unfold faE at hE
    rw [if_pos h1] at hE
    by_cases h : (chk (L f)).2 = 0
    · exact h
    · rw [if_neg h] at hE; exact absurd hE h
  have h3 : inR m 1 6 = true := by
    unfold faE at hE
    rw [if_pos h1, if_pos h2] at hE
    by_cases h : inR m 1 6 = true
    · exact h
    · rw [if_neg h] at hE; exact absurd hE (by decide)
  have h4 := (inR_iff _ _ _).1 h3
  have hk := lbOk h1
  have hF := chk_ok h2
  have s76 := fun σ => S76 hx σ
  have s70 := fun σ => S70 hf σ
  obtain ⟨q1, q2⟩ := L27_0 hx hk hf hF (most := most) (by omega) most 1 [.mix [.p .nilsl, .p .nilsl]] 0 [.p .nilsl, .p .nilsl] (by omega) (Nat.le_refl _) rfl rfl (by omega)
  have pre : ∀ r, f27_L0 guardT 0 (.p (eFm f)) (N most) (.pptr (eLb x) 0) (.ptr 0 0) (N 0) (N 1) [.mix [.p .nilsl, .p .nilsl]] = some r → F27 guardT 0 (vLb x) (.p (eFm f)) (.p (.int .i64 m)) [] = some r := fun r h => by
    subst hm
    simp only [N] at h
    rw [F27_eq]
    simp (disch := omega) only [box_lb, gG, zero52, List.length_nil, List.nil_append, load47, lb_all, shift_ptr, shift_pptr, Nat.zero_add, Nat.add_zero, pureFn_fn, List.append_nil, List.singleton_append, List.cons_append, List.nil_append, s76, s70, S65, S67, bs160_3, q, b_neq, eqT (rfl : (0 : Int) = 0)]
    exact h
  refine ⟨fun A b h => ?_, fun h => ?_⟩
  · obtain ⟨u, σ', r1, r2, r3⟩ := q1 A b h
    exact ⟨u, pureV_free (by simp only [List.map_cons, List.map_nil, lb_view, fm_view, int_view]) rfl (F27_call (pre _ r1)) (thaw_we u 0 0 _), r2, r3⟩
  · obtain ⟨σ', r1⟩ := q2 h
    exact pureV_free (by simp only [List.map_cons, List.map_nil, lb_view, fm_view, int_view]) rfl (F27_call (pre _ r1)) (thaw_we W0 25 0 _)
end
end Go.D
end
/- Chapter 13: the reference's search. -/
section
set_option linter.unusedVariables false
set_option linter.unusedSimpArgs false
set_option maxRecDepth 8000
namespace Go.D
open Las
def rC (x : Lb) (f : Fm) (fd : Bool) (lp ll : DV) : List DV :=
  [.p (pI x.g.n), .p (eSl x.g.init), .p (eEs x.g.edges), .p (eSl x.la), .p (eSl x.st), .p (eSl x.en), .p (eSl x.we), .p (eSl x.sr), .p (eFm f), .p (.bool fd), lp, ll]
theorem fa124_0 (x : DV) : fieldAddr PP 124 x 0 = shiftPtr x 0 := Eq.trans (by kernel_rfl) rfl
theorem fa124_1 (x : DV) : fieldAddr PP 124 x 1 = shiftPtr x 8 := Eq.trans (by kernel_rfl) rfl
theorem fa124_2 (x : DV) : fieldAddr PP 124 x 2 = shiftPtr x 9 := Eq.trans (by kernel_rfl) rfl
theorem fa124_3 (x : DV) : fieldAddr PP 124 x 3 = shiftPtr x 10 := Eq.trans (by kernel_rfl) rfl
theorem st_fd {σ : Store} {lo r : Nat} {x : Lb} {f : Fm} {b : Bool} {p q : DV} (h : σ[r]? = some (.mix (rC x f b p q))) (hlo : lo ≤ r) (c : Bool) : store PP lo 4 (.ptr r 9) (.p (.bool c)) σ = some (σ.set r (.mix (rC x f c p q))) := by
  have s4' : size? PP 4 = some 1 := s4
  simp [store, s4', DV.cells, storeN, h, hlo, DV.one, splice, rC]
theorem st_ls {σ : Store} {lo r : Nat} {x : Lb} {f : Fm} {b : Bool} {p q p' q' : DV} (h : σ[r]? = some (.mix (rC x f b p q))) (hlo : lo ≤ r) (hp : p'.one = true) (hq : q'.one = true) : store PP lo 52 (.ptr r 10) (.agg [p', q']) σ = some (σ.set r (.mix (rC x f b p' q'))) := by
  have s52 : size? PP 52 = some 2 := Eq.trans (by kernel_rfl) rfl
  simp [store, s52, DV.cells, storeN, h, hlo, hp, hq, splice, rC]
section
variable {σ : Store} {r : Nat} {x : Lb} {f : Fm} {b : Bool} {p q : DV} (h : σ[r]? = some (.mix (rC x f b p q)))
include h
theorem rc_n : load1 (.ptr r 0) σ = some (.p (.int .i64 x.g.n)) := load1_ptr h rfl
theorem rc_i : load1 (.ptr r 1) σ = some (.p (eSl x.g.init)) := load1_ptr h rfl
theorem rc_f : load1 (.ptr r 8) σ = some (.p (eFm f)) := load1_ptr h rfl
theorem rc_d : load1 (.ptr r 9) σ = some (.p (.bool b)) := load1_ptr h rfl
theorem rc_x : (loadN σ 8 (.ptr r 0)).map DV.agg = some (vLb x) := by
  rw [loadN_ptr (off := 0) (n := 8) (vs := [.p (pI x.g.n), .p (eSl x.g.init), .p (eEs x.g.edges), .p (eSl x.la), .p (eSl x.st), .p (eSl x.en), .p (eSl x.we), .p (eSl x.sr)]) h rfl (by simp [rC])]; rfl
theorem rc_g : (loadN σ 3 (.ptr r 0)).map DV.agg = some (vGr x.g) := by
  rw [loadN_ptr (off := 0) (n := 3) (vs := [.p (pI x.g.n), .p (eSl x.g.init), .p (eEs x.g.edges)]) h rfl (by simp [rC])]; rfl
theorem rc_l : (loadN σ 2 (.ptr r 10)).map DV.agg = some (.agg [p, q]) := by
  rw [loadN_ptr (off := 10) (n := 2) (vs := [p, q]) h rfl (by simp [rC])]; rfl
end
theorem PL.vc {x : DV} {l : List Int} (h : PL x l) : ∃ o, viewCell x = .p (eSl o) ∧ L o = l := by
  rcases h with ⟨rfl, rfl⟩ | ⟨ex, rfl⟩ | ⟨r, v, rfl⟩
  · exact ⟨none, rfl, rfl⟩
  · exact ⟨Option.some l, by simp [viewCell, loosen, loosens_ints, eSl], rfl⟩
  · exact ⟨Option.some l, by simp [viewCell, loosens_ints, eSl], rfl⟩
theorem own_push {sv : DV} {A : List Int} (h : PL sv A) (hA : A.length ≤ 1000) (v : Int) {lo : Nat} {σ : Store} (hlo : lo ≤ σ.length) :
    ∃ (y : DV) (σ1 : Store) (y2 : DV) (σ2 : Store), CC lo 52 [sv] σ = some (y, σ1) ∧ append PP lo false 24 24 y (.p (.sl true 1 [.int .i64 v])) σ1 = some (y2, σ2) ∧ PL y2 (A ++ [v]) ∧ (∀ (j : Nat) (row : Row), σ[j]? = some row → σ2[j]? = some row) ∧ σ.length ≤ σ2.length := by
  have hs : source σ 1 sv = some (A.length, (eInts A).map .p) := h.src σ
  have hsv : ∀ τ, source τ 1 (.p (.sl true 1 [PV.int .i64 v])) = some (1, [.p (.int .i64 v)]) := fun τ => rfl
  have f52 : ∀ r, append PP lo false 24 24 (.p (.sl true 0 [])) sv σ = some r → CC lo 52 [sv] σ = some r := fun r hr => by
    refine F52_call ?_
    rw [F52_eq]
    simp only [bs24_0, obind, hr]
  by_cases h0 : A = []
  · subst h0
    refine ⟨.p (.sl true 0 []), σ, .osl σ.length 0 1 1 [.int .i64 v], σ ++ [.tok 0], f52 _ ?_, ?_, .inr (.inr ⟨σ.length, 0, rfl⟩), fun j row hg => get_old hg, by simp⟩
    · simp [append, src24, u24, s3, bytes3, zero3, hs, appLit]
    · simp [append, src24, u24, s3, bytes3, zero3, hsv, appLit, pures, DV.pure?]
  · have hp := List.length_pos_iff.2 h0
    have hne : ¬ A.length = 0 := by omega
    have e1 : (0 + A.length) * 8 ≤ 140737488355328 := by omega
    have e2 : 0 + A.length ≤ 140737488355328 := by omega
    have e3 : (A.length + 1) * 8 ≤ 140737488355328 := by omega
    have e4 : A.length + 1 ≤ 140737488355328 := by omega
    have gt : (σ ++ [Row.tok 0])[σ.length]? = some (.tok 0) := get_snoc
    refine ⟨.osl σ.length 0 1 A.length (eInts A), σ ++ [Row.tok 0], .osl σ.length 1 1 (A.length + 1) (eInts (A ++ [v])), (σ ++ [Row.tok 0]).set σ.length (Row.tok 1), f52 _ ?_, ?_, .inr (.inr ⟨σ.length, 1, by simp⟩), fun j row hg => ?_, by simp⟩
    · simp only [append, src24, Bool.true_eq_false, if_false, u24, s3, bytes3, zero3, List.length_singleton, ne_eq, not_true_eq_false, Nat.one_ne_zero, or_self, hs, appLit]
      rw [if_pos ⟨e1, e2, by decide, by simp⟩, if_neg hne, pures_map]
      simp
    · simp only [append, src24, Bool.true_eq_false, if_false, u24, s3, bytes3, zero3, List.length_singleton, ne_eq, not_true_eq_false, Nat.one_ne_zero, or_self, hsv, appTok]
      rw [if_pos ⟨e3, e4, by decide, trivial, by rw [ints_length]; omega, hlo⟩, gt]
      simp [pures, DV.pure?, eInts]
    · have := get_lt hg
      exact set_keep (get_old hg) (by omega)
section
variable {x : Lb} (hx : LSm x) (hk : LbOk x) {f : Fm} (hf : FSm f) (hF : Ok (L f)) {n b : Nat} (hb : b < n) (hn : n ≤ 50)
include hf hF in
theorem S166 {u : Wd} (hw : wErr (L u.p) (L u.l) = 0) (σ : Store) : pureV CC 166 [.p (eFm f), vWd u] σ = some (.p (.bool ((says (L f) (L u.p) (L u.l)).getD 0 false))) := by
  have hwo := wErr_ok hw
  have hp := hF.pos
  have hle := hF.le
  have h22 : ∀ σ, pureV CC 22 [.p (eFm f), N ((L f).length - 1), vWd u] σ = some (BV (says (L f) (L u.p) (L u.l))) := fun σ => S22 hf hF hwo _ ((L f).length - 1) (Nat.lt_succ_self _) (by omega) σ
  have hsl := says_len (L f) (L u.p) (L u.l)
  have hu0 := hwo.ne
  have i0 := BV_idx (l := says (L f) (L u.p) (L u.l)) (i := 0) (by omega)
  have d0 := BV_ld (l := says (L f) (L u.p) (L u.l)) (i := 0) (by omega) []
  have z0 : (.p (.int .i64 ((0 : Nat) : Int)) : DV) = .p (.int .i64 0) := rfl
  rw [z0] at i0
  simp only [N] at h22
  refine pureV_free (by simp only [List.map_cons, List.map_nil, fm_view, wd_view]) rfl (F166_call (r := (.p (.bool ((says (L f) (L u.p) (L u.l)).getD 0 false)), [])) ?_) rfl
  rw [F166_eq]
  simp (maxSteps := 4000000) (disch := omega) only [box_wd, gG, len23, N, sub1, load26, wd_all, shift_ptr, shift_pptr, Nat.zero_add, Nat.add_zero, pureFn_fn, List.append_nil, List.singleton_append, List.cons_append, List.nil_append, h22, i0, load4, d0]
include hx hk hf hF
theorem S135 {w : Wd} (hl : (L w.p).length + (L w.l).length ≤ 50) (hq : 0 < (L w.l).length) (hin : InR x (L w.p ++ L w.l)) {σ : Store} {r : Nat} {fd : Bool} {lp ll : DV} (hr : σ[r]? = some (.mix (rC x f fd lp ll))) :
    pureV CC 135 [.ptr r 0, vWd w] σ = some (.p (.bool (isF x (L w.l) && !hol x (L f) (L w.p ++ L w.l) (L w.p).length))) := by
  have s59 := fun σ => S59 hx (w := w) (by omega) σ
  obtain ⟨u, u1, u2, u3⟩ := S58 hx hk (w := w) (by omega) hq hin σ
  have hlen : (L w.p ++ L w.l).length = (L w.p).length + (L w.l).length := List.length_append
  have hw : wErr (L u.p) (L u.l) = 0 := by rw [u2, u3]; exact wl_ok hk (by omega) (by omega) hin
  have s166 := fun σ => S166 hf hF hw σ
  have eh : (says (L f) (L u.p) (L u.l)).getD 0 false = hol x (L f) (L w.p ++ L w.l) (L w.p).length := by rw [u2, u3]; rfl
  rw [eh] at s166
  have rx := rc_x hr
  have rf := rc_f hr
  refine pureV_rows (by simp only [List.map_cons, List.map_nil, wd_view]; rfl) rfl (F135_call (r := (.p (.bool (isF x (L w.l) && !hol x (L f) (L w.p ++ L w.l) (L w.p).length)), σ)) ?_) rfl
  rw [F135_eq]
  cases c : isF x (L w.l) with
  | false => simp (maxSteps := 4000000) (disch := omega) only [box_wd, gG, nil_ptr, fa124_0, shift_ptr, shift_pptr, Nat.zero_add, Nat.add_zero, pureFn_fn, List.append_nil, List.singleton_append, List.cons_append, List.nil_append, load47, rx, load52, ws_all, s59, c, Bool.false_and]
  | true => simp (maxSteps := 4000000) (disch := omega) only [box_wd, gG, nil_ptr, fa124_0, fa124_1, shift_ptr, shift_pptr, Nat.zero_add, Nat.add_zero, pureFn_fn, List.append_nil, List.singleton_append, List.cons_append, List.nil_append, load47, rx, load52, ws_all, s59, c, load23q, rf, u1, s166, Bool.true_and]
end
def Left (x : Lb) (f : Fm) (b r : Nat) (lp ll : DV) (o : Option (List Int)) (σ' : Store) : Prop :=
  (o = none ∧ σ'[r]? = some (.mix (rC x f false lp ll))) ∨ ∃ A' o1 o2, o = some A' ∧ σ'[r]? = some (.mix (rC x f true (.p (eSl o1)) (.p (eSl o2)))) ∧ L o1 = A'.take b ∧ L o2 = A'.drop b
def Goes2 (x : Lb) (f : Fm) (n b : Nat) (k : Nat) : Prop :=
  ∀ (lo r : Nat) (A : List Int) (σ : Store) (sv lp ll : DV), A.length + k = n → InR x A → σ[r]? = some (.mix (rC x f false lp ll)) → PL sv A → lo ≤ r →
  ∃ σ', CC lo 81 [.ptr r 0, sv, N n, N b] σ = some (.tuple [], σ') ∧ Left x f b r lp ll (dfs x (fnd x (L f) b) k A) σ' ∧ (∀ j row, j < r → σ[j]? = some row → σ'[j]? = some row) ∧ σ.length ≤ σ'.length
section
variable {x : Lb} (hx : LSm x) (hk : LbOk x) {f : Fm} (hf : FSm f) (hF : Ok (L f)) {n b : Nat} (hb : b < n) (hn : n ≤ 50)
include hx hk hn
theorem L81 {k : Nat} (hgo : Goes2 x f n b k) {lo r : Nat} (hlo : lo ≤ r) {A : List Int} (hA : A.length + (k + 1) = n) (hin : InR x A) {sv lp ll : DV} (hs : PL sv A) : ∀ (d i : Nat) (σ : Store), i + d = x.g.n.toNat → σ[r]? = some (.mix (rC x f false lp ll)) →
    ∃ σ', f81_L0 guardT lo (.ptr r 0) sv (N n) (N b) (N i) σ = some (.tuple [], σ') ∧ Left x f b r lp ll (firstS (fun i => if suc x A (i : Nat) = true then dfs x (fnd x (L f) b) k (A ++ [((i : Nat) : Int)]) else none) i d) σ' ∧ (∀ j row, j < r → σ[j]? = some row → σ'[j]? = some row) ∧ σ.length ≤ σ'.length
  | 0, i, σ, hd, hr => by
    have h60 := hk.n
    have hg := isG_n hk.g
    have hnlt : ¬ ((i : Nat) : Int) < x.g.n := by omega
    have rn := rc_n hr
    refine ⟨σ, ?_, .inl ⟨rfl, hr⟩, fun j row _ h => h, Nat.le_refl _⟩
    rw [f81_L0_eq guardT rfl]
    simp (maxSteps := 4000000) (disch := omega) only [N, nil_ptr, gG, fa124_0, fa47_0, fa45_0, shift_ptr, shift_pptr, Nat.zero_add, Nat.add_zero, pureFn_fn, List.append_nil, List.singleton_append, List.cons_append, List.nil_append, load3, rn, b_lss, ltF hnlt]
  | d + 1, i, σ, hd, hr => by
    have h60 := hk.n
    have hg := isG_n hk.g
    have hlt : ((i : Nat) : Int) < x.g.n := by omega
    have hi0 := hx.i
    have s95 := fun σ => S95 (o := x.g.init) (by omega) ((i : Nat) : Int) σ
    have s96 := fun s t σ => S96 (x := x) hx.e s t σ
    have rn := rc_n hr
    have ri := rc_i hr
    have rg := rc_g hr
    have rd := rc_d hr
    have hls := hs.len
    have hr2 := get_lt hr
    have hns : ∀ (σ0 : Store), σ0[r]? = some (.mix (rC x f false lp ll)) → (∀ j row, j < r → σ[j]? = some row → σ0[j]? = some row) → σ.length ≤ σ0.length →
        ∃ σ', f81_L0 guardT lo (.ptr r 0) sv (N n) (N b) (N (i + 1)) σ0 = some (.tuple [], σ') ∧ Left x f b r lp ll (firstS (fun i => if suc x A (i : Nat) = true then dfs x (fnd x (L f) b) k (A ++ [((i : Nat) : Int)]) else none) (i + 1) d) σ' ∧ (∀ j row, j < r → σ[j]? = some row → σ'[j]? = some row) ∧ σ.length ≤ σ'.length := by
      intro σ0 h1 h2 h3
      obtain ⟨σ', a1, a2, a3, a4⟩ := L81 hgo hlo hA hin hs d (i + 1) σ0 (by omega) h1
      exact ⟨σ', a1, a2, fun j row hj hg => a3 j row hj (h2 j row hj hg), by omega⟩
    by_cases hs1 : suc x A ((i : Nat) : Int) = true
    · obtain ⟨y, σ1, y2, σ2, p1, p2, p3, p4, p5⟩ := own_push hs (by omega) ((i : Nat) : Int) (lo := lo) (σ := σ) (by omega)
      obtain ⟨σ3, c1, c2, c3, c4⟩ := hgo lo r (A ++ [((i : Nat) : Int)]) σ2 y2 lp ll (by simp; omega) (hin.snoc (by omega)) (p4 _ _ hr) p3 hlo
      have pres : ∀ j row, j < r → σ[j]? = some row → σ3[j]? = some row := fun j row hj hg => c3 j row hj (p4 j row hg)
      simp only [N] at c1
      have estep : f81_L0 guardT lo (.ptr r 0) sv (N n) (N b) (N i) σ = f81_L0 guardT lo (.ptr r 0) sv (N n) (N b) (N (i + 1)) σ3 := by
        simp only [N]
        rw [f81_L0_eq guardT rfl]
        by_cases hA0 : A = []
        · subst hA0
          unfold suc at hs1
          rw [if_pos rfl] at hs1
          rw [show ((([] : List Int).length : Nat) : Int) = 0 from rfl] at hls
          simp (maxSteps := 4000000) (disch := omega) only [nil_ptr, gG, fa124_0, fa124_2, fa47_0, fa45_0, fa45_1, shift_ptr, shift_pptr, Nat.zero_add, Nat.add_zero, pureFn_fn, List.append_nil, List.singleton_append, List.cons_append, List.nil_append, load3, load4, load24, rn, ri, rd, b_lss, ltT hlt, hls, b_eql, eqT (rfl : (0 : Int) = 0), s95, hs1, plainFn, p1, bs24_1, p2, c1, f81_J0_eq, add1]
        · have hp := List.length_pos_iff.2 hA0
          unfold suc at hs1
          rw [if_neg hA0, lastI_eq] at hs1
          have i1 := hs.idx (i := A.length - 1) (by omega)
          have l1 := load1_getD (l := A) (i := A.length - 1) (by omega)
          have hne : ¬ ((A.length : Nat) : Int) = 0 := by omega
          simp (maxSteps := 4000000) (disch := omega) only [nil_ptr, gG, fa124_0, fa124_2, fa47_0, fa45_0, shift_ptr, shift_pptr, Nat.zero_add, Nat.add_zero, pureFn_fn, List.append_nil, List.singleton_append, List.cons_append, List.nil_append, load3, load4, load45, rn, rg, rd, b_lss, ltT hlt, hls, b_eql, eqF hne, b_gtr, gtT, sub1, i1, l1, s96, hs1, plainFn, p1, bs24_1, p2, c1, f81_J0_eq, add1]
      rw [estep]
      unfold firstS
      rw [if_pos hs1]
      rcases c2 with ⟨e1, e2⟩ | ⟨A', o1, o2, e1, e2, e3, e4⟩
      · rw [e1]
        exact hns σ3 e2 pres (by omega)
      · rw [e1]
        refine ⟨σ3, ?_, .inr ⟨A', o1, o2, rfl, e2, e3, e4⟩, pres, by omega⟩
        have rn3 := rc_n e2
        have rd3 := rc_d e2
        rw [f81_L0_eq guardT rfl]
        by_cases c : ((i + 1 : Nat) : Int) < x.g.n
        · simp (maxSteps := 4000000) (disch := omega) only [N, nil_ptr, gG, fa124_0, fa124_2, fa47_0, fa45_0, shift_ptr, shift_pptr, Nat.zero_add, Nat.add_zero, pureFn_fn, List.append_nil, List.singleton_append, List.cons_append, List.nil_append, load3, load4, rn3, rd3, b_lss, ltT c]
        · simp (maxSteps := 4000000) (disch := omega) only [N, nil_ptr, gG, fa124_0, fa47_0, fa45_0, shift_ptr, shift_pptr, Nat.zero_add, Nat.add_zero, pureFn_fn, List.append_nil, List.singleton_append, List.cons_append, List.nil_append, load3, rn3, b_lss, ltF c]
    · have hs2 : suc x A ((i : Nat) : Int) = false := eq_false_of_ne_true hs1
      have estep : f81_L0 guardT lo (.ptr r 0) sv (N n) (N b) (N i) σ = f81_L0 guardT lo (.ptr r 0) sv (N n) (N b) (N (i + 1)) σ := by
        simp only [N]
        rw [f81_L0_eq guardT rfl]
        by_cases hA0 : A = []
        · subst hA0
          unfold suc at hs2
          rw [if_pos rfl] at hs2
          rw [show ((([] : List Int).length : Nat) : Int) = 0 from rfl] at hls
          simp (maxSteps := 4000000) (disch := omega) only [nil_ptr, gG, fa124_0, fa124_2, fa47_0, fa45_0, fa45_1, shift_ptr, shift_pptr, Nat.zero_add, Nat.add_zero, pureFn_fn, List.append_nil, List.singleton_append, List.cons_append, List.nil_append, load3, load4, load24, rn, ri, rd, b_lss, ltT hlt, hls, b_eql, eqT (rfl : (0 : Int) = 0), s95, hs2, b_gtr, gtF, f81_J0_eq, add1]
        · have hp := List.length_pos_iff.2 hA0
          unfold suc at hs2
          rw [if_neg hA0, lastI_eq] at hs2
          have i1 := hs.idx (i := A.length - 1) (by omega)
          have l1 := load1_getD (l := A) (i := A.length - 1) (by omega)
          have hne : ¬ ((A.length : Nat) : Int) = 0 := by omega
          simp (maxSteps := 4000000) (disch := omega) only [nil_ptr, gG, fa124_0, fa124_2, fa47_0, fa45_0, shift_ptr, shift_pptr, Nat.zero_add, Nat.add_zero, pureFn_fn, List.append_nil, List.singleton_append, List.cons_append, List.nil_append, load3, load4, load45, rn, rg, rd, b_lss, ltT hlt, hls, b_eql, eqF hne, b_gtr, gtT, sub1, i1, l1, s96, hs2, f81_J0_eq, add1]
      rw [estep]
      unfold firstS
      rw [if_neg hs1]
      exact hns σ hr (fun j row _ h => h) (Nat.le_refl _)
include hf hF hb
theorem goes2 : ∀ k, Goes2 x f n b k
  | 0, lo, r, A, σ, sv, lp, ll, hA, hin, hr, hs, hlo => by
    have hr2 := get_lt hr
    have hAn : A.length = n := by omega
    obtain ⟨y1, t1, t2⟩ := hs.take (k := b) (by omega)
    obtain ⟨y2, d1, d2⟩ := pl_drop hs (k := b) (by omega)
    have lt : (A.take b).length = b := by rw [List.length_take]; omega
    have ld : (A.drop b).length = A.length - b := List.length_drop
    have bl := bld52y t2.one.1 d2.one.1
    have st := st52r (σ := σ) (lo := lo) (by omega) t2.one.1 d2.one.1
    have g1 : (σ ++ [Row.mix [y1, y2]])[r]? = some (.mix (rC x f false lp ll)) := get_old hr
    have g2 : (σ ++ [Row.mix [y1, y2]])[σ.length]? = some (.mix [y1, y2]) := get_snoc
    have hlen1 : (σ ++ [Row.mix [y1, y2]]).length = σ.length + 1 := by simp
    have keep : ∀ j row, j < r → σ[j]? = some row → (σ ++ [Row.mix [y1, y2]])[j]? = some row := fun j row _ h => get_old h
    generalize hτ : σ ++ [Row.mix [y1, y2]] = τ at *
    have rg := rc_g g1
    have rd := rc_d hr
    have i1 := hs.idx (i := n - 1) (by omega)
    have l1 := load1_getD (l := A) (i := n - 1) (by omega) τ
    have i2 := hs.idx (i := b) (by omega)
    have l2 := load1_getD (l := A) (i := b) (by omega) τ
    have s96 := fun s t σ => S96 (x := x) hx.e s t σ
    have ldw : (loadN τ 2 (.ptr σ.length 0)).map DV.agg = some (.agg [y1, y2]) := by
      rw [loadN_ptr (off := 0) (n := 2) (vs := [y1, y2]) g2 rfl (by simp)]; rfl
    obtain ⟨o1, v1, v2⟩ := t2.vc
    obtain ⟨o2, v3, v4⟩ := d2.vc
    have hAq : L o1 ++ L o2 = A := by rw [v2, v4, List.take_append_drop]
    have s135 : pureV CC 135 [.ptr r 0, .agg [y1, y2]] τ = some (.p (.bool (isF x (A.drop b) && !hol x (L f) A b))) := by
      have h := S135 hx hk hf hF (w := ⟨o1, o2⟩) (by show (L o1).length + (L o2).length ≤ 50; rw [v2, v4, lt, ld]; omega) (by show 0 < (L o2).length; rw [v4, ld]; omega) (by show InR x (L o1 ++ L o2); rw [hAq]; exact hin) g1
      rw [pureV_view (args' := [.ptr r 0, vWd ⟨o1, o2⟩]) (by
        show [view (.ptr r 0), DV.agg [viewCell y1, viewCell y2]] = _
        rw [v1, v3]; rfl) (by simp only [List.map_cons, List.map_nil, wd_view]; rfl)]
      rw [h]
      have e1 : L (⟨o1, o2⟩ : Wd).l = A.drop b := v4
      have e2 : L (⟨o1, o2⟩ : Wd).p = A.take b := v2
      rw [e1, e2, List.take_append_drop, lt]
    have hls := hs.len
    have e : ((A.length : Nat) : Int) = (n : Nat) := by omega
    have ed : dfs x (fnd x (L f) b) 0 A = if fnd x (L f) b A = true then some A else none := rfl
    have ef : fnd x (L f) b A = (prm x (A.getD (n - 1) 0) (A.getD b 0) && (isF x (A.drop b) && !hol x (L f) A b)) := by unfold fnd; rw [hAn]
    rw [ed]
    cases c1 : prm x (A.getD (n - 1) 0) (A.getD b 0) with
    | false =>
      have c : fnd x (L f) b A = false := by rw [ef, c1]; rfl
      refine ⟨τ, F81_call ?_, .inl ⟨by rw [c]; rfl, g1⟩, keep, by omega⟩
      rw [F81_eq]
      simp (maxSteps := 4000000) (disch := omega) only [N, nil_ptr, gG, fa124_0, fa124_2, fa47_0, shift_ptr, shift_pptr, Nat.zero_add, Nat.add_zero, pureFn_fn, List.append_nil, List.singleton_append, List.cons_append, List.nil_append, load4, rd, hls, b_eql, eqT e, t1, d1, bl, zero52, st, load45, rg, sub1, i1, load3, l1, i2, l2, s96, c1]
    | true =>
      cases c2 : isF x (A.drop b) && !hol x (L f) A b with
      | false =>
        have c : fnd x (L f) b A = false := by rw [ef, c1, c2]; rfl
        rw [c2] at s135
        refine ⟨τ, F81_call ?_, .inl ⟨by rw [c]; rfl, g1⟩, keep, by omega⟩
        rw [F81_eq]
        simp (maxSteps := 4000000) (disch := omega) only [N, nil_ptr, gG, fa124_0, fa124_2, fa47_0, shift_ptr, shift_pptr, Nat.zero_add, Nat.add_zero, pureFn_fn, List.append_nil, List.singleton_append, List.cons_append, List.nil_append, load4, rd, hls, b_eql, eqT e, t1, d1, bl, zero52, st, load45, rg, sub1, i1, load3, l1, i2, l2, s96, c1, load52, ldw, s135]
      | true =>
        have c : fnd x (L f) b A = true := by rw [ef, c1, c2]; rfl
        rw [c2] at s135
        have st2 := st_fd (lo := lo) g1 hlo true
        have g3 : (τ.set r (.mix (rC x f true lp ll)))[r]? = some (.mix (rC x f true lp ll)) := by rw [List.getElem?_set_self (get_lt g1)]
        have g4 : (τ.set r (.mix (rC x f true lp ll)))[σ.length]? = some (.mix [y1, y2]) := set_keep g2 (by omega)
        have a0 : load1 (.ptr σ.length 0) (τ.set r (.mix (rC x f true lp ll))) = some y1 := load1_ptr g4 rfl
        have a1 : load1 (.ptr σ.length 1) (τ.set r (.mix (rC x f true lp ll))) = some y2 := load1_ptr g4 rfl
        obtain ⟨u1, w1, w2⟩ := t2.vw
        obtain ⟨u2, w3, w4⟩ := d2.vw
        have q1 : ∀ σ, pureV CC 52 [y1] σ = some (.p (eSl (some (A.take b)))) := fun σ => by
          rw [pureV_view (args' := [.p (eSl u1)]) (by simp [w1]) (by simp [sl_view]), S52 (by rw [w2, lt]; omega), w2]
        have q2 : ∀ σ, pureV CC 52 [y2] σ = some (.p (eSl (some (A.drop b)))) := fun σ => by
          rw [pureV_view (args' := [.p (eSl u2)]) (by simp [w3]) (by simp [sl_view]), S52 (by rw [w4, ld]; omega), w4]
        have bl2 := bld52y (p := .p (eSl (some (A.take b)))) (q := .p (eSl (some (A.drop b)))) rfl rfl
        have st3 := st_ls (lo := lo) (p' := .p (eSl (some (A.take b)))) (q' := .p (eSl (some (A.drop b)))) g3 hlo rfl rfl
        refine ⟨(τ.set r (.mix (rC x f true lp ll))).set r (.mix (rC x f true (.p (eSl (some (A.take b)))) (.p (eSl (some (A.drop b)))))), F81_call ?_, .inr ⟨A, some (A.take b), some (A.drop b), by rw [c]; rfl, ?_, rfl, rfl⟩, fun j row hj hg => set_keep (set_keep (keep j row hj hg) (by omega)) (by omega), by simp; omega⟩
        · rw [F81_eq]
          simp (maxSteps := 4000000) (disch := omega) only [N, nil_ptr, gG, fa124_0, fa124_2, fa124_3, fa52_0, fa52_1, fa47_0, shift_ptr, shift_pptr, Nat.zero_add, Nat.add_zero, pureFn_fn, List.append_nil, List.singleton_append, List.cons_append, List.nil_append, load4, rd, hls, b_eql, eqT e, t1, d1, bl, zero52, st, load45, rg, sub1, i1, load3, l1, i2, l2, s96, c1, load52, ldw, s135, st2, load24, a0, a1, q1, q2, bl2, st3]
        · rw [List.getElem?_set_self (get_lt g3)]
  | k + 1, lo, r, A, σ, sv, lp, ll, hA, hin, hr, hs, hlo => by
    have rd := rc_d hr
    have hls := hs.len
    have e : ¬ ((A.length : Nat) : Int) = (n : Nat) := by omega
    obtain ⟨σ', a1, a2, a3, a4⟩ := L81 hx hk hn (goes2 k) hlo hA hin hs x.g.n.toNat 0 σ (by omega) hr
    refine ⟨σ', F81_call ?_, a2, a3, a4⟩
    rw [← a1, F81_eq]
    simp (maxSteps := 4000000) (disch := omega) only [N, nil_ptr, gG, fa124_2, shift_ptr, shift_pptr, Nat.zero_add, Nat.add_zero, pureFn_fn, List.append_nil, List.singleton_append, List.cons_append, List.nil_append, load4, rd, hls, b_eql, eqF e]
    rfl
end
end Go.D
end
/- Equations of functions 4, printed by gen.py. -/
section
set_option linter.unusedVariables false
set_option maxRecDepth 10000
namespace Go.D
open Go.Proofs
noncomputable section
variable (G : GuardT) (lo : Nat) {σ : Store} {r : DV × Store}
open _root_.Go.D.Code (fstC sndC)
open _root_.Go.D.Ann (left right)
def c4_0 : Code := bodyOf Tryz.f4
def a4_0 : Ann := (pol 4).ann
def c4_26 : Code := sndC (sndC (sndC (sndC (sndC c4_0))))
def a4_26 : Ann := right (right (right (right (right a4_0))))
def c4_28 : Code := sndC c4_26
def a4_28 : Ann := right a4_26
def c4_36 : Code := sndC c4_28
def a4_36 : Ann := right a4_28
def c4_38 : Code := sndC c4_36
def a4_38 : Ann := right a4_36
def f4_J0_fr (x0 x1 x2 x3 x6 x7 x13 x14 x15 x16 x17 x18 x19 x20 x21 x22 x23 x24 x25 x26 x27 x28 : DV) : Frame := (x0 :: x1 :: x2 :: x3 :: Z :: Z :: x6 :: x7 :: zn 5 (x13 :: x14 :: x15 :: x16 :: x17 :: x18 :: x19 :: x20 :: x21 :: x22 :: x23 :: x24 :: x25 :: x26 :: x27 :: x28 :: zn 95 []))
def f4_J0 (x0 x1 x2 x3 x6 x7 x13 x14 x15 x16 x17 x18 x19 x20 x21 x22 x23 x24 x25 x26 x27 x28 : DV) (σ : Store) : RS :=
 (seqC G PP (pol 4) CC lo c4_26 a4_26 (finR PP Tryz.f4.results.toList)) .normal (f4_J0_fr x0 x1 x2 x3 x6 x7 x13 x14 x15 x16 x17 x18 x19 x20 x21 x22 x23 x24 x25 x26 x27 x28) σ
def f4_J1_fr (x0 x1 x2 x3 x6 x7 x8 x13 x14 x15 x16 x17 x18 x19 x20 x21 x22 x23 x24 x25 x26 x27 x28 x29 x30 x31 x32 x33 x34 x35 x36 x37 x38 x39 x40 x41 x42 x43 x44 x45 x46 x47 x48 x49 x50 x51 x52 x53 : DV) : Frame := (x0 :: x1 :: x2 :: x3 :: Z :: Z :: x6 :: x7 :: x8 :: Z :: Z :: Z :: Z :: x13 :: x14 :: x15 :: x16 :: x17 :: x18 :: x19 :: x20 :: x21 :: x22 :: x23 :: x24 :: x25 :: x26 :: x27 :: x28 :: x29 :: x30 :: x31 :: x32 :: x33 :: x34 :: x35 :: x36 :: x37 :: x38 :: x39 :: x40 :: x41 :: x42 :: x43 :: x44 :: x45 :: x46 :: x47 :: x48 :: x49 :: x50 :: x51 :: x52 :: x53 :: zn 70 [])
def f4_J1 (x0 x1 x2 x3 x6 x7 x8 x13 x14 x15 x16 x17 x18 x19 x20 x21 x22 x23 x24 x25 x26 x27 x28 x29 x30 x31 x32 x33 x34 x35 x36 x37 x38 x39 x40 x41 x42 x43 x44 x45 x46 x47 x48 x49 x50 x51 x52 x53 : DV) (σ : Store) : RS :=
 (seqC G PP (pol 4) CC lo c4_28 a4_28 (finR PP Tryz.f4.results.toList)) .normal (f4_J1_fr x0 x1 x2 x3 x6 x7 x8 x13 x14 x15 x16 x17 x18 x19 x20 x21 x22 x23 x24 x25 x26 x27 x28 x29 x30 x31 x32 x33 x34 x35 x36 x37 x38 x39 x40 x41 x42 x43 x44 x45 x46 x47 x48 x49 x50 x51 x52 x53) σ
def f4_J2_fr (x0 x1 x2 x3 x6 x7 x8 x13 x14 x15 x16 x17 x18 x19 x20 x21 x22 x23 x24 x25 x26 x27 x28 x29 x30 x31 x32 x33 x34 x35 x36 x37 x38 x39 x40 x41 x42 x43 x44 x45 x46 x47 x48 x49 x50 x51 x52 x53 x54 x55 x56 x57 x58 x59 x60 x61 x62 x63 : DV) : Frame := (x0 :: x1 :: x2 :: x3 :: Z :: Z :: x6 :: x7 :: x8 :: Z :: Z :: Z :: Z :: x13 :: x14 :: x15 :: x16 :: x17 :: x18 :: x19 :: x20 :: x21 :: x22 :: x23 :: x24 :: x25 :: x26 :: x27 :: x28 :: x29 :: x30 :: x31 :: x32 :: x33 :: x34 :: x35 :: x36 :: x37 :: x38 :: x39 :: x40 :: x41 :: x42 :: x43 :: x44 :: x45 :: x46 :: x47 :: x48 :: x49 :: x50 :: x51 :: x52 :: x53 :: x54 :: x55 :: x56 :: x57 :: x58 :: x59 :: x60 :: x61 :: x62 :: x63 :: zn 60 [])
def f4_J2 (x0 x1 x2 x3 x6 x7 x8 x13 x14 x15 x16 x17 x18 x19 x20 x21 x22 x23 x24 x25 x26 x27 x28 x29 x30 x31 x32 x33 x34 x35 x36 x37 x38 x39 x40 x41 x42 x43 x44 x45 x46 x47 x48 x49 x50 x51 x52 x53 x54 x55 x56 x57 x58 x59 x60 x61 x62 x63 : DV) (σ : Store) : RS :=
 (seqC G PP (pol 4) CC lo c4_36 a4_36 (finR PP Tryz.f4.results.toList)) .normal (f4_J2_fr x0 x1 x2 x3 x6 x7 x8 x13 x14 x15 x16 x17 x18 x19 x20 x21 x22 x23 x24 x25 x26 x27 x28 x29 x30 x31 x32 x33 x34 x35 x36 x37 x38 x39 x40 x41 x42 x43 x44 x45 x46 x47 x48 x49 x50 x51 x52 x53 x54 x55 x56 x57 x58 x59 x60 x61 x62 x63) σ
def f4_J3_fr (x0 x1 x2 x3 x6 x7 x8 x9 x10 x13 x14 x15 x16 x17 x18 x19 x20 x21 x22 x23 x24 x25 x26 x27 x28 x29 x30 x31 x32 x33 x34 x35 x36 x37 x38 x39 x40 x41 x42 x43 x44 x45 x46 x47 x48 x49 x50 x51 x52 x53 x54 x55 x56 x57 x58 x59 x60 x61 x62 x63 x64 x65 x66 x67 x68 x69 x70 x71 x72 : DV) : Frame := (x0 :: x1 :: x2 :: x3 :: Z :: Z :: x6 :: x7 :: x8 :: x9 :: x10 :: Z :: Z :: x13 :: x14 :: x15 :: x16 :: x17 :: x18 :: x19 :: x20 :: x21 :: x22 :: x23 :: x24 :: x25 :: x26 :: x27 :: x28 :: x29 :: x30 :: x31 :: x32 :: x33 :: x34 :: x35 :: x36 :: x37 :: x38 :: x39 :: x40 :: x41 :: x42 :: x43 :: x44 :: x45 :: x46 :: x47 :: x48 :: x49 :: x50 :: x51 :: x52 :: x53 :: x54 :: x55 :: x56 :: x57 :: x58 :: x59 :: x60 :: x61 :: x62 :: x63 :: x64 :: x65 :: x66 :: x67 :: x68 :: x69 :: x70 :: x71 :: x72 :: zn 51 [])
def f4_J3 (x0 x1 x2 x3 x6 x7 x8 x9 x10 x13 x14 x15 x16 x17 x18 x19 x20 x21 x22 x23 x24 x25 x26 x27 x28 x29 x30 x31 x32 x33 x34 x35 x36 x37 x38 x39 x40 x41 x42 x43 x44 x45 x46 x47 x48 x49 x50 x51 x52 x53 x54 x55 x56 x57 x58 x59 x60 x61 x62 x63 x64 x65 x66 x67 x68 x69 x70 x71 x72 : DV) (σ : Store) : RS :=
 (seqC G PP (pol 4) CC lo c4_38 a4_38 (finR PP Tryz.f4.results.toList)) .normal (f4_J3_fr x0 x1 x2 x3 x6 x7 x8 x9 x10 x13 x14 x15 x16 x17 x18 x19 x20 x21 x22 x23 x24 x25 x26 x27 x28 x29 x30 x31 x32 x33 x34 x35 x36 x37 x38 x39 x40 x41 x42 x43 x44 x45 x46 x47 x48 x49 x50 x51 x52 x53 x54 x55 x56 x57 x58 x59 x60 x61 x62 x63 x64 x65 x66 x67 x68 x69 x70 x71 x72) σ
def F4 (x0 x1 x2 : DV) (σ : Store) : RS :=
 codeF G PP (pol 4) CC lo c4_0 a4_0 (x0 :: x1 :: x2 :: zn 121 []) σ (finR PP Tryz.f4.results.toList)
theorem f4_J0_eq (G : GuardT) (lo : Nat) (x0 x1 x2 x3 x6 x7 x13 x14 x15 x16 x17 x18 x19 x20 x21 x22 x23 x24 x25 x26 x27 x28 : DV) (σ : Store) : f4_J0 G lo x0 x1 x2 x3 x6 x7 x13 x14 x15 x16 x17 x18 x19 x20 x21 x22 x23 x24 x25 x26 x27 x28 σ =
 (fieldAddr PP 47 x3 0).bind fun x29 =>
 (fieldAddr PP 45 x29 0).bind fun x30 =>
 (load PP 3 x30 σ).bind fun x31 =>
 (binOp PP .leq 3 x31 (DV.p (PV.int IntKind.i64 (4)))).bind fun x32 =>
 G _ x32 true (some (x2, σ)) σ fun x34 σ4 =>
 G _ x32 true ((binOp PP .leq 3 x34 (DV.p (PV.int IntKind.i64 (5)))).bind fun v => some (v, σ4)) σ4 fun x35 σ5 =>
 (pickV x32 x35 (DV.p (PV.bool false))).bind fun x36 =>
 G _ x36 false ((fieldAddr PP 47 x3 0).bind fun v => some (v, σ5)) σ5 fun x38 σ6 =>
 G _ x36 false ((fieldAddr PP 45 x38 0).bind fun v => some (v, σ6)) σ6 fun x39 σ7 =>
 G _ x36 false ((load PP 3 x39 σ7).bind fun v => some (v, σ7)) σ7 fun x40 σ8 =>
 G _ x36 false ((binOp PP .leq 3 x40 (DV.p (PV.int IntKind.i64 (12)))).bind fun v => some (v, σ8)) σ8 fun x41 σ9 =>
 G _ x36 false (some (x41, σ9)) σ9 fun x42 σ10 =>
 G _ x42 true ((fieldAddr PP 47 x3 0).bind fun v => some (v, σ10)) σ10 fun x43 σ11 =>
 G _ x42 true ((fieldAddr PP 45 x43 2).bind fun v => some (v, σ11)) σ11 fun x44 σ12 =>
 G _ x42 true ((load PP 43 x44 σ12).bind fun v => some (v, σ12)) σ12 fun x45 σ13 =>
 G _ x42 true ((len PP 43 x45 σ13).bind fun v => some (v, σ13)) σ13 fun x46 σ14 =>
 G _ x42 true ((binOp PP .leq 3 x46 (DV.p (PV.int IntKind.i64 (20)))).bind fun v => some (v, σ14)) σ14 fun x47 σ15 =>
 G _ x36 false ((pickV x42 x47 (DV.p (PV.bool false))).bind fun v => some (v, σ15)) σ15 fun x48 σ16 =>
 G _ x36 false (some (x48, σ16)) σ16 fun x49 σ17 =>
 G _ x49 true (some (x2, σ17)) σ17 fun x50 σ18 =>
 G _ x49 true ((binOp PP .leq 3 x50 (DV.p (PV.int IntKind.i64 (3)))).bind fun v => some (v, σ18)) σ18 fun x51 σ19 =>
 G _ x36 false ((pickV x49 x51 (DV.p (PV.bool false))).bind fun v => some (v, σ19)) σ19 fun x52 σ20 =>
 (pickV x36 (DV.p (PV.bool true)) x52).bind fun x53 =>
 f4_J1 G lo x0 x1 x2 x3 x6 x7 x53 x13 x14 x15 x16 x17 x18 x19 x20 x21 x22 x23 x24 x25 x26 x27 x28 x29 x30 x31 x32 x32 x34 x35 x36 x36 x38 x39 x40 x41 x42 x43 x44 x45 x46 x47 x48 x49 x50 x51 x52 x53 σ20 := by kernel_rfl
theorem f4_J1_eq (G : GuardT) (lo : Nat) (x0 x1 x2 x3 x6 x7 x8 x13 x14 x15 x16 x17 x18 x19 x20 x21 x22 x23 x24 x25 x26 x27 x28 x29 x30 x31 x32 x33 x34 x35 x36 x37 x38 x39 x40 x41 x42 x43 x44 x45 x46 x47 x48 x49 x50 x51 x52 x53 : DV) (σ : Store) : f4_J1 G lo x0 x1 x2 x3 x6 x7 x8 x13 x14 x15 x16 x17 x18 x19 x20 x21 x22 x23 x24 x25 x26 x27 x28 x29 x30 x31 x32 x33 x34 x35 x36 x37 x38 x39 x40 x41 x42 x43 x44 x45 x46 x47 x48 x49 x50 x51 x52 x53 σ =
 (binOp PP .eql 3 x7 I0).bind fun x55 =>
 G _ x55 true (some (x2, σ)) σ fun x57 σ21 =>
 G _ x55 true ((pureFn CC (DV.fn 26 []) [x57, I1, (DV.p (PV.int IntKind.i64 (6)))] σ21).bind fun v => some (v, σ21)) σ21 fun x58 σ22 =>
 (pickV x55 x58 (DV.p (PV.bool false))).bind fun x59 =>
 G _ x59 true (some (x8, σ22)) σ22 fun x61 σ23 =>
 G _ x59 true ((unOp .not x61).bind fun v => some (v, σ23)) σ23 fun x62 σ24 =>
 (pickV x59 x62 (DV.p (PV.bool false))).bind fun x63 =>
 condK x63
 (
 some ((DV.p (PV.bool true)), σ24)
 )
 (
 f4_J2 G lo x0 x1 x2 x3 x6 x7 x8 x13 x14 x15 x16 x17 x18 x19 x20 x21 x22 x23 x24 x25 x26 x27 x28 x29 x30 x31 x32 x33 x34 x35 x36 x37 x38 x39 x40 x41 x42 x43 x44 x45 x46 x47 x48 x49 x50 x51 x52 x53 x7 x55 x55 x57 x58 x59 x59 x61 x62 x63 σ24
 ) := by kernel_rfl
theorem f4_J2_eq (G : GuardT) (lo : Nat) (x0 x1 x2 x3 x6 x7 x8 x13 x14 x15 x16 x17 x18 x19 x20 x21 x22 x23 x24 x25 x26 x27 x28 x29 x30 x31 x32 x33 x34 x35 x36 x37 x38 x39 x40 x41 x42 x43 x44 x45 x46 x47 x48 x49 x50 x51 x52 x53 x54 x55 x56 x57 x58 x59 x60 x61 x62 x63 : DV) (σ : Store) : f4_J2 G lo x0 x1 x2 x3 x6 x7 x8 x13 x14 x15 x16 x17 x18 x19 x20 x21 x22 x23 x24 x25 x26 x27 x28 x29 x30 x31 x32 x33 x34 x35 x36 x37 x38 x39 x40 x41 x42 x43 x44 x45 x46 x47 x48 x49 x50 x51 x52 x53 x54 x55 x56 x57 x58 x59 x60 x61 x62 x63 σ =
 (load PP 47 x3 σ).bind fun x65 =>
 (pureFn CC (DV.fn 28 []) [x65] σ).bind fun x66 =>
 (pureFn CC (DV.fn 19 []) [x1] σ).bind fun x68 =>
 (pureFn CC (DV.fn 27 []) [x66, x68, x2] σ).bind fun x70 =>
 (extractV x70 0).bind fun x71 =>
 (extractV x70 1).bind fun x72 =>
 (zeroOf PP 52).bind fun z9 =>
 (store PP lo 52 (DV.ptr (List.length σ) 0) x71 (σ ++ [Row.mix z9])).bind fun σ25 =>
 f4_J3 G lo x0 x1 x2 x3 x6 x7 x8 (DV.ptr (List.length σ) 0) x72 x13 x14 x15 x16 x17 x18 x19 x20 x21 x22 x23 x24 x25 x26 x27 x28 x29 x30 x31 x32 x33 x34 x35 x36 x37 x38 x39 x40 x41 x42 x43 x44 x45 x46 x47 x48 x49 x50 x51 x52 x53 x54 x55 x56 x57 x58 x59 x60 x61 x62 x63 x70 x65 x66 x1 x68 x2 x70 x71 x72 σ25 := by kernel_rfl
theorem f4_J3_eq (G : GuardT) (lo : Nat) (x0 x1 x2 x3 x6 x7 x8 x9 x10 x13 x14 x15 x16 x17 x18 x19 x20 x21 x22 x23 x24 x25 x26 x27 x28 x29 x30 x31 x32 x33 x34 x35 x36 x37 x38 x39 x40 x41 x42 x43 x44 x45 x46 x47 x48 x49 x50 x51 x52 x53 x54 x55 x56 x57 x58 x59 x60 x61 x62 x63 x64 x65 x66 x67 x68 x69 x70 x71 x72 : DV) (σ : Store) : f4_J3 G lo x0 x1 x2 x3 x6 x7 x8 x9 x10 x13 x14 x15 x16 x17 x18 x19 x20 x21 x22 x23 x24 x25 x26 x27 x28 x29 x30 x31 x32 x33 x34 x35 x36 x37 x38 x39 x40 x41 x42 x43 x44 x45 x46 x47 x48 x49 x50 x51 x52 x53 x54 x55 x56 x57 x58 x59 x60 x61 x62 x63 x64 x65 x66 x67 x68 x69 x70 x71 x72 σ =
 (binOp PP .eql 3 x7 I0).bind fun x74 =>
 G _ x74 true (some (x2, σ)) σ fun x76 σ26 =>
 G _ x74 true ((pureFn CC (DV.fn 26 []) [x76, I1, (DV.p (PV.int IntKind.i64 (6)))] σ26).bind fun v => some (v, σ26)) σ26 fun x77 σ27 =>
 G _ x74 true ((unOp .not x77).bind fun v => some (v, σ27)) σ27 fun x78 σ28 =>
 (pickV x74 x78 (DV.p (PV.bool false))).bind fun x79 =>
 condK x79
 (
 (binOp PP .neq 3 (DV.p (PV.int IntKind.i64 (3))) I0).bind fun x81 =>
 condK x81
 (
 (binOp PP .eql 3 x10 (DV.p (PV.int IntKind.i64 (3)))).bind fun x84 =>
 G _ x84 true ((load PP 52 x9 σ28).bind fun v => some (v, σ28)) σ28 fun x86 σ29 =>
 G _ x84 true ((build PP 52 []).bind fun v => some (v, σ29)) σ29 fun x87 σ30 =>
 G _ x84 true ((pureFn CC (DV.fn 29 []) [x86, x87] σ30).bind fun v => some (v, σ30)) σ30 fun x88 σ31 =>
 (pickV x84 x88 (DV.p (PV.bool false))).bind fun x89 =>
 some (x89, σ31)
 )
 (
 (binOp PP .eql 30 x10 (DV.p (PV.int IntKind.i64 (37)))).bind fun x91 =>
 condK x91
 (
 (fieldAddr PP 47 x3 0).bind fun x92 =>
 (fieldAddr PP 45 x92 0).bind fun x93 =>
 (load PP 3 x93 σ28).bind fun x94 =>
 (binOp PP .gtr 3 x94 (DV.p (PV.int IntKind.i64 (6)))).bind fun x95 =>
 G _ x95 true ((load PP 52 x9 σ28).bind fun v => some (v, σ28)) σ28 fun x97 σ32 =>
 G _ x95 true ((build PP 52 []).bind fun v => some (v, σ32)) σ32 fun x98 σ33 =>
 G _ x95 true ((pureFn CC (DV.fn 29 []) [x97, x98] σ33).bind fun v => some (v, σ33)) σ33 fun x99 σ34 =>
 (pickV x95 x99 (DV.p (PV.bool false))).bind fun x100 =>
 some (x100, σ34)
 )
 (
 (load PP 47 x3 σ28).bind fun x102 =>
 (pureFn CC (DV.fn 30 []) [x102, x1, x2] σ28).bind fun x105 =>
 (extractV x105 0).bind fun x106 =>
 (extractV x105 1).bind fun x107 =>
 (zeroOf PP 52).bind fun z11 =>
 (store PP lo 52 (DV.ptr (List.length σ28) 0) x106 (σ28 ++ [Row.mix z11])).bind fun σ35 =>
 (unOp .not x107).bind fun x109 =>
 condK x109
 (
 (binOp PP .eql 30 x10 (DV.p (PV.int IntKind.i64 (25)))).bind fun x111 =>
 G _ x111 true ((load PP 52 x9 σ35).bind fun v => some (v, σ35)) σ35 fun x113 σ36 =>
 G _ x111 true ((build PP 52 []).bind fun v => some (v, σ36)) σ36 fun x114 σ37 =>
 G _ x111 true ((pureFn CC (DV.fn 29 []) [x113, x114] σ37).bind fun v => some (v, σ37)) σ37 fun x115 σ38 =>
 (pickV x111 x115 (DV.p (PV.bool false))).bind fun x116 =>
 some (x116, σ38)
 )
 (
 (binOp PP .eql 30 x10 I0).bind fun x118 =>
 G _ x118 true ((load PP 52 x9 σ35).bind fun v => some (v, σ35)) σ35 fun x120 σ39 =>
 G _ x118 true ((load PP 52 (DV.ptr (List.length σ28) 0) σ39).bind fun v => some (v, σ39)) σ39 fun x121 σ40 =>
 G _ x118 true ((pureFn CC (DV.fn 29 []) [x120, x121] σ40).bind fun v => some (v, σ40)) σ40 fun x122 σ41 =>
 (pickV x118 x122 (DV.p (PV.bool false))).bind fun x123 =>
 some (x123, σ41)
 )
 )
 )
 )
 (
 (binOp PP .neq 3 x7 I0).bind fun x81 =>
 condK x81
 (
 (binOp PP .eql 3 x10 x7).bind fun x84 =>
 G _ x84 true ((load PP 52 x9 σ28).bind fun v => some (v, σ28)) σ28 fun x86 σ42 =>
 G _ x84 true ((build PP 52 []).bind fun v => some (v, σ42)) σ42 fun x87 σ43 =>
 G _ x84 true ((pureFn CC (DV.fn 29 []) [x86, x87] σ43).bind fun v => some (v, σ43)) σ43 fun x88 σ44 =>
 (pickV x84 x88 (DV.p (PV.bool false))).bind fun x89 =>
 some (x89, σ44)
 )
 (
 (binOp PP .eql 30 x10 (DV.p (PV.int IntKind.i64 (37)))).bind fun x91 =>
 condK x91
 (
 (fieldAddr PP 47 x3 0).bind fun x92 =>
 (fieldAddr PP 45 x92 0).bind fun x93 =>
 (load PP 3 x93 σ28).bind fun x94 =>
 (binOp PP .gtr 3 x94 (DV.p (PV.int IntKind.i64 (6)))).bind fun x95 =>
 G _ x95 true ((load PP 52 x9 σ28).bind fun v => some (v, σ28)) σ28 fun x97 σ45 =>
 G _ x95 true ((build PP 52 []).bind fun v => some (v, σ45)) σ45 fun x98 σ46 =>
 G _ x95 true ((pureFn CC (DV.fn 29 []) [x97, x98] σ46).bind fun v => some (v, σ46)) σ46 fun x99 σ47 =>
 (pickV x95 x99 (DV.p (PV.bool false))).bind fun x100 =>
 some (x100, σ47)
 )
 (
 (load PP 47 x3 σ28).bind fun x102 =>
 (pureFn CC (DV.fn 30 []) [x102, x1, x2] σ28).bind fun x105 =>
 (extractV x105 0).bind fun x106 =>
 (extractV x105 1).bind fun x107 =>
 (zeroOf PP 52).bind fun z11 =>
 (store PP lo 52 (DV.ptr (List.length σ28) 0) x106 (σ28 ++ [Row.mix z11])).bind fun σ48 =>
 (unOp .not x107).bind fun x109 =>
 condK x109
 (
 (binOp PP .eql 30 x10 (DV.p (PV.int IntKind.i64 (25)))).bind fun x111 =>
 G _ x111 true ((load PP 52 x9 σ48).bind fun v => some (v, σ48)) σ48 fun x113 σ49 =>
 G _ x111 true ((build PP 52 []).bind fun v => some (v, σ49)) σ49 fun x114 σ50 =>
 G _ x111 true ((pureFn CC (DV.fn 29 []) [x113, x114] σ50).bind fun v => some (v, σ50)) σ50 fun x115 σ51 =>
 (pickV x111 x115 (DV.p (PV.bool false))).bind fun x116 =>
 some (x116, σ51)
 )
 (
 (binOp PP .eql 30 x10 I0).bind fun x118 =>
 G _ x118 true ((load PP 52 x9 σ48).bind fun v => some (v, σ48)) σ48 fun x120 σ52 =>
 G _ x118 true ((load PP 52 (DV.ptr (List.length σ28) 0) σ52).bind fun v => some (v, σ52)) σ52 fun x121 σ53 =>
 G _ x118 true ((pureFn CC (DV.fn 29 []) [x120, x121] σ53).bind fun v => some (v, σ53)) σ53 fun x122 σ54 =>
 (pickV x118 x122 (DV.p (PV.bool false))).bind fun x123 =>
 some (x123, σ54)
 )
 )
 )
 ) := by kernel_rfl
theorem F4_eq (G : GuardT) (lo : Nat) (x0 x1 x2 : DV) (σ : Store) : F4 G lo x0 x1 x2 σ =
 (boxP x0).bind fun x3 =>
 (pureFn CC (DV.fn 12 []) [] σ).bind fun x13 =>
 (unOp .not x13).bind fun x14 =>
 condK x14
 (
 some ((DV.p (PV.bool false)), σ)
 )
 (
 (pureFn CC (DV.fn 13 []) [x1] σ).bind fun x16 =>
 (unOp .not x16).bind fun x17 =>
 G _ x17 false ((load PP 47 x3 σ).bind fun v => some (v, σ)) σ fun x19 σ1 =>
 G _ x17 false ((pureFn CC (DV.fn 23 []) [x19] σ1).bind fun v => some (v, σ1)) σ1 fun x20 σ2 =>
 G _ x17 false ((unOp .not x20).bind fun v => some (v, σ2)) σ2 fun x21 σ3 =>
 (pickV x17 (DV.p (PV.bool true)) x21).bind fun x22 =>
 condK x22
 (
 some ((DV.p (PV.bool true)), σ3)
 )
 (
 (load PP 47 x3 σ3).bind fun x23 =>
 (pureFn CC (DV.fn 24 []) [x23] σ3).bind fun x24 =>
 (binOp PP .eql 3 x24 I0).bind fun x26 =>
 condK x26
 (
 (pureFn CC (DV.fn 25 []) [x1] σ3).bind fun x28 =>
 f4_J0 G lo x0 x1 x2 x3 (DV.p (PV.bool false)) x28 x13 x14 x1 x16 x17 x17 x19 x20 x21 x22 x23 x24 x24 x26 x1 x28 σ3
 )
 (
 f4_J0 G lo x0 x1 x2 x3 (DV.p (PV.bool false)) x24 x13 x14 x1 x16 x17 x17 x19 x20 x21 x22 x23 x24 x24 x26 Z Z σ3
 )
 )
 ) := by kernel_rfl
theorem F4_call {lo : Nat} {x0 x1 x2 : DV} (h : F4 guardT lo x0 x1 x2 σ = some r) : CC lo 4 [x0, x1, x2] σ = some r :=
 callL_run Tryz.func4 (by decide +kernel) rfl (by decide +kernel) h
end
end Go.D
end
/- Chapter 13: LassoFirst's law. -/
section
set_option linter.unusedVariables false
set_option linter.unusedSimpArgs false
set_option maxRecDepth 8000
namespace Go.D
open Las
theorem bld124 (a1 a2 a3 a4 a5 a6 a7 a8 ff : PV) : build PP 124 [(0, .agg [.p a1, .p a2, .p a3, .p a4, .p a5, .p a6, .p a7, .p a8]), (1, .p ff)] = some (.agg [.p a1, .p a2, .p a3, .p a4, .p a5, .p a6, .p a7, .p a8, .p ff, .p (.bool false), .p .nilsl, .p .nilsl]) := Eq.trans (by kernel_rfl) rfl
theorem wd_thaw2 (u : Wd) (b : Bool) (m : Nat) (σ : Store) : thawAll m σ (.tuple [vWd u, .p (.bool b)]) = some (.tuple [vWd u, .p (.bool b)]) := by
  simp [thawAll, mapO, thawPart, vWd, thaw, thaw1, thawP, loosen_sl, loosen]
section
variable {x : Lb} (hx : LSm x) (hk : LbOk x) {f : Fm} (hf : FSm f) (hF : Ok (L f)) {most : Nat} (hm : most ≤ 6)
include hm
omit hm in
theorem L30_x1 {size i : Nat} (hs : size ≤ 10) (hi : i ≤ size) {σ : Store} {p q : DV} (h : σ[1]? = some (.mix (rC x f true p q))) :
    f30_L1 guardT 0 (N most) (.ptr 0 0) (.ptr 1 0) (N size) (N i) σ = f30_L0 guardT 0 (N most) (.ptr 0 0) (.ptr 1 0) (N (size + 1)) σ := by
  have rd := rc_d h
  rw [f30_L1_eq guardT rfl]
  by_cases c : ((i : Nat) : Int) < (size : Nat)
  · simp (disch := omega) only [N, b_lss, ltT c, gG, nil_ptr, fa124_2, shift_ptr, shift_pptr, Nat.zero_add, Nat.add_zero, pureFn_fn, List.append_nil, List.singleton_append, List.cons_append, List.nil_append, load4, rd, add1]
  · simp (disch := omega) only [N, b_lss, ltF c, gG, add1]
omit hm in
theorem L30_x0 {size : Nat} {fd : Bool} (hs : size ≤ 10) (hfd : fd = true ∨ size = most + 1) {σ : Store} {z : List DV} (hz : z.length = 2) {o1 o2 : OI} (h : σ[1]? = some (.mix (rC x f fd (.p (eSl o1)) (.p (eSl o2))))) (h0 : σ[0]? = some (.mix z)) :
    ∃ σ', f30_L0 guardT 0 (N most) (.ptr 0 0) (.ptr 1 0) (N size) σ = some (.tuple [vWd ⟨o1, o2⟩, .p (.bool fd)], σ') := by
  have rd := rc_d h
  have rl := rc_l h
  have st := st52m (lo := 0) (p := .p (eSl o1)) (q := .p (eSl o2)) h0 hz (Nat.zero_le _) rfl rfl
  have ce := cell52 (σ := σ.set 0 (.mix [.p (eSl o1), .p (eSl o2)])) (r := 0) (p := .p (eSl o1)) (q := .p (eSl o2)) (by rw [List.getElem?_set_self (get_lt h0)])
  have rd2 := rc_d (σ := σ.set 0 (.mix [.p (eSl o1), .p (eSl o2)])) (set_keep h (by decide))
  have ev : (DV.agg [.p (eSl o1), .p (eSl o2)]) = vWd ⟨o1, o2⟩ := rfl
  rw [ev] at st
  have hsame : sameV (some (DV.p (PV.bool fd))) (some (DV.p (PV.bool fd))) = true := by cases fd <;> rfl
  refine ⟨σ.set 0 (.mix [.p (eSl o1), .p (eSl o2)]), ?_⟩
  rw [f30_L0_eq guardT rfl]
  by_cases c : ((size : Nat) : Int) ≤ (most : Nat)
  · have hfd' : fd = true := by rcases hfd with h | h; exact h; omega
    subst hfd'
    simp (disch := omega) only [N, b_leq, leT c, gG, nil_ptr, fa124_2, fa124_3, shift_ptr, shift_pptr, Nat.zero_add, Nat.add_zero, pureFn_fn, List.append_nil, List.singleton_append, List.cons_append, List.nil_append, load4, rd, load52, rl, st, List.all_cons, List.all_nil, rd2, hsame, Bool.and_self, cond_true, ce, ev]
  · simp (disch := omega) only [N, b_leq, leF c, gG, nil_ptr, fa124_2, fa124_3, shift_ptr, shift_pptr, Nat.zero_add, Nat.add_zero, pureFn_fn, List.append_nil, List.singleton_append, List.cons_append, List.nil_append, load4, rd, load52, rl, st, List.all_cons, List.all_nil, rd2, hsame, Bool.and_self, cond_true, ce, ev]
include hx hk hf hF
omit hm in
theorem L30_1 {size : Nat} (hsz : 1 ≤ size ∧ size ≤ 6) {z : List DV} : ∀ (d i : Nat) (σ : Store), i + d = size → σ[0]? = some (.mix z) → σ[1]? = some (.mix (rC x f false (.p .nilsl) (.p .nilsl))) →
    (∀ A b, lpP x (L f) size i d = some (A, b) → ∃ (o1 o2 : OI) (σ' : Store), f30_L1 guardT 0 (N most) (.ptr 0 0) (.ptr 1 0) (N size) (N i) σ = f30_L0 guardT 0 (N most) (.ptr 0 0) (.ptr 1 0) (N (size + 1)) σ' ∧ L o1 = A.take b ∧ L o2 = A.drop b ∧ σ'[0]? = some (.mix z) ∧ σ'[1]? = some (.mix (rC x f true (.p (eSl o1)) (.p (eSl o2))))) ∧
    (lpP x (L f) size i d = none → ∃ σ', f30_L1 guardT 0 (N most) (.ptr 0 0) (.ptr 1 0) (N size) (N i) σ = f30_L0 guardT 0 (N most) (.ptr 0 0) (.ptr 1 0) (N (size + 1)) σ' ∧ σ'[0]? = some (.mix z) ∧ σ'[1]? = some (.mix (rC x f false (.p .nilsl) (.p .nilsl))))
  | 0, i, σ, hd, h0, h1 => by
    refine ⟨fun A b h => absurd h (by unfold lpP firstS; simp), fun _ => ⟨σ, ?_, h0, h1⟩⟩
    have hnlt : ¬ ((i : Nat) : Int) < (size : Nat) := by omega
    rw [f30_L1_eq guardT rfl]
    simp (disch := omega) only [N, b_lss, ltF hnlt, gG, add1]
  | d + 1, i, σ, hd, h0, h1 => by
    have hlt : ((i : Nat) : Int) < (size : Nat) := by omega
    have rd := rc_d h1
    obtain ⟨σ', c1, c2, c3, c4⟩ := goes2 hx hk hf hF (n := size) (b := i) (by omega) (by omega) size 0 1 [] σ (.p .nilsl) (.p .nilsl) (.p .nilsl) (by simp) (fun j hj => absurd hj (by simp)) h1 (.inl ⟨rfl, rfl⟩) (Nat.zero_le _)
    have h0' := c3 0 _ (by decide) h0
    simp only [N] at c1
    have estep : f30_L1 guardT 0 (N most) (.ptr 0 0) (.ptr 1 0) (N size) (N i) σ = f30_L1 guardT 0 (N most) (.ptr 0 0) (.ptr 1 0) (N size) (N (i + 1)) σ' := by
      simp only [N]
      rw [f30_L1_eq guardT rfl]
      simp (disch := omega) only [b_lss, ltT hlt, gG, nil_ptr, fa124_2, shift_ptr, shift_pptr, Nat.zero_add, Nat.add_zero, pureFn_fn, List.append_nil, List.singleton_append, List.cons_append, List.nil_append, load4, rd, plainFn, c1, add1]
    rw [estep]
    rcases c2 with ⟨e1, e2⟩ | ⟨A', o1, o2, e1, e2, e3, e4⟩
    · obtain ⟨q1, q2⟩ := L30_1 hsz (z := z) d (i + 1) σ' (by omega) h0' e2
      have elp : lpP x (L f) size i (d + 1) = lpP x (L f) size (i + 1) d := by
        unfold lpP
        conv => lhs; unfold firstS
        rw [e1]; rfl
      rw [elp]
      exact ⟨q1, q2⟩
    · have elp : lpP x (L f) size i (d + 1) = some (A', i) := by unfold lpP firstS; rw [e1]; rfl
      refine ⟨fun A b h => ?_, fun h => absurd h (by rw [elp]; simp)⟩
      rw [elp] at h
      injection h with h
      injection h with k1 k2
      subst k1; subst k2
      exact ⟨o1, o2, σ', L30_x1 (by omega) (by omega) e2, e3, e4, h0', e2⟩
theorem L30_0 {z : List DV} (hz : z.length = 2) : ∀ (d size : Nat) (σ : Store), size + d = most + 1 → 1 ≤ size → σ[0]? = some (.mix z) → σ[1]? = some (.mix (rC x f false (.p .nilsl) (.p .nilsl))) →
    (∀ A b, lpS x (L f) size d = some (A, b) → ∃ (u : Wd) (σ' : Store), f30_L0 guardT 0 (N most) (.ptr 0 0) (.ptr 1 0) (N size) σ = some (.tuple [vWd u, .p (.bool true)], σ') ∧ L u.p = A.take b ∧ L u.l = A.drop b) ∧
    (lpS x (L f) size d = none → ∃ σ', f30_L0 guardT 0 (N most) (.ptr 0 0) (.ptr 1 0) (N size) σ = some (.tuple [vWd W0, .p (.bool false)], σ'))
  | 0, size, σ, hd, h1, h0, hr => by
    refine ⟨fun A b h => absurd h (by unfold lpS firstS; simp), fun _ => ?_⟩
    exact L30_x0 (o1 := none) (o2 := none) (by omega) (.inr (by omega)) hz hr h0
  | d + 1, size, σ, hd, h1, h0, hr => by
    have hle : ((size : Nat) : Int) ≤ (most : Nat) := by omega
    have rd := rc_d hr
    obtain ⟨q1, q2⟩ := L30_1 hx hk hf hF (size := size) ⟨h1, by omega⟩ (z := z) size 0 σ (by omega) h0 hr
    have estep : f30_L0 guardT 0 (N most) (.ptr 0 0) (.ptr 1 0) (N size) σ = f30_L1 guardT 0 (N most) (.ptr 0 0) (.ptr 1 0) (N size) (N 0) σ := by
      simp only [N]
      rw [f30_L0_eq guardT rfl]
      simp (disch := omega) only [b_leq, leT hle, gG, nil_ptr, fa124_2, shift_ptr, shift_pptr, Nat.zero_add, Nat.add_zero, pureFn_fn, List.append_nil, List.singleton_append, List.cons_append, List.nil_append, load4, rd]
      rfl
    rw [estep]
    cases hp : lpP x (L f) size 0 size with
    | some ab =>
      obtain ⟨A, b⟩ := ab
      obtain ⟨o1, o2, σ', r1, r2, r3, r4, r5⟩ := q1 A b hp
      have els : lpS x (L f) size (d + 1) = some (A, b) := by unfold lpS firstS; simp only [hp]
      rw [els]
      refine ⟨fun A' b' h => ?_, fun h => absurd h (by simp)⟩
      injection h with h
      injection h with k1 k2
      subst k1; subst k2
      obtain ⟨σ'', s1⟩ := L30_x0 (most := most) (size := size + 1) (by omega) (.inl rfl) hz r5 r4
      exact ⟨⟨o1, o2⟩, σ'', r1.trans s1, r2, r3⟩
    | none =>
      obtain ⟨σ', r1, r2, r3⟩ := q2 hp
      obtain ⟨s1, s2⟩ := L30_0 hz d (size + 1) σ' (by omega) (by omega) r2 r3
      have els : lpS x (L f) size (d + 1) = lpS x (L f) (size + 1) d := by
        conv => lhs; unfold lpS firstS
        simp only [hp]
        rfl
      rw [r1, els]
      exact ⟨s1, s2⟩
theorem S30 (σ : Store) :
    (∀ A b, lpS x (L f) 1 most = some (A, b) → ∃ u : Wd, pureV CC 30 [vLb x, .p (eFm f), .p (.int .i64 (most : Nat))] σ = some (.tuple [vWd u, .p (.bool true)]) ∧ L u.p = A.take b ∧ L u.l = A.drop b) ∧
    (lpS x (L f) 1 most = none → pureV CC 30 [vLb x, .p (eFm f), .p (.int .i64 (most : Nat))] σ = some (.tuple [vWd W0, .p (.bool false)])) := by
  have bl := bld124 (pI x.g.n) (eSl x.g.init) (eEs x.g.edges) (eSl x.la) (eSl x.st) (eSl x.en) (eSl x.we) (eSl x.sr) (eFm f)
  have ev : vLb x = .agg [.p (pI x.g.n), .p (eSl x.g.init), .p (eEs x.g.edges), .p (eSl x.la), .p (eSl x.st), .p (eSl x.en), .p (eSl x.we), .p (eSl x.sr)] := rfl
  have bx : boxV (.agg [.p (pI x.g.n), .p (eSl x.g.init), .p (eEs x.g.edges), .p (eSl x.la), .p (eSl x.st), .p (eSl x.en), .p (eSl x.we), .p (eSl x.sr), .p (eFm f), .p (.bool false), .p .nilsl, .p .nilsl]) = some (rC x f false (.p .nilsl) (.p .nilsl)) := rfl
  rw [← ev] at bl
  obtain ⟨q1, q2⟩ := L30_0 hx hk hf hF hm (z := [.p .nilsl, .p .nilsl]) rfl most 1 [.mix [.p .nilsl, .p .nilsl], .mix (rC x f false (.p .nilsl) (.p .nilsl))] (by omega) (Nat.le_refl _) rfl rfl
  have pre : ∀ r, f30_L0 guardT 0 (N most) (.ptr 0 0) (.ptr 1 0) (N 1) [.mix [.p .nilsl, .p .nilsl], .mix (rC x f false (.p .nilsl) (.p .nilsl))] = some r → F30 guardT 0 (vLb x) (.p (eFm f)) (.p (.int .i64 (most : Nat))) [] = some r := fun r h => by
    simp only [N] at h
    rw [F30_eq]
    simp (disch := omega) only [box_lb, gG, zero52, List.length_nil, List.nil_append, load47, lb_all, bl, bx, List.length_singleton, List.singleton_append]
    exact h
  refine ⟨fun A b h => ?_, fun h => ?_⟩
  · obtain ⟨u, σ', r1, r2, r3⟩ := q1 A b h
    exact ⟨u, pureV_free (by simp only [List.map_cons, List.map_nil, lb_view, fm_view, int_view]) rfl (F30_call (pre _ r1)) (wd_thaw2 u true 0 _), r2, r3⟩
  · obtain ⟨σ', r1⟩ := q2 h
    exact pureV_free (by simp only [List.map_cons, List.map_nil, lb_view, fm_view, int_view]) rfl (F30_call (pre _ r1)) (wd_thaw2 W0 false 0 _)
end
theorem S29 {u w : Wd} (h0 : (L u.p).length ≤ 100000) (h1 : (L u.l).length ≤ 100000) (σ : Store) : pureV CC 29 [vWd u, vWd w] σ = some (.p (.bool (decide (L u.p = L w.p) && decide (L u.l = L w.l)))) := by
  refine pureV_free (by simp only [List.map_cons, List.map_nil, wd_view]) rfl (F29_call (r := (.p (.bool (decide (L u.p = L w.p) && decide (L u.l = L w.l))), [])) ?_) rfl
  have q1 := fun σ => S80 (o := u.p) (o' := w.p) h0 σ
  have q2 := fun σ => S80 (o := u.l) (o' := w.l) h1 σ
  rw [F29_eq]
  cases c : decide (L u.p = L w.p) with
  | true => simp only [box_wd, gG, fa52_0, fa52_1, shift_ptr, shift_pptr, Nat.zero_add, Nat.add_zero, pureFn_fn, List.append_nil, List.singleton_append, List.cons_append, List.nil_append, load24, wd_0, wd_1, q1, c, q2, Bool.true_and]
  | false => simp only [box_wd, gG, fa52_0, fa52_1, shift_ptr, shift_pptr, Nat.zero_add, Nat.add_zero, pureFn_fn, List.append_nil, List.singleton_append, List.cons_append, List.nil_append, load24, wd_0, wd_1, q1, c, Bool.false_and]
theorem S29_same {u w : Wd} (h1 : L u.p = L w.p) (h2 : L u.l = L w.l) (h3 : (L u.p).length ≤ 1000) (h4 : (L u.l).length ≤ 1000) (σ : Store) : pureV CC 29 [vWd u, vWd w] σ = some (.p (.bool true)) := by
  rw [S29 (by omega) (by omega), h1, h2, decide_eq_true rfl, decide_eq_true rfl]; rfl
theorem faE_own (x : Lb) (F : List Nd) (m : Int) : faE (ownX x) (F.map ownN) m = faE x F m := by
  unfold faE
  rw [chkLb_own, chk_own]
theorem hol_own (x : Lb) (F : List Nd) (A : List Int) (b : Nat) : hol (ownX x) (F.map ownN) A b = hol x F A b := by
  unfold hol
  rw [wl_own, says_own]
theorem fnd_own (x : Lb) (F : List Nd) (b : Nat) : fnd (ownX x) (F.map ownN) b = fnd x F b := by
  funext A
  unfold fnd
  rw [hol_own]
  rfl
theorem dfs_own (x : Lb) (q : List Int → Bool) : ∀ (k : Nat) (A : List Int), dfs (ownX x) q k A = dfs x q k A
  | 0, A => rfl
  | k + 1, A => by
    unfold dfs
    have : (fun i : Nat => if suc (ownX x) A (i : Nat) = true then dfs (ownX x) q k (A ++ [((i : Nat) : Int)]) else none) = fun i : Nat => if suc x A (i : Nat) = true then dfs x q k (A ++ [((i : Nat) : Int)]) else none := by
      funext i
      rw [dfs_own x q k]
      rfl
    rw [this]
    rfl
theorem lpS_own (x : Lb) (F : List Nd) (s d : Nat) : lpS (ownX x) (F.map ownN) s d = lpS x F s d := by
  unfold lpS
  congr 1
  funext size
  unfold lpP
  congr 1
  funext b
  rw [fnd_own, dfs_own]
theorem lpS_len {x : Lb} {F : List Nd} {s d : Nat} {A : List Int} {b : Nat} (h : lpS x F s d = some (A, b)) : A.length < s + d := by
  obtain ⟨size, h1, h2, h3⟩ := firstS_some _ _ h
  obtain ⟨b', h4, _, _⟩ := firstS_some _ _ h1
  cases hd : dfs x (fnd x F b') size [] with
  | none => rw [hd] at h4; exact absurd h4 (by simp)
  | some A' =>
    rw [hd] at h4
    injection h4 with h4
    injection h4 with h5 h6
    have := dfs_len _ _ _ hd
    rw [← h5, this]; simp; omega
def cEr (x : Lb) (F : List Nd) : Int := if (chkLb x).2 = 0 then (chk F).2 else (chkLb x).2
theorem faE_c (x : Lb) (F : List Nd) (m : Int) : faE x F m = if cEr x F = 0 then (if inR m 1 6 = true then 0 else 3) else cEr x F := by
  unfold faE cEr
  by_cases h : (chkLb x).2 = 0
  · rw [if_pos h, if_pos h]
  · rw [if_neg h, if_neg h, if_neg h]
section
variable {x : Lb} (hx : LSm x) {f : Fm} (hf : FSm f) (m : Int)
include hx hf
set_option maxHeartbeats 4000000 in
theorem call4J {a13 a14 a15 a16 a17 a18 a19 a20 a21 a22 a23 a24 a25 a26 a27 a28 : DV} : ∃ σ', f4_J0 guardT 0 (vLb x) (.p (eFm f)) (.p (.int .i64 m)) (.pptr (eLb x) 0) (.p (.bool false)) (.p (.int .i64 (cEr x (L f)))) a13 a14 a15 a16 a17 a18 a19 a20 a21 a22 a23 a24 a25 a26 a27 a28 [] = some (.p (.bool true), σ') := by
  have h28 := fun σ => S28 hx σ
  have h19 := fun σ => S19 hf σ
  have hcase : (x.g.n ≤ 4 ∧ m ≤ 5) ∨ (x.g.n ≤ 4 ∧ ¬ m ≤ 5 ∧ (L x.g.edges).length ≤ 20) ∨ (x.g.n ≤ 4 ∧ ¬ m ≤ 5 ∧ ¬ (L x.g.edges).length ≤ 20) ∨ (¬ x.g.n ≤ 4 ∧ x.g.n ≤ 12 ∧ (L x.g.edges).length ≤ 20 ∧ m ≤ 3) ∨ (¬ x.g.n ≤ 4 ∧ x.g.n ≤ 12 ∧ (L x.g.edges).length ≤ 20 ∧ ¬ m ≤ 3) ∨ (¬ x.g.n ≤ 4 ∧ x.g.n ≤ 12 ∧ ¬ (L x.g.edges).length ≤ 20) ∨ (¬ x.g.n ≤ 4 ∧ ¬ x.g.n ≤ 12) := by omega
  have errD : ∀ E : Int, E ≠ 0 → faE x (L f) m = E → (∀ σ, pureV CC 27 [vLb (ownX x), .p (eFm (oF ((L f).map ownN))), .p (.int .i64 m)] σ = some (.tuple [vWd W0, .p (.int .i64 E)])) := fun E hE h σ => by
    have h2 : faE (ownX x) (L (oF ((L f).map ownN))) m = E := by rw [L_oF, faE_own, h]
    have := S27_err hx.own hf.own m (by rw [h2]; exact hE) σ
    rw [h2] at this
    exact this
  have st := st52r (σ := []) (lo := 0) (p := .p .nilsl) (q := .p .nilsl) (Nat.le_refl _) rfl rfl
  rw [List.length_nil, List.nil_append] at st
  have ew : vWd W0 = .agg [.p .nilsl, .p .nilsl] := rfl
  rw [← ew] at st
  have ld : (loadN ([.mix [.p .nilsl, .p .nilsl]] : Store) 2 (.ptr 0 0)).map DV.agg = some (vWd W0) := rfl
  have b0 : build PP 52 [] = some (vWd W0) := bld52_0
  have s29 := fun σ => S29_same (u := W0) (w := W0) rfl rfl (by simp [W0]) (by simp [W0]) σ
  by_cases hc : cEr x (L f) = 0
  · cases hr : inR m 1 6 with
    | false =>
      have hE : faE x (L f) m = 3 := by rw [faE_c, if_pos hc, hr, if_neg (by simp)]
      have s27 := errD 3 (by decide) hE
      refine ⟨[.mix [.p .nilsl, .p .nilsl]], ?_⟩
      rcases hcase with h | h | h | h | h | h | h <;>
        simp (maxSteps := 1000000) (disch := omega) only [f4_J0_eq, f4_J1_eq, f4_J2_eq, f4_J3_eq, gG, shift_ptr, shift_pptr, Nat.zero_add, Nat.add_zero, pureFn_fn, List.append_nil, List.singleton_append, List.cons_append, List.nil_append, fa47_0, fa45_0, fa45_2, load3, load43, lb_0, lb_2, len43, b_leq, leT, leF, b_eql, b_neq, S26, eqT hc, hr, load47, lb_all, h28, h19, s27, ex20, ex21, zero52, List.length_nil, List.nil_append, st, eqF (show ¬ (3 : Int) = 0 by decide), eqT (rfl : (3 : Int) = 3), load52, ld, b0, s29]
    | true =>
      have hE : faE x (L f) m = 0 := by rw [faE_c, if_pos hc, hr, if_pos rfl]
      have hin := (inR_iff _ _ _).1 hr
      have hmost : m = ((m.toNat : Nat) : Int) := by omega
      have h1 : (chkLb x).2 = 0 := by
        unfold cEr at hc
        by_cases h : (chkLb x).2 = 0
        · exact h
        · rw [if_neg h] at hc; exact hc
      have h2 : (chk (L f)).2 = 0 := by unfold cEr at hc; rw [if_pos h1] at hc; exact hc
      have hk := lbOk h1
      have hF := chk_ok h2
      have hg := isG_n hk.g
      -- few, or not
      have few : ((x.g.n ≤ 4 ∧ m ≤ 5) ∨ (x.g.n ≤ 12 ∧ m ≤ 3)) → ((x.g.n ≤ 4 ∧ m ≤ 5) ∨ (¬ x.g.n ≤ 4 ∧ x.g.n ≤ 12 ∧ (L x.g.edges).length ≤ 20 ∧ m ≤ 3)) →
          ∃ σ', f4_J0 guardT 0 (vLb x) (.p (eFm f)) (.p (.int .i64 m)) (.pptr (eLb x) 0) (.p (.bool false)) (.p (.int .i64 (cEr x (L f)))) a13 a14 a15 a16 a17 a18 a19 a20 a21 a22 a23 a24 a25 a26 a27 a28 [] = some (.p (.bool true), σ') := by
        intro hfew hcs
        have htot : tot (ownX x).g.n.toNat m.toNat ≤ 400000 := tot_few (by show (x.g.n.toNat ≤ 4 ∧ m.toNat ≤ 5) ∨ (x.g.n.toNat ≤ 12 ∧ m.toNat ≤ 3); omega)
        have hEo : faE (ownX x) (L (oF ((L f).map ownN))) m = 0 := by rw [L_oF, faE_own, hE]
        cases hl : lpS x (L f) 1 m.toNat with
        | none =>
          have s27 := fun σ => (S27_ok hx.own hf.own m hmost hEo htot σ).2 (by rw [L_oF, lpS_own]; exact hl)
          have s30 := fun σ => (S30 hx hk hf hF (most := m.toNat) (by omega) σ).2 hl
          rw [← hmost] at s30
          have st2 := st52r (σ := [.mix [.p .nilsl, .p .nilsl]]) (lo := 0) (p := .p .nilsl) (q := .p .nilsl) (Nat.zero_le _) rfl rfl
          rw [← ew] at st2
          have e2 : ([Row.mix [.p .nilsl, .p .nilsl]] : Store) ++ [.mix [.p .nilsl, .p .nilsl]] = [.mix [.p .nilsl, .p .nilsl], .mix [.p .nilsl, .p .nilsl]] := rfl
          rw [e2, List.length_singleton] at st2
          have ld2 : (loadN ([.mix [.p .nilsl, .p .nilsl], .mix [.p .nilsl, .p .nilsl]] : Store) 2 (.ptr 0 0)).map DV.agg = some (vWd W0) := rfl
          refine ⟨[.mix [.p .nilsl, .p .nilsl], .mix [.p .nilsl, .p .nilsl]], ?_⟩
          rcases hcs with h | h <;>
            simp (maxSteps := 1000000) (disch := omega) only [f4_J0_eq, f4_J1_eq, f4_J2_eq, f4_J3_eq, gG, shift_ptr, shift_pptr, Nat.zero_add, Nat.add_zero, pureFn_fn, List.append_nil, List.singleton_append, List.cons_append, List.nil_append, fa47_0, fa45_0, fa45_2, load3, load43, lb_0, lb_2, len43, b_leq, leT, leF, b_eql, b_neq, S26, eqT hc, hr, load47, lb_all, h28, h19, s27, ex20, ex21, zero52, List.length_nil, List.nil_append, st, eqF (show ¬ (25 : Int) = 37 by decide), s30, List.length_singleton, List.singleton_append, e2, st2, eqT (rfl : (25 : Int) = 25), load52, ld2, b0, s29]
        | some ab =>
          obtain ⟨A, b⟩ := ab
          obtain ⟨u, u1, u2, u3⟩ := (S27_ok hx.own hf.own m hmost hEo htot []).1 A b (by rw [L_oF, lpS_own]; exact hl)
          have hAl := lpS_len hl
          have stu := st52r (σ := []) (lo := 0) (p := .p (eSl u.p)) (q := .p (eSl u.l)) (Nat.le_refl _) rfl rfl
          rw [List.length_nil, List.nil_append, List.nil_append] at stu
          have eu : vWd u = .agg [.p (eSl u.p), .p (eSl u.l)] := rfl
          rw [← eu] at stu
          obtain ⟨v, v1, v2, v3⟩ := (S30 hx hk hf hF (most := m.toNat) (by omega) [.mix [.p (eSl u.p), .p (eSl u.l)]]).1 A b hl
          rw [← hmost] at v1
          have stv := st52r (σ := [.mix [.p (eSl u.p), .p (eSl u.l)]]) (lo := 0) (p := .p (eSl v.p)) (q := .p (eSl v.l)) (Nat.zero_le _) rfl rfl
          have ev : vWd v = .agg [.p (eSl v.p), .p (eSl v.l)] := rfl
          rw [← ev] at stv
          have e1 : ([Row.mix [.p (eSl u.p), .p (eSl u.l)]] : Store) ++ [.mix [.p .nilsl, .p .nilsl]] = [.mix [.p (eSl u.p), .p (eSl u.l)], .mix [.p .nilsl, .p .nilsl]] := rfl
          have e2 : ([Row.mix [.p (eSl u.p), .p (eSl u.l)]] : Store) ++ [.mix [.p (eSl v.p), .p (eSl v.l)]] = [.mix [.p (eSl u.p), .p (eSl u.l)], .mix [.p (eSl v.p), .p (eSl v.l)]] := rfl
          rw [e1, e2, List.length_singleton] at stv
          have ldu : (loadN ([.mix [.p (eSl u.p), .p (eSl u.l)], .mix [.p (eSl v.p), .p (eSl v.l)]] : Store) 2 (.ptr 0 0)).map DV.agg = some (vWd u) := rfl
          have ldv : (loadN ([.mix [.p (eSl u.p), .p (eSl u.l)], .mix [.p (eSl v.p), .p (eSl v.l)]] : Store) 2 (.ptr 1 0)).map DV.agg = some (vWd v) := rfl
          have s29u := fun σ => S29_same (u := u) (w := v) (by rw [u2, v2]) (by rw [u3, v3]) (by rw [u2, List.length_take]; omega) (by rw [u3, List.length_drop]; omega) σ
          refine ⟨[.mix [.p (eSl u.p), .p (eSl u.l)], .mix [.p (eSl v.p), .p (eSl v.l)]], ?_⟩
          rcases hcs with h | h <;>
            simp (maxSteps := 1000000) (disch := omega) only [f4_J0_eq, f4_J1_eq, f4_J2_eq, f4_J3_eq, gG, shift_ptr, shift_pptr, Nat.zero_add, Nat.add_zero, pureFn_fn, List.append_nil, List.singleton_append, List.cons_append, List.nil_append, fa47_0, fa45_0, fa45_2, load3, load43, lb_0, lb_2, len43, b_leq, leT, leF, b_eql, b_neq, S26, eqT hc, hr, load47, lb_all, h28, h19, u1, ex20, ex21, zero52, List.length_nil, List.nil_append, stu, eqF (show ¬ (0 : Int) = 37 by decide), v1, List.length_singleton, List.singleton_append, e1, stv, eqT (rfl : (0 : Int) = 0), load52, ldu, ldv, s29u]
      have notfew : ((x.g.n ≤ 4 ∧ ¬ m ≤ 5 ∧ (L x.g.edges).length ≤ 20) ∨ (x.g.n ≤ 4 ∧ ¬ m ≤ 5 ∧ ¬ (L x.g.edges).length ≤ 20) ∨ (¬ x.g.n ≤ 4 ∧ x.g.n ≤ 12 ∧ (L x.g.edges).length ≤ 20 ∧ ¬ m ≤ 3) ∨ (¬ x.g.n ≤ 4 ∧ x.g.n ≤ 12 ∧ ¬ (L x.g.edges).length ≤ 20) ∨ (¬ x.g.n ≤ 4 ∧ ¬ x.g.n ≤ 12)) →
          ∃ σ', f4_J0 guardT 0 (vLb x) (.p (eFm f)) (.p (.int .i64 m)) (.pptr (eLb x) 0) (.p (.bool false)) (.p (.int .i64 (cEr x (L f)))) a13 a14 a15 a16 a17 a18 a19 a20 a21 a22 a23 a24 a25 a26 a27 a28 [] = some (.p (.bool true), σ') := by
        intro hcs
        refine ⟨[], ?_⟩
        rcases hcs with h | h | h | h | h <;>
          simp (maxSteps := 1000000) (disch := omega) only [f4_J0_eq, f4_J1_eq, f4_J2_eq, f4_J3_eq, gG, shift_ptr, shift_pptr, Nat.zero_add, Nat.add_zero, pureFn_fn, List.append_nil, List.singleton_append, List.cons_append, List.nil_append, fa47_0, fa45_0, fa45_2, load3, load43, lb_0, lb_2, len43, b_leq, leT, leF, b_eql, b_neq, S26, eqT hc, hr]
      rcases hcase with h | h | h | h | h | h | h
      · exact few (.inl h) (.inl h)
      · exact notfew (.inl h)
      · exact notfew (.inr (.inl h))
      · exact few (.inr ⟨h.2.1, h.2.2.2⟩) (.inr h)
      · exact notfew (.inr (.inr (.inl h)))
      · exact notfew (.inr (.inr (.inr (.inl h))))
      · exact notfew (.inr (.inr (.inr (.inr h))))
  · have hE : faE x (L f) m = cEr x (L f) := by rw [faE_c, if_neg hc]
    have s27 := errD _ hc hE
    refine ⟨[.mix [.p .nilsl, .p .nilsl]], ?_⟩
    rcases hcase with h | h | h | h | h | h | h <;>
      simp (maxSteps := 1000000) (disch := omega) only [f4_J0_eq, f4_J1_eq, f4_J2_eq, f4_J3_eq, gG, shift_ptr, shift_pptr, Nat.zero_add, Nat.add_zero, pureFn_fn, List.append_nil, List.singleton_append, List.cons_append, List.nil_append, fa47_0, fa45_0, fa45_2, load3, load43, lb_0, lb_2, len43, b_leq, leT, leF, b_eql, b_neq, S26, eqF hc, load47, lb_all, h28, h19, s27, ex20, ex21, zero52, List.length_nil, List.nil_append, st, eqT (rfl : cEr x (L f) = cEr x (L f)), load52, ld, b0, s29]
end
theorem call4 (x : Lb) (f : Fm) (m : Int) : ∃ σ', CC 0 4 [vLb x, .p (eFm f), .p (.int .i64 m)] [] = some (.p (.bool true), σ') := by
  have haw := awake_true
  obtain ⟨b, b1, b2⟩ := S13 f []
  have h23 := fun σ => S23 x σ
  cases b with
  | false =>
    refine ⟨[], F4_call ?_⟩
    rw [F4_eq]
    simp (maxSteps := 1000000) only [box_lb, gG, shift_ptr, shift_pptr, Nat.zero_add, Nat.add_zero, pureFn_fn, List.append_nil, List.singleton_append, List.cons_append, List.nil_append, haw _, b1]
  | true =>
    have hf := b2 rfl
    cases hs : smB x with
    | false =>
      refine ⟨[], F4_call ?_⟩
      rw [F4_eq]
      simp (maxSteps := 1000000) only [box_lb, gG, shift_ptr, shift_pptr, Nat.zero_add, Nat.add_zero, pureFn_fn, List.append_nil, List.singleton_append, List.cons_append, List.nil_append, haw _, b1, load47, lb_all, h23, hs]
    | true =>
      have hx := smB_ok hs
      have h24 := fun σ => S24 hx σ
      have h25 := fun σ => S25 hf σ
      have key : ∃ σ', F4 guardT 0 (vLb x) (.p (eFm f)) (.p (.int .i64 m)) [] = some (.p (.bool true), σ') := by
        rw [F4_eq]
        by_cases hc : (chkLb x).2 = 0
        · have ec : (chk (L f)).2 = cEr x (L f) := by unfold cEr; rw [if_pos hc]
          rw [ec] at h25
          simp (maxSteps := 1000000) only [box_lb, gG, shift_ptr, shift_pptr, Nat.zero_add, Nat.add_zero, pureFn_fn, List.append_nil, List.singleton_append, List.cons_append, List.nil_append, haw _, b1, load47, lb_all, h23, hs, h24, b_eql, eqT hc, h25]
          exact call4J hx hf m
        · have ec : (chkLb x).2 = cEr x (L f) := by unfold cEr; rw [if_neg hc]
          have hc' : ¬ cEr x (L f) = 0 := by rw [← ec]; exact hc
          rw [ec] at h24
          simp (maxSteps := 1000000) only [box_lb, gG, shift_ptr, shift_pptr, Nat.zero_add, Nat.add_zero, pureFn_fn, List.append_nil, List.singleton_append, List.cons_append, List.nil_append, haw _, b1, load47, lb_all, h23, hs, h24, b_eql, eqF hc']
          exact call4J hx hf m
      obtain ⟨σ', h⟩ := key
      exact ⟨σ', F4_call h⟩
end Go.D
end
/- LassoFirst: for every labelled graph, formula and number the law answers true and leaves its arguments as they were: the given tied card, without further conditions. -/
section
set_option linter.unusedVariables false
set_option linter.unusedSimpArgs false
set_option maxRecDepth 100000
namespace Go.D
open Go.ChangeShapes Go.WideShapes Go.ChangeAt Go.RowKit

theorem lassoFirst_calls {H : Type} {enc : TypeId × Value → H} {W : World} {base : Nat} {args : Array Value} {ds : List (DataW H)} {ps : List MemPlace}
    (hval : ∀ (j : Nat) t v, ([47, 23, 3] : List TypeId).toArray[j]? = some t → args[j]? = some v → Value.okWide PP W .any base t v)
    (hA : DataW.TrodAll enc PP W 0 (fun _ => true) true [47, 23, 3] args.toList ds ps) :
    Calls PP 4 args W fun e W' => e = .returned (.bool true) ∧ Below W.heap.size W W' := by
  obtain ⟨v0, v1, v2, d0, d1, d2, p0, p1, p2, rfl, rfl, rfl, h0, h1, h2⟩ := trodAll_three hA
  obtain ⟨o0, ho0⟩ := read_lb (hval 0 47 v0 rfl rfl) h0
  obtain ⟨o1, ho1⟩ := read_fm (hval 1 23 v1 rfl rfl) h1
  obtain ⟨o2, ho2⟩ := read_in (hval 2 3 v2 rfl rfl) h2
  obtain ⟨σ', hc⟩ := call4 o0 o1 o2
  refine calls_of hc ⟨rfl, fun j h1 h2 => ?_⟩
  match j, h1 with
  | 0, _ => exact ho0
  | 1, _ => exact ho1
  | 2, _ => exact ho2

end Go.D
namespace Go.Proofs.YtpacancmcjbckaaGreatDoor
open Go.D Go.ChangeShapes Go.WideShapes Go.ChangeAt Go.RowKit

set_option maxRecDepth 100000 in
theorem lassoFirst_lifted (os : Os) (started : os.Started) (H : Type) (enc : TypeId × Value → H) :
    ReturnsInHanded {} Tryz.checked os 4 .any (fun w args => (Rows.lassoFirstSpec.pre enc Tryz.prog Tryz.f4 [] false w args ∧ laidMetH Tryz.prog Rows.lassoFirstRow.laid w) ∧ sizedMet enc Tryz.prog Tryz.f4 (OpenSpec.ofChange Rows.lassoFirstSpec) false w args)
      (Rows.lassoFirstSpec.post enc Tryz.prog Tryz.f4 false true false false) := by
  refine returnsInHanded_of_change_and (C := Tryz.checked) (X := fun w _ => laidMetH Tryz.prog Rows.lassoFirstRow.laid w) (fun _ _ _ hh h => h.of_heap hh) own_ok started (by kernel_rfl) Tryz.func4
    (ChangeSpec.witness_at (enc := enc) (C := Tryz.checked) (os := os) (X := fun w _ => laidMetH Tryz.prog Rows.lassoFirstRow.laid w) false (laidW os) #[.agg #[.int .i64 0, .slice none 0 0, .slice none 0 0, .slice none 0 0, .slice none 0 0, .slice none 0 0, .slice none 0 0, .slice none 0 0], .slice none 0 0, .int .i64 0] 8 (World.laidAll_os _ _ _) (by kernel_rfl) (by kernel_rfl) (by kernel_rfl) (by kernel_rfl) (by kernel_rfl) (laidW_met os _)) ?_
  intro W base args ds gs before hval0 hW _ _ _ _
  have hval : ∀ (j : Nat) t v, Tryz.f4.params[j]? = some t → args[j]? = some v → Value.okWide Tryz.prog W .any base t v := hval0
  have hW' := hW
  obtain ⟨p, q, hA0, hV, rfl, _, _⟩ := hW
  have hA : DataW.TrodAll enc Tryz.prog W 0 (fun _ => true) true Tryz.f4.params.toList args.toList ds p := hA0
  rw [Tryz.params4] at hA hval
  have hA2 := hA
  obtain ⟨v0, v1, v2, d0, d1, d2, p0, p1, p2, rfl, rfl, rfl, h0, h1, h2⟩ := trodAll_three hA
  obtain ⟨rfl, rfl⟩ := trodVars_none hV
  have hlt : ∀ x ∈ p0 ++ p1 ++ p2, x.block < W.heap.size := fun x hx => by
    have := hW'.lt x (by simpa using hx)
    exact this
  have e0 : ∀ x ∈ p0, x.block < W.heap.size := fun x hx => hlt x (List.mem_append_left _ (List.mem_append_left _ hx))
  have e1 : ∀ x ∈ p1, x.block < W.heap.size := fun x hx => hlt x (List.mem_append_left _ (List.mem_append_right _ hx))
  have e2 : ∀ x ∈ p2, x.block < W.heap.size := fun x hx => hlt x (List.mem_append_right _ hx)
  refine (lassoFirst_calls (base := base) hval hA2).mono ?_
  rintro e W2 ⟨rfl, hnx⟩
  refine ⟨_, rfl, _, _, _, [], p0 ++ (p1 ++ p2), [], hW', ?_, ?_, rfl, hnx.frame _, fun h => by cases h⟩
  · exact trodAll_mk1 (shut_bool ul4 true)
  · exact trodAll_mk3 (Below.trod laidOut_ok (by kernel_rfl) (of_decide_eq_true (by kernel_rfl)) h0 hnx e0) (Below.trod laidOut_ok (by kernel_rfl) (of_decide_eq_true (by kernel_rfl)) h1 hnx e1) (Below.trod laidOut_ok (by kernel_rfl) (of_decide_eq_true (by kernel_rfl)) h2 hnx e2)

theorem lassoFirst_row : Rows.LassoFirstSaid :=
  OpenClaim.holds_of_wide 4 Tryz.f4 rfl rfl rfl rfl rfl rfl rfl ⟨rfl, rfl, rfl, rfl, rfl⟩ rfl rfl rfl rfl rfl (by kernel_rfl) Tryz.func4 (by kernel_rfl)
    (of_decide_eq_true (by kernel_rfl)) (by unfold Func.isWrapper; first | (rw [if_pos (by decide +kernel)]; kernel_rfl) | (rw [if_neg (by decide +kernel)]; exact ⟨rfl, rfl⟩))
    (fun os started H enc _ => lassoFirst_lifted os started H enc)

theorem lassoFirst_holds : Rows.LassoFirstCardSaid :=
  Claim7.holds_tied_plain_at .later [] [.data, .data, .data, .sentinel, .sentinel] true (true, "98bef7c5375844f969da89516d037819b1a57239a7494585b2bb93910f3c950f") true
    lassoFirst_row (fun _ h => by cases h) (by kernel_rfl) (fun _ h => by cases h) lassoFirst_row_tie rfl ⟨rfl, rfl⟩ (by kernel_rfl) rfl
    (fun f fn hf hfn => by
      obtain rfl : f = 4 := Option.some.inj ((show Tryz.prog.funcNamed "stutter/stutterlaw13.LassoFirst" = some 4 by kernel_rfl).symm.trans hf) |>.symm
      obtain rfl : fn = Tryz.f4 := (Option.some.inj (Tryz.func4.symm.trans hfn)).symm
      refine ⟨by kernel_rfl, fun j t ht => ?_⟩
      have hall : (Tryz.f4.params.toList.all fun t => Tryz.prog.wantsStandIn t == false) = true := by kernel_rfl
      have hm : t ∈ Tryz.f4.params.toList := by
        have := Array.mem_of_getElem? ht
        exact this.val
      exact eq_of_beq (List.all_eq_true.1 hall t hm))
    (by kernel_rfl)

end Go.Proofs.YtpacancmcjbckaaGreatDoor
end
