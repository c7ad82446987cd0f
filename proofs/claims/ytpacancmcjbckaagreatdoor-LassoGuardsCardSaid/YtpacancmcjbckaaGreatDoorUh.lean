/- LassoGuards: for every formula and every list of atoms the law answers true and leaves its arguments as they were: the given tied card, without further conditions. -/
import Derived.Test.YtpacancmcjbckaaGreatDoorUd
import Derived.Test.YtpacancmcjbckaaGreatDoorUf
import Derived.Test.YtpacancmcjbckaaGreatDoorUg
import Derived.Test.YtpacancmcjbckaaGreatDoorTie
import Derived.Test.YtpacancmcjbckaaGreatDoorCards
import Derived.SevenTiedAt
/- Chapter 13: LassoWords' law. -/
section
set_option linter.unusedVariables false
set_option linter.unusedSimpArgs false
namespace Go.D
open Las
set_option maxRecDepth 4000
theorem b_eql30 (x y : Int) : binOp PP .eql 30 (.p (.int .i64 x)) (.p (.int .i64 y)) = some (.p (.bool (decide (x = y)))) := Eq.trans (by kernel_rfl) rfl
def awT : Prop := ∀ σ : Store, pureV CC 12 [] σ = some (.p (.bool true))
end Go.D
end
/- The examples of chapter 13: awake answers true. -/
section
set_option linter.unusedVariables false
set_option linter.unusedSimpArgs false
set_option maxRecDepth 100000
namespace Go.D
def exS1 : Store := [.mix [.p (exN [1]), .p (exN [2, 3])]]
def exS2 : Store := [.mix [.p (exN [1]), .p (exN [2, 3])], .mix [.p (.sl false 0 []), .p (exN [0])]]
theorem K48 (σ : Store) : pureV CC 48 [.p (.str lstr0)] σ = some (.tuple [.p exF, .p (pI 12), .p (pI 0)]) := pureV_run run48 rfl rfl
theorem K62a (σ : Store) : pureV CC 62 [.p (.int .i64 0)] σ = some (.p exA0) := pureV_run run62a rfl rfl
theorem K62b (σ : Store) : pureV CC 62 [.p (.int .i64 1)] σ = some (.p exA1) := pureV_run run62b rfl rfl
theorem K63 (σ : Store) : pureV CC 63 [.p .nilsl] σ = some exY := pureV_run run63 rfl rfl
theorem K38a (σ : Store) : pureV CC 38 [.p (.int .i64 8), .p (.sl true 2 [exA0, exA1])] σ = some (.p exU) := by
  rw [pureV_view (args' := [.p (pI 8), .p (.sl false 2 [exA0, exA1])]) rfl rfl]
  exact pureV_run run38a rfl rfl
theorem K38b (σ : Store) : pureV CC 38 [.p (.int .i64 7), .p (.sl true 1 [exA0])] σ = some (.p exB) := by
  rw [pureV_view (args' := [.p (pI 7), .p (.sl false 1 [exA0])]) rfl rfl]
  exact pureV_run run38b rfl rfl
theorem K32 (σ : Store) : pureV CC 32 [.agg [.p (.sl true 3 [.int .i64 1, .int .i64 1, .int .i64 2]), .p (.sl true 3 [.int .i64 3, .int .i64 2, .int .i64 2])]] σ = some (.tuple [.agg [.p (exN [1]), .p (exN [2, 3])], .p (pI 0)]) := by
  rw [pureV_view (args' := [.agg [.p (exN [1, 1, 2]), .p (exN [3, 2, 2])]]) rfl rfl]
  exact pureV_run run32 rfl rfl
theorem K29 (σ : Store) : pureV CC 29 [exL, .agg [.p .nilsl, .p (.sl true 1 [.int .i64 0])]] σ = some (.p (.bool true)) := by
  rw [pureV_view (args' := [exL, .agg [.p .nilsl, .p (exN [0])]]) rfl rfl]
  exact pureV_run run29 rfl rfl
theorem K20 (σ : Store) : pureV CC 20 [.p exU, .agg [.p (.sl true 2 [.int .i64 0, .int .i64 1]), .p (.sl true 2 [.int .i64 2, .int .i64 0])]] σ = some (.tuple [.p (.bool true), .p (pI 0)]) := by
  rw [pureV_view (args' := [.p exU, .agg [.p (exN [0, 1]), .p (exN [2, 0])]]) rfl rfl]
  exact pureV_run run20 rfl rfl
theorem K27 (σ : Store) : pureV CC 27 [exY, .p exB, .p (.int .i64 2)] σ = some (.tuple [exL, .p (pI 0)]) := pureV_run run27 rfl rfl
theorem K33 (σ : Store) : pureV CC 33 [.agg [.p (exN [1]), .p (exN [2, 3])], .agg [.p (.sl true 1 [.int .i64 1]), .p (.sl true 2 [.int .i64 2, .int .i64 3])]] σ = some (.p (.bool true)) := by
  rw [pureV_view (args' := [vWd ⟨some [1], some [2, 3]⟩, vWd ⟨some [1], some [2, 3]⟩]) rfl rfl]
  exact S33 (u := ⟨some [1], some [2, 3]⟩) (w := ⟨some [1], some [2, 3]⟩) (by decide) (by decide) σ
theorem kb64_2 (σ : Store) : buildSlice PP none 64 2 [(0, .p exA0), (1, .p exA1)] σ = some (.p (.sl true 2 [exA0, exA1]), σ) := Eq.trans (by kernel_rfl) rfl
theorem kb64_1 (σ : Store) : buildSlice PP none 64 1 [(0, .p exA0)] σ = some (.p (.sl true 1 [exA0]), σ) := Eq.trans (by kernel_rfl) rfl
theorem kb24_2 (a b : Int) (σ : Store) : buildSlice PP none 24 2 [(0, .p (.int .i64 a)), (1, .p (.int .i64 b))] σ = some (.p (.sl true 2 [.int .i64 a, .int .i64 b]), σ) := Eq.trans (by kernel_rfl) rfl
theorem kb24_3 (a b c : Int) (σ : Store) : buildSlice PP none 24 3 [(0, .p (.int .i64 a)), (1, .p (.int .i64 b)), (2, .p (.int .i64 c))] σ = some (.p (.sl true 3 [.int .i64 a, .int .i64 b, .int .i64 c]), σ) := Eq.trans (by kernel_rfl) rfl
theorem kb52 (p : PV) : build PP 52 [(1, .p p)] = some (.agg [.p .nilsl, .p p]) := Eq.trans (by kernel_rfl) rfl
theorem kz52 : zeroOf PP 52 = some [.p .nilsl, .p .nilsl] := Eq.trans (by kernel_rfl) rfl
theorem ks1 : store PP 0 26 (.ptr 0 0) (.agg [.p (exN [1]), .p (exN [2, 3])]) [.mix [.p .nilsl, .p .nilsl]] = some exS1 := Eq.trans (by kernel_rfl) rfl
theorem ks2 : store PP 0 52 (.ptr 1 0) exL (exS1 ++ [.mix [.p .nilsl, .p .nilsl]]) = some exS2 := Eq.trans (by kernel_rfl) rfl
theorem kl1 : exS1.length = 1 := rfl
theorem kd1 : load PP 26 (.ptr 0 0) exS2 = some (.agg [.p (exN [1]), .p (exN [2, 3])]) := Eq.trans (by kernel_rfl) rfl
theorem kd2 : load PP 52 (.ptr 1 0) exS2 = some exL := Eq.trans (by kernel_rfl) rfl
theorem kln (σ : Store) : len PP 23 (.p exF) σ = some (.p (.int .i64 4)) := Eq.trans (by kernel_rfl) rfl
theorem kx0 (a b : DV) : extractV (.tuple [a, b]) 0 = some a := rfl
theorem kx1 (a b : DV) : extractV (.tuple [a, b]) 1 = some b := rfl
theorem ke0 (a b c : DV) : extractV (.tuple [a, b, c]) 0 = some a := rfl
theorem ke1 (a b c : DV) : extractV (.tuple [a, b, c]) 1 = some b := rfl
theorem ke2 (a b c : DV) : extractV (.tuple [a, b, c]) 2 = some c := rfl
theorem awake_F12 : F12 guardT 0 [] = some (.p (.bool true), exS2) := by
  rw [F12_eq]
  simp only [pureFn_fn, List.append_nil, K48, gG, ke0, ke1, ke2, K62a, K62b, kb64_2, K38a, kb24_2, bld26 (x := .p _) (y := .p _) rfl rfl, K20, kx0, kx1, kb24_3, K32, zero26, List.length_nil, List.nil_append, ks1, kl1, K63, kb64_1, K38b, K27, kz52, ks2,
    b_eql30, eqT (rfl : (0 : Int) = 0), b_eql, eqT (rfl : (12 : Int) = 12), eqT (rfl : (4 : Int) = 4), kln, kd1, bs24_1, K33, kd2, kb52, K29]
theorem awake_true : awT := fun σ => pureV_free rfl rfl (F12_call awake_F12) rfl
end Go.D
end
/- Chapter 13: IsGuarded of the program; LassoGuards' law. -/
section
set_option linter.unusedVariables false
set_option linter.unusedSimpArgs false
set_option maxRecDepth 8000
namespace Go.D
open Las
theorem load23 (x : DV) (σ : Store) : load PP 23 x σ = load1 x σ := Eq.trans (by kernel_rfl) rfl
theorem fm_ld (f : Fm) (σ : Store) : load1 (.pptr [eFm f] 0) σ = some (.p (eFm f)) := load1_pptr rfl σ
section
variable {f : Fm} (hk : Ok (L f)) {u : Nat} {U : List Int} (hU : UpTo (L f) (L f).length U)
include hk hU
theorem S114 {i : Nat} (hi : i < (L f).length) {σ : Store} (g0 : σ[0]? = some (.arr (eInts U))) (gu : σ[u]? = some (.mix [.rsl 0 1 0 (L f).length])) :
    pureV CC 114 [N i, .ptr u 0, .pptr [eFm f] 0] σ = some (.p (.int .i64 (ka (L f) U i))) := by
  have hle := hk.le
  have ru := rs_idx (r := 0) (off := 0) hi
  rw [Nat.zero_add] at ru
  have lu : load1 (.ptr u 0) σ = some (.rsl 0 1 0 (L f).length) := load1_ptr gu rfl
  have ld := ia_ld g0 (i := i) (by rw [hU.1]; exact hi)
  refine pureV_rows (by simp [N, view, viewCell, loosen]) rfl (F114_call (r := (.p (.int .i64 (ka (L f) U i)), σ)) ?_) rfl
  rw [F114_eq]
  unfold ka
  by_cases h : U.getD i 0 = -1
  · rw [if_pos h]
    simp only [load24, lu, gG, N, ru, load3, ld, b_eql, eqT h]
  · rw [if_neg h]
    rcases hU.cases hi with ⟨p, p1, p2, p3⟩ | ⟨_, p3⟩
    · have ix := idx23 (f := f) p1
      have gk := nd_k p1 σ
      have e : (U.getD i 0).toNat = p := by omega
      have hp : ¬ ((p : Nat) : Int) = -1 := by omega
      rw [e]
      rw [p3] at ld
      simp only [load24, lu, gG, N, ru, load3, ld, b_eql, eqF hp, load23, fm_ld, ix, fa67_0, shift_ptr, shift_pptr, Nat.zero_add, Nat.add_zero, pureFn_fn, List.append_nil, List.singleton_append, List.cons_append, List.nil_append, gk]
      rfl
    · exact absurd p3 h
theorem L51_2 {o : OI} (ho : (L o).length ≤ 1000) : ∀ (d i : Nat) (σ : Store), (L f).length - i = d → i ≤ (L f).length → σ[0]? = some (.arr (eInts U)) → σ[u]? = some (.mix [.rsl 0 1 0 (L f).length]) →
    ∃ σ', f51_L2 guardT 0 (.p (eSl o)) (.ptr u 0) (.fn 114 [.ptr u 0, .pptr [eFm f] 0]) (.p (eFm f)) (N (L f).length) (N i) σ = some (.tuple [.p (.bool (allP (L f) U (L o) d i)), .p (.int .i64 0)], σ')
  | 0, i, σ, hd, hi, g0, gu => by
    have hle := hk.le
    refine ⟨σ, ?_⟩
    rw [f51_L2_eq guardT rfl]
    simp (disch := omega) only [N, b_lss, ltF, gG, allP]
  | d + 1, i, σ, hd, hi, g0, gu => by
    have hle := hk.le
    have hlt : i < (L f).length := by omega
    have hnd := nd_all hlt
    have hkd : kd (L f) i = ((L f).getD i default).k := rfl
    unfold allP okP
    rw [hkd]
    generalize hx : (L f).getD i default = x at *
    have st := st67 (σ := σ) (lo := 0) (z := [.p (pI 0), .p (pI 0), .p .nilsl]) x rfl (Nat.zero_le _)
    have g : (σ ++ [Row.mix (ndD x)])[σ.length]? = some (.mix (ndD x)) := get_snoc
    have g02 := get_old (row' := Row.mix (ndD x)) g0
    have gu2 := get_old (row' := Row.mix (ndD x)) gu
    have hlu : load1 (.ptr u 0) (σ ++ [Row.mix (ndD x)]) = some (.rsl 0 1 0 (L f).length) := load1_ptr gu2 rfl
    have h91 := fun σ => S91 (o := o) (by omega) x.n σ
    obtain ⟨σ', ih⟩ := L51_2 ho d (i + 1) (σ ++ [Row.mix (ndD x)]) (by omega) (by omega) g02 gu2
    have kaI := S114 hk hU hlt g02 gu2
    have ru := rs_idx (r := 0) (off := 0) hlt
    rw [Nat.zero_add] at ru
    have ld := ia_ld g02 (i := i) (by rw [hU.1]; exact hlt)
    have app : ∀ y : DV, [y] ++ [DV.ptr u 0, DV.pptr [eFm f] 0] = [y, DV.ptr u 0, DV.pptr [eFm f] 0] := fun _ => rfl
    simp only [N] at kaI ih
    by_cases k1 : x.k = 1
    · by_cases k2 : x.n ∈ L o
      · rw [if_pos ⟨k1, k2⟩]
        have e91 : decide (x.n ∈ L o) = true := decide_eq_true k2
        by_cases a7 : ka (L f) U i = 7
        · refine ⟨σ', ?_⟩
          rw [decide_eq_true a7, Bool.true_or, Bool.true_and, ← ih, f51_L2_eq guardT rfl]
          simp (disch := omega) only [N, b_lss, ltT, gG, idx23 hlt, load67, hnd, zero67, st, fa67_0, fa67_1, shift_ptr, shift_pptr, Nat.zero_add, Nat.add_zero, pureFn_fn, List.append_nil, List.singleton_append, List.cons_append, List.nil_append, load3, row_k g, row_n g, b_neq, eqT k1, h91, e91, pureFn, app, kaI, eqT a7, f51_J0_eq, add1]
        · by_cases a2 : ka (L f) U i = 2
          · have hne : ¬ U.getD i 0 = -1 := fun h => by unfold ka at a2; rw [if_pos h] at a2; exact absurd a2 (by decide)
            obtain ⟨p, p1, p2, p3⟩ : ∃ p, p < (L f).length ∧ chd (L f) p i ∧ U.getD i 0 = p := by
              rcases hU.cases hlt with h | ⟨_, h⟩
              · exact h
              · exact absurd h hne
            have kaP := S114 hk hU p1 g02 gu2
            have ep : (U.getD i 0).toNat = p := by omega
            rw [ep]
            rw [p3] at ld
            simp only [N] at kaP
            by_cases a6 : ka (L f) U p = 6
            · refine ⟨σ', ?_⟩
              rw [decide_eq_false a7, decide_eq_true a2, decide_eq_true a6, Bool.true_and, Bool.false_or, Bool.true_and, ← ih, f51_L2_eq guardT rfl]
              simp (disch := omega) only [N, b_lss, ltT, gG, idx23 hlt, load67, hnd, zero67, st, fa67_0, fa67_1, shift_ptr, shift_pptr, Nat.zero_add, Nat.add_zero, pureFn_fn, List.append_nil, List.singleton_append, List.cons_append, List.nil_append, load3, row_k g, row_n g, b_neq, eqT k1, h91, e91, pureFn, app, kaI, eqF a7, eqT a2, load24, hlu, ru, ld, kaP, eqT a6, f51_J0_eq, add1]
            · refine ⟨σ ++ [Row.mix (ndD x)], ?_⟩
              rw [decide_eq_false a7, decide_eq_true a2, decide_eq_false a6, Bool.true_and, Bool.false_or, Bool.false_and, f51_L2_eq guardT rfl]
              simp (disch := omega) only [N, b_lss, ltT, gG, idx23 hlt, load67, hnd, zero67, st, fa67_0, fa67_1, shift_ptr, shift_pptr, Nat.zero_add, Nat.add_zero, pureFn_fn, List.append_nil, List.singleton_append, List.cons_append, List.nil_append, load3, row_k g, row_n g, b_neq, eqT k1, h91, e91, pureFn, app, kaI, eqF a7, eqT a2, load24, hlu, ru, ld, kaP, eqF a6]
          · refine ⟨σ ++ [Row.mix (ndD x)], ?_⟩
            rw [decide_eq_false a7, decide_eq_false a2, Bool.false_and, Bool.false_or, Bool.false_and, f51_L2_eq guardT rfl]
            simp (disch := omega) only [N, b_lss, ltT, gG, idx23 hlt, load67, hnd, zero67, st, fa67_0, fa67_1, shift_ptr, shift_pptr, Nat.zero_add, Nat.add_zero, pureFn_fn, List.append_nil, List.singleton_append, List.cons_append, List.nil_append, load3, row_k g, row_n g, b_neq, eqT k1, h91, e91, pureFn, app, kaI, eqF a7, eqF a2]
      · have e91 : decide (x.n ∈ L o) = false := decide_eq_false k2
        rw [if_neg (fun h => k2 h.2), Bool.true_and]
        refine ⟨σ', ?_⟩
        rw [← ih, f51_L2_eq guardT rfl]
        simp (disch := omega) only [N, b_lss, ltT, gG, idx23 hlt, load67, hnd, zero67, st, fa67_0, fa67_1, shift_ptr, shift_pptr, Nat.zero_add, Nat.add_zero, pureFn_fn, List.append_nil, List.singleton_append, List.cons_append, List.nil_append, load3, row_k g, row_n g, b_neq, eqT k1, h91, e91, f51_J0_eq, add1]
    · rw [if_neg (fun h => k1 h.1), Bool.true_and]
      refine ⟨σ', ?_⟩
      rw [← ih, f51_L2_eq guardT rfl]
      simp (disch := omega) only [N, b_lss, ltT, gG, idx23 hlt, load67, hnd, zero67, st, fa67_0, shift_ptr, shift_pptr, Nat.zero_add, Nat.add_zero, pureFn_fn, List.append_nil, List.singleton_append, List.cons_append, List.nil_append, load3, row_k g, b_neq, eqF k1, f51_J0_eq, add1]
end
def gdE (F : List Nd) (st : List Int) : Int := if (chk F).2 = 0 then stErr st else (chk F).2
theorem gdE_or (F : List Nd) (st : List Int) : orL [(chk F).2, wrg (decide ((st.length : Int) > 12)) 2, wrg (st.any oddA) 3] = gdE F st := by
  unfold gdE stErr
  by_cases h : (chk F).2 = 0
  · rw [h, if_pos rfl]
    by_cases h2 : st.length > 12
    · rw [if_pos h2, decide_eq_true (show (st.length : Int) > 12 by omega)]; rfl
    · rw [if_neg h2, decide_eq_false (show ¬ (st.length : Int) > 12 by omega)]
      cases st.any oddA <;> rfl
  · rw [if_neg h]
    unfold orL
    rw [if_pos h]
theorem rep_neg (n : Nat) : (rep [-1] n).length = n ∧ ∀ i, i < n → (rep [-1] n).getD i 0 = -1 := by
  refine ⟨by rw [rep_len]; simp, fun i hi => ?_⟩
  rw [rep_get (by simpa using hi)]
  simp [Nat.mod_one]
theorem S51 {f : Fm} {o : OI} (hf : FSm f) (ho : (L o).length ≤ 1000) (σ : Store) : pureV CC 51 [.p (eFm f), .p (eSl o)] σ =
    some (.tuple [.p (.bool (decide (gdE (L f) (L o) = 0) && gR (L f) (L o) (L f).length ((L f).length - 1))), .p (.int .i64 (gdE (L f) (L o)))]) := by
  have h70 := fun σ => S70 hf σ
  have h68 := fun σ => S68 (o := o) (f := 112) (caps := []) (q := oddA) (by omega) rfl (fun v => S112 v _) σ
  have q3 : ∀ (σ : Store), pureV CC 66 [.p (.sl true 3 [pI (chk (L f)).2, pI (wrg (decide (((L o).length : Int) > 12)) 2), pI (wrg ((L o).any oddA) 3)])] σ = some (.p (.int .i64 (gdE (L f) (L o)))) := fun σ => by
    rw [← gdE_or]; exact S66 (ex := true) (l := [(chk (L f)).2, wrg (decide (((L o).length : Int) > 12)) 2, wrg ((L o).any oddA) 3]) (by simp) σ
  have bx : boxP (.p (eFm f)) = some (.pptr [eFm f] 0) := rfl
  by_cases hE : gdE (L f) (L o) = 0
  · have hc : (chk (L f)).2 = 0 := by
      unfold gdE at hE
      by_cases h : (chk (L f)).2 = 0
      · exact h
      · rw [if_neg h] at hE; exact hE
    have hk := chk_ok hc
    have hp := hk.pos
    have hle := hk.le
    obtain ⟨τ, c1, c2⟩ := C113 (l := [-1]) (c := (L f).length) (by simp) hp (by simp; omega)
    have e1 : [(-1 : Int)].length * (L f).length = (L f).length := by simp
    rw [e1] at c1
    obtain ⟨n1, n2⟩ := rep_neg (L f).length
    have hl0 := get_lt c2
    have z24 : zeroOf PP 24 = some [.p .nilsl] := Eq.trans (by kernel_rfl) rfl
    have gu : (τ ++ [Row.mix [.rsl 0 1 0 (L f).length]])[τ.length]? = some (.mix [.rsl 0 1 0 (L f).length]) := get_snoc
    have stu : store PP 0 24 (.ptr τ.length 0) (.rsl 0 1 0 (L f).length) (τ ++ [.mix [.p .nilsl]]) = some (τ ++ [.mix [.rsl 0 1 0 (L f).length]]) := by
      have e : splice [DV.p .nilsl] 0 [DV.rsl 0 1 0 (L f).length] = [.rsl 0 1 0 (L f).length] := rfl
      simp [store, s24, DV.cells, storeN, e, DV.one]
    obtain ⟨σ1, r1, r2, r3⟩ := L51_0 hf hk (u := τ.length) (by omega) (x1 := .p (eSl o)) _ 0 (rep [-1] (L f).length) (τ ++ [Row.mix [.rsl 0 1 0 (L f).length]]) rfl (Nat.zero_le _) n1 (get_old c2) gu
    have hU := ups_ok hk (L f).length 0 (rep [-1] (L f).length) (by omega) ⟨n1, fun c hc => ⟨fun r hr => by omega, fun _ => n2 c hc⟩⟩
    rw [Nat.sub_zero] at r2
    obtain ⟨σ2, s1⟩ := L51_2 hk hU ho _ 0 σ1 rfl (Nat.zero_le _) r2 r3
    have hall : allP (L f) (ups (L f) (L f).length 0 (rep [-1] (L f).length)) (L o) ((L f).length - 0) 0 = gR (L f) (L o) (L f).length ((L f).length - 1) := by
      rw [Nat.sub_zero, Bool.eq_iff_iff, allP_RHS hk hU, gR_iff hk _ _ (by omega) (by omega)]
    rw [hall] at s1
    refine pureV_free (by simp only [List.map_cons, List.map_nil, fm_view, sl_view]) rfl (F51_call (r := (.tuple [.p (.bool (gR (L f) (L o) (L f).length ((L f).length - 1))), .p (.int .i64 0)], σ2)) ?_) ?_
    · have he : f51_L0 guardT 0 (.p (eSl o)) (.pptr [eFm f] 0) (.ptr τ.length 0) (.p (eFm f)) (N (L f).length) (N (L f).length) σ1 = some (.tuple [.p (.bool (gR (L f) (L o) (L f).length ((L f).length - 1))), .p (.int .i64 0)], σ2) := by
        rw [← s1, f51_L0_eq guardT rfl]
        simp (disch := omega) only [N, b_lss, ltF, gG, load23, fm_ld, len23]
        rfl
      rw [F51_eq]
      simp only [N] at he r1
      simp (disch := omega) only [bx, gG, load23, fm_ld, shift_ptr, shift_pptr, Nat.zero_add, Nat.add_zero, pureFn_fn, List.append_nil, List.singleton_append, List.cons_append, List.nil_append, h70, (PL.sl o).len, b_gtr, S67, h68, bs160_3, q3, b_neq, eqT hE, bs24_1, len23, N, plainFn]
      have c1' : CC 0 113 [.p (.sl true 1 [.int .i64 (-1)]), .p (.int .i64 ((L f).length : Nat))] [] = some (.rsl 0 1 0 (L f).length, τ) := c1
      simp (disch := omega) only [c1', gG, z24, stu, load23, fm_ld, len23, N]
      exact r1.trans he
    · rw [hE]; simp [thawAll, thawPart, thaw, thaw1, thawP, loosen, mapO]
  · refine pureV_free (by simp only [List.map_cons, List.map_nil, fm_view, sl_view]) rfl (F51_call (r := (.tuple [.p (.bool (decide (gdE (L f) (L o) = 0) && gR (L f) (L o) (L f).length ((L f).length - 1))), .p (.int .i64 (gdE (L f) (L o)))], [])) ?_) rfl
    rw [F51_eq, eqF hE, Bool.false_and]
    simp (disch := omega) only [bx, gG, load23, fm_ld, shift_ptr, shift_pptr, Nat.zero_add, Nat.add_zero, pureFn_fn, List.append_nil, List.singleton_append, List.cons_append, List.nil_append, h70, (PL.sl o).len, b_gtr, S67, h68, bs160_3, q3, b_neq, eqF hE]
end Go.D
end
/- Chapter 13: LassoGuards' law. -/
section
set_option linter.unusedVariables false
set_option linter.unusedSimpArgs false
set_option maxRecDepth 8000
namespace Go.D
open Las
theorem b_eqB' (a b : Bool) : binOp PP .eql 4 (.p (.bool a)) (.p (.bool b)) = some (.p (.bool (a == b))) := Eq.trans (by kernel_rfl) rfl
theorem ex20 (a b : DV) : extractV (.tuple [a, b]) 0 = some a := rfl
theorem ex21 (a b : DV) : extractV (.tuple [a, b]) 1 = some b := rfl
theorem kd_own (F : List Nd) (i : Nat) : kd (F.map ownN) i = kd F i := (own_get F i).2.1
theorem c7_own (F : List Nd) (r : Nat) : c7 (F.map ownN) r = c7 F r := by unfold c7; rw [kd_own, nA_own, kd_own]
theorem c6_own (F : List Nd) (r : Nat) : c6 (F.map ownN) r = c6 F r := by unfold c6; rw [kd_own, nA_own, kd_own, nA_own, kd_own]
theorem gR_own (F : List Nd) (st : List Int) : ∀ (m r : Nat), gR (F.map ownN) st m r = gR F st m r
  | 0, r => rfl
  | m + 1, r => by
    unfold gR
    have e : gR (F.map ownN) st m = gR F st m := funext fun r => gR_own F st m r
    rw [kd_own, (own_get F r).2.2, c7_own, c6_own, nA_own, e]
theorem call9 (f : Fm) (o : OI) : ∃ σ', CC 0 9 [.p (eFm f), .p (eSl o)] [] = some (.p (.bool true), σ') := by
  have haw := awake_true
  obtain ⟨b, b1, b2⟩ := S13 f []
  refine ⟨[], F9_call ?_⟩
  rw [F9_eq]
  cases b with
  | false => simp only [gG, shift_ptr, shift_pptr, Nat.zero_add, Nat.add_zero, pureFn_fn, List.append_nil, List.singleton_append, List.cons_append, List.nil_append, haw _, b1]
  | true =>
    have hf := b2 rfl
    by_cases h15 : ((L o).length : Int) > 15
    · simp only [gG, shift_ptr, shift_pptr, Nat.zero_add, Nat.add_zero, pureFn_fn, List.append_nil, List.singleton_append, List.cons_append, List.nil_append, haw _, b1, (PL.sl o).len, b_gtr, gtT h15]
    · have ho : (L o).length ≤ 1000 := by omega
      have h51 := fun σ => S51 (o := some (L o)) hf.own ho σ
      have e1 : gdE (L (oF ((L f).map ownN))) (L (some (L o))) = gdE (L f) (L o) := by
        rw [L_oF]
        unfold gdE
        rw [chk_own]
        rfl
      have e2 : gR (L (oF ((L f).map ownN))) (L (some (L o))) (L (oF ((L f).map ownN))).length ((L (oF ((L f).map ownN))).length - 1) = gR (L f) (L o) (L f).length ((L f).length - 1) := by
        rw [L_oF, List.length_map]
        exact gR_own _ _ _ _
      simp only [e1, e2] at h51
      have h25 := fun σ => S25 hf σ
      have h53 := fun σ => S53 (o := o) ho σ
      by_cases hc : (chk (L f)).2 = 0
      · have eg : gdE (L f) (L o) = stErr (L o) := by unfold gdE; rw [if_pos hc]
        by_cases hs : stErr (L o) = 0
        · have hE : gdE (L f) (L o) = 0 := by rw [eg, hs]
          have h54 := fun σ => S54 hf (chk_ok hc) ho σ
          simp only [hE, eqT (rfl : (0 : Int) = 0), Bool.true_and] at h51
          have eb : (gR (L f) (L o) (L f).length ((L f).length - 1) == gR (L f) (L o) (L f).length ((L f).length - 1)) = true := by cases gR (L f) (L o) (L f).length ((L f).length - 1) <;> rfl
          simp (disch := omega) only [gG, shift_ptr, shift_pptr, Nat.zero_add, Nat.add_zero, pureFn_fn, List.append_nil, List.singleton_append, List.cons_append, List.nil_append, haw _, b1, (PL.sl o).len, b_gtr, gtF h15, S19 hf, S52 (show (L o).length ≤ 1000000 by omega), h51, ex20, ex21, h25, b_eql, eqT hc, h53, f9_J0_eq, b_neq, eqT hs, eqT (rfl : (0 : Int) = 0), h54, b_eqB', Bool.true_and, eb]
        · have hE : ¬ gdE (L f) (L o) = 0 := by rw [eg]; exact hs
          simp only [eqF hE, Bool.false_and] at h51
          simp (disch := omega) only [gG, shift_ptr, shift_pptr, Nat.zero_add, Nat.add_zero, pureFn_fn, List.append_nil, List.singleton_append, List.cons_append, List.nil_append, haw _, b1, (PL.sl o).len, b_gtr, gtF h15, S19 hf, S52 (show (L o).length ≤ 1000000 by omega), h51, ex20, ex21, h25, b_eql, eqT hc, h53, f9_J0_eq, b_neq, eqF hs, eqT eg]
      · have eg : gdE (L f) (L o) = (chk (L f)).2 := by unfold gdE; rw [if_neg hc]
        have hE : ¬ gdE (L f) (L o) = 0 := by rw [eg]; exact hc
        simp only [eqF hE, Bool.false_and] at h51
        simp (disch := omega) only [gG, shift_ptr, shift_pptr, Nat.zero_add, Nat.add_zero, pureFn_fn, List.append_nil, List.singleton_append, List.cons_append, List.nil_append, haw _, b1, (PL.sl o).len, b_gtr, gtF h15, S19 hf, S52 (show (L o).length ≤ 1000000 by omega), h51, ex20, ex21, h25, b_eql, eqF hc, f9_J0_eq, b_neq, eqT eg]
end Go.D
end
/- LassoGuards: for every formula and every list of atoms the law answers true and leaves its arguments as they were: the given tied card, without further conditions. -/
section
set_option linter.unusedVariables false
set_option linter.unusedSimpArgs false
set_option maxRecDepth 100000
namespace Go.D
open Go.ChangeShapes Go.WideShapes Go.ChangeAt Go.RowKit

theorem lassoGuards_calls {H : Type} {enc : TypeId × Value → H} {W : World} {base : Nat} {args : Array Value} {ds : List (DataW H)} {ps : List MemPlace}
    (hval : ∀ (j : Nat) t v, ([23, 24] : List TypeId).toArray[j]? = some t → args[j]? = some v → Value.okWide PP W .any base t v)
    (hA : DataW.TrodAll enc PP W 0 (fun _ => true) true [23, 24] args.toList ds ps) :
    Calls PP 9 args W fun e W' => e = .returned (.bool true) ∧ Below W.heap.size W W' := by
  obtain ⟨v0, v1, d0, d1, p0, p1, rfl, rfl, rfl, h0, h1⟩ := trodAll_two hA
  obtain ⟨o0, ho0⟩ := read_fm (hval 0 23 v0 rfl rfl) h0
  obtain ⟨o1, ho1⟩ := read_sl (hval 1 24 v1 rfl rfl) h1
  obtain ⟨σ', hc⟩ := call9 o0 o1
  refine calls_of hc ⟨rfl, fun j h1 h2 => ?_⟩
  match j, h1 with
  | 0, _ => exact ho0
  | 1, _ => exact ho1

end Go.D
namespace Go.Proofs.YtpacancmcjbckaaGreatDoor
open Go.D Go.ChangeShapes Go.WideShapes Go.ChangeAt Go.RowKit

set_option maxRecDepth 100000 in
theorem lassoGuards_lifted (os : Os) (started : os.Started) (H : Type) (enc : TypeId × Value → H) :
    ReturnsInHanded {} Tryz.checked os 9 .any (fun w args => (Rows.lassoGuardsSpec.pre enc Tryz.prog Tryz.f9 [] false w args ∧ laidMetH Tryz.prog Rows.lassoGuardsRow.laid w) ∧ sizedMet enc Tryz.prog Tryz.f9 (OpenSpec.ofChange Rows.lassoGuardsSpec) false w args)
      (Rows.lassoGuardsSpec.post enc Tryz.prog Tryz.f9 false true false false) := by
  refine returnsInHanded_of_change_and (C := Tryz.checked) (X := fun w _ => laidMetH Tryz.prog Rows.lassoGuardsRow.laid w) (fun _ _ _ hh h => h.of_heap hh) own_ok started (by kernel_rfl) Tryz.func9
    (ChangeSpec.witness_at (enc := enc) (C := Tryz.checked) (os := os) (X := fun w _ => laidMetH Tryz.prog Rows.lassoGuardsRow.laid w) false (laidW os) #[.slice none 0 0, .slice none 0 0] 8 (World.laidAll_os _ _ _) (by kernel_rfl) (by kernel_rfl) (by kernel_rfl) (by kernel_rfl) (by kernel_rfl) (laidW_met os _)) ?_
  intro W base args ds gs before hval0 hW _ _ _ _
  have hval : ∀ (j : Nat) t v, Tryz.f9.params[j]? = some t → args[j]? = some v → Value.okWide Tryz.prog W .any base t v := hval0
  have hW' := hW
  obtain ⟨p, q, hA0, hV, rfl, _, _⟩ := hW
  have hA : DataW.TrodAll enc Tryz.prog W 0 (fun _ => true) true Tryz.f9.params.toList args.toList ds p := hA0
  rw [Tryz.params9] at hA hval
  have hA2 := hA
  obtain ⟨v0, v1, d0, d1, p0, p1, rfl, rfl, rfl, h0, h1⟩ := trodAll_two hA
  obtain ⟨rfl, rfl⟩ := trodVars_none hV
  have hlt : ∀ x ∈ p0 ++ p1, x.block < W.heap.size := fun x hx => by
    have := hW'.lt x (by simpa using hx)
    exact this
  have e0 : ∀ x ∈ p0, x.block < W.heap.size := fun x hx => hlt x (List.mem_append_left _ hx)
  have e1 : ∀ x ∈ p1, x.block < W.heap.size := fun x hx => hlt x (List.mem_append_right _ hx)
  refine (lassoGuards_calls (base := base) hval hA2).mono ?_
  rintro e W2 ⟨rfl, hnx⟩
  refine ⟨_, rfl, _, _, _, [], p0 ++ p1, [], hW', ?_, ?_, rfl, hnx.frame _, fun h => by cases h⟩
  · exact trodAll_mk1 (shut_bool ul4 true)
  · exact trodAll_mk2 (Below.trod laidOut_ok (by kernel_rfl) (of_decide_eq_true (by kernel_rfl)) h0 hnx e0) (Below.trod laidOut_ok (by kernel_rfl) (of_decide_eq_true (by kernel_rfl)) h1 hnx e1)

theorem lassoGuards_row : Rows.LassoGuardsSaid :=
  OpenClaim.holds_of_wide 9 Tryz.f9 rfl rfl rfl rfl rfl rfl rfl ⟨rfl, rfl, rfl, rfl, rfl⟩ rfl rfl rfl rfl rfl (by kernel_rfl) Tryz.func9 (by kernel_rfl)
    (of_decide_eq_true (by kernel_rfl)) (by unfold Func.isWrapper; first | (rw [if_pos (by decide +kernel)]; kernel_rfl) | (rw [if_neg (by decide +kernel)]; exact ⟨rfl, rfl⟩))
    (fun os started H enc _ => lassoGuards_lifted os started H enc)

theorem lassoGuards_holds : Rows.LassoGuardsCardSaid :=
  Claim7.holds_tied_plain_at .later [] [.data, .data, .data, .sentinel, .sentinel] true (true, "98bef7c5375844f969da89516d037819b1a57239a7494585b2bb93910f3c950f") true
    lassoGuards_row (fun _ h => by cases h) (by kernel_rfl) (fun _ h => by cases h) lassoGuards_row_tie rfl ⟨rfl, rfl⟩ (by kernel_rfl) rfl
    (fun f fn hf hfn => by
      obtain rfl : f = 9 := Option.some.inj ((show Tryz.prog.funcNamed "stutter/stutterlaw13.LassoGuards" = some 9 by kernel_rfl).symm.trans hf) |>.symm
      obtain rfl : fn = Tryz.f9 := (Option.some.inj (Tryz.func9.symm.trans hfn)).symm
      refine ⟨by kernel_rfl, fun j t ht => ?_⟩
      have hall : (Tryz.f9.params.toList.all fun t => Tryz.prog.wantsStandIn t == false) = true := by kernel_rfl
      have hm : t ∈ Tryz.f9.params.toList := by
        have := Array.mem_of_getElem? ht
        exact this.val
      exact eq_of_beq (List.all_eq_true.1 hall t hm))
    (by kernel_rfl)

end Go.Proofs.YtpacancmcjbckaaGreatDoor
end
