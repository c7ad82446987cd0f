/- OpenComposes: for all two components the law answers true and leaves its arguments as they were: the given statement, without conditions. -/
import Derived.Test.YthddgnfaaccgjaaPi
import Derived.Test.YthddgnfaaccgjaaPg
/- Seat 2: Composed, joined. -/
section
set_option linter.unusedVariables false
set_option linter.unusedSimpArgs false
namespace Go.D.StB
open Go.D.Srt
theorem bld47n : build PP 47 [] = some (.agg [.p (pI 0), .p .nilsl, .p .nilsl]) := Eq.trans (by kernel_rfl) rfl
def errC (e : Int) : DV := .tuple [.agg [.p (pI 0), .p .nilsl, .p .nilsl], .p .nilsl, .p (pI e)]
theorem b_neq' (t : TypeId) (x y : Int) : binOp PP .neq t (.p (.int .i64 x)) (.p (.int .i64 y)) = some (.p (.bool (!decide (x = y)))) := b_neq _ _ _ _
theorem S20e {a b : Cmp} (ha : CSm a) (hb : CSm b) (he : orL [cmpE a, cmpE b] ≠ 0) (σ : Store) : pureV CC 20 [.agg (eCmp a), .agg (eCmp b)] σ = some (errC (orL [cmpE a, cmpE b])) := by
  have g0 : ([Row.mix (eCmp a), Row.mix (eCmp b), Row.mix [.p (pI 0), .p .nilsl, .p .nilsl]] : Store)[0]? = some (.mix (eCmp a)) := rfl
  have g1 : ([Row.mix (eCmp a), Row.mix (eCmp b), Row.mix [.p (pI 0), .p .nilsl, .p .nilsl]] : Store)[1]? = some (.mix (eCmp b)) := rfl
  have g2 : ([Row.mix (eCmp a), Row.mix (eCmp b), Row.mix [.p (pI 0), .p .nilsl, .p .nilsl]] : Store)[2]? = some (.mix [.p (pI 0), .p .nilsl, .p .nilsl]) := rfl
  refine pureV_free (by simp [cmp_view]) rfl (F20_call (r := (errC (orL [cmpE a, cmpE b]), [Row.mix (eCmp a), Row.mix (eCmp b), Row.mix [.p (pI 0), .p .nilsl, .p .nilsl]])) ?_) rfl
  rw [F20_eq]
  simp only [box_cmp, guard_tt, guard_ff, guard_tf, guard_ft, guard_sk, obind, omap, pickV_true, pickV_false, condK_true, condK_false, decide_true, decide_false, Bool.not_true, Bool.not_false, not_bool, List.length_nil, List.nil_append, List.length_cons, List.cons_append, zr47, Nat.reduceAdd]
  have hst := st47 (c := [.p (pI 0), .p .nilsl, .p .nilsl]) g2 rfl rfl rfl
  have e1 : ([Row.mix (eCmp a), Row.mix (eCmp b), Row.mix [.p (pI 0), .p .nilsl, .p .nilsl]] : Store).set 2 (.mix [.p (pI 0), .p .nilsl, .p .nilsl]) = [Row.mix (eCmp a), Row.mix (eCmp b), Row.mix [.p (pI 0), .p .nilsl, .p .nilsl]] := rfl
  rw [e1] at hst
  have hcv : cellV PP 47 (.ptr 2 0) [Row.mix (eCmp a), Row.mix (eCmp b), Row.mix [.p (pI 0), .p .nilsl, .p .nilsl]] = some (.agg [.p (pI 0), .p .nilsl, .p .nilsl]) := (cellV_ptr _ _ _ _ _).trans (ld47 g2)
  generalize ([Row.mix (eCmp a), Row.mix (eCmp b), Row.mix [.p (pI 0), .p .nilsl, .p .nilsl]] : Store) = ρ at *
  simp only [load25, Nat.zero_add, cm_all g0, cm_all g1, omap, obind, pureFn_fn, List.append_nil, S29 ha, S29 hb, bs160_2]
  rw [S52t (l := [cmpE a, cmpE b]) (n := 2) rfl (by simp)]
  simp only [obind, b_neq', eqF he, Bool.not_false, condK_true, bld47n]
  rw [hst]
  simp only [obind]
  rw [hcv]
  simp only [obind]
  rfl
section
variable {a b : Cmp} {na nb : Nat} (ha : COk a na) (hb : COk b nb)
include ha hb
omit ha hb in
theorem co_empty (hne : begL a b = []) {σ : Store} (h2 : ∃ z, σ[2]? = some (.mix z) ∧ z.length = 3) {q : Nat} (hq : σ[q]? = some (.mix [.p .nilsl])) :
    ∃ ρ v, f20_L0 guardT 0 (.ptr 0 0) (.ptr 1 0) (.ptr 2 0) (.p .nilsl) (.ptr q 0) (N 0) σ = some (v, ρ) ∧ thawAll 0 ρ v = some (resC a b []) := by
  have hl : load1 (.ptr q 0) σ = some (.p .nilsl) := load1_ptr hq rfl
  have hlen : ∀ σ, len PP 116 (.p .nilsl) σ = some (.p (.int .i64 0)) := fun σ => by simp [len, uL]
  obtain ⟨z, z1, z2⟩ := h2
  have hq' : (σ ++ [Row.mix [.p (.int .i64 0), .p .nilsl, .p .nilsl]])[q]? = some (.mix [.p .nilsl]) := get_old hq
  have hl' : load1 (.ptr q 0) (σ ++ [Row.mix [.p (.int .i64 0), .p .nilsl, .p .nilsl]]) = some (.p .nilsl) := load1_ptr hq' rfl
  have hz' : (σ ++ [Row.mix [.p (.int .i64 0), .p .nilsl, .p .nilsl]])[2]? = some (.mix z) := get_old z1
  have ht : (σ ++ [Row.mix [.p (.int .i64 0), .p .nilsl, .p .nilsl]])[σ.length]? = some (.mix [.p (.int .i64 0), .p .nilsl, .p .nilsl]) := get_snoc
  have hst := st47 (c := [.p (.int .i64 0), .p .nilsl, .p .nilsl]) hz' z2 rfl rfl
  have hs := sort_nil (σ := σ) (lo := 0)
  have hcv : cellV PP 47 (.ptr 2 0) ((σ ++ [Row.mix [.p (.int .i64 0), .p .nilsl, .p .nilsl]]).set 2 (.mix [.p (.int .i64 0), .p .nilsl, .p .nilsl])) = some (.agg [.p (.int .i64 0), .p .nilsl, .p .nilsl]) :=
    (cellV_ptr _ _ _ _ _).trans (ld47 (by rw [List.getElem?_set_self (get_lt hz')]))
  have hl47 := ld47 ht
  have hN := stN47 (σ := σ) 0
  refine ⟨(σ ++ [Row.mix [.p (.int .i64 0), .p .nilsl, .p .nilsl]]).set 2 (.mix [.p (.int .i64 0), .p .nilsl, .p .nilsl]), .tuple [.agg [.p (.int .i64 0), .p .nilsl, .p .nilsl], .p .nilsl, .p (.int .i64 0)], ?_, ?_⟩
  · rw [f20_L0_eq guardT rfl]
    have z0 : ((0 : Nat) : Int) = 0 := rfl
    simp only [N, z0, load116, hl, guard_tt, guard_ff, guard_tf, guard_ft, guard_sk, obind, omap, pickV_true, pickV_false, condK_true, condK_false, decide_true, decide_false, Bool.not_true, Bool.not_false, not_bool, hlen, b_lss, Int.lt_irrefl, plainFn_fn, List.append_nil]
    rw [hs]
    simp only [guard_tt, guard_ff, guard_tf, guard_ft, guard_sk, obind, omap, pickV_true, pickV_false, condK_true, condK_false, decide_true, decide_false, Bool.not_true, Bool.not_false, not_bool, load116, hl, hlen, bld47, zr47, hN]
    rw [f20_L2_eq guardT rfl]
    simp only [b_lss, Int.lt_irrefl, guard_tt, guard_ff, guard_tf, guard_ft, guard_sk, obind, omap, pickV_true, pickV_false, condK_true, condK_false, decide_true, decide_false, Bool.not_true, Bool.not_false, not_bool, load116, hl', hlen]
    rw [f20_L3_eq guardT rfl]
    simp only [b_lss, Int.lt_irrefl, guard_tt, guard_ff, guard_tf, guard_ft, guard_sk, obind, omap, pickV_true, pickV_false, condK_true, condK_false, decide_true, decide_false, Bool.not_true, Bool.not_false, not_bool, hl47, hst, hcv]
  · rw [resC, hne]
    rfl
theorem S20 (σ : Store) (he : orL [cmpE a, cmpE b] = 0) : ∃ B, B.Perm (gro a b 1000 0 (begL a b)) ∧ Asc B ∧ pureV CC 20 [.agg (eCmp a), .agg (eCmp b)] σ = some (resC a b B) := by
  have g0 : ([Row.mix (eCmp a), Row.mix (eCmp b), Row.mix [.p (pI 0), .p .nilsl, .p .nilsl]] : Store)[0]? = some (.mix (eCmp a)) := rfl
  have g1 : ([Row.mix (eCmp a), Row.mix (eCmp b), Row.mix [.p (pI 0), .p .nilsl, .p .nilsl]] : Store)[1]? = some (.mix (eCmp b)) := rfl
  have g2 : ([Row.mix (eCmp a), Row.mix (eCmp b), Row.mix [.p (pI 0), .p .nilsl, .p .nilsl]] : Store)[2]? = some (.mix [.p (pI 0), .p .nilsl, .p .nilsl]) := rfl
  have gl : ([Row.mix (eCmp a), Row.mix (eCmp b), Row.mix [.p (pI 0), .p .nilsl, .p .nilsl]] : Store).length = 3 := rfl
  have hi1 := ha.sm.i
  have hi2 := hb.sm.i
  have head : F20 guardT 0 (.agg (eCmp a)) (.agg (eCmp b)) [] =
      (plainFn CC 0 (DV.fn 66 []) [.p (eBs (begL a b))] ([Row.mix (eCmp a), Row.mix (eCmp b), Row.mix [.p (pI 0), .p .nilsl, .p .nilsl]] : Store)).bind fun r36_3 =>
        (store PP 0 116 (DV.ptr (List.length r36_3.2) 0) r36_3.1 (r36_3.2 ++ [Row.mix [.p .nilsl]])).bind fun σ4 =>
        f20_L0 guardT 0 (DV.ptr 0 0) (DV.ptr 1 0) (DV.ptr 2 0) (.p (eBs (begL a b))) (DV.ptr (List.length r36_3.2) 0) (DV.p (PV.int IntKind.i64 (0))) σ4 := by
    rw [F20_eq]
    simp only [box_cmp, guard_tt, guard_ff, guard_tf, guard_ft, guard_sk, obind, omap, pickV_true, pickV_false, condK_true, condK_false, decide_true, decide_false, Bool.not_true, Bool.not_false, not_bool, List.length_nil, List.nil_append, List.length_cons, List.cons_append, zr47, Nat.reduceAdd]
    generalize ([Row.mix (eCmp a), Row.mix (eCmp b), Row.mix [.p (pI 0), .p .nilsl, .p .nilsl]] : Store) = ρ at *
    simp only [load25, Nat.zero_add, cm_all g0, cm_all g1, omap, obind, pureFn_fn, List.append_nil, S29 ha.sm, S29 hb.sm, bs160_2]
    rw [S52t (l := [cmpE a, cmpE b]) (n := 2) rfl (by simp)]
    simp only [obind, b_neq', eqT he, Bool.not_true, condK_false, S65 hi1 hi2, zr116]
  generalize hρ : ([Row.mix (eCmp a), Row.mix (eCmp b), Row.mix [.p (pI 0), .p .nilsl, .p .nilsl]] : Store) = ρ at *
  by_cases hne : begL a b = []
  · have e1 : eBs (begL a b) = .nilsl := by rw [hne]; rfl
    have hq : (ρ ++ [Row.mix [.p .nilsl]])[ρ.length]? = some (.mix [.p .nilsl]) := get_snoc
    obtain ⟨ρ', v, k1, k2⟩ := co_empty hne (σ := ρ ++ [Row.mix [.p .nilsl]]) ⟨_, get_old g2, rfl⟩ hq
    refine ⟨[], ?_, List.Pairwise.nil, pureV_free (by simp [cmp_view]) rfl (F20_call (r := (v, ρ')) ?_) k2⟩
    · rw [hne]
      exact List.Perm.refl _
    · have hn := stN116 (σ := ρ) (v := .p .nilsl) rfl rfl
      rw [head, e1]
      simp only [plainFn_fn, List.append_nil, S66n, obind, hn]
      exact k1
  · have hlen : (begL a b).length ≤ 100 := Nat.le_trans (IG.beg ha hb).len (le100 ha hb)
    have h66 := S66 hne (by omega) ρ
    have hn := stN116 (σ := ρ ++ [.mix (cels (begL a b))]) (v := .rsl ρ.length 2 0 (begL a b).length) rfl rfl
    have hcs : CS a b (ρ ++ [Row.mix (cels (begL a b))]).length (begL a b) ((ρ ++ [Row.mix (cels (begL a b))]) ++ [Row.mix [.rsl ρ.length 2 0 (begL a b).length]]) :=
      ⟨get_old (get_old g0), get_old (get_old g1), ⟨_, get_old (get_old g2), rfl⟩, by rw [List.length_append]; omega, .rsl ρ.length 2 0 (begL a b).length, get_snoc, .inr ⟨ρ.length, rfl, get_old get_snoc, by omega, hne⟩, fun r e => by
        injection e with e
        rw [List.length_append]
        simp only [List.length_singleton]
        omega⟩
    obtain ⟨B, ρ', v, k1, k2, k3, k4⟩ := co_main ha hb hne hcs
    refine ⟨B, k1, k2, pureV_free (by simp [cmp_view]) rfl (F20_call (r := (v, ρ')) ?_) k4⟩
    rw [head]
    simp only [plainFn_fn, List.append_nil, h66, obind, hn]
    exact k3
end
end Go.D.StB
end
/- Seat 2: the reference's lists of pairs: place and joint. -/
section
set_option linter.unusedVariables false
set_option linter.unusedSimpArgs false
namespace Go.D.StB
open Go.D.Srt
theorem pD_sl (x : E) : pD x = eSl (some [x.1, x.2]) := rfl
theorem loosens_pD (A : List E) : loosens (A.map pD) = A.map pD := by
  induction A with
  | nil => rfl
  | cons x A ih => simp only [List.map_cons, loosens, ih]; rfl
theorem ePn_view (A : List E) : view (.p (ePn A)) = .p (ePn A) := by
  unfold ePn
  split <;> simp [view, viewCell, loosen, loosens_pD]
theorem pD_view (x : E) : view (.p (pD x)) = .p (pD x) := rfl
theorem len48p (A : List E) (σ : Store) : len PP 48 (.p (ePn A)) σ = some (.p (.int .i64 (A.length : Nat))) := by
  unfold ePn
  by_cases h : A.length = 0
  · rw [if_pos h, h]; simp [len, un48]
  · rw [if_neg h]; simp [len, un48]
theorem idx48p {A : List E} {i : Nat} (h : i < A.length) : indexAddr PP 48 (.p (ePn A)) (.p (.int .i64 (i : Nat))) = some (.pptr (A.map pD) i) := by
  have h1 : A.length ≠ 0 := by omega
  have h2 : (0 : Int) ≤ (i : Int) ∧ (i : Int) < (A.length : Nat) := by omega
  simp [indexAddr, un48, s22', ePn, h1, h2, h]
theorem ld48p {A : List E} {i : Nat} (h : i < A.length) (σ : Store) : load1 (.pptr (A.map pD) i) σ = some (.p (pD (ge A i))) :=
  load1_pptr (by rw [List.getElem?_map, List.getElem?_eq_getElem h, ge_at h]; rfl) σ
theorem eqPair (x y : E) : (L (some [x.1, x.2]) = L (some [y.1, y.2])) ↔ y = x := by
  obtain ⟨a, b⟩ := x
  obtain ⟨c, d⟩ := y
  simp
  omega
theorem pl_L0 {A : List E} {x : E} (hn : A.length ≤ 100000) : ∀ (k i : Nat), A.length - i = k → i ≤ A.length →
    f75_L0 guardT 0 (.p (ePn A)) (.p (pD x)) (N i) [] = some (.p (.int .i64 (fIdx x i (A.drop i))), [])
  | 0, i, hk, hi => by
    rw [f75_L0_eq guardT rfl, List.drop_of_length_le (by omega)]
    simp (disch := omega) only [N, len48p, guard_tt, guard_ff, guard_tf, guard_ft, guard_sk, obind, omap, pickV_true, pickV_false, condK_true, condK_false, decide_true, decide_false, Bool.not_true, Bool.not_false, not_bool, b_lss, ltF, fIdx]
  | k + 1, i, hk, hi => by
    have hil : i < A.length := by omega
    have e0 : A.drop i = ge A i :: A.drop (i + 1) := by rw [ge_at hil]; exact List.drop_eq_getElem_cons hil
    have ih := pl_L0 (x := x) hn k (i + 1) (by omega) (by omega)
    have h61 := S61d (a := some [(ge A i).1, (ge A i).2]) (b := some [x.1, x.2]) (σ := []) (by simp)
    rw [← pD_sl, ← pD_sl] at h61
    rw [f75_L0_eq guardT rfl, e0, fIdx]
    by_cases e : x = ge A i
    · rw [if_pos e]
      rw [decide_eq_true ((eqPair _ _).2 e)] at h61
      simp (disch := omega) only [N, len48p, guard_tt, guard_ff, guard_tf, guard_ft, guard_sk, obind, omap, pickV_true, pickV_false, condK_true, condK_false, decide_true, decide_false, Bool.not_true, Bool.not_false, not_bool, b_lss, ltT, idx48p, load22, ld48p, pureFn_fn, List.append_nil, h61]
    · rw [if_neg e]
      rw [decide_eq_false (fun h => e ((eqPair _ _).1 h))] at h61
      simp (disch := omega) only [N, len48p, guard_tt, guard_ff, guard_tf, guard_ft, guard_sk, obind, omap, pickV_true, pickV_false, condK_true, condK_false, decide_true, decide_false, Bool.not_true, Bool.not_false, not_bool, b_lss, ltT, idx48p, load22, ld48p, pureFn_fn, List.append_nil, h61, add1]
      exact ih
theorem S75 {A : List E} {x : E} {σ : Store} (hn : A.length ≤ 100000) : pureV CC 75 [.p (ePn A), .p (pD x)] σ = some (.p (.int .i64 (fIdx x 0 A))) := by
  refine pureV_free (by simp [ePn_view, pD_view]) rfl (F75_call (r := (.p (.int .i64 (fIdx x 0 A)), [])) ?_) rfl
  rw [F75_eq]
  have := pl_L0 (x := x) hn (A.length - 0) 0 rfl (Nat.zero_le _)
  rw [List.drop_zero] at this
  exact this
theorem fIdx_idx (x : E) : ∀ (l : List E) (i : Nat), x ∈ l → fIdx x i l = ((i + l.idxOf x : Nat) : Int)
  | [], i, h => absurd h (by simp)
  | y :: l, i, h => by
    unfold fIdx
    by_cases e : x = y
    · subst e; simp
    · have e2 : (y == x) = false := by
        rw [beq_eq_false_iff_ne]
        exact fun h => e h.symm
      rw [if_neg e, fIdx_idx x l (i + 1) (by simpa [e] using h), List.idxOf_cons, e2]
      simp only [cond_false]
      congr 1
      omega
end Go.D.StB
end
/- Seat 2: the reference's first pairs, and joint steps. -/
section
set_option linter.unusedVariables false
set_option linter.unusedSimpArgs false
namespace Go.D.StB
open Go.D.Srt
theorem Out.pushP {σ : Store} {A : List E} {cs : List PV} {x : DV} (ho : Out σ 0 1 A.length cs x) (hn : A.length ≤ 10000000) (e : E) (v : PV) :
    ∃ x' σ', append PP 0 false 48 48 x (.p (.sl true 1 [v])) σ = some (x', σ') ∧ Out σ' 0 1 (A ++ [e]).length (cs ++ [v]) x' ∧ KM σ σ' ∧ Others σ σ' x ∧ Fresh σ x x' := by
  obtain ⟨x', σ', h1, h2, h3, h4⟩ := Out.pushF (vs := [v]) src48 un48 s22' by22 zr22 rfl (by decide) (by decide) (by decide) rfl ho hn (Nat.zero_le _)
  exact ⟨x', σ', h1, by rw [List.length_append]; exact h2, km_app ho h3, h3, h4⟩
section
variable {a b : Cmp} {i2 i3 : Nat} (ha : (L a.init).length ≤ 1000) (hb : (L b.init).length ≤ 1000)
include hb
theorem fi_L1 {q : Nat} (hq : q < (L a.init).length) (hq2 : q ≤ 1000) : ∀ (d k : Nat) (A : List E) (y : DV) (σ : Store), (L b.init).length - k = d → k ≤ (L b.init).length → σ[i2]? = some (.mix (eCmp a)) → σ[i3]? = some (.mix (eCmp b)) →
    Out σ 0 1 A.length (A.map pC) y → A.length ≤ 1000 * q + k →
    ∃ y' σ', f73_L1 guardT 0 (.ptr i2 0) (.ptr i3 0) y (N q) (N k) σ = f73_L0 guardT 0 (.ptr i2 0) (.ptr i3 0) y' (N (q + 1)) σ' ∧
      Out σ' 0 1 (A ++ ((L b.init).drop k).map fun u => ((L a.init).getD q 0, u)).length ((A ++ ((L b.init).drop k).map fun u => ((L a.init).getD q 0, u)).map pC) y' ∧ KM σ σ'
  | 0, k, A, y, σ, hd, hk, g2, g3, hO, hA => by
    refine ⟨y, σ, ?_, by rw [List.drop_of_length_le (by omega)]; simpa using hO, fun j cs h => h⟩
    rw [f73_L1_eq guardT rfl]
    simp (disch := omega) only [N, fa25_1, shift_ptr, shift_pptr, Nat.zero_add, Nat.add_zero, pureFn_fn, List.append_nil, List.singleton_append, List.cons_append, List.nil_append, load22, cm_1 g3, len22, b_lss, ltF, guard_tt, guard_ff, guard_tf, guard_ft, guard_sk, obind, omap, pickV_true, pickV_false, condK_true, condK_false, decide_true, decide_false, Bool.not_true, Bool.not_false, not_bool, add1]
  | d + 1, k, A, y, σ, hd, hk, g2, g3, hO, hA => by
    have hkl : k < (L b.init).length := by omega
    have e0 : (L b.init).drop k = (L b.init).getD k 0 :: (L b.init).drop (k + 1) := by
      rw [List.getD_eq_getElem?_getD, List.getElem?_eq_getElem hkl]; exact List.drop_eq_getElem_cons hkl
    obtain ⟨y1, σ1, p1, p2, p3, _, _⟩ := Out.pushP hO (by omega) ((L a.init).getD q 0, (L b.init).getD k 0) (pC ((L a.init).getD q 0, (L b.init).getD k 0))
    rw [show A.map pC ++ [pC ((L a.init).getD q 0, (L b.init).getD k 0)] = (A ++ [((L a.init).getD q 0, (L b.init).getD k 0)]).map pC by simp] at p2
    obtain ⟨y', σ', r1, r2, r3⟩ := fi_L1 hq hq2 d (k + 1) _ y1 σ1 (by omega) (by omega) (p3 _ _ g2) (p3 _ _ g3) p2 (by simp; omega)
    refine ⟨y', σ', ?_, ?_, p3.trans r3⟩
    · rw [← r1, f73_L1_eq guardT rfl]
      have hp : ∀ σ, buildSlice PP none 22 2 [(0, .p (.int .i64 ((L a.init).getD q 0))), (1, .p (.int .i64 ((L b.init).getD k 0)))] σ = some (.p (pC ((L a.init).getD q 0, (L b.init).getD k 0)), σ) := fun σ => bs22p ((L a.init).getD q 0, (L b.init).getD k 0) σ
      simp (disch := omega) only [N, fa25_1, shift_ptr, shift_pptr, Nat.zero_add, Nat.add_zero, pureFn_fn, List.append_nil, List.singleton_append, List.cons_append, List.nil_append, load22, load3, cm_1 g2, cm_1 g3, len22, b_lss, ltT, guard_tt, guard_ff, guard_tf, guard_ft, guard_sk, obind, omap, pickV_true, pickV_false, condK_true, condK_false, decide_true, decide_false, Bool.not_true, Bool.not_false, not_bool, idx22 hkl, idx22 hq, ldOut hkl, ldOut hq, hp, bs48, p1, add1]
    · rw [e0, List.map_cons, ← List.singleton_append, ← List.append_assoc]
      exact r2
include ha in
theorem fi_L0 : ∀ (d q : Nat) (A : List E) (y : DV) (σ : Store), (L a.init).length - q = d → q ≤ (L a.init).length → σ[i2]? = some (.mix (eCmp a)) → σ[i3]? = some (.mix (eCmp b)) → Out σ 0 1 A.length (A.map pC) y → A.length ≤ 1000 * q →
    ∃ y' σ' A', A' = A ++ ((L a.init).drop q).flatMap (fun s => (L b.init).map fun u => (s, u)) ∧ f73_L0 guardT 0 (.ptr i2 0) (.ptr i3 0) y (N q) σ = some (y', σ') ∧ Out σ' 0 1 A'.length (A'.map pC) y' ∧ KM σ σ'
  | 0, q, A, y, σ, hd, hq, g2, g3, hO, hA => by
    refine ⟨y, σ, A, by rw [List.drop_of_length_le (by omega)]; simp, ?_, hO, fun j cs h => h⟩
    rw [f73_L0_eq guardT rfl]
    simp (disch := omega) only [N, fa25_1, shift_ptr, shift_pptr, Nat.zero_add, Nat.add_zero, pureFn_fn, List.append_nil, List.singleton_append, List.cons_append, List.nil_append, load22, cm_1 g2, len22, b_lss, ltF, guard_tt, guard_ff, guard_tf, guard_ft, guard_sk, obind, omap, pickV_true, pickV_false, condK_true, condK_false, decide_true, decide_false, Bool.not_true, Bool.not_false, not_bool]
  | d + 1, q, A, y, σ, hd, hq, g2, g3, hO, hA => by
    have hql : q < (L a.init).length := by omega
    have e0 : (L a.init).drop q = (L a.init).getD q 0 :: (L a.init).drop (q + 1) := by
      rw [List.getD_eq_getElem?_getD, List.getElem?_eq_getElem hql]; exact List.drop_eq_getElem_cons hql
    obtain ⟨y1, σ1, r1, r2, r3⟩ := fi_L1 hb hql (by omega) ((L b.init).length - 0) 0 A y σ rfl (Nat.zero_le _) g2 g3 hO (by omega)
    rw [List.drop_zero] at r2
    obtain ⟨y', σ', A', w1, w2, w3, w4⟩ := fi_L0 d (q + 1) _ y1 σ1 (by omega) (by omega) (r3 _ _ g2) (r3 _ _ g3) r2 (by simp; omega)
    refine ⟨y', σ', A', ?_, ?_, w3, r3.trans w4⟩
    · rw [w1, e0, List.flatMap_cons, List.append_assoc]
    · rw [← w2, ← r1, f73_L0_eq guardT rfl]
      simp (disch := omega) only [N, fa25_1, shift_ptr, shift_pptr, Nat.zero_add, Nat.add_zero, pureFn_fn, List.append_nil, List.singleton_append, List.cons_append, List.nil_append, load22, cm_1 g2, len22, b_lss, ltT, guard_tt, guard_ff, guard_tf, guard_ft, guard_sk, obind, omap, pickV_true, pickV_false, condK_true, condK_false, decide_true, decide_false, Bool.not_true, Bool.not_false, not_bool]
      rfl
end
theorem S73r {a b : Cmp} (ha : (L a.init).length ≤ 1000) (hb : (L b.init).length ≤ 1000) (σ : Store) :
    ∃ y σ', CC 0 73 [.agg (eCmp a), .agg (eCmp b)] σ = some (y, σ') ∧ Out σ' 0 1 (begL a b).length ((begL a b).map pC) y ∧ KM σ σ' := by
  have g2 : ((σ ++ [Row.mix (eCmp a)]) ++ [Row.mix (eCmp b)])[σ.length]? = some (.mix (eCmp a)) := get_old get_snoc
  have g3 : ((σ ++ [Row.mix (eCmp a)]) ++ [Row.mix (eCmp b)])[(σ ++ [Row.mix (eCmp a)]).length]? = some (.mix (eCmp b)) := get_snoc
  obtain ⟨y', σ', A', w1, w2, w3, w4⟩ := fi_L0 ha hb ((L a.init).length - 0) 0 [] (.p .nilsl) _ rfl (Nat.zero_le _) g2 g3 Out.zero (by simp)
  rw [List.drop_zero, List.nil_append] at w1
  have w1 : A' = begL a b := w1
  subst w1
  refine ⟨y', σ', F73_call ?_, w3, ((km_snoc _ _).trans (km_snoc _ _)).trans w4⟩
  rw [F73_eq]
  simp only [box_cmp, guard_tt, guard_ff, guard_tf, guard_ft, guard_sk, obind, omap, pickV_true, pickV_false, condK_true, condK_false, decide_true, decide_false, Bool.not_true, Bool.not_false, not_bool]
  exact w2
theorem out_ePn {σ : Store} {A : List E} {cs : List PV} {x : DV} {lo m : Nat} (h : Out σ lo 1 A.length cs x) (hcs : loosens cs = A.map pD) : thawAll m σ x = some (.p (ePn A)) := by
  rw [Out.twAll h m, hcs]
  rfl
theorem S73 {a b : Cmp} (ha : (L a.init).length ≤ 1000) (hb : (L b.init).length ≤ 1000) (σ : Store) : pureV CC 73 [.agg (eCmp a), .agg (eCmp b)] σ = some (.p (ePn (begL a b))) := by
  obtain ⟨y, σ', h1, h2, _⟩ := S73r ha hb []
  exact pureV_free (by simp [cmp_view]) rfl h1 (out_ePn h2 (loosens_pC _))
end Go.D.StB
end
/- Seat 2: joint steps of the reference are the steps. -/
section
set_option linter.unusedVariables false
set_option linter.unusedSimpArgs false
namespace Go.D.StB
open Go.D.Srt
def jC (a b : Cmp) (x : E) (s u : Nat) : Bool := hasE (L a.mv) ⟨x.1, outAt b x.2, s⟩ && hasE (L b.mv) ⟨x.2, outAt a x.1, u⟩
def jRow (a b : Cmp) (x : E) (s : Nat) : Nat → Nat → List E
  | 0, _ => []
  | d + 1, u => (if jC a b x s u = true then [((s : Int), (u : Int))] else []) ++ jRow a b x s d (u + 1)
def jAll (a b : Cmp) (x : E) (nb : Nat) : Nat → Nat → List E
  | 0, _ => []
  | d + 1, s => jRow a b x s nb 0 ++ jAll a b x nb d (s + 1)
theorem ip0 (x : E) : indexAddr PP 22 (.p (pD x)) (.p (.int .i64 0)) = some (.pptr [pI x.1, pI x.2] 0) := idx22 (o := some [x.1, x.2]) (i := 0) (by simp)
theorem ip1 (x : E) : indexAddr PP 22 (.p (pD x)) (.p (.int .i64 1)) = some (.pptr [pI x.1, pI x.2] 1) := idx22 (o := some [x.1, x.2]) (i := 1) (by simp)
theorem lp0 (x : E) (σ : Store) : load1 (.pptr [pI x.1, pI x.2] 0) σ = some (.p (.int .i64 x.1)) := load1_pptr rfl σ
theorem lp1 (x : E) (σ : Store) : load1 (.pptr [pI x.1, pI x.2] 1) σ = some (.p (.int .i64 x.2)) := load1_pptr rfl σ
theorem jRow_len (a b : Cmp) (x : E) (s : Nat) : ∀ d u, (jRow a b x s d u).length ≤ d
  | 0, u => Nat.zero_le _
  | d + 1, u => by
    have := jRow_len a b x s d (u + 1)
    unfold jRow
    split <;> simp <;> omega
section
variable {a b : Cmp} {na nb : Nat} {x : E} {i3 i4 : Nat} (ha : COk a na) (hb : COk b nb) (h0 : 0 ≤ x.1 ∧ x.1.toNat < (L a.out).length) (h1 : 0 ≤ x.2 ∧ x.2.toNat < (L b.out).length)
include ha hb h0 h1
theorem jn_L1 {s : Nat} (hs : s ≤ 1000) : ∀ (d u : Nat) (A : List E) (y : DV) (σ : Store), nb - u = d → u ≤ nb → σ[i3]? = some (.mix (eCmp a)) → σ[i4]? = some (.mix (eCmp b)) → Out σ 0 1 A.length (A.map pC) y → A.length ≤ 10 * s + u →
    ∃ y' σ', f74_L1 guardT 0 (.p (pD x)) (.ptr i3 0) (.ptr i4 0) y (N s) (N u) σ = f74_L0 guardT 0 (.p (pD x)) (.ptr i3 0) (.ptr i4 0) y' (N (s + 1)) σ' ∧ Out σ' 0 1 (A ++ jRow a b x s d u).length ((A ++ jRow a b x s d u).map pC) y' ∧ KM σ σ'
  | 0, u, A, y, σ, hd, hu, g3, g4, hO, hA => by
    refine ⟨y, σ, ?_, by simpa [jRow] using hO, fun j cs h => h⟩
    have hn := hb.nn
    rw [f74_L1_eq guardT rfl]
    simp (disch := omega) only [N, fa25_0, shift_ptr, shift_pptr, Nat.zero_add, Nat.add_zero, pureFn_fn, List.append_nil, List.singleton_append, List.cons_append, List.nil_append, load3, cm_0 g4, b_lss, ltF, guard_tt, guard_ff, guard_tf, guard_ft, guard_sk, obind, omap, pickV_true, pickV_false, condK_true, condK_false, decide_true, decide_false, Bool.not_true, Bool.not_false, not_bool, add1]
  | d + 1, u, A, y, σ, hd, hu, g3, g4, hO, hA => by
    have hn := hb.nn
    have hnb := hb.n10
    have hlt : (u : Int) < b.n := by omega
    have s1 := S89 (c := a) (x := ⟨x.1, outAt b x.2, s⟩) (σ := σ) (by have := ha.m60; omega)
    have s2 := S89 (c := b) (x := ⟨x.2, outAt a x.1, u⟩) (σ := σ) (by have := hb.m60; omega)
    simp only [outAt] at s1 s2
    have key : f74_L1 guardT 0 (.p (pD x)) (.ptr i3 0) (.ptr i4 0) y (N s) (N u) σ =
        if jC a b x s u = true then (append PP 0 false 48 48 y (.p (.sl true 1 [pC ((s : Int), (u : Int))])) σ).bind fun r => f74_L1 guardT 0 (.p (pD x)) (.ptr i3 0) (.ptr i4 0) r.1 (N s) (N (u + 1)) r.2
        else f74_L1 guardT 0 (.p (pD x)) (.ptr i3 0) (.ptr i4 0) y (N s) (N (u + 1)) σ := by
      have hp : ∀ σ, buildSlice PP none 22 2 [(0, .p (.int .i64 (s : Int))), (1, .p (.int .i64 (u : Int)))] σ = some (.p (pC ((s : Int), (u : Int))), σ) := fun σ => bs22p ((s : Int), (u : Int)) σ
      have hj : jC a b x s u = (hasE (L a.mv) ⟨x.1, (L b.out).getD x.2.toNat 0, (s : Int)⟩ && hasE (L b.mv) ⟨x.2, (L a.out).getD x.1.toNat 0, (u : Int)⟩) := rfl
      rw [f74_L1_eq guardT rfl]
      rcases Bool.eq_false_or_eq_true (hasE (L a.mv) ⟨x.1, (L b.out).getD x.2.toNat 0, (s : Int)⟩) with c1 | c1
      · rw [c1] at s1
        rcases Bool.eq_false_or_eq_true (hasE (L b.mv) ⟨x.2, (L a.out).getD x.1.toNat 0, (u : Int)⟩) with c2 | c2
        · rw [c2] at s2
          rw [if_pos (by rw [hj, c1, c2]; rfl)]
          simp (disch := omega) only [N, fa25_0, fa25_2, shift_ptr, shift_pptr, Nat.zero_add, Nat.add_zero, pureFn_fn, List.append_nil, List.singleton_append, List.cons_append, List.nil_append, load3, load22, load25, cm_0 g4, cm_2 g4, cm_2 g3, cm_all g3, cm_all g4, b_lss, dT hlt, guard_tt, guard_ff, guard_tf, guard_ft, guard_sk, obind, omap, pickV_true, pickV_false, condK_true, condK_false, decide_true, decide_false, Bool.not_true, Bool.not_false, not_bool, ip0, ip1, lp0, lp1, idx22i h1.1 h1.2, ldOut h1.2, idx22i h0.1 h0.2, ldOut h0.2, bld106, pureFn_fn, List.append_nil, s1, s2, hp, bs48, f74_J0_eq, add1]
        · rw [c2] at s2
          rw [if_neg (by rw [hj, c1, c2]; decide)]
          simp (disch := omega) only [N, fa25_0, fa25_2, shift_ptr, shift_pptr, Nat.zero_add, Nat.add_zero, pureFn_fn, List.append_nil, List.singleton_append, List.cons_append, List.nil_append, load3, load22, load25, cm_0 g4, cm_2 g4, cm_2 g3, cm_all g3, cm_all g4, b_lss, dT hlt, guard_tt, guard_ff, guard_tf, guard_ft, guard_sk, obind, omap, pickV_true, pickV_false, condK_true, condK_false, decide_true, decide_false, Bool.not_true, Bool.not_false, not_bool, ip0, ip1, lp0, lp1, idx22i h1.1 h1.2, ldOut h1.2, idx22i h0.1 h0.2, ldOut h0.2, bld106, pureFn_fn, List.append_nil, s1, s2, f74_J0_eq, add1]
      · rw [c1] at s1
        rw [if_neg (by rw [hj, c1, Bool.false_and]; decide)]
        simp (disch := omega) only [N, fa25_0, fa25_2, shift_ptr, shift_pptr, Nat.zero_add, Nat.add_zero, pureFn_fn, List.append_nil, List.singleton_append, List.cons_append, List.nil_append, load3, load22, load25, cm_0 g4, cm_2 g4, cm_2 g3, cm_all g3, cm_all g4, b_lss, dT hlt, guard_tt, guard_ff, guard_tf, guard_ft, guard_sk, obind, omap, pickV_true, pickV_false, condK_true, condK_false, decide_true, decide_false, Bool.not_true, Bool.not_false, not_bool, ip0, ip1, lp0, lp1, idx22i h1.1 h1.2, ldOut h1.2, bld106, pureFn_fn, List.append_nil, s1, f74_J0_eq, add1]
    rw [key, jRow]
    by_cases hc : jC a b x s u = true
    · rw [if_pos hc, if_pos hc]
      obtain ⟨y1, σ1, p1, p2, p3, _, _⟩ := Out.pushP hO (by omega) ((s : Int), (u : Int)) (pC ((s : Int), (u : Int)))
      rw [show A.map pC ++ [pC ((s : Int), (u : Int))] = (A ++ [((s : Int), (u : Int))]).map pC by simp] at p2
      obtain ⟨y', σ', r1, r2, r3⟩ := jn_L1 hs d (u + 1) _ y1 σ1 (by omega) (by omega) (p3 _ _ g3) (p3 _ _ g4) p2 (by simp; omega)
      refine ⟨y', σ', ?_, ?_, p3.trans r3⟩
      · rw [p1]
        simp only [guard_tt, guard_ff, guard_tf, guard_ft, guard_sk, obind, omap, pickV_true, pickV_false, condK_true, condK_false, decide_true, decide_false, Bool.not_true, Bool.not_false, not_bool]
        exact r1
      · rw [← List.append_assoc]; exact r2
    · rw [if_neg hc, if_neg hc, List.nil_append]
      exact jn_L1 hs d (u + 1) A y σ (by omega) (by omega) g3 g4 hO (by omega)
theorem jn_L0 : ∀ (d s : Nat) (A : List E) (y : DV) (σ : Store), na - s = d → s ≤ na → σ[i3]? = some (.mix (eCmp a)) → σ[i4]? = some (.mix (eCmp b)) → Out σ 0 1 A.length (A.map pC) y → A.length ≤ 10 * s →
    ∃ y' σ', f74_L0 guardT 0 (.p (pD x)) (.ptr i3 0) (.ptr i4 0) y (N s) σ = some (y', σ') ∧ Out σ' 0 1 (A ++ jAll a b x nb d s).length ((A ++ jAll a b x nb d s).map pC) y'
  | 0, s, A, y, σ, hd, hu, g3, g4, hO, hA => by
    have hn := ha.nn
    refine ⟨y, σ, ?_, by simpa [jAll] using hO⟩
    rw [f74_L0_eq guardT rfl]
    simp (disch := omega) only [N, fa25_0, shift_ptr, shift_pptr, Nat.zero_add, Nat.add_zero, pureFn_fn, List.append_nil, List.singleton_append, List.cons_append, List.nil_append, load3, cm_0 g3, b_lss, ltF, guard_tt, guard_ff, guard_tf, guard_ft, guard_sk, obind, omap, pickV_true, pickV_false, condK_true, condK_false, decide_true, decide_false, Bool.not_true, Bool.not_false, not_bool]
  | d + 1, s, A, y, σ, hd, hu, g3, g4, hO, hA => by
    have hn := ha.nn
    have hna := ha.n10
    have hnb := hb.n10
    have hlt : (s : Int) < a.n := by omega
    obtain ⟨y1, σ1, r1, r2, r3⟩ := jn_L1 ha hb h0 h1 (s := s) (by omega) (nb - 0) 0 A y σ rfl (Nat.zero_le _) g3 g4 hO (by omega)
    rw [Nat.sub_zero] at r2
    obtain ⟨y', σ', w1, w2⟩ := jn_L0 d (s + 1) _ y1 σ1 (by omega) (by omega) (r3 _ _ g3) (r3 _ _ g4) r2 (by have := jRow_len a b x s nb 0; rw [List.length_append]; omega)
    refine ⟨y', σ', ?_, ?_⟩
    · rw [← w1, ← r1, f74_L0_eq guardT rfl]
      simp (disch := omega) only [N, fa25_0, shift_ptr, shift_pptr, Nat.zero_add, Nat.add_zero, pureFn_fn, List.append_nil, List.singleton_append, List.cons_append, List.nil_append, load3, cm_0 g3, b_lss, dT hlt, guard_tt, guard_ff, guard_tf, guard_ft, guard_sk, obind, omap, pickV_true, pickV_false, condK_true, condK_false, decide_true, decide_false, Bool.not_true, Bool.not_false, not_bool]
      rfl
    · rw [jAll, ← List.append_assoc]; exact w2
end
end Go.D.StB
end
/- Seat 2: joint steps are the steps (plain terms), and the reference's joint. -/
section
set_option linter.unusedVariables false
set_option linter.unusedSimpArgs false
namespace Go.D.StB
open Go.D.Srt
theorem mem_jRow (a b : Cmp) (x : E) (s : Nat) (y : E) : ∀ (d u : Nat), y ∈ jRow a b x s d u ↔ ∃ v : Nat, u ≤ v ∧ v < u + d ∧ jC a b x s v = true ∧ y = ((s : Int), (v : Int))
  | 0, u => by
    constructor
    · intro h; exact absurd h (by simp [jRow])
    · rintro ⟨v, h1, h2, _⟩; omega
  | d + 1, u => by
    have ih := mem_jRow a b x s y d (u + 1)
    rw [jRow, List.mem_append, ih]
    constructor
    · rintro (h | ⟨v, h1, h2, h3, h4⟩)
      · by_cases hc : jC a b x s u = true
        · rw [if_pos hc, List.mem_singleton] at h
          exact ⟨u, Nat.le_refl _, by omega, hc, h⟩
        · rw [if_neg hc] at h
          exact absurd h (by simp)
      · exact ⟨v, by omega, by omega, h3, h4⟩
    · rintro ⟨v, h1, h2, h3, h4⟩
      by_cases e : v = u
      · subst e
        left
        rw [if_pos h3, List.mem_singleton]
        exact h4
      · exact .inr ⟨v, by omega, by omega, h3, h4⟩
theorem asc_jRow (a b : Cmp) (x : E) (s : Nat) : ∀ (d u : Nat), Asc (jRow a b x s d u)
  | 0, u => List.Pairwise.nil
  | d + 1, u => by
    have ih := asc_jRow a b x s d (u + 1)
    unfold Asc jRow
    by_cases hc : jC a b x s u = true
    · rw [if_pos hc, List.singleton_append, List.pairwise_cons]
      refine ⟨fun y hy => ?_, ih⟩
      rw [mem_jRow] at hy
      obtain ⟨v, h1, h2, h3, rfl⟩ := hy
      right
      refine ⟨rfl, ?_⟩
      show (u : Int) < (v : Int)
      omega
    · rw [if_neg hc, List.nil_append]; exact ih
theorem mem_jAll (a b : Cmp) (x : E) (nb : Nat) (y : E) : ∀ (d s : Nat), y ∈ jAll a b x nb d s ↔ ∃ s' v : Nat, s ≤ s' ∧ s' < s + d ∧ v < nb ∧ jC a b x s' v = true ∧ y = ((s' : Int), (v : Int))
  | 0, s => by
    constructor
    · intro h; exact absurd h (by simp [jAll])
    · rintro ⟨s', v, h1, h2, _⟩; omega
  | d + 1, s => by
    have ih := mem_jAll a b x nb y d (s + 1)
    rw [jAll, List.mem_append, ih, mem_jRow]
    constructor
    · rintro (⟨v, h1, h2, h3, h4⟩ | ⟨s', v, h1, h2, h3, h4, h5⟩)
      · exact ⟨s, v, Nat.le_refl _, by omega, by omega, h3, h4⟩
      · exact ⟨s', v, by omega, by omega, h3, h4, h5⟩
    · rintro ⟨s', v, h1, h2, h3, h4, h5⟩
      by_cases e : s' = s
      · subst e; exact .inl ⟨v, Nat.zero_le _, by omega, h4, h5⟩
      · exact .inr ⟨s', v, by omega, by omega, h3, h4, h5⟩
theorem asc_jAll (a b : Cmp) (x : E) (nb : Nat) : ∀ (d s : Nat), Asc (jAll a b x nb d s)
  | 0, s => List.Pairwise.nil
  | d + 1, s => by
    have ih := asc_jAll a b x nb d (s + 1)
    unfold Asc jAll
    rw [List.pairwise_append]
    refine ⟨asc_jRow a b x s nb 0, ih, fun y hy z hz => ?_⟩
    rw [mem_jRow] at hy
    rw [mem_jAll] at hz
    obtain ⟨v, _, _, _, rfl⟩ := hy
    obtain ⟨s', v', h1, _, _, _, rfl⟩ := hz
    left
    show (s : Int) < (s' : Int)
    omega
theorem hasE_iff (l : List Edg) (x : Edg) : Go.D.hasE l x = true ↔ x ∈ l := by
  unfold Go.D.hasE
  rw [List.any_eq_true]
  constructor
  · rintro ⟨y, hy, h⟩
    rw [decide_eq_true_iff] at h
    rw [← h]; exact hy
  · intro h
    exact ⟨x, h, decide_eq_true rfl⟩
theorem joint_eq {a b : Cmp} {na nb : Nat} (ha : COk a na) (hb : COk b nb) (x : E) : jAll a b x nb na 0 = stepsL a b x := by
  refine sorted_eq ?_ (asc_le (asc_jAll a b x nb na 0)) (asc_le (steps_asc ha hb x))
  rw [List.perm_ext_iff_of_nodup (asc_nodup (asc_jAll a b x nb na 0)) (asc_nodup (steps_asc ha hb x))]
  intro y
  rw [mem_jAll, mem_steps]
  constructor
  · rintro ⟨s, v, _, h1, h2, h3, rfl⟩
    unfold jC at h3
    rw [Bool.and_eq_true, hasE_iff, hasE_iff] at h3
    exact ⟨_, h3.1, _, h3.2, stepC_iff.2 ⟨rfl, rfl, rfl, rfl⟩, rfl⟩
  · rintro ⟨m, hm, n, hn, hs, rfl⟩
    rw [stepC_iff] at hs
    have h1 := (ha.ml m hm).2.1
    have h2 := (hb.ml n hn).2.1
    refine ⟨m.a.toNat, n.a.toNat, Nat.zero_le _, by omega, by omega, ?_, ?_⟩
    · unfold jC
      rw [Bool.and_eq_true, hasE_iff, hasE_iff]
      have e1 : (⟨x.1, outAt b x.2, (m.a.toNat : Int)⟩ : Edg) = m := by
        obtain ⟨f, t, c⟩ := m
        simp only [Edg.mk.injEq] at *
        refine ⟨hs.1.symm, hs.2.2.1.symm, by omega⟩
      have e2 : (⟨x.2, outAt a x.1, (n.a.toNat : Int)⟩ : Edg) = n := by
        obtain ⟨f, t, c⟩ := n
        simp only [Edg.mk.injEq] at *
        refine ⟨hs.2.1.symm, hs.2.2.2.symm, by omega⟩
      rw [e1, e2]
      exact ⟨hm, hn⟩
    · have e1 : (m.a.toNat : Int) = m.a := by omega
      have e2 : (n.a.toNat : Int) = n.a := by omega
      rw [e1, e2]
theorem S74 {a b : Cmp} {na nb : Nat} (ha : COk a na) (hb : COk b nb) {x : E} (hx : InR na nb x) (σ : Store) : pureV CC 74 [.agg (eCmp a), .agg (eCmp b), .p (pD x)] σ = some (.p (ePn (stepsL a b x))) := by
  have g3 : ([Row.mix (eCmp a), Row.mix (eCmp b)] : Store)[0]? = some (.mix (eCmp a)) := rfl
  have g4 : ([Row.mix (eCmp a), Row.mix (eCmp b)] : Store)[1]? = some (.mix (eCmp b)) := rfl
  have h1 := ha.o
  have h2 := hb.o
  have h3 := hx.1
  have h4 := hx.2
  obtain ⟨y', σ', w1, w2⟩ := jn_L0 (x := x) ha hb ⟨h3.1, by omega⟩ ⟨h4.1, by omega⟩ (na - 0) 0 [] (.p .nilsl) _ rfl (Nat.zero_le _) g3 g4 Out.zero (by simp)
  rw [Nat.sub_zero, List.nil_append, joint_eq ha hb] at w2
  refine pureV_free (by simp [cmp_view, pD_view]) rfl (F74_call (r := (y', σ')) ?_) (out_ePn w2 (loosens_pC _))
  rw [F74_eq]
  simp only [box_cmp, guard_tt, guard_ff, guard_tf, guard_ft, guard_sk, obind, omap, pickV_true, pickV_false, condK_true, condK_false, decide_true, decide_false, Bool.not_true, Bool.not_false, not_bool, List.length_nil, List.nil_append, List.length_cons, List.cons_append, Nat.zero_add]
  exact w1
end Go.D.StB
end
/- Seat 2: the reference's Composed, first part: all pairs that are reached. -/
section
set_option linter.unusedVariables false
set_option linter.unusedSimpArgs false
namespace Go.D.StB
open Go.D.Srt
theorem loosens_map (l : List PV) : loosens l = l.map loosen := by
  induction l with
  | nil => rfl
  | cons x l ih => simp only [loosens, List.map_cons, ih]
theorem outP_len {σ σ' : Store} {A : List E} {cs : List PV} {y : DV} (h : Out σ 0 1 A.length cs y) : len PP 48 y σ' = some (.p (.int .i64 (A.length : Nat))) := by
  rcases h.2 with ⟨h0, rfl⟩ | ⟨h0, r, ver, rfl, _, _⟩
  · rw [h0]; simp [len, un48]
  · simp [len, un48]
theorem outP_idx {σ : Store} {A : List E} {cs : List PV} {y : DV} (h : Out σ 0 1 A.length cs y) {i : Nat} (hi : i < A.length) : indexAddr PP 48 y (.p (.int .i64 (i : Nat))) = some (.pptr cs i) := by
  rcases h.2 with ⟨h0, rfl⟩ | ⟨h0, r, ver, rfl, _, _⟩
  · omega
  · have h2 : (0 : Int) ≤ (i : Int) ∧ (i : Int) < (A.length : Nat) := by omega
    simp [indexAddr, un48, s22', h2, hi]
theorem cs_get {A : List E} {cs : List PV} (hcs : loosens cs = A.map pD) {i : Nat} (hi : i < A.length) : ∃ c, cs[i]? = some c ∧ loosen c = pD (ge A i) := by
  rw [loosens_map] at hcs
  have h1 := congrArg (fun l => l[i]?) hcs
  simp only [List.getElem?_map, List.getElem?_eq_getElem hi, Option.map_some] at h1
  cases hc : cs[i]? with
  | none => rw [hc] at h1; exact absurd h1 (by simp)
  | some c =>
    rw [hc] at h1
    refine ⟨c, rfl, ?_⟩
    rw [ge_at hi]
    simpa using h1
theorem view_p (c : PV) : view (.p c) = .p (loosen c) := rfl
theorem out_vwP {σ : Store} {A : List E} {cs : List PV} {y : DV} (h : Out σ 0 1 A.length cs y) (hcs : loosens cs = A.map pD) : view y = .p (ePn A) := by
  rw [Out.vw h, hcs]; rfl
theorem fIdx_neg (x : E) : ∀ (l : List E) (i : Nat), decide (fIdx x i l < 0) = !l.contains x
  | [], i => rfl
  | y :: l, i => by
    unfold fIdx
    by_cases e : x = y
    · subst e; simp
    · rw [if_neg e, fIdx_neg x l (i + 1)]
      simp [e]
section
variable {a b : Cmp} {na nb : Nat} {i2 i3 : Nat} {x4 : DV}
theorem rc_L1 {i : Nat} (hi : i ≤ 100000) {l : List E} (hl : l.length ≤ 10000) : ∀ (d k : Nat) (A : List E) (cs : List PV) (y : DV) (σ : Store), l.length - k = d → k ≤ l.length → Out σ 0 1 A.length cs y → loosens cs = A.map pD → (addAll A (l.drop k)).length ≤ 100000 →
    ∃ y' σ' cs', f22_L1 guardT 0 (.ptr i2 0) (.ptr i3 0) x4 y (N i) (.p (ePn l)) (N k) σ = f22_L0 guardT 0 (.ptr i2 0) (.ptr i3 0) x4 y' (N (i + 1)) σ' ∧ Out σ' 0 1 (addAll A (l.drop k)).length cs' y' ∧ loosens cs' = (addAll A (l.drop k)).map pD ∧ KM σ σ'
  | 0, k, A, cs, y, σ, hd, hk, hO, hcs, hb => by
    refine ⟨y, σ, cs, ?_, by rw [List.drop_of_length_le (by omega)]; exact hO, by rw [List.drop_of_length_le (by omega)]; exact hcs, fun j c h => h⟩
    rw [f22_L1_eq guardT rfl]
    simp (disch := omega) only [N, len48p, b_lss, ltF, guard_tt, guard_ff, guard_tf, guard_ft, guard_sk, obind, omap, pickV_true, pickV_false, condK_true, condK_false, decide_true, decide_false, Bool.not_true, Bool.not_false, not_bool, add1]
  | d + 1, k, A, cs, y, σ, hd, hk, hO, hcs, hb => by
    have hkl : k < l.length := by omega
    have e0 : l.drop k = ge l k :: l.drop (k + 1) := by rw [ge_at hkl]; exact List.drop_eq_getElem_cons hkl
    have hAl : A.length ≤ 100000 := Nat.le_trans (addAll_ge A _) hb
    have h75 : pureV CC 75 [y, .p (pD (ge l k))] σ = some (.p (.int .i64 (fIdx (ge l k) 0 A))) := by
      rw [pureV_view (args' := [.p (ePn A), .p (pD (ge l k))]) (by simp [out_vwP hO hcs, pD_view]) (by simp [ePn_view, pD_view])]
      exact S75 hAl
    rw [e0, addAll] at hb ⊢
    by_cases hc : A.contains (ge l k) = true
    · rw [if_pos hc] at hb ⊢
      obtain ⟨y', σ', cs', r⟩ := rc_L1 hi hl d (k + 1) A cs y σ (by omega) (by omega) hO hcs hb
      refine ⟨y', σ', cs', ?_, r.2⟩
      have hneg := fIdx_neg (ge l k) A 0
      rw [hc] at hneg
      rw [← r.1, f22_L1_eq guardT rfl]
      simp (disch := omega) only [N, len48p, b_lss, ltT, guard_tt, guard_ff, guard_tf, guard_ft, guard_sk, obind, omap, pickV_true, pickV_false, condK_true, condK_false, decide_true, decide_false, Bool.not_true, Bool.not_false, not_bool, idx48p, load22, ld48p, pureFn_fn, List.append_nil, h75, hneg, f22_J0_eq, add1]
    · rw [if_neg hc] at hb ⊢
      obtain ⟨y1, σ1, p1, p2, p3, _, _⟩ := Out.pushP hO (by omega) (ge l k) (pD (ge l k))
      have hcs1 : loosens (cs ++ [pD (ge l k)]) = (A ++ [ge l k]).map pD := by
        rw [loosens_map] at hcs ⊢
        rw [List.map_append, hcs, List.map_append]; rfl
      obtain ⟨y', σ', cs', r1, r2, r3, r4⟩ := rc_L1 hi hl d (k + 1) _ _ y1 σ1 (by omega) (by omega) p2 hcs1 hb
      refine ⟨y', σ', cs', ?_, r2, r3, p3.trans r4⟩
      have hneg := fIdx_neg (ge l k) A 0
      have hc' : A.contains (ge l k) = false := by simpa using hc
      rw [hc'] at hneg
      have hp : ∀ σ, buildSlice PP none 48 1 [(0, .p (pD (ge l k)))] σ = some (.p (.sl true 1 [pD (ge l k)]), σ) := fun σ => Eq.trans (by kernel_rfl) rfl
      rw [← r1, f22_L1_eq guardT rfl]
      simp (disch := omega) only [N, len48p, b_lss, ltT, guard_tt, guard_ff, guard_tf, guard_ft, guard_sk, obind, omap, pickV_true, pickV_false, condK_true, condK_false, decide_true, decide_false, Bool.not_true, Bool.not_false, not_bool, idx48p, load22, ld48p, pureFn_fn, List.append_nil, h75, hneg, hp, p1, f22_J0_eq, add1]
end
end Go.D.StB
end
/- Seat 2: the reference's Composed, second part: all pairs in order. -/
section
set_option linter.unusedVariables false
set_option linter.unusedSimpArgs false
namespace Go.D.StB
open Go.D.Srt
def pR (G : List E) (s : Nat) : Nat → Nat → List E
  | 0, _ => []
  | d + 1, u => (if G.contains ((s : Int), (u : Int)) = true then [((s : Int), (u : Int))] else []) ++ pR G s d (u + 1)
def pA (G : List E) (nb : Nat) : Nat → Nat → List E
  | 0, _ => []
  | d + 1, s => pR G s nb 0 ++ pA G nb d (s + 1)
theorem pR_len (G : List E) (s : Nat) : ∀ d u, (pR G s d u).length ≤ d
  | 0, u => Nat.zero_le _
  | d + 1, u => by
    have := pR_len G s d (u + 1)
    unfold pR
    split <;> simp <;> omega
section
variable {a b : Cmp} {na nb : Nat} {i2 i3 : Nat} {x4 : DV} (ha : COk a na) (hb : COk b nb)
include ha hb
theorem rc_L0 : ∀ (d i : Nat) (A : List E) (cs : List PV) (y : DV) (σ : Store), 1000 - i = d → i ≤ A.length → σ[i2]? = some (.mix (eCmp a)) → σ[i3]? = some (.mix (eCmp b)) → IG na nb A → Out σ 0 1 A.length cs y → loosens cs = A.map pD →
    ∃ y' σ' cs', f22_L0 guardT 0 (.ptr i2 0) (.ptr i3 0) x4 y (N i) σ = f22_L2 guardT 0 (.ptr i2 0) (.ptr i3 0) x4 y' (.p .nilsl) (.p (.int .i64 0)) σ' ∧ Out σ' 0 1 (gro a b d i A).length cs' y' ∧ loosens cs' = (gro a b d i A).map pD ∧ KM σ σ'
  | 0, i, A, cs, y, σ, hd, hi, g2, g3, hA, hO, hcs => by
    have := hA.len
    have := le100 ha hb
    refine ⟨y, σ, cs, ?_, hO, hcs, fun j c h => h⟩
    rw [f22_L0_eq guardT rfl]
    simp (disch := omega) only [N, outP_len hO, b_lss, ltF, guard_tt, guard_ff, guard_tf, guard_ft, guard_sk, obind, omap, pickV_true, pickV_false, condK_true, condK_false, decide_true, decide_false, Bool.not_true, Bool.not_false, not_bool]
  | d + 1, i, A, cs, y, σ, hd, hi, g2, g3, hA, hO, hcs => by
    have hl1 := hA.len
    have hl2 := le100 ha hb
    by_cases hlt : i < A.length
    · have hx : ge A i ∈ A := by rw [ge_at hlt]; exact List.getElem_mem hlt
      have hIA := hA.add ha hb (ge A i)
      have hl3 := hIA.len
      obtain ⟨c, hc1, hc2⟩ := cs_get hcs hlt
      have hld : load1 (.pptr cs i) σ = some (.p c) := load1_pptr hc1 σ
      have h74 : pureV CC 74 [.agg (eCmp a), .agg (eCmp b), .p c] σ = some (.p (ePn (stepsL a b (ge A i)))) := by
        rw [pureV_view (args' := [.agg (eCmp a), .agg (eCmp b), .p (pD (ge A i))]) (by simp [cmp_view, view_p, hc2]) (by simp [cmp_view, pD_view])]
        exact S74 ha hb (hA.ir _ hx) σ
      obtain ⟨y1, σ1, cs1, r1, r2, r3, r4⟩ := rc_L1 (i2 := i2) (i3 := i3) (x4 := x4) (i := i) (l := stepsL a b (ge A i)) (by omega) (Nat.le_trans (steps_len ha hb _) (by decide)) _ 0 A cs y σ rfl (Nat.zero_le _) hO hcs (by rw [List.drop_zero]; omega)
      rw [List.drop_zero] at r2 r3
      obtain ⟨y', σ', cs', w1, w2, w3, w4⟩ := rc_L0 d (i + 1) _ cs1 y1 σ1 (by omega) (by have := addAll_ge A (stepsL a b (ge A i)); omega) (r4 _ _ g2) (r4 _ _ g3) hIA r2 r3
      have e : gro a b (d + 1) i A = gro a b d (i + 1) (addAll A (stepsL a b (ge A i))) := by rw [gro, if_pos hlt]
      rw [e]
      refine ⟨y', σ', cs', ?_, w2, w3, r4.trans w4⟩
      rw [← w1, ← r1, f22_L0_eq guardT rfl]
      simp (disch := omega) only [N, outP_len hO, b_lss, ltT, guard_tt, guard_ff, guard_tf, guard_ft, guard_sk, obind, omap, pickV_true, pickV_false, condK_true, condK_false, decide_true, decide_false, Bool.not_true, Bool.not_false, not_bool, load25, cm_all g2, cm_all g3, outP_idx hO hlt, load22, hld, pureFn_fn, List.append_nil, h74]
      rfl
    · have e : gro a b (d + 1) i A = A := by rw [gro, if_neg hlt]
      rw [e]
      refine ⟨y, σ, cs, ?_, hO, hcs, fun j c h => h⟩
      rw [f22_L0_eq guardT rfl]
      simp (disch := omega) only [N, outP_len hO, b_lss, ltF, guard_tt, guard_ff, guard_tf, guard_ft, guard_sk, obind, omap, pickV_true, pickV_false, condK_true, condK_false, decide_true, decide_false, Bool.not_true, Bool.not_false, not_bool]
omit ha in
theorem rc_L3 {G : List E} {y : DV} (hG : G.length ≤ 1000) (hy : ∀ x σ, pureV CC 75 [y, .p (pC x)] σ = some (.p (.int .i64 (fIdx x 0 G)))) {s : Nat} (hs : s ≤ 1000) : ∀ (d u : Nat) (A : List E) (z : DV) (σ : Store), nb - u = d → u ≤ nb → σ[i2]? = some (.mix (eCmp a)) → σ[i3]? = some (.mix (eCmp b)) → Out σ 0 1 A.length (A.map pC) z → A.length ≤ 10 * s + u →
    ∃ z' σ', f22_L3 guardT 0 (.ptr i2 0) (.ptr i3 0) x4 y z (N s) (N u) σ = f22_L2 guardT 0 (.ptr i2 0) (.ptr i3 0) x4 y z' (N (s + 1)) σ' ∧ Out σ' 0 1 (A ++ pR G s d u).length ((A ++ pR G s d u).map pC) z' ∧ KM σ σ'
  | 0, u, A, z, σ, hd, hu, g2, g3, hO, hA => by
    have hn := hb.nn
    refine ⟨z, σ, ?_, by simpa [pR] using hO, fun j cs h => h⟩
    rw [f22_L3_eq guardT rfl]
    simp (disch := omega) only [N, fa25_0, shift_ptr, shift_pptr, Nat.zero_add, Nat.add_zero, pureFn_fn, List.append_nil, List.singleton_append, List.cons_append, List.nil_append, load3, cm_0 g3, b_lss, ltF, guard_tt, guard_ff, guard_tf, guard_ft, guard_sk, obind, omap, pickV_true, pickV_false, condK_true, condK_false, decide_true, decide_false, Bool.not_true, Bool.not_false, not_bool, add1]
  | d + 1, u, A, z, σ, hd, hu, g2, g3, hO, hA => by
    have hn := hb.nn
    have hnb := hb.n10
    have hlt : (u : Int) < b.n := by omega
    have hp : ∀ σ, buildSlice PP none 22 2 [(0, .p (.int .i64 (s : Int))), (1, .p (.int .i64 (u : Int)))] σ = some (.p (pC ((s : Int), (u : Int))), σ) := fun σ => bs22p ((s : Int), (u : Int)) σ
    have h75 := hy ((s : Int), (u : Int)) σ
    have hge := fIdx_ge ((s : Int), (u : Int)) G 0
    rw [pR]
    by_cases hc : G.contains ((s : Int), (u : Int)) = true
    · rw [if_pos hc]
      rw [hc] at hge
      obtain ⟨y1, σ1, p1, p2, p3, _, _⟩ := Out.pushP hO (by omega) ((s : Int), (u : Int)) (pC ((s : Int), (u : Int)))
      rw [show A.map pC ++ [pC ((s : Int), (u : Int))] = (A ++ [((s : Int), (u : Int))]).map pC by simp] at p2
      obtain ⟨z', σ', r1, r2, r3⟩ := rc_L3 hG hy hs d (u + 1) _ y1 σ1 (by omega) (by omega) (p3 _ _ g2) (p3 _ _ g3) p2 (by simp; omega)
      refine ⟨z', σ', ?_, ?_, p3.trans r3⟩
      · rw [← r1, f22_L3_eq guardT rfl]
        simp (disch := omega) only [N, fa25_0, shift_ptr, shift_pptr, Nat.zero_add, Nat.add_zero, pureFn_fn, List.append_nil, List.singleton_append, List.cons_append, List.nil_append, load3, cm_0 g3, b_lss, dT hlt, guard_tt, guard_ff, guard_tf, guard_ft, guard_sk, obind, omap, pickV_true, pickV_false, condK_true, condK_false, decide_true, decide_false, Bool.not_true, Bool.not_false, not_bool, hp, pureFn_fn, List.append_nil, h75, b_geq, hge, bs48, p1, f22_J1_eq, add1]
      · rw [← List.append_assoc]; exact r2
    · rw [if_neg hc, List.nil_append]
      have hc' : G.contains ((s : Int), (u : Int)) = false := by simpa using hc
      rw [hc'] at hge
      obtain ⟨z', σ', r1, r2, r3⟩ := rc_L3 hG hy hs d (u + 1) A z σ (by omega) (by omega) g2 g3 hO (by omega)
      refine ⟨z', σ', ?_, r2, r3⟩
      rw [← r1, f22_L3_eq guardT rfl]
      simp (disch := omega) only [N, fa25_0, shift_ptr, shift_pptr, Nat.zero_add, Nat.add_zero, pureFn_fn, List.append_nil, List.singleton_append, List.cons_append, List.nil_append, load3, cm_0 g3, b_lss, dT hlt, guard_tt, guard_ff, guard_tf, guard_ft, guard_sk, obind, omap, pickV_true, pickV_false, condK_true, condK_false, decide_true, decide_false, Bool.not_true, Bool.not_false, not_bool, hp, pureFn_fn, List.append_nil, h75, b_geq, hge, f22_J1_eq, add1]
end
end Go.D.StB
end
/- Seat 2: the reference's Composed: the pairs are the ascending ones. -/
section
set_option linter.unusedVariables false
set_option linter.unusedSimpArgs false
namespace Go.D.StB
open Go.D.Srt
section
variable {a b : Cmp} {na nb : Nat} {i2 i3 : Nat} {x4 : DV} (ha : COk a na) (hb : COk b nb)
include ha hb
theorem rc_L2 {G : List E} {y : DV} (hG : G.length ≤ 1000) (hy : ∀ x σ, pureV CC 75 [y, .p (pC x)] σ = some (.p (.int .i64 (fIdx x 0 G)))) : ∀ (d s : Nat) (A : List E) (z : DV) (σ : Store), na - s = d → s ≤ na → σ[i2]? = some (.mix (eCmp a)) → σ[i3]? = some (.mix (eCmp b)) → Out σ 0 1 A.length (A.map pC) z → A.length ≤ 10 * s →
    ∃ z' σ' A', A' = A ++ pA G nb d s ∧ f22_L2 guardT 0 (.ptr i2 0) (.ptr i3 0) x4 y z (N s) σ = f22_L4 guardT 0 (.ptr i2 0) (.ptr i3 0) x4 z' (.ptr σ'.length 0) (.p (.int .i64 0)) (σ' ++ [.mix [.p (.int .i64 (A'.length : Nat)), .p .nilsl, .p .nilsl]]) ∧ Out σ' 0 1 A'.length (A'.map pC) z' ∧ KM σ σ'
  | 0, s, A, z, σ, hd, hu, g2, g3, hO, hA => by
    have hn := ha.nn
    refine ⟨z, σ, A, by simp [pA], ?_, hO, fun j cs h => h⟩
    rw [f22_L2_eq guardT rfl]
    simp (disch := omega) only [N, fa25_0, shift_ptr, shift_pptr, Nat.zero_add, Nat.add_zero, pureFn_fn, List.append_nil, List.singleton_append, List.cons_append, List.nil_append, load3, cm_0 g2, b_lss, ltF, guard_tt, guard_ff, guard_tf, guard_ft, guard_sk, obind, omap, pickV_true, pickV_false, condK_true, condK_false, decide_true, decide_false, Bool.not_true, Bool.not_false, not_bool, outP_len hO, bld47, zr47, stN47]
  | d + 1, s, A, z, σ, hd, hu, g2, g3, hO, hA => by
    have hn := ha.nn
    have hna := ha.n10
    have hnb := hb.n10
    have hlt : (s : Int) < a.n := by omega
    obtain ⟨z1, σ1, r1, r2, r3⟩ := rc_L3 (i2 := i2) (i3 := i3) (x4 := x4) hb hG hy (s := s) (by omega) (nb - 0) 0 A z σ rfl (Nat.zero_le _) g2 g3 hO (by omega)
    rw [Nat.sub_zero] at r2
    obtain ⟨z', σ', A', w0, w1, w2, w3⟩ := rc_L2 hG hy d (s + 1) _ z1 σ1 (by omega) (by omega) (r3 _ _ g2) (r3 _ _ g3) r2 (by have := pR_len G s nb 0; rw [List.length_append]; omega)
    refine ⟨z', σ', A', ?_, ?_, w2, r3.trans w3⟩
    · rw [w0, pA, List.append_assoc]
    · rw [← w1, ← r1, f22_L2_eq guardT rfl]
      simp (disch := omega) only [N, fa25_0, shift_ptr, shift_pptr, Nat.zero_add, Nat.add_zero, pureFn_fn, List.append_nil, List.singleton_append, List.cons_append, List.nil_append, load3, cm_0 g2, b_lss, dT hlt, guard_tt, guard_ff, guard_tf, guard_ft, guard_sk, obind, omap, pickV_true, pickV_false, condK_true, condK_false, decide_true, decide_false, Bool.not_true, Bool.not_false, not_bool]
      rfl
end
theorem mem_pR (G : List E) (s : Nat) (y : E) : ∀ (d u : Nat), y ∈ pR G s d u ↔ ∃ v : Nat, u ≤ v ∧ v < u + d ∧ y ∈ G ∧ y = ((s : Int), (v : Int))
  | 0, u => by
    constructor
    · intro h; exact absurd h (by simp [pR])
    · rintro ⟨v, h1, h2, _⟩; omega
  | d + 1, u => by
    have ih := mem_pR G s y d (u + 1)
    rw [pR, List.mem_append, ih]
    constructor
    · rintro (h | ⟨v, h1, h2, h3, h4⟩)
      · by_cases hc : G.contains ((s : Int), (u : Int)) = true
        · rw [if_pos hc, List.mem_singleton] at h
          refine ⟨u, Nat.le_refl _, by omega, ?_, h⟩
          rw [h]; exact List.contains_iff_mem.1 hc
        · rw [if_neg hc] at h
          exact absurd h (by simp)
      · exact ⟨v, by omega, by omega, h3, h4⟩
    · rintro ⟨v, h1, h2, h3, h4⟩
      by_cases e : v = u
      · subst e
        left
        rw [h4] at h3
        rw [if_pos (List.contains_iff_mem.2 h3), List.mem_singleton]
        exact h4
      · exact .inr ⟨v, by omega, by omega, h3, h4⟩
theorem asc_pR (G : List E) (s : Nat) : ∀ (d u : Nat), Asc (pR G s d u)
  | 0, u => List.Pairwise.nil
  | d + 1, u => by
    have ih := asc_pR G s d (u + 1)
    unfold Asc pR
    by_cases hc : G.contains ((s : Int), (u : Int)) = true
    · rw [if_pos hc, List.singleton_append, List.pairwise_cons]
      refine ⟨fun y hy => ?_, ih⟩
      rw [mem_pR] at hy
      obtain ⟨v, h1, h2, h3, rfl⟩ := hy
      right
      refine ⟨rfl, ?_⟩
      show (u : Int) < (v : Int)
      omega
    · rw [if_neg hc, List.nil_append]; exact ih
theorem mem_pA (G : List E) (nb : Nat) (y : E) : ∀ (d s : Nat), y ∈ pA G nb d s ↔ ∃ s' v : Nat, s ≤ s' ∧ s' < s + d ∧ v < nb ∧ y ∈ G ∧ y = ((s' : Int), (v : Int))
  | 0, s => by
    constructor
    · intro h; exact absurd h (by simp [pA])
    · rintro ⟨s', v, h1, h2, _⟩; omega
  | d + 1, s => by
    have ih := mem_pA G nb y d (s + 1)
    rw [pA, List.mem_append, ih, mem_pR]
    constructor
    · rintro (⟨v, h1, h2, h3, h4⟩ | ⟨s', v, h1, h2, h3, h4, h5⟩)
      · exact ⟨s, v, Nat.le_refl _, by omega, by omega, h3, h4⟩
      · exact ⟨s', v, by omega, by omega, h3, h4, h5⟩
    · rintro ⟨s', v, h1, h2, h3, h4, h5⟩
      by_cases e : s' = s
      · subst e; exact .inl ⟨v, Nat.zero_le _, by omega, h4, h5⟩
      · exact .inr ⟨s', v, by omega, by omega, h3, h4, h5⟩
theorem asc_pA (G : List E) (nb : Nat) : ∀ (d s : Nat), Asc (pA G nb d s)
  | 0, s => List.Pairwise.nil
  | d + 1, s => by
    have ih := asc_pA G nb d (s + 1)
    unfold Asc pA
    rw [List.pairwise_append]
    refine ⟨asc_pR G s nb 0, ih, fun y hy z hz => ?_⟩
    rw [mem_pR] at hy
    rw [mem_pA] at hz
    obtain ⟨v, _, _, _, rfl⟩ := hy
    obtain ⟨s', v', h1, _, _, _, rfl⟩ := hz
    left
    show (s : Int) < (s' : Int)
    omega
theorem pA_eq {na nb : Nat} {G B : List E} (hG : IG na nb G) (hp : B.Perm G) (hB : Asc B) : pA G nb na 0 = B := by
  refine sorted_eq ?_ (asc_le (asc_pA G nb na 0)) (asc_le hB)
  rw [List.perm_ext_iff_of_nodup (asc_nodup (asc_pA G nb na 0)) (asc_nodup hB)]
  intro y
  rw [mem_pA, hp.mem_iff]
  constructor
  · rintro ⟨s, v, _, _, _, h, _⟩; exact h
  · intro h
    have h1 := hG.ir y h
    refine ⟨y.1.toNat, y.2.toNat, Nat.zero_le _, by have := h1.1; omega, by have := h1.2; omega, h, ?_⟩
    have e1 : (y.1.toNat : Int) = y.1 := by have := h1.1; omega
    have e2 : (y.2.toNat : Int) = y.2 := by have := h1.2; omega
    rw [e1, e2]
end Go.D.StB
end
/- Seat 2: the reference's Composed: edges. -/
section
set_option linter.unusedVariables false
set_option linter.unusedSimpArgs false
namespace Go.D.StB
open Go.D.Srt
section
variable {a b : Cmp} {i2 i3 t : Nat} {x4 : DV} {B : List E} {z : DV} (hz : ∀ x σ, pureV CC 75 [z, .p (pD x)] σ = some (.p (.int .i64 (fIdx x 0 B))))
include hz
theorem rc_L5 {i : Nat} {c0 y1 : DV} {l : List E} {n1 : Nat} {cs1 : List PV} (hl : ∀ e ∈ l, e ∈ B) (hln : l.length ≤ 10000) (hi : i ≤ 10000) : ∀ (d k : Nat) (σ : Store) (y2 : DV) (es : List Edg), l.length - k = d → k ≤ l.length → σ[i2]? = some (.mix (eCmp a)) → σ[i3]? = some (.mix (eCmp b)) → i2 ≠ t → i3 ≠ t → σ[t]? = some (.mix [c0, y1, y2]) →
    Out σ 0 3 es.length (eEdgs es) y2 → Out σ 0 1 n1 cs1 y1 → Apart y2 y1 → es.length + (l.length - k) ≤ 10000000 →
    ∃ σ' y2', f22_L5 guardT 0 (.ptr i2 0) (.ptr i3 0) x4 z (.ptr t 0) (N i) (.p (ePn l)) (N k) σ = f22_L4 guardT 0 (.ptr i2 0) (.ptr i3 0) x4 z (.ptr t 0) (N (i + 1)) σ' ∧ σ'[i2]? = some (.mix (eCmp a)) ∧ σ'[i3]? = some (.mix (eCmp b)) ∧ σ'[t]? = some (.mix [c0, y1, y2']) ∧
      Out σ' 0 3 (es ++ eRow B i (l.drop k)).length (eEdgs (es ++ eRow B i (l.drop k))) y2' ∧ Out σ' 0 1 n1 cs1 y1 ∧ Apart y2' y1 ∧ (∀ j c, j ≠ t → σ[j]? = some (.mix c) → σ'[j]? = some (.mix c))
  | 0, k, σ, y2, es, hd, hk, g2, g3, n2, n3, ht, hO, hP, hA, hn => by
    refine ⟨σ, y2, ?_, g2, g3, ht, ?_, hP, hA, fun j c _ h => h⟩
    · rw [f22_L5_eq guardT rfl]
      simp (disch := omega) only [N, len48p, b_lss, ltF, guard_tt, guard_ff, guard_tf, guard_ft, guard_sk, obind, omap, pickV_true, pickV_false, condK_true, condK_false, decide_true, decide_false, Bool.not_true, Bool.not_false, not_bool, add1]
    · rw [List.drop_of_length_le (by omega)]; simpa [eRow] using hO
  | d + 1, k, σ, y2, es, hd, hk, g2, g3, n2, n3, ht, hO, hP, hA, hn => by
    have hkl : k < l.length := by omega
    have he : ge l k ∈ B := hl _ (by rw [ge_at hkl]; exact List.getElem_mem hkl)
    have e0 : l.drop k = ge l k :: l.drop (k + 1) := by rw [ge_at hkl]; exact List.drop_eq_getElem_cons hkl
    have h75 := hz (ge l k) σ
    rw [fIdx_idx _ _ 0 he, Nat.zero_add] at h75
    obtain ⟨y3, σ1, p1, p2, p3, p4⟩ := Out.pushF (vs := eEdg ⟨(i : Int), ((B.idxOf (ge l k) : Nat) : Int), 0⟩) src45 un45 s129 by129 z129 rfl (by decide) (by decide) (by decide) rfl hO (by omega) (Nat.zero_le _)
    have km := km_app hO p3
    have ht2 := km _ _ ht
    have hP2 : Out σ1 0 1 n1 cs1 y1 := Out.other hP p3 hA
    have hA2 : Apart y3 y1 := apart_app hO hP hA p4
    have hst := st47_2 ht2 (out_one' p2).1 (out_one' p2).2
    have e1 : eEdgs es ++ eEdg ⟨(i : Int), ((B.idxOf (ge l k) : Nat) : Int), 0⟩ = eEdgs (es ++ [⟨(i : Int), ((B.idxOf (ge l k) : Nat) : Int), 0⟩]) := by rw [eEdgs_app]; simp [eEdgs, eEdg]
    have e2 : es.length + 1 = (es ++ [(⟨(i : Int), ((B.idxOf (ge l k) : Nat) : Int), 0⟩ : Edg)]).length := by simp
    rw [e1, e2] at p2
    obtain ⟨σ', y', r1, r2, r3, r4, r5, r6, r7, r8⟩ := rc_L5 (c0 := c0) (y1 := y1) hl hln hi d (k + 1) (σ1.set t (.mix [c0, y1, y3])) y3 _ (by omega) (by omega) (get_set_ne (km _ _ g2) n2) (get_set_ne (km _ _ g3) n3) n2 n3 (by rw [List.getElem?_set_self (get_lt ht2)]) (Out.setM p2 ht2 _) (Out.setM hP2 ht2 _) hA2 (by simp; omega)
    refine ⟨σ', y', ?_, r2, r3, r4, ?_, r6, r7, fun j c hj h => r8 j c hj (get_set_ne (km _ _ h) hj)⟩
    · rw [← r1, f22_L5_eq guardT rfl]
      simp (disch := omega) only [N, len48p, b_lss, ltT, guard_tt, guard_ff, guard_tf, guard_ft, guard_sk, obind, omap, pickV_true, pickV_false, condK_true, condK_false, decide_true, decide_false, Bool.not_true, Bool.not_false, not_bool, fa47_2, shift_ptr, shift_pptr, Nat.zero_add, Nat.add_zero, pureFn_fn, List.append_nil, List.singleton_append, List.cons_append, List.nil_append, load45, load1_ptr (off := 2) ht rfl, idx48p, load22, ld48p, pureFn_fn, List.append_nil, h75, bld129, bs45, p1, hst, add1]
    · rw [e0]
      have e3 : es ++ eRow B i (ge l k :: l.drop (k + 1)) = es ++ [(⟨(i : Int), ((B.idxOf (ge l k) : Nat) : Int), 0⟩ : Edg)] ++ eRow B i (l.drop (k + 1)) := by simp [eRow]
      rw [e3]; exact r5
end
end Go.D.StB
end
/- Seat 2: the reference's Composed: numbers of first pairs, and the end. -/
section
set_option linter.unusedVariables false
set_option linter.unusedSimpArgs false
namespace Go.D.StB
open Go.D.Srt
def iFrom (bg : List E) : Nat → List E → List Int
  | _, [] => []
  | i, x :: l => (if bg.contains x = true then [(i : Int)] else []) ++ iFrom bg (i + 1) l
section
variable {a b : Cmp} {na nb : Nat} {i2 i3 t : Nat} {x4 : DV} {B : List E} {z : DV} {cs : List PV} (ha : COk a na) (hb : COk b nb)
  (hz : ∀ x σ, pureV CC 75 [z, .p (pD x)] σ = some (.p (.int .i64 (fIdx x 0 B)))) (hBn : B.length ≤ 1000)
  (zl : ∀ σ, len PP 48 z σ = some (.p (.int .i64 (B.length : Nat)))) (zi : ∀ i, i < B.length → indexAddr PP 48 z (.p (.int .i64 (i : Nat))) = some (.pptr cs i)) (zc : loosens cs = B.map pD)
  (hir : ∀ x ∈ B, InR na nb x) (hin : ∀ x ∈ B, ∀ y ∈ stepsL a b x, y ∈ B)
include ha hb hz hBn zl zi zc hir hin
theorem rc_L4 {c0 : DV} (n2 : i2 ≠ t) (n3 : i3 ≠ t) : ∀ (d i : Nat) (is : List Int) (es : List Edg) (y1 y2 : DV) (σ : Store), B.length - i = d → i ≤ B.length → σ[i2]? = some (.mix (eCmp a)) → σ[i3]? = some (.mix (eCmp b)) → σ[t]? = some (.mix [c0, y1, y2]) →
    Out σ 0 1 is.length (eInts is) y1 → Out σ 0 3 es.length (eEdgs es) y2 → Apart y1 y2 → is.length ≤ i → es.length ≤ 100 * i →
    ∃ σ' y1' y2' is' es', is' = is ++ iFrom (begL a b) i (B.drop i) ∧ es' = es ++ esFrom a b B i (B.drop i) ∧ f22_L4 guardT 0 (.ptr i2 0) (.ptr i3 0) x4 z (.ptr t 0) (N i) σ =
      ((store PP 0 47 x4 (.agg [c0, y1', y2']) σ').bind fun σ14 => (cellV PP 47 x4 σ14).bind fun v0 => some ((DV.tuple [v0, z]), σ14)) ∧
      Out σ' 0 1 is'.length (eInts is') y1' ∧ Out σ' 0 3 es'.length (eEdgs es') y2' ∧ (∀ j c, j ≠ t → σ[j]? = some (.mix c) → σ'[j]? = some (.mix c))
  | 0, i, is, es, y1, y2, σ, hd, hi, g2, g3, ht, hO, hP, hA, l1, l2 => by
    refine ⟨σ, y1, y2, is, es, ?_, ?_, ?_, hO, hP, fun j c _ h => h⟩
    · rw [List.drop_of_length_le (by omega)]; simp [iFrom]
    · rw [List.drop_of_length_le (by omega)]; simp [esFrom]
    · rw [f22_L4_eq guardT rfl]
      simp (disch := omega) only [N, zl, b_lss, ltF, guard_tt, guard_ff, guard_tf, guard_ft, guard_sk, obind, omap, pickV_true, pickV_false, condK_true, condK_false, decide_true, decide_false, Bool.not_true, Bool.not_false, not_bool, ld47 ht]
  | d + 1, i, is, es, y1, y2, σ, hd, hi, g2, g3, ht, hO, hP, hA, l1, l2 => by
    have hil : i < B.length := by omega
    have hx : ge B i ∈ B := by rw [ge_at hil]; exact List.getElem_mem hil
    have e0 : B.drop i = ge B i :: B.drop (i + 1) := by rw [ge_at hil]; exact List.drop_eq_getElem_cons hil
    obtain ⟨c, hc1, hc2⟩ := cs_get zc hil
    have hld : ∀ σ, load1 (.pptr cs i) σ = some (.p c) := fun σ => load1_pptr hc1 σ
    have h73 := S73 (a := a) (b := b) ha.sm.i hb.sm.i σ
    have hbl : (begL a b).length ≤ 100 := Nat.le_trans (IG.beg ha hb).len (le100 ha hb)
    have h75 : pureV CC 75 [.p (ePn (begL a b)), .p c] σ = some (.p (.int .i64 (fIdx (ge B i) 0 (begL a b)))) := by
      rw [pureV_view (args' := [.p (ePn (begL a b)), .p (pD (ge B i))]) (by simp only [List.map_cons, List.map_nil, ePn_view]; rw [view_p, hc2]) (by simp [ePn_view, pD_view])]
      exact S75 (by omega)
    have h74 : ∀ σ, pureV CC 74 [.agg (eCmp a), .agg (eCmp b), .p c] σ = some (.p (ePn (stepsL a b (ge B i)))) := fun σ => by
      rw [pureV_view (args' := [.agg (eCmp a), .agg (eCmp b), .p (pD (ge B i))]) (by simp [cmp_view, view_p, hc2]) (by simp [cmp_view, pD_view])]
      exact S74 ha hb (hir _ hx) σ
    have hge := fIdx_ge (ge B i) (begL a b) 0
    have hsl := steps_len ha hb (ge B i)
    by_cases hc : (begL a b).contains (ge B i) = true
    · rw [hc] at hge
      obtain ⟨y3, σ1, p1, p2, p3, p4⟩ := Out.pushF (vs := [pI (i : Int)]) src22 un22 s3i by3 z22 rfl (by decide) (by decide) (by decide) rfl hO (by omega) (Nat.zero_le _)
      have km := km_app hO p3
      have ht2 := km _ _ ht
      have hP2 : Out σ1 0 3 es.length (eEdgs es) y2 := Out.other hP p3 hA
      have hA2 : Apart y3 y2 := apart_app hO hP hA p4
      have hst := st47_1 ht2 (out_one' p2).1 (out_one' p2).2
      have e1 : eInts is ++ [pI (i : Int)] = eInts (is ++ [(i : Int)]) := by simp [eInts]
      have e2 : is.length + 1 = (is ++ [(i : Int)]).length := by simp
      rw [e1, e2] at p2
      have q2 := get_set_ne (r := .mix [c0, y3, y2]) (km _ _ g2) n2
      have q3 := get_set_ne (r := .mix [c0, y3, y2]) (km _ _ g3) n3
      obtain ⟨σ2, y4, r1, r2, r3, r4, r5, r6, r7, r8⟩ := rc_L5 (a := a) (b := b) (i2 := i2) (i3 := i3) (t := t) (x4 := x4) hz (i := i) (c0 := c0) (y1 := y3) (l := stepsL a b (ge B i)) (hin _ hx) (by omega) (by omega) ((stepsL a b (ge B i)).length - 0) 0 (σ1.set t (.mix [c0, y3, y2])) y2 es rfl (Nat.zero_le _) q2 q3 n2 n3 (by rw [List.getElem?_set_self (get_lt ht2)]) (Out.setM hP2 ht2 _) (Out.setM p2 ht2 _) (apart_symm hA2) (by omega)
      rw [List.drop_zero] at r5
      obtain ⟨σ', y1', y2', is', es', w1, w2, w3, w4, w5, w6⟩ := rc_L4 n2 n3 d (i + 1) (is ++ [(i : Int)]) _ y3 y4 σ2 (by omega) (by omega) r2 r3 r4 r6 r5 (apart_symm r7) (by simp; omega) (by rw [List.length_append, eRow_len]; omega)
      refine ⟨σ', y1', y2', is', es', ?_, ?_, ?_, w4, w5, fun j c hj h => w6 j c hj (r8 j c hj (get_set_ne (km _ _ h) hj))⟩
      · rw [w1, e0, iFrom, if_pos hc, List.append_assoc]
      · rw [w2, e0, esFrom, List.append_assoc]
      · rw [← w3, ← r1, f22_L4_eq guardT rfl]
        simp (disch := omega) only [N, zl, b_lss, ltT, guard_tt, guard_ff, guard_tf, guard_ft, guard_sk, obind, omap, pickV_true, pickV_false, condK_true, condK_false, decide_true, decide_false, Bool.not_true, Bool.not_false, not_bool, load25, cm_all g2, cm_all g3, cm_all q2, cm_all q3, zi, hld, load22, pureFn_fn, List.append_nil, h73, h75, h74, b_geq, hge, fa47_1, shift_ptr, shift_pptr, Nat.zero_add, Nat.add_zero, pureFn_fn, List.append_nil, List.singleton_append, List.cons_append, List.nil_append, load1_ptr (off := 1) ht rfl, bs22_1, p1, hst, f22_J2_eq]
        rfl
    · have hc' : (begL a b).contains (ge B i) = false := by simpa using hc
      rw [hc'] at hge
      obtain ⟨σ2, y4, r1, r2, r3, r4, r5, r6, r7, r8⟩ := rc_L5 (a := a) (b := b) (i2 := i2) (i3 := i3) (t := t) (x4 := x4) hz (i := i) (c0 := c0) (y1 := y1) (l := stepsL a b (ge B i)) (hin _ hx) (by omega) (by omega) ((stepsL a b (ge B i)).length - 0) 0 σ y2 es rfl (Nat.zero_le _) g2 g3 n2 n3 ht hP hO (apart_symm hA) (by omega)
      rw [List.drop_zero] at r5
      obtain ⟨σ', y1', y2', is', es', w1, w2, w3, w4, w5, w6⟩ := rc_L4 n2 n3 d (i + 1) is _ y1 y4 σ2 (by omega) (by omega) r2 r3 r4 r6 r5 (apart_symm r7) (by omega) (by rw [List.length_append, eRow_len]; omega)
      refine ⟨σ', y1', y2', is', es', ?_, ?_, ?_, w4, w5, fun j c hj h => w6 j c hj (r8 j c hj h)⟩
      · rw [w1, e0, iFrom, if_neg hc, List.nil_append]
      · rw [w2, e0, esFrom, List.append_assoc]
      · rw [← w3, ← r1, f22_L4_eq guardT rfl]
        simp (disch := omega) only [N, zl, b_lss, ltT, guard_tt, guard_ff, guard_tf, guard_ft, guard_sk, obind, omap, pickV_true, pickV_false, condK_true, condK_false, decide_true, decide_false, Bool.not_true, Bool.not_false, not_bool, load25, cm_all g2, cm_all g3, zi, hld, load22, pureFn_fn, List.append_nil, h73, h75, h74, b_geq, hge, f22_J2_eq]
        rfl
end
end Go.D.StB
end
/- Seat 2: the reference's Composed, joined. -/
section
set_option linter.unusedVariables false
set_option linter.unusedSimpArgs false
namespace Go.D.StB
open Go.D.Srt
def resR (a b : Cmp) (B : List E) : DV := .tuple [.agg [.p (pI B.length), .p (eIn (iFrom (begL a b) 0 B)), .p (eEn (esFrom a b B 0 B))], .p (ePn B)]
theorem S22 {a b : Cmp} {na nb : Nat} (ha : COk a na) (hb : COk b nb) {B : List E} (hp : B.Perm (gro a b 1000 0 (begL a b))) (hB : Asc B) (σ : Store) : pureV CC 22 [.agg (eCmp a), .agg (eCmp b)] σ = some (resR a b B) := by
  have hbeg := IG.beg ha hb
  obtain ⟨k1, k2, k3⟩ := gro_closed ha hb 1000 0 (begL a b) hbeg (by omega) (fun j hj => by omega)
  have hGl : (gro a b 1000 0 (begL a b)).length ≤ 100 := Nat.le_trans k1.len (le100 ha hb)
  have g0 : ([Row.mix (eCmp a), Row.mix (eCmp b), Row.mix [.p (pI 0), .p .nilsl, .p .nilsl]] : Store)[0]? = some (.mix (eCmp a)) := rfl
  have g1 : ([Row.mix (eCmp a), Row.mix (eCmp b), Row.mix [.p (pI 0), .p .nilsl, .p .nilsl]] : Store)[1]? = some (.mix (eCmp b)) := rfl
  have g2 : ([Row.mix (eCmp a), Row.mix (eCmp b), Row.mix [.p (pI 0), .p .nilsl, .p .nilsl]] : Store)[2]? = some (.mix [.p (pI 0), .p .nilsl, .p .nilsl]) := rfl
  have hF : F22 guardT 0 (.agg (eCmp a)) (.agg (eCmp b)) [] = (plainFn CC 0 (DV.fn 73 []) [.agg (eCmp a), .agg (eCmp b)] [Row.mix (eCmp a), Row.mix (eCmp b), Row.mix [.p (pI 0), .p .nilsl, .p .nilsl]]).bind fun r => f22_L0 guardT 0 (.ptr 0 0) (.ptr 1 0) (.ptr 2 0) r.1 (.p (.int .i64 0)) r.2 := by
    rw [F22_eq]
    simp only [box_cmp, guard_tt, guard_ff, guard_tf, guard_ft, guard_sk, obind, omap, pickV_true, pickV_false, condK_true, condK_false, decide_true, decide_false, Bool.not_true, Bool.not_false, not_bool, List.length_nil, List.nil_append, List.length_cons, List.cons_append, zr47, Nat.reduceAdd]
    generalize ([Row.mix (eCmp a), Row.mix (eCmp b), Row.mix [.p (pI 0), .p .nilsl, .p .nilsl]] : Store) = ρ at *
    simp only [load25, cm_all g0, cm_all g1, omap, obind]
  generalize ([Row.mix (eCmp a), Row.mix (eCmp b), Row.mix [.p (pI 0), .p .nilsl, .p .nilsl]] : Store) = ρ at *
  obtain ⟨y0, σ0, a1, a2, a3⟩ := S73r ha.sm.i hb.sm.i ρ
  obtain ⟨y1, σ1, cs1, b1, b2, b3, b4⟩ := rc_L0 (i2 := 0) (i3 := 1) (x4 := .ptr 2 0) ha hb 1000 0 (begL a b) _ y0 σ0 rfl (Nat.zero_le _) (a3 _ _ g0) (a3 _ _ g1) hbeg a2 (loosens_pC _)
  have hy : ∀ x σ, pureV CC 75 [y1, .p (pC x)] σ = some (.p (.int .i64 (fIdx x 0 (gro a b 1000 0 (begL a b))))) := fun x σ => by
    rw [pureV_view (args' := [.p (ePn (gro a b 1000 0 (begL a b))), .p (pD x)]) (by simp only [List.map_cons, List.map_nil, out_vwP b2 b3]; rfl) (by simp [ePn_view, pD_view])]
    exact S75 (by omega)
  have km1 := a3.trans b4
  obtain ⟨z, σ2, A, c0, c1, c2, c3⟩ := rc_L2 (i2 := 0) (i3 := 1) (x4 := .ptr 2 0) ha hb (by omega) hy (na - 0) 0 [] (.p .nilsl) σ1 rfl (Nat.zero_le _) (km1 _ _ g0) (km1 _ _ g1) Out.zero (by simp)
  rw [Nat.sub_zero, List.nil_append, pA_eq k1 hp hB] at c0
  subst c0
  have km2 := km1.trans c3
  have hBl : A.length ≤ 100 := by rw [hp.length_eq]; exact hGl
  have hmem : ∀ x, x ∈ A ↔ x ∈ gro a b 1000 0 (begL a b) := fun x => hp.mem_iff
  have hz : ∀ x σ, pureV CC 75 [z, .p (pD x)] σ = some (.p (.int .i64 (fIdx x 0 A))) := fun x σ => by
    rw [pureV_view (args' := [.p (ePn A), .p (pD x)]) (by simp only [List.map_cons, List.map_nil, out_vwP c2 (loosens_pC _), pD_view]) (by simp [ePn_view, pD_view])]
    exact S75 (by omega)
  have t0 := get_lt (km2 _ _ g0)
  have t1 := get_lt (km2 _ _ g1)
  have t2 := get_lt (km2 _ _ g2)
  obtain ⟨σ3, v1, v2, is, es, d1, d2, d3, d4, d5, d6⟩ := rc_L4 (i2 := 0) (i3 := 1) (t := σ2.length) (x4 := .ptr 2 0) (c0 := .p (.int .i64 (A.length : Nat))) ha hb hz (by omega) (fun σ => outP_len c2) (fun i hi => outP_idx c2 hi) (loosens_pC A) (fun x hx => k1.ir x ((hmem x).1 hx)) (fun x hx y hy => (hmem y).2 (k3 x ((hmem x).1 hx) y hy))
    (by omega) (by omega) (A.length - 0) 0 [] [] (.p .nilsl) (.p .nilsl) _ rfl (Nat.zero_le _) (get_old (km2 _ _ g0)) (get_old (km2 _ _ g1)) get_snoc Out.zero Out.zero (fun r h1 _ => by simp [rowOf] at h1) (by simp) (by simp)
  rw [List.drop_zero, List.nil_append] at d1 d2
  subst d1
  subst d2
  have h3 := d6 2 _ (by omega) (get_old (km2 _ _ g2))
  have hst := st47 (c := [.p (.int .i64 (A.length : Nat)), v1, v2]) h3 rfl rfl (by rw [List.all_cons, List.all_cons, List.all_cons, (out_one' d4).1, (out_one' d5).1]; rfl)
  have hcv : cellV PP 47 (.ptr 2 0) (σ3.set 2 (.mix [.p (.int .i64 (A.length : Nat)), v1, v2])) = some (.agg [.p (.int .i64 (A.length : Nat)), v1, v2]) := (cellV_ptr _ _ _ _ _).trans (ld47 (by rw [List.getElem?_set_self (get_lt h3)]))
  refine pureV_free (by simp [cmp_view]) rfl (F22_call (r := (.tuple [.agg [.p (.int .i64 (A.length : Nat)), v1, v2], z], σ3.set 2 (.mix [.p (.int .i64 (A.length : Nat)), v1, v2]))) ?_) ?_
  · rw [hF]
    simp only [plainFn_fn, List.append_nil, a1, obind]
    refine b1.trans (c1.trans (d3.trans ?_))
    rw [hst]
    simp only [obind]
    rw [hcv]
    rfl
  · rw [ta_tup]
    simp only [mapO, tp_agg, tw_int, tw_any d4, tw_any d5, tp_any c2, loosens_ints, loosens_edgs, loosens_pC, Option.map_some]
    simp only [resR, eIn, eEn, ePn]
end Go.D.StB
end
/- Seat 2: numbers of first pairs, both ways. -/
section
set_option linter.unusedVariables false
set_option linter.unusedSimpArgs false
namespace Go.D.StB
open Go.D.Srt
theorem mem_iFrom (bg : List E) (v : Int) : ∀ (l : List E) (i : Nat), v ∈ iFrom bg i l ↔ ∃ k, ∃ h : k < l.length, l[k] ∈ bg ∧ v = ((i + k : Nat) : Int)
  | [], i => by
    constructor
    · intro h; exact absurd h (by simp [iFrom])
    · rintro ⟨k, h, _⟩; exact absurd h (by simp)
  | x :: l, i => by
    have ih := mem_iFrom bg v l (i + 1)
    rw [iFrom, List.mem_append, ih]
    constructor
    · rintro (h | ⟨k, h, h1, h2⟩)
      · by_cases hc : bg.contains x = true
        · rw [if_pos hc, List.mem_singleton] at h
          exact ⟨0, by simp, List.contains_iff_mem.1 hc, by rw [h]; rfl⟩
        · rw [if_neg hc] at h
          exact absurd h (by simp)
      · exact ⟨k + 1, by simp; omega, by simpa using h1, by rw [h2]; congr 1; omega⟩
    · rintro ⟨k, h, h1, h2⟩
      match k, h, h1, h2 with
      | 0, h, h1, h2 =>
        left
        have hm : bg.contains x = true := List.contains_iff_mem.2 h1
        rw [if_pos hm, List.mem_singleton, h2]; rfl
      | k + 1, h, h1, h2 => exact .inr ⟨k, by simpa using h, by simpa using h1, by rw [h2]; congr 1; omega⟩
theorem asc_iFrom (bg : List E) : ∀ (l : List E) (i : Nat), (iFrom bg i l).Pairwise (· < ·)
  | [], i => List.Pairwise.nil
  | x :: l, i => by
    have ih := asc_iFrom bg l (i + 1)
    unfold iFrom
    by_cases hc : bg.contains x = true
    · rw [if_pos hc, List.singleton_append, List.pairwise_cons]
      refine ⟨fun v hv => ?_, ih⟩
      rw [mem_iFrom] at hv
      obtain ⟨k, _, _, rfl⟩ := hv
      omega
    · rw [if_neg hc, List.nil_append]; exact ih
theorem nums_eq {B bg : List E} (hB : Asc B) (hb : Asc bg) (hs : ∀ x ∈ bg, x ∈ B) : nums B bg = iFrom bg 0 B := by
  have hlt : (nums B bg).Pairwise (· < ·) := by
    unfold nums
    rw [List.pairwise_map]
    refine hb.imp_of_mem fun {x y} hx hy h => ?_
    obtain ⟨h1, h2⟩ := idx_mem (hs x hx)
    obtain ⟨h3, h4⟩ := idx_mem (hs y hy)
    by_cases e : B.idxOf x < B.idxOf y
    · omega
    · exfalso
      by_cases e2 : B.idxOf x = B.idxOf y
      · rw [e2, h4] at h2
        subst h2
        unfold ltB at h
        omega
      · have h5 := asc_lt hB (show B.idxOf y < B.idxOf x by omega) h1
        rw [h2, h4] at h5
        unfold ltB at h h5
        omega
  refine List.Perm.eq_of_pairwise (le := (· ≤ ·)) (fun a b _ _ h1 h2 => Int.le_antisymm h1 h2) (hlt.imp fun h => Int.le_of_lt h) ((asc_iFrom bg B 0).imp fun h => Int.le_of_lt h) ?_
  rw [List.perm_ext_iff_of_nodup (hlt.imp fun h => Int.ne_of_lt h) ((asc_iFrom bg B 0).imp fun h => Int.ne_of_lt h)]
  intro v
  rw [mem_iFrom]
  unfold nums
  rw [List.mem_map]
  constructor
  · rintro ⟨x, hx, rfl⟩
    obtain ⟨h1, h2⟩ := idx_mem (hs x hx)
    refine ⟨B.idxOf x, h1, ?_, by rw [Nat.zero_add]⟩
    rw [← ge_at h1, h2]; exact hx
  · rintro ⟨k, h, h1, rfl⟩
    refine ⟨B[k], h1, ?_⟩
    rw [Nat.zero_add]
    congr 1
    exact (asc_nodup hB).idxOf_getElem k h
end Go.D.StB
end
/- Seat 2: SameGraph of a graph and itself. -/
section
set_option linter.unusedVariables false
set_option linter.unusedSimpArgs false
namespace Go.D.StB
open Go.D.Srt
def gD (n : Int) (is : List Int) (es : List Edg) : List DV := [.p (pI n), .p (eIn is), .p (eEn es)]
theorem eIn_sl (l : List Int) : eIn l = eSl (if l.length = 0 then none else some l) := by
  unfold eIn
  split <;> rfl
theorem len45 (es : List Edg) (σ : Store) : len PP 45 (.p (eEn es)) σ = some (.p (.int .i64 (es.length : Nat))) := by
  unfold eEn
  by_cases h : es.length = 0
  · rw [if_pos h, h]; simp [len, un45]
  · rw [if_neg h]; simp [len, un45]
theorem idx45 {es : List Edg} {i : Nat} (h : i < es.length) : indexAddr PP 45 (.p (eEn es)) (.p (.int .i64 (i : Nat))) = some (.pptr (eEdgs es) (i * 3)) := by
  have h1 : es.length ≠ 0 := by omega
  have h2 : (0 : Int) ≤ (i : Int) ∧ (i : Int) < (es.length : Nat) := by omega
  simp [indexAddr, un45, s129, eEn, h1, h2, h]
theorem load129 (x : DV) (σ : Store) : load PP 129 x σ = (loadN σ 3 x).map .agg := Eq.trans (by kernel_rfl) rfl
theorem neq129 (e : Edg) : binOp PP .neq 129 (.agg (edgD e)) (.agg (edgD e)) = some (.p (.bool false)) := by
  have e1 : binOp PP .neq 129 (.agg (edgD e)) (.agg (edgD e)) = (match some (e.f == e.f) with | some true => (match some (e.t == e.t) with | some true => (match some (e.a == e.a) with | some true => some true | r => r) | r => r) | r => r).map fun b => .p (.bool !b) := by kernel_rfl
  rw [e1]
  simp
theorem sg_L0 {n : Int} {is : List Int} {es : List Edg} {σ : Store} {r s : Nat} (h1 : σ[r]? = some (.mix (gD n is es))) (h2 : σ[s]? = some (.mix (gD n is es))) (hn : es.length ≤ 100000) : ∀ (k i : Nat), es.length - i = k → i ≤ es.length →
    f21_L0 guardT 0 (.ptr r 0) (.ptr s 0) (N i) σ = some (.p (.bool true), σ)
  | 0, i, hk, hi => by
    rw [f21_L0_eq guardT rfl]
    simp (disch := omega) only [N, fa47_2, shift_ptr, shift_pptr, Nat.zero_add, Nat.add_zero, pureFn_fn, List.append_nil, List.singleton_append, List.cons_append, List.nil_append, load45, load1_ptr (off := 2) h1 rfl, len45, b_lss, ltF, guard_tt, guard_ff, guard_tf, guard_ft, guard_sk, obind, omap, pickV_true, pickV_false, condK_true, condK_false, decide_true, decide_false, Bool.not_true, Bool.not_false, not_bool]
  | k + 1, i, hk, hi => by
    have hil : i < es.length := by omega
    rw [f21_L0_eq guardT rfl]
    simp (disch := omega) only [N, fa47_2, shift_ptr, shift_pptr, Nat.zero_add, Nat.add_zero, pureFn_fn, List.append_nil, List.singleton_append, List.cons_append, List.nil_append, load45, load1_ptr (off := 2) h1 rfl, load1_ptr (off := 2) h2 rfl, len45, b_lss, ltT, guard_tt, guard_ff, guard_tf, guard_ft, guard_sk, obind, omap, pickV_true, pickV_false, condK_true, condK_false, decide_true, decide_false, Bool.not_true, Bool.not_false, not_bool, idx45 hil, load129, load106_D hil, neq129, add1]
    exact sg_L0 h1 h2 hn k (i + 1) (by omega) (by omega)
theorem fa47_0 (x : DV) : fieldAddr PP 47 x 0 = shiftPtr x 0 := Eq.trans (by kernel_rfl) rfl
theorem box_g (n : Int) (is : List Int) (es : List Edg) : boxV (.agg (gD n is es)) = some (gD n is es) := rfl
theorem g_view (n : Int) (is : List Int) (es : List Edg) : view (.agg (gD n is es)) = .agg (gD n is es) := by
  have e1 : loosen (eIn is) = eIn is := by unfold eIn; split <;> simp [loosen, loosens_ints]
  have e2 : loosen (eEn es) = eEn es := by unfold eEn; split <;> simp [loosen, loosens_edgs]
  simp [view, viewCell, gD, e1, e2, loosen]
theorem S21 {n : Int} {is : List Int} {es : List Edg} {σ : Store} (hn : es.length ≤ 100000) (hi : is.length ≤ 100000) : pureV CC 21 [.agg (gD n is es), .agg (gD n is es)] σ = some (.p (.bool true)) := by
  have g0 : ([Row.mix (gD n is es), Row.mix (gD n is es)] : Store)[0]? = some (.mix (gD n is es)) := rfl
  have g1 : ([Row.mix (gD n is es), Row.mix (gD n is es)] : Store)[1]? = some (.mix (gD n is es)) := rfl
  have h61 : ∀ σ, pureV CC 61 [.p (eIn is), .p (eIn is)] σ = some (.p (.bool true)) := fun σ => by
    rw [eIn_sl, S61d (by split <;> simp; omega)]
    simp
  have hL := sg_L0 g0 g1 hn (es.length - 0) 0 rfl (Nat.zero_le _)
  refine pureV_free (by simp [g_view]) rfl (F21_call (r := (.p (.bool true), [Row.mix (gD n is es), Row.mix (gD n is es)])) ?_) rfl
  rw [F21_eq]
  simp only [box_g, guard_tt, guard_ff, guard_tf, guard_ft, guard_sk, obind, omap, pickV_true, pickV_false, condK_true, condK_false, decide_true, decide_false, Bool.not_true, Bool.not_false, not_bool, List.length_nil, List.nil_append, List.length_cons, List.cons_append, Nat.reduceAdd]
  generalize ([Row.mix (gD n is es), Row.mix (gD n is es)] : Store) = ρ at *
  simp only [fa47_0, fa47_1, fa47_2, shift_ptr, shift_pptr, Nat.zero_add, Nat.add_zero, pureFn_fn, List.append_nil, List.singleton_append, List.cons_append, List.nil_append, load3, load22, load45, load1_ptr (off := 0) g0 rfl, load1_ptr (off := 0) g1 rfl, load1_ptr (off := 1) g0 rfl, load1_ptr (off := 1) g1 rfl, load1_ptr (off := 2) g0 rfl, load1_ptr (off := 2) g1 rfl, b_neq', eqT (rfl : n = n), eqT (rfl : ((es.length : Nat) : Int) = ((es.length : Nat) : Int)), guard_tt, guard_ff, guard_tf, guard_ft, guard_sk, obind, omap, pickV_true, pickV_false, condK_true, condK_false, decide_true, decide_false, Bool.not_true, Bool.not_false, not_bool, h61, len45]
  exact hL
end Go.D.StB
end
/- OpenComposes: the law answers true. -/
section
set_option linter.unusedVariables false
set_option linter.unusedSimpArgs false
set_option maxRecDepth 4000
namespace Go.D.StB
open Go.D.Srt
theorem gro_own (a b : Cmp) : ∀ (d i : Nat) (A : List E), gro (ownC a) (ownC b) d i A = gro a b d i A
  | 0, i, A => rfl
  | d + 1, i, A => by
    have e : stepsL (ownC a) (ownC b) (ge A i) = stepsL a b (ge A i) := rfl
    rw [gro, gro, e, gro_own a b d]
theorem es_own (a b : Cmp) (B : List E) : ∀ (i : Nat) (l : List E), esFrom (ownC a) (ownC b) B i l = esFrom a b B i l
  | i, [] => rfl
  | i, x :: l => by
    have e : stepsL (ownC a) (ownC b) x = stepsL a b x := rfl
    rw [esFrom, esFrom, e, es_own a b B]
theorem ePn_ls (B : List E) : ePn B = eLs (if B.length = 0 then none else some (B.map fun x => some [x.1, x.2])) := by
  unfold ePn
  by_cases h : B.length = 0
  · rw [if_pos h, if_pos h]; rfl
  · rw [if_neg h, if_neg h]
    simp only [eLs, List.length_map, List.map_map]
    rfl
theorem S23p {B : List E} (hB : B.length ≤ 1000) (σ : Store) : pureV CC 23 [.p (ePn B), .p (ePn B)] σ = some (.p (.bool true)) := by
  rw [ePn_ls]
  refine S23 rfl ?_ ?_
  · split <;> simp; omega
  · split
    · simp
    · intro x hx
      simp only [L, Option.getD_some, List.mem_map] at hx
      obtain ⟨y, _, rfl⟩ := hx
      simp
theorem stN47g {σ : Store} {c : List DV} (hc : c.length = 3) (ho : c.all DV.one = true) : store PP 0 47 (.ptr σ.length 0) (.agg c) (σ ++ [.mix [.p (pI 0), .p .nilsl, .p .nilsl]]) = some (σ ++ [.mix c]) := by
  have e : splice [DV.p (pI 0), .p .nilsl, .p .nilsl] 0 c = c := by simp [splice, hc]
  simp [store, s47, DV.cells, storeN, hc, ho, e]
theorem gD_one (n : Int) (is : List Int) (es : List Edg) : (gD n is es).all DV.one = true := rfl
theorem g_ld {σ : Store} {t : Nat} {n : Int} {is : List Int} {es : List Edg} (h : σ[t]? = some (.mix (gD n is es))) : load PP 47 (.ptr t 0) σ = some (.agg (gD n is es)) := ld47 h
theorem len48n (σ : Store) : len PP 48 (.p .nilsl) σ = some (.p (.int .i64 0)) := by simp [len, un48]
theorem b47 : build PP 47 [] = some (.agg (gD 0 [] [])) := bld47n
theorem j4e {ρ : Store} {a b : Cmp} {e : Int} (he : e ≠ 0) (h2 : ρ[2]? = some (.mix (gD 0 [] []))) (x0 x1 x2 x3 x4 x11 x12 x13 x14 x15 x16 x17 x18 x19 x20 x21 x22 x23 x24 x25 x26 x27 x28 x29 x30 x31 x32 x33 x34 x35 : DV) :
    f4_J0 guardT 0 x0 x1 x2 x3 x4 (.ptr 2 0) (.p .nilsl) (.p (.int .i64 e)) (.p (.int .i64 e)) x11 x12 x13 x14 x15 x16 x17 x18 x19 x20 x21 x22 x23 x24 x25 x26 x27 x28 x29 x30 x31 x32 x33 x34 x35 ρ = some (.p (.bool true), ρ) := by
  rw [f4_J0_eq]
  have h21 : ∀ σ, pureV CC 21 [.agg (gD 0 [] []), .agg (gD 0 [] [])] σ = some (.p (.bool true)) := fun σ => S21 (by simp) (by simp)
  simp only [b_neq', eqF he, guard_tt, guard_ff, guard_tf, guard_ft, guard_sk, obind, omap, pickV_true, pickV_false, condK_true, condK_false, decide_true, decide_false, Bool.not_true, Bool.not_false, not_bool, b_eql, eqT (rfl : e = e), g_ld h2, b47, pureFn_fn, List.append_nil, h21, len48n, eqT (rfl : (0 : Int) = 0)]
theorem j4o {ρ : Store} {a b : Cmp} {na nb : Nat} (ha : COk a na) (hb : COk b nb) {B : List E} (hp : B.Perm (gro a b 1000 0 (begL a b))) (hB : Asc B) (hBl : B.length ≤ 100) (h0 : ρ[0]? = some (.mix (eCmp a))) (h1 : ρ[1]? = some (.mix (eCmp b)))
    (h2 : ρ[2]? = some (.mix (gD B.length (iFrom (begL a b) 0 B) (esFrom a b B 0 B)))) (l1 : (iFrom (begL a b) 0 B).length ≤ 100000) (l2 : (esFrom a b B 0 B).length ≤ 100000) (x0 x1 x4 x11 x12 x13 x14 x15 x16 x17 x18 x19 x20 x21 x22 x23 x24 x25 x26 x27 x28 x29 x30 x31 x32 x33 x34 x35 : DV) :
    ∃ ρ', f4_J0 guardT 0 x0 x1 (.ptr 0 0) (.ptr 1 0) x4 (.ptr 2 0) (.p (ePn B)) (.p (.int .i64 0)) (.p (.int .i64 0)) x11 x12 x13 x14 x15 x16 x17 x18 x19 x20 x21 x22 x23 x24 x25 x26 x27 x28 x29 x30 x31 x32 x33 x34 x35 ρ = some (.p (.bool true), ρ') := by
  rw [f4_J0_eq]
  have h22 := S22 ha hb hp hB ρ
  have h22 : pureV CC 22 [.agg (eCmp a), .agg (eCmp b)] ρ = some (.tuple [.agg (gD B.length (iFrom (begL a b) 0 B) (esFrom a b B 0 B)), .p (ePn B)]) := h22
  have h21 : ∀ σ, pureV CC 21 [.agg (gD B.length (iFrom (begL a b) 0 B) (esFrom a b B 0 B)), .agg (gD B.length (iFrom (begL a b) 0 B) (esFrom a b B 0 B))] σ = some (.p (.bool true)) := fun σ => S21 l2 l1
  have h23 := fun σ => S23p (B := B) (by omega) σ
  have hst := stN47g (σ := ρ) (c := gD B.length (iFrom (begL a b) 0 B) (esFrom a b B 0 B)) rfl (gD_one _ _ _)
  have q2 := get_old (r := .mix (gD B.length (iFrom (begL a b) 0 B) (esFrom a b B 0 B))) h2
  have q3 : (ρ ++ [Row.mix (gD B.length (iFrom (begL a b) 0 B) (esFrom a b B 0 B))])[ρ.length]? = _ := get_snoc
  refine ⟨ρ ++ [.mix (gD B.length (iFrom (begL a b) 0 B) (esFrom a b B 0 B))], ?_⟩
  simp only [b_neq', eqT (rfl : (0 : Int) = 0), guard_tt, guard_ff, guard_tf, guard_ft, guard_sk, obind, omap, pickV_true, pickV_false, condK_true, condK_false, decide_true, decide_false, Bool.not_true, Bool.not_false, not_bool, load25, cm_all h0, cm_all h1, pureFn_fn, List.append_nil, h22, ex2_0, ex2_1, zr47, hst, b_eql, g_ld q2, g_ld q3, h21, h23]
theorem iFrom_len (bg : List E) : ∀ (l : List E) (i : Nat), (iFrom bg i l).length ≤ l.length
  | [], i => Nat.le_refl _
  | x :: l, i => by
    have := iFrom_len bg l (i + 1)
    unfold iFrom
    split <;> simp <;> omega
theorem es_len {a b : Cmp} {na nb : Nat} (ha : COk a na) (hb : COk b nb) (B : List E) : ∀ (l : List E) (i : Nat), (esFrom a b B i l).length ≤ 100 * l.length
  | [], i => Nat.le_refl _
  | x :: l, i => by
    have h1 := es_len ha hb B l (i + 1)
    have h2 := steps_len ha hb x
    rw [esFrom, List.length_append, eRow_len, List.length_cons]
    omega
theorem law4 (hawake : ∀ σ, pureV CC 10 [] σ = some (.p (.bool true))) (a b : Cmp) : ∃ σ', F4 guardT 0 (.agg (eCmp a)) (.agg (eCmp b)) [] = some (.p (.bool true), σ') := by
  have g0 : ([Row.mix (eCmp a), Row.mix (eCmp b)] : Store)[0]? = some (.mix (eCmp a)) := rfl
  have g1 : ([Row.mix (eCmp a), Row.mix (eCmp b)] : Store)[1]? = some (.mix (eCmp b)) := rfl
  have gl : ([Row.mix (eCmp a), Row.mix (eCmp b)] : Store).length = 2 := rfl
  rw [F4_eq]
  simp only [box_cmp, guard_tt, guard_ff, guard_tf, guard_ft, guard_sk, obind, omap, pickV_true, pickV_false, condK_true, condK_false, decide_true, decide_false, Bool.not_true, Bool.not_false, not_bool, List.length_nil, List.nil_append, List.length_cons, List.cons_append, Nat.reduceAdd]
  generalize ([Row.mix (eCmp a), Row.mix (eCmp b)] : Store) = τ at *
  simp only [pureFn_fn, List.append_nil, hawake, guard_tt, guard_ff, guard_tf, guard_ft, guard_sk, obind, omap, pickV_true, pickV_false, condK_true, condK_false, decide_true, decide_false, Bool.not_true, Bool.not_false, not_bool, load25, cm_all g0, cm_all g1, S11]
  cases hfa : fewC a with
  | false => exact ⟨_, by simp only [guard_tt, guard_ff, guard_tf, guard_ft, guard_sk, obind, omap, pickV_true, pickV_false, condK_true, condK_false, decide_true, decide_false, Bool.not_true, Bool.not_false, not_bool]; rfl⟩
  | true =>
    cases hfb : fewC b with
    | false => exact ⟨_, by simp only [guard_tt, guard_ff, guard_tf, guard_ft, guard_sk, obind, omap, pickV_true, pickV_false, condK_true, condK_false, decide_true, decide_false, Bool.not_true, Bool.not_false, not_bool, S11, hfb]; rfl⟩
    | true =>
      have ca := csm_of hfa
      have cb := csm_of hfb
      by_cases he : orL [cmpE a, cmpE b] = 0
      · have z1 : cmpE a = 0 := orL_zero he _ (by simp)
        have z2 : cmpE b = 0 := orL_zero he _ (by simp)
        have ha := cok_of ca z1
        have hb := cok_of cb z2
        have ha' := cok_of (csm_own ca) ((cmpE_own a).trans z1)
        have hb' := cok_of (csm_own cb) ((cmpE_own b).trans z2)
        have he' : orL [cmpE (ownC a), cmpE (ownC b)] = 0 := he
        obtain ⟨B, b1, b2, b3⟩ := S20 ha' hb' τ he'
        have eb : begL (ownC a) (ownC b) = begL a b := rfl
        rw [gro_own, eb] at b1
        have hbeg := IG.beg ha hb
        obtain ⟨k1, k2, k3⟩ := gro_closed ha hb 1000 0 (begL a b) hbeg (by omega) (fun j hj => by omega)
        have hBl : B.length ≤ 100 := by rw [b1.length_eq]; exact Nat.le_trans k1.len (le100 ha hb)
        have hn := nums_eq b2 (beg_asc ha hb) (fun x hx => b1.mem_iff.2 (k2.subset hx))
        have b3 : pureV CC 20 [.agg (eCmp (ownC a)), .agg (eCmp (ownC b))] τ = some (.tuple [.agg (gD B.length (iFrom (begL a b) 0 B) (esFrom a b B 0 B)), .p (ePn B), .p (.int .i64 0)]) := by
          rw [b3, resC, es_own, eb, hn]; rfl
        have hst := stN47g (σ := τ) (c := gD B.length (iFrom (begL a b) 0 B) (esFrom a b B 0 B)) rfl (gD_one _ _ _)
        have q2 : (τ ++ [Row.mix (gD B.length (iFrom (begL a b) 0 B) (esFrom a b B 0 B))])[2]? = some (.mix (gD B.length (iFrom (begL a b) 0 B) (esFrom a b B 0 B))) := by rw [← gl]; exact get_snoc
        have q0 := get_old (r := .mix (gD B.length (iFrom (begL a b) 0 B) (esFrom a b B 0 B))) g0
        have q1 := get_old (r := .mix (gD B.length (iFrom (begL a b) 0 B) (esFrom a b B 0 B))) g1
        have e3 : ∀ x y z : DV, extractV (.tuple [x, y, z]) 0 = some x ∧ extractV (.tuple [x, y, z]) 1 = some y ∧ extractV (.tuple [x, y, z]) 2 = some z := fun _ _ _ => ⟨rfl, rfl, rfl⟩
        rw [gl] at hst
        simp only [guard_tt, guard_ff, guard_tf, guard_ft, guard_sk, obind, omap, pickV_true, pickV_false, condK_true, condK_false, decide_true, decide_false, Bool.not_true, Bool.not_false, not_bool, omap, S11, hfb, cm_all g0, cm_all g1, S14 ca, S14 cb, b3, (e3 _ _ _).1, (e3 _ _ _).2.1, (e3 _ _ _).2.2, zr47, gl, hst, load25, cm_all q0, cm_all q1, pureFn_fn, List.append_nil, S16 ca, S16 cb, z1, z2, b_eql, eqT (rfl : (0 : Int) = 0)]
        exact j4o ha hb b1 b2 hBl q0 q1 q2 (Nat.le_trans (iFrom_len _ _ _) (by omega)) (Nat.le_trans (es_len ha hb B B 0) (by omega)) _ _ _ _ _ _ _ _ _ _ _ _ _ _ _ _ _ _ _ _ _ _ _ _ _ _ _ _
      · have b3 := S20e (csm_own ca) (csm_own cb) (show orL [cmpE (ownC a), cmpE (ownC b)] ≠ 0 from he) τ
        have b3 : pureV CC 20 [.agg (eCmp (ownC a)), .agg (eCmp (ownC b))] τ = some (.tuple [.agg (gD 0 [] []), .p .nilsl, .p (.int .i64 (orL [cmpE a, cmpE b]))]) := b3
        have hst := stN47g (σ := τ) (c := gD 0 [] []) rfl (gD_one _ _ _)
        have q2 : (τ ++ [Row.mix (gD 0 [] [])])[2]? = some (.mix (gD 0 [] [])) := by rw [← gl]; exact get_snoc
        have q0 := get_old (r := .mix (gD 0 [] [])) g0
        have q1 := get_old (r := .mix (gD 0 [] [])) g1
        have e3 : ∀ x y z : DV, extractV (.tuple [x, y, z]) 0 = some x ∧ extractV (.tuple [x, y, z]) 1 = some y ∧ extractV (.tuple [x, y, z]) 2 = some z := fun _ _ _ => ⟨rfl, rfl, rfl⟩
        rw [gl] at hst
        by_cases z1 : cmpE a = 0
        · have ho : orL [cmpE a, cmpE b] = cmpE b := by
            simp only [orL, z1, if_true]
            split
            · rename_i h; exact h.symm
            · rfl
          rw [ho] at b3 he
          refine ⟨τ ++ [Row.mix (gD 0 [] [])], ?_⟩
          · simp only [guard_tt, guard_ff, guard_tf, guard_ft, guard_sk, obind, omap, pickV_true, pickV_false, condK_true, condK_false, decide_true, decide_false, Bool.not_true, Bool.not_false, not_bool, omap, S11, hfb, cm_all g0, cm_all g1, S14 ca, S14 cb, b3, (e3 _ _ _).1, (e3 _ _ _).2.1, (e3 _ _ _).2.2, zr47, gl, hst, load25, cm_all q0, cm_all q1, pureFn_fn, List.append_nil, S16 ca, S16 cb, z1, b_eql, eqT (rfl : (0 : Int) = 0)]
            exact j4e (a := a) (b := b) he q2 _ _ _ _ _ _ _ _ _ _ _ _ _ _ _ _ _ _ _ _ _ _ _ _ _ _ _ _ _ _
        · have ho : orL [cmpE a, cmpE b] = cmpE a := by simp only [orL, z1, if_false]
          rw [ho] at b3 he
          refine ⟨τ ++ [Row.mix (gD 0 [] [])], ?_⟩
          · simp only [guard_tt, guard_ff, guard_tf, guard_ft, guard_sk, obind, omap, pickV_true, pickV_false, condK_true, condK_false, decide_true, decide_false, Bool.not_true, Bool.not_false, not_bool, omap, S11, hfb, cm_all g0, cm_all g1, S14 ca, S14 cb, b3, (e3 _ _ _).1, (e3 _ _ _).2.1, (e3 _ _ _).2.2, zr47, gl, hst, load25, cm_all q0, cm_all q1, pureFn_fn, List.append_nil, S16 ca, S16 cb, b_eql, eqF z1]
            exact j4e (a := a) (b := b) he q2 _ _ _ _ _ _ _ _ _ _ _ _ _ _ _ _ _ _ _ _ _ _ _ _ _ _ _ _ _ _
theorem call4 (hawake : ∀ σ, pureV CC 10 [] σ = some (.p (.bool true))) (a b : Cmp) : ∃ σ', CC 0 4 [.agg (eCmp a), .agg (eCmp b)] [] = some (.p (.bool true), σ') := by
  obtain ⟨σ', h⟩ := law4 hawake a b
  exact ⟨σ', F4_call h⟩
end Go.D.StB
end
/- OpenComposes: for all two components the law answers true and leaves its arguments as they were: the given statement, without conditions. -/
section
set_option linter.unusedVariables false
set_option linter.unusedSimpArgs false
set_option maxRecDepth 100000
namespace Go.D
open Go.D.StB
open Go.ChangeShapes Go.WideShapes Go.ChangeAt Go.RowKit

theorem openComposes_calls (hawake : Awake) {H : Type} {enc : TypeId × Value → H} {W : World} {base : Nat} {args : Array Value} {ds : List (DataW H)} {ps : List MemPlace}
    (hval : ∀ (j : Nat) t v, ([25, 25] : List TypeId).toArray[j]? = some t → args[j]? = some v → Value.okWide PP W .any base t v)
    (hA : DataW.TrodAll enc PP W 0 (fun _ => true) true [25, 25] args.toList ds ps) :
    Calls PP 4 args W fun e W' => e = .returned (.bool true) ∧ Below W.heap.size W W' := by
  obtain ⟨v0, v1, d0, d1, p0, p1, rfl, rfl, rfl, h0, h1⟩ := trodAll_two hA
  obtain ⟨o0, ho0⟩ := read_cmp (hval 0 25 v0 rfl rfl) h0
  obtain ⟨o1, ho1⟩ := read_cmp (hval 1 25 v1 rfl rfl) h1
  obtain ⟨σ', hc⟩ := call4 hawake o0 o1
  refine calls_of hc ⟨rfl, fun j h1 h2 => ?_⟩
  match j, h1 with
  | 0, _ => exact ho0
  | 1, _ => exact ho1

end Go.D
namespace Go.Proofs.Ythddgnfaaccgjaa
open Go.D Go.D.StB Go.ChangeShapes Go.WideShapes Go.ChangeAt Go.RowKit

set_option maxRecDepth 100000 in
theorem openComposes_lifted (hawake : Awake) (os : Os) (started : os.Started) (H : Type) (enc : TypeId × Value → H) :
    ReturnsInHanded {} Try.checked os 4 .any (Rows.openComposesSpec.pre6 enc Try.prog Try.f4 Rows.openComposesRow.domain false) (Rows.openComposesSpec.post enc Try.prog Try.f4 false true false false) := by
  refine returnsInHanded_of_change_sized (C := Try.checked) own_ok started (by kernel_rfl) Try.func4
    (ChangeSpec.witness6 (enc := enc) (C := Try.checked) false ⟨#[], #[.agg #[.int .i64 0, .slice none 0 0, .slice none 0 0, .slice none 0 0], .agg #[.int .i64 0, .slice none 0 0, .slice none 0 0, .slice none 0 0]], []⟩ 8 (by kernel_rfl) (by kernel_rfl) (by kernel_rfl) (by kernel_rfl)) ?_
  intro W base args ds gs before hval0 hW _ hsz0 _
  have hval : ∀ (j : Nat) t v, Try.f4.params[j]? = some t → args[j]? = some v → Value.okWide Try.prog W .any base t v := hval0
  have hW' := hW
  obtain ⟨p, q, hA0, hV, rfl, _, _⟩ := hW
  have hA : DataW.TrodAll enc Try.prog W 0 (fun _ => true) true Try.f4.params.toList args.toList ds p := hA0
  rw [Try.params4] at hA hval
  have hA2 := hA
  obtain ⟨v0, v1, d0, d1, p0, p1, rfl, rfl, rfl, h0, h1⟩ := trodAll_two hA
  obtain ⟨rfl, rfl⟩ := trodVars_none hV
  have hlt : ∀ x ∈ p0 ++ p1, x.block < W.heap.size := fun x hx => by
    have := hW'.lt x (by simpa using hx)
    exact this
  have e0 : ∀ x ∈ p0, x.block < W.heap.size := fun x hx => hlt x (List.mem_append_left _ hx)
  have e1 : ∀ x ∈ p1, x.block < W.heap.size := fun x hx => hlt x (List.mem_append_right _ hx)
  refine (openComposes_calls hawake (base := base) hval hA2).mono ?_
  rintro e W2 ⟨rfl, hnx⟩
  refine ⟨_, rfl, _, _, _, [], p0 ++ p1, [], hW', ?_, ?_, rfl, hnx.frame _, fun h => by cases h⟩
  · exact trodAll_mk1 (shut_bool ul4 true)
  · exact trodAll_mk2 (Below.trod laidOut_ok (by kernel_rfl) (of_decide_eq_true (by kernel_rfl)) h0 hnx e0) (Below.trod laidOut_ok (by kernel_rfl) (of_decide_eq_true (by kernel_rfl)) h1 hnx e1)

theorem openComposes_holds : Rows.OpenComposesSaid :=
  OpenClaim.holds_of_wide 4 Try.f4 rfl rfl rfl rfl rfl rfl rfl ⟨rfl, rfl, rfl, rfl, rfl⟩ rfl rfl rfl rfl rfl (by kernel_rfl) Try.func4 (by kernel_rfl)
    (of_decide_eq_true (by kernel_rfl)) (by unfold Func.isWrapper; first | (rw [if_pos (by decide +kernel)]; kernel_rfl) | (rw [if_neg (by decide +kernel)]; exact ⟨rfl, rfl⟩))
    (fun os started H enc _ => openComposes_lifted awake_true os started H enc)

end Go.Proofs.Ythddgnfaaccgjaa
end
