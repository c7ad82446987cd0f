/- OpenUnimplied: for every list of watches and every watch the law answers true and leaves its arguments as they were: the given statement, without conditions. -/
import Derived.Test.YthddgnfaaccgjaaPh
import Derived.Test.YthddgnfaaccgjaaPg
/- Unimplied watches: the reference answers as the program. -/
section
set_option linter.unusedVariables false
set_option linter.unusedSimpArgs false
namespace Go.D
theorem bld134 {x y : DV} {a b : PV} (hx : x = .p a ∨ ∃ r ver n cs, x = .osl r ver 2 n cs ∧ a = .sl false n cs) (hy : (y = .p b) ∨ ∃ r ver n cs, y = .osl r ver 1 n cs ∧ b = .sl false n cs) (σ : Store) : ∃ z, build PP 134 [(0, x), (1, y)] = some z ∧ buildSlice PP none 135 1 [(0, z)] σ = some (.p (.sl true 1 [a, b]), σ) := by
  rcases hx with rfl | ⟨r, ver, n, cs, rfl, rfl⟩ <;> rcases hy with rfl | ⟨r', ver', n', cs', rfl, rfl⟩
  · exact ⟨.agg [.p a, .p b], Eq.trans (by kernel_rfl) rfl, Eq.trans (by kernel_rfl) rfl⟩
  · exact ⟨.agg [.p a, .osl r' ver' 1 n' cs'], Eq.trans (by kernel_rfl) rfl, Eq.trans (by kernel_rfl) rfl⟩
  · exact ⟨.agg [.osl r ver 2 n cs, .p b], Eq.trans (by kernel_rfl) rfl, Eq.trans (by kernel_rfl) rfl⟩
  · exact ⟨.agg [.osl r ver 2 n cs, .osl r' ver' 1 n' cs'], Eq.trans (by kernel_rfl) rfl, Eq.trans (by kernel_rfl) rfl⟩
theorem idx22g {σ : Store} {B n i : Nat} {cs : List PV} {x : DV} (h : Grow σ B 1 n cs x) (hi : i < n) : indexAddr PP 22 x (.p (pI (i : Nat))) = some (.pptr cs i) := by
  have h2 : (0 : Int) ≤ (i : Int) ∧ (i : Int) < (n : Nat) := by omega
  rcases h.2 with h | rfl | ⟨q, ver, rfl, _⟩
  · omega
  · simp [indexAddr, u22, s3, h2, hi]
  · simp [indexAddr, u22, s3, h2, hi]
theorem grow_row {σ : Store} {B n : Nat} {cs : List PV} {x : DV} (h : Grow σ B 2 n cs x) : ∀ a v m cs', x = .osl a v 2 m cs' → a < σ.length := by
  intro a v m cs' e
  rcases h.2 with ⟨_, h⟩ | h | ⟨q, ver, h, h2, _⟩
  · rw [h] at e; exact absurd e (by simp)
  · rw [h] at e; exact absurd e (by simp)
  · rw [h] at e
    injection e with e
    rw [← e]
    exact get_lt h2
theorem pathP_snoc (p : List Int) (c : Nat) : pathP (p ++ [(c : Int)]) = pathP p ++ [prC c] := by simp [pathP]
theorem prO_L (p : List Int) : L (prO p) = pathP p := by
  unfold prO
  split
  · rename_i h; subst h; rfl
  · rfl
theorem prO_ne {p : List Int} (h : p ≠ []) : ePs (prO p) = .sl false p.length (ePrs (pathP p)) := by
  unfold prO
  rw [if_neg h]
  simp [ePs, pathP]
section
variable {ws : Option (List OW)} {w : OW} (hw : WsOk ((L ws).map wl) (wl w))
include hw
/-- One pair, in the order of the reference's loops. -/
theorem L26_c {x : QE} {q : List QE} {i c : Nat} {x8 : DV} {σ : Store} (hI : IW ((L ws).map wl) (wl w) q) (hxi : q[i]? = some x) (hc : c < 9) (h8 : Grow σ 0 2 q.length (wsP (decide ((L ws).length = 0)) (L ws).length q) x8) :
    (∃ p, (keepK ((L ws).map wl) x.n (prC c) (L ws).length = true ∧ nextW (wl w) (x.n.getD 3 0) (prC c) = -1) ∧ p = x.p ++ [(c : Int)] ∧ ∃ r ver σ', f26_L3 guardT 0 (.p (eWs ws)) (.p (eWt w)) x8 (.p (pI (i : Nat))) (.p (pI ((c / 3 : Nat)))) (.p (pI ((c % 3 : Nat)))) σ = some (.tuple [.osl r ver 2 p.length (ePrs (pathP p)), .p (.bool true)], σ')) ∨
    (∃ q' x8' σ', q' = (if keepK ((L ws).map wl) x.n (prC c) (L ws).length = true then addN q (toW ((L ws).map wl) (wl w) x.n (prC c)) (x.p ++ [(c : Int)]) else q) ∧ (keepK ((L ws).map wl) x.n (prC c) (L ws).length = true → nextW (wl w) (x.n.getD 3 0) (prC c) ≠ -1) ∧
      f26_L3 guardT 0 (.p (eWs ws)) (.p (eWt w)) x8 (.p (pI (i : Nat))) (.p (pI ((c / 3 : Nat)))) (.p (pI ((c % 3 : Nat)))) σ = f26_J0 guardT 0 (.p (eWs ws)) (.p (eWt w)) x8' (.p (pI (i : Nat))) (.p (pI ((c / 3 : Nat)))) (.p (pI ((c % 3 : Nat)))) σ' ∧
      Grow σ' 0 2 q'.length (wsP (decide ((L ws).length = 0)) (L ws).length q') x8') := by
  have hk3 := hw.k
  rw [List.length_map] at hk3
  have hql := hI.le hw
  have hm := List.mem_of_getElem? hxi
  have hx := hI.ok x hm
  have hpl := hI.pl x hm
  have hi := (List.getElem?_eq_some_iff.1 hxi).1
  have c3 : c / 3 < 3 := by omega
  have m3 : c % 3 < 3 := by omega
  have m3' : ((c % 3 : Nat) : Int) < 3 := by omega
  have hst := wsP_at (decide ((L ws).length = 0)) (L ws).length hxi
  have hs0 : (eInts (stN (L ws).length x.n))[0]? = some (pI (x.n.getD 3 0)) := rfl
  obtain ⟨d1, d2, d3, d4, d5, d6⟩ := rdW hw.w hx.oth
  have hcell : cell3 (wl w) (x.n.getD 3 0).toNat (c / 3) (c % 3) = nextW (wl w) (x.n.getD 3 0) (prC c) := rfl
  have hG0 : Grow σ σ.length 1 (0 + 1) (eInts (nxS ((L ws).map wl) (wl w) x.n (prC c) 0)) (.p (.sl true 1 [pI (nextW (wl w) (x.n.getD 3 0) (prC c))])) := ⟨rfl, .inr (.inl rfl)⟩
  obtain ⟨x12, σ1, e1, g1, g2, g3, hp12⟩ := L26_4 hw hx hxi hc (by omega) _ 0 σ _ σ.length (Nat.sub_zero _) (Nat.zero_le _) (Nat.le_refl _) h8 (grow_row h8) hG0 (.inl ⟨rfl, rfl⟩)
  have hnl : ¬ (((L ws).length : Nat) : Int) < ((L ws).length : Nat) := by omega
  have head : ∀ R, f26_L4 guardT 0 (.p (eWs ws)) (.p (eWt w)) x8 (.p (pI (i : Nat))) (.p (pI ((c / 3 : Nat)))) (.p (pI ((c % 3 : Nat)))) x12 (.p (.bool (keepK ((L ws).map wl) x.n (prC c) (L ws).length))) (.p (pI ((L ws).length : Nat))) σ1 = R →
      f26_L3 guardT 0 (.p (eWs ws)) (.p (eWt w)) x8 (.p (pI (i : Nat))) (.p (pI ((c / 3 : Nat)))) (.p (pI ((c % 3 : Nat)))) σ = R := by
    intro R hR
    rw [f26_L3_eq guardT rfl]
    simp only [b_lss, b_eql, b_neq, b_leq, b_geq, b_gtr, m3', guard_tt, guard_ff, guard_tf, guard_ft, guard_sk, obind, omap, pickV_true, pickV_false, condK_true, condK_false, decide_true, decide_false, Bool.not_true, Bool.not_false, not_bool, idx135 h8 hi, fa134_1, shift_ptr, shift_pptr, Nat.zero_add, Nat.add_zero, pureFn_fn, List.append_nil, List.singleton_append, List.cons_append, List.nil_append, load22, load1_pptr hst.2]
    rw [show (DV.p (PV.int IntKind.i64 0)) = (.p (pI ((0 : Nat) : Int))) from rfl, idx22x (show 0 < (L ws).length + 1 by omega)]
    simp only [guard_tt, guard_ff, guard_tf, guard_ft, guard_sk, obind, omap, pickV_true, pickV_false, condK_true, condK_false, decide_true, decide_false, Bool.not_true, Bool.not_false, not_bool, load3, load1_pptr hs0, d1, load48, d2, d3 _ c3, d4 _ c3, d5 _ _ c3 m3, d6 _ _ c3 m3, hcell, bs22_1, load22]
    exact e1.trans hR
  cases hkk : keepK ((L ws).map wl) x.n (prC c) (L ws).length with
  | false =>
    refine .inr ⟨q, x8, σ1, by simp, fun h => absurd h (by simp), head _ ?_, g2⟩
    rw [f26_L4_eq guardT rfl, hkk]
    simp only [len56, b_lss, b_eql, b_neq, b_leq, b_geq, b_gtr, hnl, guard_tt, guard_ff, guard_tf, guard_ft, guard_sk, obind, omap, pickV_true, pickV_false, condK_true, condK_false, decide_true, decide_false, Bool.not_true, Bool.not_false, not_bool]
  | true =>
    -- the pairs
    have hpl2 : (L (prO x.p)).length ≤ 2000 := by rw [prO_L]; simp [pathP]; omega
    have h35 : ∃ y σ2, plainFn CC 0 (.fn 35 []) [.p (ePs (prO x.p))] σ1 = some (y, σ2) ∧ Grow σ2 σ1.length 2 x.p.length (ePrs (pathP x.p)) y ∧ Ext σ1 σ2 := by
      show ∃ y σ2, CC 0 35 ([.p (ePs (prO x.p))] ++ []) σ1 = some (y, σ2) ∧ _
      rw [List.append_nil]
      have hpp : (pathP x.p).length = x.p.length := by simp [pathP]
      by_cases h : x.p = []
      · refine ⟨.p (.sl true 0 []), σ1, F35_call ?_, ⟨by simp [h, pathP, ePrs], .inr (.inl (by simp [h, pathP, ePrs]))⟩, Ext.refl _⟩
        rw [F35_eq]
        have ha : append PP 0 false 31 31 (.p (.sl true 0 [])) (.p (ePs (prO x.p))) σ1 = some (.p (.sl true 0 []), σ1) := by
          simp [h, prO, ePs, append, src31, u31, s98, bytes98, zero98, source, appLit]
        simp only [bs31_0, guard_tt, guard_ff, guard_tf, guard_ft, guard_sk, obind, omap, pickV_true, pickV_false, condK_true, condK_false, decide_true, decide_false, Bool.not_true, Bool.not_false, not_bool, ha]
      · have hne : x.p.length ≠ 0 := fun e => h (List.length_eq_zero_iff.1 e)
        refine ⟨.osl σ1.length 0 2 x.p.length (ePrs (pathP x.p)), σ1 ++ [.tok 0], F35_call ?_, ⟨by rw [prs_length, hpp], .inr (.inr ⟨_, _, rfl, get_snoc, Nat.le_refl _⟩)⟩, Ext.snoc _ _⟩
        rw [F35_eq]
        have ha : append PP 0 false 31 31 (.p (.sl true 0 [])) (.p (ePs (prO x.p))) σ1 = some (.osl σ1.length 0 2 x.p.length (ePrs (pathP x.p)), σ1 ++ [.tok 0]) := by
          have a1 : x.p.length * 16 ≤ 140737488355328 := by omega
          have a2 : x.p.length ≤ 140737488355328 := by omega
          have a3 : (ePrs (pathP x.p)).length = x.p.length * 2 := by rw [prs_length, hpp]
          rw [prO_ne h]
          simp only [append, src31, u31, s98, bytes98, zero98, source, a3, if_true, appLit]
          simp [h, hne, a1, a2, pures_map]
        simp only [bs31_0, guard_tt, guard_ff, guard_tf, guard_ft, guard_sk, obind, omap, pickV_true, pickV_false, condK_true, condK_false, decide_true, decide_false, Bool.not_true, Bool.not_false, not_bool, ha]
    obtain ⟨y, σ2, p1, p2, p3⟩ := h35
    obtain ⟨a, v, σ3, b1, b2, b3, b4, b5, b6, b7⟩ := p2.push (t := 31) (lo := 0) (m := 1) (vs := ePrs [prC c]) src31 u31 s98 bytes98 zero98 rfl (by decide) (by decide) (by decide) rfl (by decide) (by decide) (by omega) (Nat.zero_le _) (RnW.ext_len p3)
    rw [← prs_append, ← pathP_snoc] at b1 b2
    have hpn : (x.p ++ [(c : Int)]).length = x.p.length + 1 := by simp
    rw [← hpn] at b1 b2
    have hbld : build PP 98 [(0, .p (pI ((c / 3 : Nat)))), (1, .p (pI ((c % 3 : Nat))))] = some (.agg (prD (prC c))) := bld98 _ _
    have e0 : (eInts (nxS ((L ws).map wl) (wl w) x.n (prC c) (L ws).length))[0]? = some (pI (nextW (wl w) (x.n.getD 3 0) (prC c))) := rfl
    have hE : ∀ (j : Nat) (row : Row), j < σ1.length → σ1[j]? = some row → σ3[j]? = some row := fun j row hj h => b5 j row hj (p3 j row h)
    have g1' : Grow σ3 σ.length 1 ((L ws).length + 1) (eInts (nxS ((L ws).map wl) (wl w) x.n (prC c) (L ws).length)) x12 := g1.below hE
    have g2' : Grow σ3 0 2 q.length (wsP (decide ((L ws).length = 0)) (L ws).length q) x8 := g2.below hE
    have i0 := idx22g g1' (show 0 < (L ws).length + 1 by omega)
    by_cases hbk : nextW (wl w) (x.n.getD 3 0) (prC c) = -1
    · refine .inl ⟨x.p ++ [(c : Int)], ⟨rfl, hbk⟩, rfl, a, v, σ3, head _ ?_⟩
      rw [f26_L4_eq guardT rfl, hkk]
      simp only [len56, b_lss, b_eql, b_neq, b_leq, b_geq, b_gtr, hnl, guard_tt, guard_ff, guard_tf, guard_ft, guard_sk, obind, omap, pickV_true, pickV_false, condK_true, condK_false, decide_true, decide_false, Bool.not_true, Bool.not_false, not_bool, idx135 g2 hi, fa134_0, shift_ptr, shift_pptr, Nat.zero_add, Nat.add_zero, pureFn_fn, List.append_nil, List.singleton_append, List.cons_append, List.nil_append, load31, load1_pptr hst.1, p1, hbld, bs31_1, b1]
      rw [show (DV.p (PV.int IntKind.i64 0)) = (.p (pI ((0 : Nat) : Int))) from rfl, i0]
      rw [hbk] at e0
      simp only [guard_tt, guard_ff, guard_tf, guard_ft, guard_sk, obind, omap, pickV_true, pickV_false, condK_true, condK_false, decide_true, decide_false, Bool.not_true, Bool.not_false, not_bool, load3, load1_pptr e0, b_lss, b_eql, b_neq, b_leq, b_geq, b_gtr]
    · have hrest : ∀ x8' σ', ((pureFn CC (.fn 77 []) [x8, x12] σ3).bind fun x117 => (unOp .not x117).bind fun x118 => condK x118 ((build PP 134 [(0, .osl a v 2 (x.p ++ [(c : Int)]).length (ePrs (pathP (x.p ++ [(c : Int)])))), (1, x12)]).bind fun x122 => (buildSlice PP none 135 1 [(0, x122)] σ3).bind fun r123 => (append PP 0 false 135 135 x8 r123.1 r123.2).bind fun r124 => f26_J0 guardT 0 (.p (eWs ws)) (.p (eWt w)) r124.1 (.p (pI (i : Nat))) (.p (pI ((c / 3 : Nat)))) (.p (pI ((c % 3 : Nat)))) r124.2) (f26_J0 guardT 0 (.p (eWs ws)) (.p (eWt w)) x8 (.p (pI (i : Nat))) (.p (pI ((c / 3 : Nat)))) (.p (pI ((c % 3 : Nat)))) σ3)) =
          f26_J0 guardT 0 (.p (eWs ws)) (.p (eWt w)) x8' (.p (pI (i : Nat))) (.p (pI ((c / 3 : Nat)))) (.p (pI ((c % 3 : Nat)))) σ' →
          f26_L3 guardT 0 (.p (eWs ws)) (.p (eWt w)) x8 (.p (pI (i : Nat))) (.p (pI ((c / 3 : Nat)))) (.p (pI ((c % 3 : Nat)))) σ = f26_J0 guardT 0 (.p (eWs ws)) (.p (eWt w)) x8' (.p (pI (i : Nat))) (.p (pI ((c / 3 : Nat)))) (.p (pI ((c % 3 : Nat)))) σ' := by
        intro x8' σ' h
        refine head _ ?_
        rw [f26_L4_eq guardT rfl, hkk]
        simp only [len56, b_lss, b_eql, b_neq, b_leq, b_geq, b_gtr, hnl, guard_tt, guard_ff, guard_tf, guard_ft, guard_sk, obind, omap, pickV_true, pickV_false, condK_true, condK_false, decide_true, decide_false, Bool.not_true, Bool.not_false, not_bool, idx135 g2 hi, fa134_0, fa134_1, shift_ptr, shift_pptr, Nat.zero_add, Nat.add_zero, pureFn_fn, List.append_nil, List.singleton_append, List.cons_append, List.nil_append, load31, load1_pptr hst.1, p1, hbld, bs31_1, b1]
        rw [show (DV.p (PV.int IntKind.i64 0)) = (.p (pI ((0 : Nat) : Int))) from rfl, i0]
        simp only [guard_tt, guard_ff, guard_tf, guard_ft, guard_sk, obind, omap, pickV_true, pickV_false, condK_true, condK_false, decide_true, decide_false, Bool.not_true, Bool.not_false, not_bool, load3, load1_pptr e0, b_lss, b_eql, b_neq, b_leq, b_geq, b_gtr, hbk]
        exact h
      have hto := toW_ok hw hx hc (by rw [List.length_map]; exact hkk) hbk
      have hns := nxS_st (ls := (L ws).map wl) (w := wl w) (pr := prC c) hx.len (by rw [List.length_map]; exact hk3)
      rw [List.length_map] at hns
      have hv8 := g2'.vw (by omega)
      rw [loosens_wsP] at hv8
      have hv12 := g1'.vw (by omega)
      rw [loosens_ints] at hv12
      have hns2 : PV.sl false ((L ws).length + 1) (eInts (nxS ((L ws).map wl) (wl w) x.n (prC c) (L ws).length)) = eSl (some (stN (L ws).length (toW ((L ws).map wl) (wl w) x.n (prC c)))) := by
        rw [hns]
        simp [eSl, nxS_len]
      rw [hns2] at hv12
      have h77 : pureFn CC (.fn 77 []) [x8, x12] σ3 = some (.p (.bool (hasN q (toW ((L ws).map wl) (wl w) x.n (prC c))))) := by
        show pureV CC 77 ([x8, x12] ++ []) σ3 = _
        rw [List.append_nil, pureV_view (args' := [.p (.sl false q.length (wsP false (L ws).length q)), .p (eSl (some (stN (L ws).length (toW ((L ws).map wl) (wl w) x.n (prC c)))))]) (by simp only [List.map_cons, List.map_nil, hv8, hv12]) (by
          have := loosens_wsP false (L ws).length q
          simp [view, viewCell, loosen, this, loosen_sl])]
        rw [S77 hk3 (fun y hy => by
          have := stN_len (hI.ok y hy) (by rw [List.length_map]; exact hk3)
          rwa [List.length_map] at this) (by omega)]
        have := met_has (by rw [List.length_map]; exact hk3) hto hI.ok
        rw [List.length_map] at this
        rw [this]
      simp only [if_true]
      unfold addN
      cases hh : hasN q (toW ((L ws).map wl) (wl w) x.n (prC c)) with
      | true =>
        refine .inr ⟨q, x8, σ3, by simp, fun _ => hbk, hrest _ _ ?_, g2'⟩
        simp only [h77, hh, guard_tt, guard_ff, guard_tf, guard_ft, guard_sk, obind, omap, pickV_true, pickV_false, condK_true, condK_false, decide_true, decide_false, Bool.not_true, Bool.not_false, not_bool]
      | false =>
        obtain ⟨z, z1, z2⟩ := bld134 (x := .osl a v 2 (x.p ++ [(c : Int)]).length (ePrs (pathP (x.p ++ [(c : Int)])))) (y := x12) (a := ePs (prO (x.p ++ [(c : Int)]))) (b := .sl (decide ((L ws).length = 0)) ((L ws).length + 1) (eInts (stN (L ws).length (toW ((L ws).map wl) (wl w) x.n (prC c))))) (.inr ⟨_, _, _, _, rfl, prO_ne (by simp)⟩) (by
          rw [hns]
          rcases hp12 with ⟨h2, h1⟩ | ⟨h2, r, ver, h1⟩
          · left; rw [h1]; simp [h2]
          · right; exact ⟨r, ver, _, _, h1, by simp [h2]⟩) σ3
        obtain ⟨a', v', σ4, t1, t2, _⟩ := g2'.push (t := 135) (lo := 0) (m := 1) (vs := wdP (decide ((L ws).length = 0)) (L ws).length ⟨toW ((L ws).map wl) (wl w) x.n (prC c), x.p ++ [(c : Int)]⟩) src135 u135 s134 bytes134 zero134 rfl (by decide) (by decide) (by decide) rfl (by decide) (by decide) (by omega) (Nat.zero_le _) (Nat.zero_le _)
        have hq' : wsP (decide ((L ws).length = 0)) (L ws).length q ++ wdP (decide ((L ws).length = 0)) (L ws).length ⟨toW ((L ws).map wl) (wl w) x.n (prC c), x.p ++ [(c : Int)]⟩ = wsP (decide ((L ws).length = 0)) (L ws).length (q ++ [⟨toW ((L ws).map wl) (wl w) x.n (prC c), x.p ++ [(c : Int)]⟩]) := by
          rw [wsP_app]; simp [wsP]
        rw [hq'] at t1 t2
        refine .inr ⟨q ++ [⟨toW ((L ws).map wl) (wl w) x.n (prC c), x.p ++ [(c : Int)]⟩], .osl a' v' 2 (q.length + 1) (wsP (decide ((L ws).length = 0)) (L ws).length (q ++ [⟨toW ((L ws).map wl) (wl w) x.n (prC c), x.p ++ [(c : Int)]⟩])), σ4, by simp, fun _ => hbk, hrest _ _ ?_, ?_⟩
        · simp only [h77, hh, guard_tt, guard_ff, guard_tf, guard_ft, guard_sk, obind, omap, pickV_true, pickV_false, condK_true, condK_false, decide_true, decide_false, Bool.not_true, Bool.not_false, not_bool, z1, z2]
          simp only [wdP] at t1
          rw [t1]
          simp only [guard_tt, guard_ff, guard_tf, guard_ft, guard_sk, obind, omap, pickV_true, pickV_false, condK_true, condK_false, decide_true, decide_false, Bool.not_true, Bool.not_false, not_bool]
        · rw [List.length_append]; exact t2
/-- The reference's loops over all pairs, from one on. -/
theorem L26_v {x : QE} {i : Nat} : ∀ (k c : Nat) (q : List QE) (x8 : DV) (σ : Store), 9 - c = k → c < 9 → IW ((L ws).map wl) (wl w) q → q[i]? = some x → Grow σ 0 2 q.length (wsP (decide ((L ws).length = 0)) (L ws).length q) x8 →
    (∃ p r ver σ', visWF ((L ws).map wl) (wl w) x k c q = .inl p ∧ f26_L3 guardT 0 (.p (eWs ws)) (.p (eWt w)) x8 (.p (pI (i : Nat))) (.p (pI ((c / 3 : Nat)))) (.p (pI ((c % 3 : Nat)))) σ = some (.tuple [.osl r ver 2 p.length (ePrs (pathP p)), .p (.bool true)], σ')) ∨
    (∃ q' x8' σ', visWF ((L ws).map wl) (wl w) x k c q = .inr q' ∧ f26_L3 guardT 0 (.p (eWs ws)) (.p (eWt w)) x8 (.p (pI (i : Nat))) (.p (pI ((c / 3 : Nat)))) (.p (pI ((c % 3 : Nat)))) σ = f26_L1 guardT 0 (.p (eWs ws)) (.p (eWt w)) x8' (.p (pI (i + 1 : Nat))) σ' ∧
      Grow σ' 0 2 q'.length (wsP (decide ((L ws).length = 0)) (L ws).length q') x8')
  | 0, c, q, x8, σ, hk, hc, hI, hx, h8 => by omega
  | k + 1, c, q, x8, σ, hk, hc, hI, hxi, h8 => by
    have hlen3 : ((L ws).map wl).length = (L ws).length := List.length_map _
    have hm := List.mem_of_getElem? hxi
    have hx := hI.ok x hm
    have hql := hI.le hw
    have hi := (List.getElem?_eq_some_iff.1 hxi).1
    -- what follows a pair
    have hJ : ∀ (x8' : DV) (σ' : Store), f26_J0 guardT 0 (.p (eWs ws)) (.p (eWt w)) x8' (.p (pI (i : Nat))) (.p (pI ((c / 3 : Nat)))) (.p (pI ((c % 3 : Nat)))) σ' =
        if c + 1 < 9 then f26_L3 guardT 0 (.p (eWs ws)) (.p (eWt w)) x8' (.p (pI (i : Nat))) (.p (pI (((c + 1) / 3 : Nat)))) (.p (pI (((c + 1) % 3 : Nat)))) σ' else f26_L1 guardT 0 (.p (eWs ws)) (.p (eWt w)) x8' (.p (pI (i + 1 : Nat))) σ' := by
      intro x8' σ'
      rw [f26_J0_eq]
      simp only [b_add, wrap_succ (show c % 3 ≤ 1000000 by omega), guard_tt, guard_ff, guard_tf, guard_ft, guard_sk, obind, omap, pickV_true, pickV_false, condK_true, condK_false, decide_true, decide_false, Bool.not_true, Bool.not_false, not_bool]
      by_cases h3 : c % 3 + 1 < 3
      · rw [if_pos (by omega), show c % 3 + 1 = (c + 1) % 3 by omega, show c / 3 = (c + 1) / 3 by omega]
      · rw [f26_L3_eq guardT rfl]
        have hn : ¬ ((c % 3 + 1 : Nat) : Int) < 3 := by omega
        simp only [b_lss, b_eql, b_neq, b_leq, b_geq, b_gtr, hn, guard_tt, guard_ff, guard_tf, guard_ft, guard_sk, obind, omap, pickV_true, pickV_false, condK_true, condK_false, decide_true, decide_false, Bool.not_true, Bool.not_false, not_bool, b_add, wrap_succ (show c / 3 ≤ 1000000 by omega)]
        rw [f26_L2_eq guardT rfl]
        by_cases h9 : c + 1 < 9
        · have hy : ((c / 3 + 1 : Nat) : Int) < 3 := by omega
          rw [if_pos h9, show (c + 1) / 3 = c / 3 + 1 by omega, show (c + 1) % 3 = 0 by omega]
          simp only [b_lss, b_eql, b_neq, b_leq, b_geq, b_gtr, hy, guard_tt, guard_ff, guard_tf, guard_ft, guard_sk, obind, omap, pickV_true, pickV_false, condK_true, condK_false, decide_true, decide_false, Bool.not_true, Bool.not_false, not_bool]
          rfl
        · have hy : ¬ ((c / 3 + 1 : Nat) : Int) < 3 := by omega
          rw [if_neg h9]
          simp only [b_lss, b_eql, b_neq, b_leq, b_geq, b_gtr, hy, guard_tt, guard_ff, guard_tf, guard_ft, guard_sk, obind, omap, pickV_true, pickV_false, condK_true, condK_false, decide_true, decide_false, Bool.not_true, Bool.not_false, not_bool, b_add, wrap_succ (show i ≤ 1000000 by omega)]
    rcases L26_c hw hI hxi hc h8 with ⟨p, ⟨h1, h2⟩, rfl, r, ver, σ', e⟩ | ⟨q', x8', σ', hq', h2, e, g⟩
    · refine .inl ⟨_, r, ver, σ', ?_, e⟩
      unfold visWF
      rw [hlen3, if_pos h1, if_pos h2]
    · have hI' : IW ((L ws).map wl) (wl w) q' ∧ q <+: q' := by
        rw [hq']
        split
        · rename_i hk2
          refine ⟨hI.add (toW_ok hw hx hc (by rw [hlen3]; exact hk2) (h2 hk2)) (by have := hI.pl x hm; simp; omega) fun v hv => ?_, addN_pre _ _ _⟩
          rcases List.mem_append.1 hv with h | h
          · exact hI.pr x hm v h
          · rw [List.mem_singleton.1 h]; omega
        · exact ⟨hI, List.prefix_refl _⟩
      have hxi' : q'[i]? = some x := by
        obtain ⟨t, rfl⟩ := hI'.2
        rw [List.getElem?_append_left hi, hxi]
      have hvis : visWF ((L ws).map wl) (wl w) x (k + 1) c q = visWF ((L ws).map wl) (wl w) x k (c + 1) q' := by
        conv => lhs; unfold visWF
        rw [hlen3]
        by_cases hk2 : keepK ((L ws).map wl) x.n (prC c) (L ws).length = true
        · rw [if_pos hk2, if_neg (h2 hk2)]
          rw [if_pos hk2] at hq'
          rw [hq']
        · rw [if_neg hk2]
          rw [if_neg hk2] at hq'
          rw [hq']
      rw [hvis, e, hJ]
      by_cases h9 : c + 1 < 9
      · rw [if_pos h9]
        exact L26_v k (c + 1) q' x8' σ' (by omega) h9 hI'.1 hxi' g
      · rw [if_neg h9]
        have : k = 0 := by omega
        subst this
        exact .inr ⟨q', x8', σ', rfl, rfl, g⟩
theorem L26_1 : ∀ (k i : Nat) (q : List QE) (x8 : DV) (σ : Store), 1296 - i = k → i ≤ q.length → IW ((L ws).map wl) (wl w) q → Grow σ 0 2 q.length (wsP (decide ((L ws).length = 0)) (L ws).length q) x8 →
    ∃ r σ', f26_L1 guardT 0 (.p (eWs ws)) (.p (eWt w)) x8 (.p (pI (i : Nat))) σ = some (r, σ') ∧ (match bfsQ (visW ((L ws).map wl) (wl w)) (k + 1) i q with | none => r = .tuple [.p .nilsl, .p (.bool false)] | some p => ∃ a v, r = .tuple [.osl a v 2 p.length (ePrs (pathP p)), .p (.bool true)])
  | k, i, q, x8, σ, hk, hi, hI, h8 => by
    have hql := hI.le hw
    by_cases h : i < q.length
    · have hxi := List.getElem?_eq_getElem h
      have h' : (i : Int) < (q.length : Nat) := by omega
      have hstart : f26_L1 guardT 0 (.p (eWs ws)) (.p (eWt w)) x8 (.p (pI (i : Nat))) σ = f26_L3 guardT 0 (.p (eWs ws)) (.p (eWt w)) x8 (.p (pI (i : Nat))) (.p (pI ((0 / 3 : Nat)))) (.p (pI ((0 % 3 : Nat)))) σ := by
        rw [f26_L1_eq guardT rfl]
        simp only [len135 h8, b_lss, b_eql, b_neq, b_leq, b_geq, b_gtr, h', guard_tt, guard_ff, guard_tf, guard_ft, guard_sk, obind, omap, pickV_true, pickV_false, condK_true, condK_false, decide_true, decide_false, Bool.not_true, Bool.not_false, not_bool]
        rw [f26_L2_eq guardT rfl]
        simp only [b_lss, b_eql, b_neq, b_leq, b_geq, b_gtr, show ((0 : Int)) < 3 by decide, guard_tt, guard_ff, guard_tf, guard_ft, guard_sk, obind, omap, pickV_true, pickV_false, condK_true, condK_false, decide_true, decide_false, Bool.not_true, Bool.not_false, not_bool]
        rfl
      have hb : bfsQ (visW ((L ws).map wl) (wl w)) (k + 1) i q = (match visWF ((L ws).map wl) (wl w) q[i] 9 0 q with | .inl p => some p | .inr q' => bfsQ (visW ((L ws).map wl) (wl w)) k (i + 1) q') := by
        conv => lhs; unfold bfsQ
        rw [hxi]
        rfl
      rw [hstart, hb]
      rcases L26_v hw 9 0 q x8 σ rfl (by decide) hI hxi h8 with ⟨p, r, ver, σ', hv, e⟩ | ⟨q', x8', σ', hv, e, g⟩
      · rw [hv]
        exact ⟨_, σ', e, r, ver, rfl⟩
      · rw [hv, e]
        have hI' : IW ((L ws).map wl) (wl w) q' ∧ q <+: q' := by
          have hm := List.getElem_mem h
          rcases visWF_ok hw (hI.ok _ hm) (hI.pr _ hm) 9 0 q rfl (by decide) hI (hI.pl _ hm) with ⟨p, h1, _⟩ | ⟨q2, h1, h2, h3⟩
          · rw [hv] at h1; exact absurd h1 (by simp)
          · rw [hv] at h1
            have : q' = q2 := by injection h1
            rw [this]; exact ⟨h2, h3⟩
        have := hI'.2.length_le
        obtain ⟨k', rfl⟩ : ∃ k', k = k' + 1 := ⟨k - 1, by omega⟩
        exact L26_1 k' (i + 1) q' x8' σ' (by omega) (by omega) hI'.1 g
    · have hn : ¬ (i : Int) < (q.length : Nat) := by omega
      refine ⟨.tuple [.p .nilsl, .p (.bool false)], σ, ?_, ?_⟩
      · rw [f26_L1_eq guardT rfl]
        simp only [len135 h8, b_lss, b_eql, b_neq, b_leq, b_geq, b_gtr, hn, guard_tt, guard_ff, guard_tf, guard_ft, guard_sk, obind, omap, pickV_true, pickV_false, condK_true, condK_false, decide_true, decide_false, Bool.not_true, Bool.not_false, not_bool]
      · rw [RnW.bfsQ_none (List.getElem?_eq_none (by omega))]
theorem L26_0 : ∀ (k i : Nat) (x6 : DV) (σ : Store), (L ws).length - i = k → i ≤ (L ws).length → Grow σ 0 1 (i + 1) (eInts (List.replicate (i + 1) 0)) x6 → ((i = 0 ∧ x6 = .p (.sl true (i + 1) (eInts (List.replicate (i + 1) 0)))) ∨ (i ≠ 0 ∧ ∃ r ver, x6 = .osl r ver 1 (i + 1) (eInts (List.replicate (i + 1) 0)))) →
    ∃ x6' σ', f26_L0 guardT 0 (.p (eWs ws)) (.p (eWt w)) x6 (.p (pI (i : Nat))) σ = f26_L0 guardT 0 (.p (eWs ws)) (.p (eWt w)) x6' (.p (pI ((L ws).length : Nat))) σ' ∧ (((L ws).length = 0 ∧ x6' = .p (.sl true ((L ws).length + 1) (eInts (List.replicate ((L ws).length + 1) 0)))) ∨ ((L ws).length ≠ 0 ∧ ∃ r ver, x6' = .osl r ver 1 ((L ws).length + 1) (eInts (List.replicate ((L ws).length + 1) 0))))
  | 0, i, x6, σ, hk, hi, hg, hs => by
    have : i = (L ws).length := by omega
    subst this
    exact ⟨x6, σ, rfl, hs⟩
  | k + 1, i, x6, σ, hk, hi, hg, hs => by
    have hk3 := hw.k
    rw [List.length_map] at hk3
    have h' : (i : Int) < ((L ws).length : Nat) := by omega
    obtain ⟨a, v, σ', e1, g1, _⟩ := hg.push (t := 22) (lo := 0) (m := 1) (vs := [pI 0]) src22 u22 s3 bytes3 zero3 rfl (by decide) (by decide) (by decide) rfl (by decide) (by decide) (by omega) (Nat.zero_le _) (Nat.zero_le _)
    have e : eInts (List.replicate (i + 1) 0) ++ [pI 0] = eInts (List.replicate (i + 1 + 1) 0) := by rw [List.replicate_succ' (n := i + 1)]; simp [eInts]
    rw [e] at e1 g1
    obtain ⟨x6', σ'', f1, f2⟩ := L26_0 k (i + 1) _ σ' (by omega) (by omega) g1 (.inr ⟨by omega, a, v, rfl⟩)
    refine ⟨x6', σ'', Eq.trans ?_ f1, f2⟩
    rw [f26_L0_eq guardT rfl]
    simp only [len56, b_lss, b_eql, b_neq, b_leq, b_geq, b_gtr, h', guard_tt, guard_ff, guard_tf, guard_ft, guard_sk, obind, omap, pickV_true, pickV_false, condK_true, condK_false, decide_true, decide_false, Bool.not_true, Bool.not_false, not_bool, bs22_1, e1, b_add, wrap_succ (show i ≤ 1000000 by omega)]
theorem S26 {σ : Store} : pureV CC 26 [.p (eWs ws), .p (eWt w)] σ =
    some (match unRes ((L ws).map wl) (wl w) with | none => .tuple [.p .nilsl, .p (.bool false)] | some p => .tuple [.p (ePs (some (pathP p))), .p (.bool true)]) := by
  have hk3 := hw.k
  rw [List.length_map] at hk3
  obtain ⟨x6, σ1, e1, hs⟩ := L26_0 hw _ 0 (.p (.sl true 1 [pI 0])) [] (Nat.sub_zero _) (Nat.zero_le _) ⟨rfl, .inr (.inl rfl)⟩ (.inl ⟨rfl, rfl⟩)
  have hst0 : stN (L ws).length [0, 0, 0, 0] = List.replicate ((L ws).length + 1) 0 := by
    match (L ws).length, hk3 with
    | 0, _ => rfl
    | 1, _ => rfl
    | 2, _ => rfl
    | 3, _ => rfl
  obtain ⟨z, z1, z2⟩ := bld134 (x := .p .nilsl) (y := x6) (a := .nilsl) (b := .sl (decide ((L ws).length = 0)) ((L ws).length + 1) (eInts (stN (L ws).length [0, 0, 0, 0]))) (.inl rfl) (by
    rw [hst0]
    rcases hs with ⟨h1, h2⟩ | ⟨h1, r, ver, h2⟩
    · left; rw [h2]; simp [h1]
    · right; exact ⟨r, ver, _, _, h2, by simp [h1]⟩) σ1
  have hg : Grow σ1 0 2 1 (wsP (decide ((L ws).length = 0)) (L ws).length [⟨[0, 0, 0, 0], []⟩]) (.p (.sl true 1 [.nilsl, .sl (decide ((L ws).length = 0)) ((L ws).length + 1) (eInts (stN (L ws).length [0, 0, 0, 0]))])) := ⟨rfl, .inr (.inl rfl)⟩
  obtain ⟨r, σ2, e2, hr⟩ := L26_1 hw 1296 0 [⟨[0, 0, 0, 0], []⟩] _ σ1 rfl (Nat.zero_le _) (iw0 hw) hg
  have hn : ¬ (((L ws).length : Nat) : Int) < ((L ws).length : Nat) := by omega
  refine pureV_free (by simp [ws_view, wt_view]) rfl (F26_call (r := (r, σ2)) ?_) ?_
  · rw [F26_eq]
    simp only [bs22_1, guard_tt, guard_ff, guard_tf, guard_ft, guard_sk, obind, omap, pickV_true, pickV_false, condK_true, condK_false, decide_true, decide_false, Bool.not_true, Bool.not_false, not_bool]
    rw [show (DV.p (PV.int IntKind.i64 0)) = (.p (pI ((0 : Nat) : Int))) from rfl, e1, f26_L0_eq guardT rfl]
    simp only [len56, b_lss, b_eql, b_neq, b_leq, b_geq, b_gtr, hn, guard_tt, guard_ff, guard_tf, guard_ft, guard_sk, obind, omap, pickV_true, pickV_false, condK_true, condK_false, decide_true, decide_false, Bool.not_true, Bool.not_false, not_bool, z1, z2]
    exact e2
  · have hu : bfsQ (visW ((L ws).map wl) (wl w)) (1296 + 1) 0 [⟨[0, 0, 0, 0], []⟩] = unRes ((L ws).map wl) (wl w) := rfl
    rw [hu] at hr
    cases hb : unRes ((L ws).map wl) (wl w) with
    | none =>
      rw [hb] at hr
      rw [hr]; rfl
    | some p =>
      rw [hb] at hr
      obtain ⟨a, v, rfl⟩ := hr
      simp [thawAll, mapO, thawPart, thaw, thaw1, thawP, loosen, loosens_prs, ePs, pathP]
end
end Go.D
end
/- OpenUnimplied: the law answers true. -/
section
set_option linter.unusedVariables false
set_option linter.unusedSimpArgs false
namespace Go.D
theorem bytes27 : bytes? PP 27 = some 24 := Eq.trans (by kernel_rfl) rfl
theorem src56 : srcType PP 56 = true := Eq.trans (by kernel_rfl) rfl
theorem bs56_1 (v : PV) (σ : Store) : buildSlice PP none 56 1 [(0, .p v)] σ = some (.p (.sl true 1 [v]), σ) := Eq.trans (by kernel_rfl) rfl
theorem Out.push56 {σ : Store} {lo n : Nat} {cs : List PV} {v : PV} {x : DV} (ho : Out σ lo 1 n cs x) (hn : n ≤ 1000000) (hlo : lo ≤ σ.length) :
    ∃ x' σ', append PP lo false 56 56 x (.p (.sl true 1 [v])) σ = some (x', σ') ∧ Out σ' lo 1 (n + 1) (cs ++ [v]) x' ∧ Others σ σ' x ∧ σ.length ≤ σ'.length :=
  Out.push src56 u56 s27 bytes27 zero27 rfl (by decide) (by decide) (by decide) rfl ho hn hlo
def ownWs (o : Option (List OW)) : Option (List OW) := if L o = [] then none else some ((L o).map ownW)
theorem L_ownWs (o : Option (List OW)) : L (ownWs o) = (L o).map ownW := by
  unfold ownWs
  split
  · rename_i h; rw [h]; rfl
  · rfl
theorem wls_own (o : Option (List OW)) : (L (ownWs o)).map wl = (L o).map wl := by
  rw [L_ownWs, List.map_map]
  exact List.map_congr_left fun w _ => wl_own w
theorem L25 {o : Option (List OW)} (hw : ∀ w ∈ L o, WSm w) (hl : (L o).length ≤ 1000) :
    ∀ (k i : Nat) (x : DV) (σ : Store), (L o).length - i = k → i ≤ (L o).length → Out σ 0 1 i (((L o).take i).map fun w => eWt (ownW w)) x →
      ∃ x' σ', f25_L0 guardT 0 (.p (eWs o)) x (.p (pI (i : Nat))) σ = some (x', σ') ∧ Out σ' 0 1 (L o).length ((L o).map fun w => eWt (ownW w)) x'
  | 0, i, x, σ, hk, hi, ho => by
    have hn : ¬ (i : Int) < ((L o).length : Nat) := by omega
    have : i = (L o).length := by omega
    rw [this, List.take_length] at ho
    refine ⟨x, σ, ?_, ho⟩
    rw [f25_L0_eq guardT rfl]
    simp only [len56, b_lss, b_eql, b_neq, b_leq, b_geq, b_gtr, guard_tt, guard_ff, guard_tf, guard_ft, guard_sk, obind, omap, pickV_true, pickV_false, condK_true, condK_false, decide_true, decide_false, Bool.not_true, Bool.not_false, not_bool, hn]
  | k + 1, i, x, σ, hk, hi, ho => by
    have h : i < (L o).length := by omega
    have h' : (i : Int) < ((L o).length : Nat) := by omega
    have hwi : WSm ((L o).getD i none) := by rw [getD_at none h]; exact hw _ (List.getElem_mem h)
    obtain ⟨x', σ', h1, h2, h3, h4⟩ := ho.push56 (v := eWt (ownW ((L o).getD i none))) (by omega) (Nat.zero_le _)
    rw [f25_L0_eq guardT rfl]
    simp only [len56, b_lss, b_eql, b_neq, b_leq, b_geq, b_gtr, guard_tt, guard_ff, guard_tf, guard_ft, guard_sk, obind, omap, pickV_true, pickV_false, condK_true, condK_false, decide_true, decide_false, Bool.not_true, Bool.not_false, not_bool, h', idx56 h, load27', load1_ws h, shift_ptr, shift_pptr, Nat.zero_add, Nat.add_zero, pureFn_fn, List.append_nil, List.singleton_append, List.cons_append, List.nil_append, S15 hwi, bs56_1, h1, b_add, wrap_succ (show i ≤ 1000000 by omega)]
    refine L25 hw hl k (i + 1) x' σ' (by omega) (by omega) ?_
    have e2 : ((L o).take (i + 1)).map (fun w => eWt (ownW w)) = ((L o).take i).map (fun w => eWt (ownW w)) ++ [eWt (ownW ((L o).getD i none))] := by
      rw [List.take_succ_eq_append_getElem h, List.map_append, ← getD_at none h]; rfl
    rw [e2]
    exact h2
theorem S25 {o : Option (List OW)} {σ : Store} (hw : ∀ w ∈ L o, WSm w) (hl : (L o).length ≤ 1000) : pureV CC 25 [.p (eWs o)] σ = some (.p (eWs (ownWs o))) := by
  obtain ⟨x', σ', h1, h2⟩ := L25 hw hl _ 0 (.p .nilsl) [] rfl (Nat.zero_le _) (by simpa using Out.zero)
  refine pureV_free (by simp [ws_view]) rfl (F25_call (r := (x', σ')) ?_) ?_
  · rw [F25_eq]; exact h1
  · rw [h2.twAll]
    unfold ownWs
    by_cases e : L o = []
    · simp [e, eWs]
    · have e2 : ¬ (L o).length = 0 := fun h => e (List.length_eq_zero_iff.1 h)
      have e3 : (L o).map (fun r => eWt (ownW r)) = ((L o).map ownW).map eWt := by simp
      simp only [e, e2, if_false, eWs, e3, loosens_ws, List.length_map]
/-! ### Errors -/
theorem orL_cons (a : Int) (l : List Int) : orL (a :: l) = if a = 0 then orL l else a := rfl
theorem orL_app (a b : List Int) : orL (a ++ b) = if orL a = 0 then orL b else orL a := by
  induction a with
  | nil => rfl
  | cons x a ih =>
    rw [List.cons_append, orL_cons, orL_cons, ih]
    by_cases h : x = 0
    · simp only [h, if_true]
    · simp only [h, if_false]
theorem wsok_of {ls : List W3} {w : W3} (hk : ls.length ≤ 3) (h : orL (ls.map wchE ++ [wchE w]) = 0) : WsOk ls w := by
  rw [orL_app] at h
  split at h
  · rename_i h1
    have hz : ∀ l : List Int, orL l = 0 → ∀ v ∈ l, v = 0 := by
      intro l
      induction l with
      | nil => intro _ v hv; exact absurd hv (by simp)
      | cons a l ih =>
        intro hl v hv
        rw [orL_cons] at hl
        split at hl
        · rename_i ha
          rcases List.mem_cons.1 hv with rfl | hv
          · exact ha
          · exact ih hl v hv
        · rename_i ha; exact absurd hl ha
    refine ⟨hk, fun i hi => ?_, ?_⟩
    · rw [getD_at [] hi]
      exact wok_of (hz _ h1 _ (List.mem_map.2 ⟨_, List.getElem_mem hi, rfl⟩))
    · exact wok_of (by rw [orL_cons] at h; split at h; assumption; rename_i a; exact absurd h a)
  · rename_i h1; exact absurd h h1
theorem L24 {o : Option (List OW)} {w : OW} (hw : ∀ w ∈ L o, WSm w) (hl : (L o).length ≤ 1000) {σ : Store} : ∀ (k i : Nat), (L o).length - i = k → i ≤ (L o).length →
    f24_L0 guardT 0 (.p (eWs o)) (.p (eWt w)) (.p (eWs o)) (.p (pI ((L o).length : Nat))) (.p (pI (i : Nat))) σ =
      if orL (((L o).drop i).map fun w => wchE (wl w)) = 0 then f24_L0 guardT 0 (.p (eWs o)) (.p (eWt w)) (.p (eWs o)) (.p (pI ((L o).length : Nat))) (.p (pI ((L o).length : Nat))) σ else some (.tuple [.p .nilsl, .p (pI (orL (((L o).drop i).map fun w => wchE (wl w))))], σ)
  | 0, i, hk, hi => by
    have : i = (L o).length := by omega
    subst this
    rw [List.drop_length]
    rfl
  | k + 1, i, hk, hi => by
    have h : i < (L o).length := by omega
    have h' : (i : Int) < ((L o).length : Nat) := by omega
    have hwi : WSm ((L o).getD i none) := by rw [getD_at none h]; exact hw _ (List.getElem_mem h)
    have ih := L24 (w := w) (σ := σ) hw hl k (i + 1) (by omega) (by omega)
    rw [f24_L0_eq guardT rfl, drop_cons h, List.map_cons, orL_cons, ← getD_at none h]
    by_cases hz : wchE (wl ((L o).getD i none)) = 0
    · simp only [b_lss, b_eql, b_neq, b_leq, b_geq, b_gtr, h', guard_tt, guard_ff, guard_tf, guard_ft, guard_sk, obind, omap, pickV_true, pickV_false, condK_true, condK_false, decide_true, decide_false, Bool.not_true, Bool.not_false, not_bool, idx56 h, load27', load1_ws h, shift_ptr, shift_pptr, Nat.zero_add, Nat.add_zero, pureFn_fn, List.append_nil, List.singleton_append, List.cons_append, List.nil_append, S33 hwi, hz, if_true, b_add, wrap_succ (show i ≤ 1000000 by omega), ih]
    · simp only [b_lss, b_eql, b_neq, b_leq, b_geq, b_gtr, h', guard_tt, guard_ff, guard_tf, guard_ft, guard_sk, obind, omap, pickV_true, pickV_false, condK_true, condK_false, decide_true, decide_false, Bool.not_true, Bool.not_false, not_bool, idx56 h, load27', load1_ws h, shift_ptr, shift_pptr, Nat.zero_add, Nat.add_zero, pureFn_fn, List.append_nil, List.singleton_append, List.cons_append, List.nil_append, S33 hwi, hz, if_false]
theorem S24 {o : Option (List OW)} {w : OW} {σ : Store} (hw : ∀ w ∈ L o, WSm w) (hw2 : WSm w) (hl : (L o).length ≤ 1000) : pureV CC 24 [.p (eWs o), .p (eWt w)] σ =
    some (if (L o).length > 3 then .tuple [.p .nilsl, .p (pI 2)] else if orL (((L o).map wl).map wchE ++ [wchE (wl w)]) = 0 then (match unRes ((L o).map wl) (wl w) with | none => .tuple [.p .nilsl, .p (pI 25)] | some p => .tuple [.p (ePs (some (pathP p))), .p (pI 0)]) else .tuple [.p .nilsl, .p (pI (orL (((L o).map wl).map wchE ++ [wchE (wl w)])))]) := by
  have key : ∃ r, F24 guardT 0 (.p (eWs o)) (.p (eWt w)) [] = some (r, []) ∧ thawAll 0 ([] : Store) r = some (if (L o).length > 3 then .tuple [.p .nilsl, .p (pI 2)] else if orL (((L o).map wl).map wchE ++ [wchE (wl w)]) = 0 then (match unRes ((L o).map wl) (wl w) with | none => .tuple [.p .nilsl, .p (pI 25)] | some p => .tuple [.p (ePs (some (pathP p))), .p (pI 0)]) else .tuple [.p .nilsl, .p (pI (orL (((L o).map wl).map wchE ++ [wchE (wl w)])))]) := by
    rw [F24_eq]
    by_cases h3 : (L o).length > 3
    · have h3' : ((L o).length : Int) > 3 := by omega
      rw [if_pos h3]
      exact ⟨_, by simp only [len56, b_lss, b_eql, b_neq, b_leq, b_geq, b_gtr, h3', guard_tt, guard_ff, guard_tf, guard_ft, guard_sk, obind, omap, pickV_true, pickV_false, condK_true, condK_false, decide_true, decide_false, Bool.not_true, Bool.not_false, not_bool]; rfl, rfl⟩
    · have h3' : ¬ ((L o).length : Int) > 3 := by omega
      have hn : ¬ (((L o).length : Nat) : Int) < ((L o).length : Nat) := by omega
      rw [if_neg h3, orL_app, List.map_map]
      have hL := L24 (w := w) (σ := []) hw hl _ 0 rfl (Nat.zero_le _)
      rw [List.drop_zero] at hL
      have ec : (L o).map (wchE ∘ wl) = (L o).map fun w => wchE (wl w) := rfl
      rw [ec]
      by_cases hz : orL ((L o).map fun w => wchE (wl w)) = 0
      · rw [if_pos hz] at hL
        rw [if_pos hz]
        have o1 : orL [wchE (wl w)] = wchE (wl w) := by
          rw [orL_cons]
          by_cases e : wchE (wl w) = 0
          · rw [if_pos e, e]; rfl
          · rw [if_neg e]
        rw [o1]
        by_cases hz2 : wchE (wl w) = 0
        · rw [if_pos hz2]
          have hok : WsOk ((L o).map wl) (wl w) := wsok_of (by rw [List.length_map]; omega) (by rw [orL_app, List.map_map, ec, if_pos hz, o1, hz2])
          have h76 := S76 (σ := []) hok
          cases hu : unRes ((L o).map wl) (wl w) with
          | none =>
            rw [hu] at h76
            refine ⟨.tuple [.p .nilsl, .p (pI 25)], ?_, rfl⟩
            simp only [len56, b_lss, b_eql, b_neq, b_leq, b_geq, b_gtr, h3', guard_tt, guard_ff, guard_tf, guard_ft, guard_sk, obind, omap, pickV_true, pickV_false, condK_true, condK_false, decide_true, decide_false, Bool.not_true, Bool.not_false, not_bool]
            refine hL.trans ?_
            rw [f24_L0_eq guardT rfl]
            simp only [b_lss, b_eql, b_neq, b_leq, b_geq, b_gtr, hn, guard_tt, guard_ff, guard_tf, guard_ft, guard_sk, obind, omap, pickV_true, pickV_false, condK_true, condK_false, decide_true, decide_false, Bool.not_true, Bool.not_false, not_bool, shift_ptr, shift_pptr, Nat.zero_add, Nat.add_zero, pureFn_fn, List.append_nil, List.singleton_append, List.cons_append, List.nil_append, S33 hw2, hz2, h76, ex0, ex1, S54, Bool.false_eq_true, if_false]
          | some p =>
            rw [hu] at h76
            refine ⟨.tuple [.p (ePs (some (pathP p))), .p (pI 0)], ?_, by simp [thawAll, mapO, thawPart, thaw, thaw1, thawP, loosen, loosens_prs, ePs]⟩
            simp only [len56, b_lss, b_eql, b_neq, b_leq, b_geq, b_gtr, h3', guard_tt, guard_ff, guard_tf, guard_ft, guard_sk, obind, omap, pickV_true, pickV_false, condK_true, condK_false, decide_true, decide_false, Bool.not_true, Bool.not_false, not_bool]
            refine hL.trans ?_
            rw [f24_L0_eq guardT rfl]
            simp only [b_lss, b_eql, b_neq, b_leq, b_geq, b_gtr, hn, guard_tt, guard_ff, guard_tf, guard_ft, guard_sk, obind, omap, pickV_true, pickV_false, condK_true, condK_false, decide_true, decide_false, Bool.not_true, Bool.not_false, not_bool, shift_ptr, shift_pptr, Nat.zero_add, Nat.add_zero, pureFn_fn, List.append_nil, List.singleton_append, List.cons_append, List.nil_append, S33 hw2, hz2, h76, ex0, ex1, S54, if_true]
        · rw [if_neg hz2]
          refine ⟨.tuple [.p .nilsl, .p (pI (wchE (wl w)))], ?_, rfl⟩
          simp only [len56, b_lss, b_eql, b_neq, b_leq, b_geq, b_gtr, h3', guard_tt, guard_ff, guard_tf, guard_ft, guard_sk, obind, omap, pickV_true, pickV_false, condK_true, condK_false, decide_true, decide_false, Bool.not_true, Bool.not_false, not_bool]
          refine hL.trans ?_
          rw [f24_L0_eq guardT rfl]
          simp only [b_lss, b_eql, b_neq, b_leq, b_geq, b_gtr, hn, guard_tt, guard_ff, guard_tf, guard_ft, guard_sk, obind, omap, pickV_true, pickV_false, condK_true, condK_false, decide_true, decide_false, Bool.not_true, Bool.not_false, not_bool, shift_ptr, shift_pptr, Nat.zero_add, Nat.add_zero, pureFn_fn, List.append_nil, List.singleton_append, List.cons_append, List.nil_append, S33 hw2, hz2]
      · rw [if_neg hz] at hL
        rw [if_neg hz, if_neg hz]
        refine ⟨.tuple [.p .nilsl, .p (pI (orL ((L o).map fun w => wchE (wl w))))], ?_, rfl⟩
        simp only [len56, b_lss, b_eql, b_neq, b_leq, b_geq, b_gtr, h3', guard_tt, guard_ff, guard_tf, guard_ft, guard_sk, obind, omap, pickV_true, pickV_false, condK_true, condK_false, decide_true, decide_false, Bool.not_true, Bool.not_false, not_bool]
        exact hL
  obtain ⟨r, h1, h2⟩ := key
  exact pureV_free (by simp [ws_view, wt_view]) rfl (F24_call (r := (r, [])) h1) h2
/-! ### Equal pairs -/
theorem neq98 (a : Pr) : binOp PP .neq 98 (.agg (prD a)) (.agg (prD a)) = some (.p (.bool false)) := by
  have h : binOp PP .neq 98 (.agg (prD a)) (.agg (prD a)) = some (.p (.bool (!((a.i == a.i) && (a.o == a.o))))) := by
    have h1 : binOp PP .neq 98 (.agg (prD a)) (.agg (prD a)) = (match (match some (a.i == a.i) with | some true => (match some (a.o == a.o) with | some true => some true | r => r) | r => r) with | some b => some (.p (.bool !b)) | none => none) := by kernel_rfl
    rw [h1]
    simp
  rw [h]
  simp
theorem L27s {o : OP} {σ : Store} (hl : (L o).length ≤ 100000) : ∀ (k i : Nat), (L o).length - i = k → i ≤ (L o).length → f27_L0 guardT 0 (.p (ePs o)) (.p (ePs o)) (.p (pI (i : Nat))) σ = some (.p (.bool true), σ)
  | 0, i, hk, hi => by
    have : ¬ (i : Int) < ((L o).length : Nat) := by omega
    rw [f27_L0_eq guardT rfl]
    simp only [len31, b_lss, b_eql, b_neq, b_leq, b_geq, b_gtr, guard_tt, guard_ff, guard_tf, guard_ft, guard_sk, obind, omap, pickV_true, pickV_false, condK_true, condK_false, decide_true, decide_false, Bool.not_true, Bool.not_false, not_bool, this]
  | k + 1, i, hk, hi => by
    have h : i < (L o).length := by omega
    have h' : (i : Int) < ((L o).length : Nat) := by omega
    have ih := L27s (σ := σ) hl k (i + 1) (by omega) (by omega)
    rw [f27_L0_eq guardT rfl]
    simp only [len31, b_lss, b_eql, b_neq, b_leq, b_geq, b_gtr, guard_tt, guard_ff, guard_tf, guard_ft, guard_sk, obind, omap, pickV_true, pickV_false, condK_true, condK_false, decide_true, decide_false, Bool.not_true, Bool.not_false, not_bool, h', idx31 h, load98, load98_D h, neq98, b_add, wrap_succ (show i ≤ 1000000 by omega), ih]
theorem S27 {o : OP} {σ : Store} (hl : (L o).length ≤ 100000) : pureV CC 27 [.p (ePs o), .p (ePs o)] σ = some (.p (.bool true)) := by
  refine pureV_free (by simp [ps_view]) rfl (F27_call (r := (.p (.bool true), [])) ?_) rfl
  rw [F27_eq]
  simp only [len31, b_lss, b_eql, b_neq, b_leq, b_geq, b_gtr, guard_tt, guard_ff, guard_tf, guard_ft, guard_sk, obind, omap, pickV_true, pickV_false, condK_true, condK_false, decide_true, decide_false, Bool.not_true, Bool.not_false, not_bool]
  exact L27s hl _ 0 rfl (Nat.zero_le _)

/-! ### The law -/
theorem L5 {o : Option (List OW)} {w : OW} (hl : (L o).length ≤ 5) {σ : Store} : ∀ (k i : Nat) (c : Int), (L o).length - i = k → i ≤ (L o).length →
    (f5_L0 guardT 0 (.p (eWs o)) (.p (eWt w)) (.p (pI c)) (.p (pI (i : Nat))) σ = some (.p (.bool true), σ)) ∨
    ((∀ j (h : j < (L o).length), i ≤ j → WSm (L o)[j]) ∧ f5_L0 guardT 0 (.p (eWs o)) (.p (eWt w)) (.p (pI c)) (.p (pI (i : Nat))) σ = f5_L0 guardT 0 (.p (eWs o)) (.p (eWt w)) (.p (pI (orL (c :: ((L o).drop i).map fun w => wchE (wl w))))) (.p (pI ((L o).length : Nat))) σ)
  | 0, i, c, hk, hi => by
    have : i = (L o).length := by omega
    subst this
    refine .inr ⟨fun j h1 h2 => absurd h1 (by omega), ?_⟩
    rw [List.drop_length, List.map_nil, orL_cons]
    by_cases e : c = 0
    · rw [if_pos e, e]; rfl
    · rw [if_neg e]
  | k + 1, i, c, hk, hi => by
    have h : i < (L o).length := by omega
    have h' : (i : Int) < ((L o).length : Nat) := by omega
    rw [f5_L0_eq guardT rfl, drop_cons h, List.map_cons, ← getD_at none h]
    cases hsm : smallW ((L o).getD i none) with
    | false =>
      left
      simp only [len56, b_lss, b_eql, b_neq, b_leq, b_geq, b_gtr, h', guard_tt, guard_ff, guard_tf, guard_ft, guard_sk, obind, omap, pickV_true, pickV_false, condK_true, condK_false, decide_true, decide_false, Bool.not_true, Bool.not_false, not_bool, idx56 h, load27', load1_ws h, shift_ptr, shift_pptr, Nat.zero_add, Nat.add_zero, pureFn_fn, List.append_nil, List.singleton_append, List.cons_append, List.nil_append, S12, hsm]
    | true =>
      have hwi := wsm_of hsm
      have ih := fun c => L5 (w := w) (σ := σ) hl k (i + 1) c (by omega) (by omega)
      by_cases hc : c = 0
      · subst hc
        rcases ih (wchE (wl ((L o).getD i none))) with h1 | ⟨h1, h2⟩
        · left
          simp only [len56, b_lss, b_eql, b_neq, b_leq, b_geq, b_gtr, h', guard_tt, guard_ff, guard_tf, guard_ft, guard_sk, obind, omap, pickV_true, pickV_false, condK_true, condK_false, decide_true, decide_false, Bool.not_true, Bool.not_false, not_bool, idx56 h, load27', load1_ws h, shift_ptr, shift_pptr, Nat.zero_add, Nat.add_zero, pureFn_fn, List.append_nil, List.singleton_append, List.cons_append, List.nil_append, S12, hsm, S17 hwi, f5_J1_eq, b_add, wrap_succ (show i ≤ 1000000 by omega), h1]
        · right
          refine ⟨fun j hj hij => ?_, ?_⟩
          · by_cases e : i = j
            · subst e; rw [← getD_at none h]; exact hwi
            · exact h1 j hj (by omega)
          · simp only [len56, b_lss, b_eql, b_neq, b_leq, b_geq, b_gtr, h', guard_tt, guard_ff, guard_tf, guard_ft, guard_sk, obind, omap, pickV_true, pickV_false, condK_true, condK_false, decide_true, decide_false, Bool.not_true, Bool.not_false, not_bool, idx56 h, load27', load1_ws h, shift_ptr, shift_pptr, Nat.zero_add, Nat.add_zero, pureFn_fn, List.append_nil, List.singleton_append, List.cons_append, List.nil_append, S12, hsm, S17 hwi, f5_J1_eq, b_add, wrap_succ (show i ≤ 1000000 by omega)]
            rw [h2]
            rfl
      · rcases ih c with h1 | ⟨h1, h2⟩
        · left
          simp only [len56, b_lss, b_eql, b_neq, b_leq, b_geq, b_gtr, h', guard_tt, guard_ff, guard_tf, guard_ft, guard_sk, obind, omap, pickV_true, pickV_false, condK_true, condK_false, decide_true, decide_false, Bool.not_true, Bool.not_false, not_bool, idx56 h, load27', load1_ws h, shift_ptr, shift_pptr, Nat.zero_add, Nat.add_zero, pureFn_fn, List.append_nil, List.singleton_append, List.cons_append, List.nil_append, S12, hsm, hc, f5_J1_eq, b_add, wrap_succ (show i ≤ 1000000 by omega), h1]
        · right
          refine ⟨fun j hj hij => ?_, ?_⟩
          · by_cases e : i = j
            · subst e; rw [← getD_at none h]; exact hwi
            · exact h1 j hj (by omega)
          · simp only [len56, b_lss, b_eql, b_neq, b_leq, b_geq, b_gtr, h', guard_tt, guard_ff, guard_tf, guard_ft, guard_sk, obind, omap, pickV_true, pickV_false, condK_true, condK_false, decide_true, decide_false, Bool.not_true, Bool.not_false, not_bool, idx56 h, load27', load1_ws h, shift_ptr, shift_pptr, Nat.zero_add, Nat.add_zero, pureFn_fn, List.append_nil, List.singleton_append, List.cons_append, List.nil_append, S12, hsm, hc, f5_J1_eq, b_add, wrap_succ (show i ≤ 1000000 by omega)]
            rw [h2, orL_cons, orL_cons, if_neg hc, if_neg hc]
theorem len31_nil (σ : Store) : len PP 31 (.p .nilsl) σ = some (.p (.int .i64 0)) := by simp [len, u31]
theorem law5_end {o : Option (List OW)} {w : OW} {σ : Store} (hl : (L o).length ≤ 5) (hw : ∀ w ∈ L o, WSm w) (hw2 : WSm w) {c : Int} (hc : c = if (L o).length > 3 then 2 else orL ((L o).map fun w => wchE (wl w))) :
    f5_L0 guardT 0 (.p (eWs o)) (.p (eWt w)) (.p (pI c)) (.p (pI ((L o).length : Nat))) σ = some (.p (.bool true), σ) := by
  have hn : ¬ (((L o).length : Nat) : Int) < ((L o).length : Nat) := by omega
  have howns : ∀ v ∈ L (ownWs o), WSm v := by
    intro v hv
    rw [L_ownWs] at hv
    obtain ⟨u, hu, rfl⟩ := List.mem_map.1 hv
    exact wsm_own (hw u hu)
  have hlo : (L (ownWs o)).length ≤ 1000 := by rw [L_ownWs, List.length_map]; omega
  have h24 := S24 (σ := σ) howns (wsm_own hw2) hlo
  rw [wls_own, wl_own, L_ownWs, List.length_map] at h24
  have h25 := S25 (σ := σ) hw (by omega)
  have hfin : ∀ c2 : Int, c2 = (if (L o).length > 3 then 2 else orL (((L o).map wl).map wchE ++ [wchE (wl w)])) → ∀ x43 x44 x45 x46, f5_J2 guardT 0 (.p (eWs o)) (.p (eWt w)) (.p (pI c2)) x43 x44 x45 x46 σ = some (.p (.bool true), σ) := by
    intro c2 hc2 x43 x44 x45 x46
    rw [f5_J2_eq]
    by_cases h3 : (L o).length > 3
    · rw [if_pos h3] at hc2 h24
      subst hc2
      simp only [shift_ptr, shift_pptr, Nat.zero_add, Nat.add_zero, pureFn_fn, List.append_nil, List.singleton_append, List.cons_append, List.nil_append, h25, S15 hw2, h24, guard_tt, guard_ff, guard_tf, guard_ft, guard_sk, obind, omap, pickV_true, pickV_false, condK_true, condK_false, decide_true, decide_false, Bool.not_true, Bool.not_false, not_bool, ex0, ex1, b_lss, b_eql, b_neq, b_leq, b_geq, b_gtr, Int.reduceEq, len31_nil]
    · rw [if_neg h3] at hc2 h24
      by_cases hz : orL (((L o).map wl).map wchE ++ [wchE (wl w)]) = 0
      · rw [hz] at hc2
        rw [if_pos hz] at h24
        subst hc2
        have hok : WsOk ((L o).map wl) (wl w) := wsok_of (by rw [List.length_map]; omega) hz
        have h26 := S26 (σ := σ) hok
        cases hu : unRes ((L o).map wl) (wl w) with
        | none =>
          rw [hu] at h24 h26
          simp only [shift_ptr, shift_pptr, Nat.zero_add, Nat.add_zero, pureFn_fn, List.append_nil, List.singleton_append, List.cons_append, List.nil_append, h25, S15 hw2, h24, h26, guard_tt, guard_ff, guard_tf, guard_ft, guard_sk, obind, omap, pickV_true, pickV_false, condK_true, condK_false, decide_true, decide_false, Bool.not_true, Bool.not_false, not_bool, ex0, ex1, b_lss, b_eql, b_neq, b_leq, b_geq, b_gtr, len31_nil]
        | some p =>
          rw [hu] at h24 h26
          obtain ⟨_, _, hpl⟩ := bfsW_ok hok _ _ _ (iw0 hok) hu
          have h27 := S27 (o := some (pathP p)) (σ := σ) (by show (pathP p).length ≤ 100000; simp [pathP]; omega)
          simp only [shift_ptr, shift_pptr, Nat.zero_add, Nat.add_zero, pureFn_fn, List.append_nil, List.singleton_append, List.cons_append, List.nil_append, h25, S15 hw2, h24, h26, h27, guard_tt, guard_ff, guard_tf, guard_ft, guard_sk, obind, omap, pickV_true, pickV_false, condK_true, condK_false, decide_true, decide_false, Bool.not_true, Bool.not_false, not_bool, ex0, ex1, b_lss, b_eql, b_neq, b_leq, b_geq, b_gtr]
      · rw [if_neg hz] at h24
        rw [← hc2] at h24 hz
        simp only [shift_ptr, shift_pptr, Nat.zero_add, Nat.add_zero, pureFn_fn, List.append_nil, List.singleton_append, List.cons_append, List.nil_append, h25, S15 hw2, h24, guard_tt, guard_ff, guard_tf, guard_ft, guard_sk, obind, omap, pickV_true, pickV_false, condK_true, condK_false, decide_true, decide_false, Bool.not_true, Bool.not_false, not_bool, ex0, ex1, b_lss, b_eql, b_neq, b_leq, b_geq, b_gtr, hz, len31_nil]
  rw [f5_L0_eq guardT rfl]
  simp only [len56, b_lss, b_eql, b_neq, b_leq, b_geq, b_gtr, hn, guard_tt, guard_ff, guard_tf, guard_ft, guard_sk, obind, omap, pickV_true, pickV_false, condK_true, condK_false, decide_true, decide_false, Bool.not_true, Bool.not_false, not_bool, shift_ptr, shift_pptr, Nat.zero_add, Nat.add_zero, pureFn_fn, List.append_nil, List.singleton_append, List.cons_append, List.nil_append, S17 hw2]
  by_cases hz : c = 0
  · simp only [hz, guard_tt, guard_ff, guard_tf, guard_ft, guard_sk, obind, omap, pickV_true, pickV_false, condK_true, condK_false, decide_true, decide_false, Bool.not_true, Bool.not_false, not_bool]
    refine hfin _ ?_ _ _ _ _
    by_cases h3 : (L o).length > 3
    · rw [if_pos h3] at hc; rw [hc] at hz; exact absurd hz (by decide)
    · rw [if_neg h3] at hc ⊢
      rw [orL_app, List.map_map]
      have ec : (L o).map (wchE ∘ wl) = (L o).map fun w => wchE (wl w) := rfl
      rw [ec, ← hc, if_pos hz, orL_cons]
      by_cases e : wchE (wl w) = 0
      · rw [if_pos e, e]; rfl
      · rw [if_neg e]
  · simp only [hz, guard_tt, guard_ff, guard_tf, guard_ft, guard_sk, obind, omap, pickV_true, pickV_false, condK_true, condK_false, decide_true, decide_false, Bool.not_true, Bool.not_false, not_bool]
    refine hfin _ ?_ _ _ _ _
    by_cases h3 : (L o).length > 3
    · rw [if_pos h3] at hc ⊢; exact hc
    · rw [if_neg h3] at hc ⊢
      rw [orL_app, List.map_map]
      have ec : (L o).map (wchE ∘ wl) = (L o).map fun w => wchE (wl w) := rfl
      rw [ec, ← hc, if_neg hz]
theorem law5 (hawake : ∀ σ, pureV CC 10 [] σ = some (.p (.bool true))) (o : Option (List OW)) (w : OW) : ∃ σ', F5 guardT 0 (.p (eWs o)) (.p (eWt w)) [] = some (.p (.bool true), σ') := by
  rw [F5_eq]
  by_cases h5 : ((L o).length : Int) > 5
  · exact ⟨_, by simp only [shift_ptr, shift_pptr, Nat.zero_add, Nat.add_zero, pureFn_fn, List.append_nil, List.singleton_append, List.cons_append, List.nil_append, hawake, guard_tt, guard_ff, guard_tf, guard_ft, guard_sk, obind, omap, pickV_true, pickV_false, condK_true, condK_false, decide_true, decide_false, Bool.not_true, Bool.not_false, not_bool, len56, b_lss, b_eql, b_neq, b_leq, b_geq, b_gtr, h5]; rfl⟩
  · cases hsm : smallW w with
    | false => exact ⟨_, by simp only [shift_ptr, shift_pptr, Nat.zero_add, Nat.add_zero, pureFn_fn, List.append_nil, List.singleton_append, List.cons_append, List.nil_append, hawake, guard_tt, guard_ff, guard_tf, guard_ft, guard_sk, obind, omap, pickV_true, pickV_false, condK_true, condK_false, decide_true, decide_false, Bool.not_true, Bool.not_false, not_bool, len56, b_lss, b_eql, b_neq, b_leq, b_geq, b_gtr, h5, S12, hsm]; rfl⟩
    | true =>
      have hw2 := wsm_of hsm
      have fin : ∀ c : Int, (c = if (L o).length > 3 then 2 else 0) → f5_L0 guardT 0 (.p (eWs o)) (.p (eWt w)) (.p (pI c)) (.p (pI (0 : Nat))) [] = some (.p (.bool true), []) := by
        intro c hc
        rcases L5 (o := o) (w := w) (σ := []) (by omega) _ 0 c rfl (Nat.zero_le _) with h1 | ⟨h1, h2⟩
        · exact h1
        · rw [h2]
          refine law5_end (by omega) (fun v hv => ?_) hw2 ?_
          · obtain ⟨j, hj, rfl⟩ := List.getElem_of_mem hv
            exact h1 j hj (Nat.zero_le _)
          · rw [orL_cons, List.drop_zero]
            by_cases h3 : (L o).length > 3
            · rw [if_pos h3] at hc ⊢; rw [if_neg (by omega), hc]
            · rw [if_neg h3] at hc ⊢; rw [if_pos hc]
      refine ⟨[], ?_⟩
      by_cases h3 : ((L o).length : Int) > 3
      · simp only [shift_ptr, shift_pptr, Nat.zero_add, Nat.add_zero, pureFn_fn, List.append_nil, List.singleton_append, List.cons_append, List.nil_append, hawake, guard_tt, guard_ff, guard_tf, guard_ft, guard_sk, obind, omap, pickV_true, pickV_false, condK_true, condK_false, decide_true, decide_false, Bool.not_true, Bool.not_false, not_bool, len56, b_lss, b_eql, b_neq, b_leq, b_geq, b_gtr, h5, S12, hsm, h3, f5_J0_eq]
        exact fin 2 (by rw [if_pos (by omega)])
      · simp only [shift_ptr, shift_pptr, Nat.zero_add, Nat.add_zero, pureFn_fn, List.append_nil, List.singleton_append, List.cons_append, List.nil_append, hawake, guard_tt, guard_ff, guard_tf, guard_ft, guard_sk, obind, omap, pickV_true, pickV_false, condK_true, condK_false, decide_true, decide_false, Bool.not_true, Bool.not_false, not_bool, len56, b_lss, b_eql, b_neq, b_leq, b_geq, b_gtr, h5, S12, hsm, h3, f5_J0_eq]
        exact fin 0 (by rw [if_neg (by omega)])
theorem call5 (hawake : ∀ σ, pureV CC 10 [] σ = some (.p (.bool true))) (o : Option (List OW)) (w : OW) : ∃ σ', CC 0 5 [.p (eWs o), .p (eWt w)] [] = some (.p (.bool true), σ') := by
  obtain ⟨σ', h⟩ := law5 hawake o w
  exact ⟨σ', F5_call h⟩
end Go.D
end
/- OpenUnimplied: for every list of watches and every watch the law answers true and leaves its arguments as they were: the given statement, without conditions. -/
section
set_option linter.unusedVariables false
set_option linter.unusedSimpArgs false
set_option maxRecDepth 100000
namespace Go.D
open Go.ChangeShapes Go.WideShapes Go.ChangeAt Go.RowKit

theorem openUnimplied_calls (hawake : Awake) {H : Type} {enc : TypeId × Value → H} {W : World} {base : Nat} {args : Array Value} {ds : List (DataW H)} {ps : List MemPlace}
    (hval : ∀ (j : Nat) t v, ([56, 27] : List TypeId).toArray[j]? = some t → args[j]? = some v → Value.okWide PP W .any base t v)
    (hA : DataW.TrodAll enc PP W 0 (fun _ => true) true [56, 27] args.toList ds ps) :
    Calls PP 5 args W fun e W' => e = .returned (.bool true) ∧ Below W.heap.size W W' := by
  obtain ⟨v0, v1, d0, d1, p0, p1, rfl, rfl, rfl, h0, h1⟩ := trodAll_two hA
  obtain ⟨o0, ho0⟩ := read_ws (hval 0 56 v0 rfl rfl) h0
  obtain ⟨o1, ho1⟩ := read_wt (hval 1 27 v1 rfl rfl) h1
  obtain ⟨σ', hc⟩ := call5 hawake o0 o1
  refine calls_of hc ⟨rfl, fun j h1 h2 => ?_⟩
  match j, h1 with
  | 0, _ => exact ho0
  | 1, _ => exact ho1

end Go.D
namespace Go.Proofs.Ythddgnfaaccgjaa
open Go.D Go.ChangeShapes Go.WideShapes Go.ChangeAt Go.RowKit

set_option maxRecDepth 100000 in
theorem openUnimplied_lifted (hawake : Awake) (os : Os) (started : os.Started) (H : Type) (enc : TypeId × Value → H) :
    ReturnsInHanded {} Try.checked os 5 .any (Rows.openUnimpliedSpec.pre6 enc Try.prog Try.f5 Rows.openUnimpliedRow.domain false) (Rows.openUnimpliedSpec.post enc Try.prog Try.f5 false true false false) := by
  refine returnsInHanded_of_change_sized (C := Try.checked) own_ok started (by kernel_rfl) Try.func5
    (ChangeSpec.witness6 (enc := enc) (C := Try.checked) false ⟨#[], #[.slice none 0 0, .slice none 0 0], []⟩ 8 (by kernel_rfl) (by kernel_rfl) (by kernel_rfl) (by kernel_rfl)) ?_
  intro W base args ds gs before hval0 hW _ hsz0 _
  have hval : ∀ (j : Nat) t v, Try.f5.params[j]? = some t → args[j]? = some v → Value.okWide Try.prog W .any base t v := hval0
  have hW' := hW
  obtain ⟨p, q, hA0, hV, rfl, _, _⟩ := hW
  have hA : DataW.TrodAll enc Try.prog W 0 (fun _ => true) true Try.f5.params.toList args.toList ds p := hA0
  rw [Try.params5] at hA hval
  have hA2 := hA
  obtain ⟨v0, v1, d0, d1, p0, p1, rfl, rfl, rfl, h0, h1⟩ := trodAll_two hA
  obtain ⟨rfl, rfl⟩ := trodVars_none hV
  have hlt : ∀ x ∈ p0 ++ p1, x.block < W.heap.size := fun x hx => by
    have := hW'.lt x (by simpa using hx)
    exact this
  have e0 : ∀ x ∈ p0, x.block < W.heap.size := fun x hx => hlt x (List.mem_append_left _ hx)
  have e1 : ∀ x ∈ p1, x.block < W.heap.size := fun x hx => hlt x (List.mem_append_right _ hx)
  refine (openUnimplied_calls hawake (base := base) hval hA2).mono ?_
  rintro e W2 ⟨rfl, hnx⟩
  refine ⟨_, rfl, _, _, _, [], p0 ++ p1, [], hW', ?_, ?_, rfl, hnx.frame _, fun h => by cases h⟩
  · exact trodAll_mk1 (shut_bool ul4 true)
  · exact trodAll_mk2 (Below.trod laidOut_ok (by kernel_rfl) (of_decide_eq_true (by kernel_rfl)) h0 hnx e0) (Below.trod laidOut_ok (by kernel_rfl) (of_decide_eq_true (by kernel_rfl)) h1 hnx e1)

theorem openUnimplied_holds : Rows.OpenUnimpliedSaid :=
  OpenClaim.holds_of_wide 5 Try.f5 rfl rfl rfl rfl rfl rfl rfl ⟨rfl, rfl, rfl, rfl, rfl⟩ rfl rfl rfl rfl rfl (by kernel_rfl) Try.func5 (by kernel_rfl)
    (of_decide_eq_true (by kernel_rfl)) (by unfold Func.isWrapper; first | (rw [if_pos (by decide +kernel)]; kernel_rfl) | (rw [if_neg (by decide +kernel)]; exact ⟨rfl, rfl⟩))
    (fun os started H enc _ => openUnimplied_lifted awake_true os started H enc)

end Go.Proofs.Ythddgnfaaccgjaa
end
