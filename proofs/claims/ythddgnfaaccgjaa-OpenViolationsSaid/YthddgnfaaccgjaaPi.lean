/- OpenViolations: for every component and all two watches the law answers true and leaves its arguments as they were: the given statement, without conditions. -/
import Derived.Test.YthddgnfaaccgjaaPh
import Derived.Test.YthddgnfaaccgjaaPg
/- Violations: the reference's second pass, both answers. -/
section
set_option linter.unusedVariables false
set_option linter.unusedSimpArgs false
namespace Go.D
theorem build112 (a b : PV) (x y : Int) : build PP 112 [(0, .agg [.p a, .p b]), (1, .p (pI x)), (2, .p (pI y))] = some (.agg [.p a, .p b, .p (pI x), .p (pI y)]) := Eq.trans (by kernel_rfl) rfl
theorem build112a (a b : PV) : build PP 112 [(0, .agg [.p a, .p b])] = some (.agg [.p a, .p b, .p (pI 0), .p (pI 0)]) := Eq.trans (by kernel_rfl) rfl
theorem bs110 (a b : PV) (x y : Int) (σ : Store) : buildSlice PP none 110 1 [(0, .agg [.p a, .p b, .p (pI x), .p (pI y)])] σ = some (.p (.sl true 1 [a, b, pI x, pI y]), σ) := Eq.trans (by kernel_rfl) rfl
section
variable {c : Cmp} {n : Nat} {wa wg : OW} (hc : COk c n) (ha : WOk (wl wa) (wl wa).length) (hg : WOk (wl wg) (wl wg).length)
include hc ha hg
omit hc ha hg in
theorem push110 {σ : Store} {q : List QE} {x8 : DV} {y : QE} (hS : Seen c σ q x8) (hql : q.length ≤ 100000) : ∃ x' σ', append PP 0 false 110 110 x8 (.p (.sl true 1 [eSl (runS c y.p).st, ePs (runS c y.p).ps, pI (y.n.getD 1 0), pI (y.n.getD 2 0)])) σ = some (x', σ') ∧ Seen c σ' (q ++ [y]) x' ∧
    ∀ (j : Nat) (row : Row), (∀ v, row ≠ .tok v) → σ[j]? = some row → σ'[j]? = some row := by
  obtain ⟨cs, g1, g2⟩ := hS
  obtain ⟨r, v, σ', e1, e2, _, _, _, _, e3⟩ := g1.push (t := 110) (lo := 0) (m := 1) (vs := vsE c y) src110 u110 s112 bytes112 zero112 rfl (by decide) (by decide) (by decide) rfl (by decide) (by decide) (by omega) (Nat.zero_le _) (Nat.zero_le _)
  refine ⟨_, σ', e1, ⟨cs ++ vsE c y, ?_, ?_⟩, e3⟩
  · rw [List.length_append]; exact e2
  · rw [loosens_app, g2, loosens_vsE, vsP_app]; simp [vsP]
/-- The second pass, at one element. -/
theorem L19_5 {i to : Nat} {x : QE} {q0 : List QE} (hxi : q0[i]? = some x) : ∀ (r k : Nat) (q : List QE) (x8 : DV) (σ : Store), (L c.mv).length - k = r → k ≤ (L c.mv).length → violF c (wl wg) x r k = none → q0 <+: q → IV n (wl wa) (wl wg) q → Seen c σ q x8 → σ[0]? = some (.mix (eCmp c)) → σ[1]? = some (.mix [.p .nilsl, .p .nilsl]) →
    ∃ x8' σ', Seen c σ' (addsF c (wl wa) (wl wg) x r k q) x8' ∧ IV n (wl wa) (wl wg) (addsF c (wl wa) (wl wg) x r k q) ∧ σ'[0]? = some (.mix (eCmp c)) ∧ σ'[1]? = some (.mix [.p .nilsl, .p .nilsl]) ∧
      f19_L5 guardT 0 (.p (eWt wa)) (.p (eWt wg)) (.ptr 0 0) (.ptr 1 0) x8 (.p (pI (to : Nat))) (.p (pI (i : Nat))) (.p (pI (k : Nat))) σ = f19_L4 guardT 0 (.p (eWt wa)) (.p (eWt wg)) (.ptr 0 0) (.ptr 1 0) x8' (.p (pI (to : Nat))) (.p (pI (i + 1 : Nat))) σ'
  | 0, k, q, x8, σ, hk, hkl, hv, hpre, hI, hS, h0, h1 => by
    have hn : ¬ (k : Int) < ((L c.mv).length : Nat) := by omega
    have hi := (List.getElem?_eq_some_iff.1 hxi).1
    have hql := hI.le hc.n10 ha hg
    have := hpre.length_le
    refine ⟨x8, σ, hS, hI, h0, h1, ?_⟩
    rw [f19_L5_eq guardT rfl]
    simp only [fa25_3, shift_ptr, shift_pptr, Nat.zero_add, Nat.add_zero, pureFn_fn, List.append_nil, List.singleton_append, List.cons_append, List.nil_append, load23, load1_ptr (off := 3) h0 rfl, len23, b_lss, b_eql, b_neq, b_leq, b_geq, b_gtr, hn, guard_tt, guard_ff, guard_tf, guard_ft, guard_sk, obind, omap, pickV_true, pickV_false, condK_true, condK_false, decide_true, decide_false, Bool.not_true, Bool.not_false, not_bool, b_add, wrap_succ (show i ≤ 1000000 by omega)]
  | r + 1, k, q, x8, σ, hk, hkl, hv, hpre, hI, hS, h0, h1 => by
    have hm60 := hc.m60
    have hkk : k < (L c.mv).length := by omega
    have h' : (k : Int) < ((L c.mv).length : Nat) := by omega
    have hxi' : q[i]? = some x := by
      obtain ⟨t, rfl⟩ := hpre
      rw [List.getElem?_append_left (List.getElem?_eq_some_iff.1 hxi).1, hxi]
    have hm := List.mem_of_getElem? hxi'
    have hx := hI.ok x hm
    have hpx := hI.pp x hm
    have hql := hI.le hc.n10 ha hg
    have hpl := hI.pl x hm
    have hp := vpr_ok hc hkk
    obtain ⟨hef, hea, het⟩ := hc.ml _ (List.getElem_mem hkk)
    rw [← getD_at default hkk] at hef hea het
    have hof : ((L c.mv).getD k default).f.toNat < (L c.out).length := by rw [hc.o]; omega
    obtain ⟨cs, v0, v1, i1, i2, i3, i4, i5, i6⟩ := hS.at hxi'
    unfold violF at hv
    unfold addsF
    have hmv : mvD c k = (L c.mv).getD k default := rfl
    rw [hmv] at hv ⊢
    generalize hE : (L c.mv).getD k default = e at *
    have hld106 : (loadN σ 3 (.pptr (eEdgs (L c.mv)) (k * 3))).map DV.agg = some (.agg (edgD e)) := by rw [load106_D hkk, hE]
    have n1 := RnV.storeNew (lo := 0) (cs := edgD e) (z := [.p (pI 0), .p (pI 0), .p (pI 0)]) s106 σ rfl rfl rfl (Nat.zero_le _)
    have gE : (σ ++ [Row.mix (edgD e)])[σ.length]? = some (.mix (edgD e)) := get_snoc
    have g0 : (σ ++ [Row.mix (edgD e)])[0]? = some (.mix (eCmp c)) := get_old h0
    have g1 : (σ ++ [Row.mix (edgD e)])[1]? = some (.mix [.p .nilsl, .p .nilsl]) := get_old h1
    have hS1 := hS.snoc (.mix (edgD e))
    have s1 := S62 (σ := σ ++ [Row.mix (edgD e)]) (a := x.n.getD 1 0) (g := x.n.getD 2 0) i2 hpx (by omega)
    have hJ : ∀ (x8' : DV) (σ'' : Store), f19_J0 guardT 0 (.p (eWt wa)) (.p (eWt wg)) (.ptr 0 0) (.ptr 1 0) x8' (.p (pI (to : Nat))) (.p (pI (i : Nat))) (.p (pI (k : Nat))) σ'' = f19_L5 guardT 0 (.p (eWt wa)) (.p (eWt wg)) (.ptr 0 0) (.ptr 1 0) x8' (.p (pI (to : Nat))) (.p (pI (i : Nat))) (.p (pI (k + 1 : Nat))) σ'' := by
      intro x8' σ''
      rw [f19_J0_eq]
      simp only [b_add, wrap_succ (show k ≤ 1000000 by omega), guard_tt, guard_ff, guard_tf, guard_ft, guard_sk, obind, omap, pickV_true, pickV_false, condK_true, condK_false, decide_true, decide_false, Bool.not_true, Bool.not_false, not_bool]
    obtain ⟨r1, r2, r3, r4, r5, r6⟩ := rdP hg hx.g hp
    obtain ⟨a1, a2, a3, a4, a5, a6⟩ := rdP ha hx.a hp
    have hpi : (vpr c e).i = e.t := rfl
    have hpo : (vpr c e).o = (L c.out).getD e.f.toNat 0 := rfl
    rw [hpi] at r3 r4 r5 r6 a3 a4 a5 a6
    rw [hpo] at r5 r6 a5 a6
    by_cases hfe : e.f = x.n.getD 0 0
    · rw [if_pos hfe]
      have dfe : decide (e.f = x.n.getD 0 0) = true := decide_eq_true hfe
      have hbk : nextW (wl wg) (x.n.getD 2 0) (vpr c e) ≠ -1 := by
        intro h
        rw [if_pos ⟨hfe, h⟩] at hv
        exact absurd hv (by simp)
      rw [if_neg (fun h => hbk h.2)] at hv
      have s3 := S63 (σ := σ ++ [Row.mix (edgD e)]) hc i2 hpx (by omega) hfe hef
      have l106 : loadN (σ ++ [Row.mix (edgD e)]) 3 (.ptr σ.length 0) = some (edgD e) := loadN_ptr gE rfl (by simp [edgD])
      have n2 := RnV.storeNew (lo := 0) (cs := [.p (eSl (runS c (x.p ++ [e.t, e.a])).st), .p (ePs (runS c (x.p ++ [e.t, e.a])).ps), .p (pI (nextW (wl wa) (x.n.getD 1 0) (vpr c e))), .p (pI (nextW (wl wg) (x.n.getD 2 0) (vpr c e)))]) (z := [.p .nilsl, .p .nilsl, .p (pI 0), .p (pI 0)]) s112 (σ ++ [Row.mix (edgD e)]) rfl rfl rfl (Nat.zero_le _)
      have gY : ((σ ++ [Row.mix (edgD e)]) ++ [Row.mix [.p (eSl (runS c (x.p ++ [e.t, e.a])).st), .p (ePs (runS c (x.p ++ [e.t, e.a])).ps), .p (pI (nextW (wl wa) (x.n.getD 1 0) (vpr c e))), .p (pI (nextW (wl wg) (x.n.getD 2 0) (vpr c e)))]])[(σ ++ [Row.mix (edgD e)]).length]? = some (.mix [.p (eSl (runS c (x.p ++ [e.t, e.a])).st), .p (ePs (runS c (x.p ++ [e.t, e.a])).ps), .p (pI (nextW (wl wa) (x.n.getD 1 0) (vpr c e))), .p (pI (nextW (wl wg) (x.n.getD 2 0) (vpr c e)))]) := get_snoc
      have y0 := get_old (r := .mix [.p (eSl (runS c (x.p ++ [e.t, e.a])).st), .p (ePs (runS c (x.p ++ [e.t, e.a])).ps), .p (pI (nextW (wl wa) (x.n.getD 1 0) (vpr c e))), .p (pI (nextW (wl wg) (x.n.getD 2 0) (vpr c e)))]) g0
      have y1 := get_old (r := .mix [.p (eSl (runS c (x.p ++ [e.t, e.a])).st), .p (ePs (runS c (x.p ++ [e.t, e.a])).ps), .p (pI (nextW (wl wa) (x.n.getD 1 0) (vpr c e))), .p (pI (nextW (wl wg) (x.n.getD 2 0) (vpr c e)))]) g1
      have hS2 := hS1.snoc (.mix [.p (eSl (runS c (x.p ++ [e.t, e.a])).st), .p (ePs (runS c (x.p ++ [e.t, e.a])).ps), .p (pI (nextW (wl wa) (x.n.getD 1 0) (vpr c e))), .p (pI (nextW (wl wg) (x.n.getD 2 0) (vpr c e)))])
      have l112 : loadN ((σ ++ [Row.mix (edgD e)]) ++ [Row.mix [.p (eSl (runS c (x.p ++ [e.t, e.a])).st), .p (ePs (runS c (x.p ++ [e.t, e.a])).ps), .p (pI (nextW (wl wa) (x.n.getD 1 0) (vpr c e))), .p (pI (nextW (wl wg) (x.n.getD 2 0) (vpr c e)))]]) 4 (.ptr (σ ++ [Row.mix (edgD e)]).length 0) = some [.p (eSl (runS c (x.p ++ [e.t, e.a])).st), .p (ePs (runS c (x.p ++ [e.t, e.a])).ps), .p (pI (nextW (wl wa) (x.n.getD 1 0) (vpr c e))), .p (pI (nextW (wl wg) (x.n.getD 2 0) (vpr c e)))] := loadN_ptr gY rfl (by simp)
      have lY2 : load1 (.ptr (σ ++ [Row.mix (edgD e)]).length 2) ((σ ++ [Row.mix (edgD e)]) ++ [Row.mix [.p (eSl (runS c (x.p ++ [e.t, e.a])).st), .p (ePs (runS c (x.p ++ [e.t, e.a])).ps), .p (pI (nextW (wl wa) (x.n.getD 1 0) (vpr c e))), .p (pI (nextW (wl wg) (x.n.getD 2 0) (vpr c e)))]]) = some (.p (pI (nextW (wl wa) (x.n.getD 1 0) (vpr c e)))) := load1_ptr gY rfl
      generalize hZ : (σ ++ [Row.mix (edgD e)]).length = Z at *
      generalize hτ : (σ ++ [Row.mix (edgD e)]) ++ [Row.mix [.p (eSl (runS c (x.p ++ [e.t, e.a])).st), .p (ePs (runS c (x.p ++ [e.t, e.a])).ps), .p (pI (nextW (wl wa) (x.n.getD 1 0) (vpr c e))), .p (pI (nextW (wl wg) (x.n.getD 2 0) (vpr c e)))]] = τ at *
      have head : ∀ R, ((binOp PP .neq 3 (.p (pI (nextW (wl wa) (x.n.getD 1 0) (vpr c e)))) (.p (.int .i64 (-1)))).bind fun x177 =>
          guardT _ x177 true (some (x8, τ)) τ fun x179 σ29 =>
          guardT _ x177 true ((load PP 112 (.ptr Z 0) σ29).bind fun v => some (v, σ29)) σ29 fun x180 σ30 =>
          guardT _ x177 true ((pureFn CC (.fn 64 []) [x179, x180] σ30).bind fun v => some (v, σ30)) σ30 fun x181 σ31 =>
          guardT _ x177 true ((unOp .not x181).bind fun v => some (v, σ31)) σ31 fun x182 σ32 =>
          (pickV x177 x182 (.p (.bool false))).bind fun x183 => condK x183
            ((load PP 112 (.ptr Z 0) σ32).bind fun x185 => (buildSlice PP none 110 1 [(0, x185)] σ32).bind fun r186 => (append PP 0 false 110 110 x8 r186.1 r186.2).bind fun r187 => f19_L5 guardT 0 (.p (eWt wa)) (.p (eWt wg)) (.ptr 0 0) (.ptr 1 0) r187.1 (.p (pI (to : Nat))) (.p (pI (i : Nat))) (.p (pI (k + 1 : Nat))) r187.2)
            (f19_L5 guardT 0 (.p (eWt wa)) (.p (eWt wg)) (.ptr 0 0) (.ptr 1 0) x8 (.p (pI (to : Nat))) (.p (pI (i : Nat))) (.p (pI (k + 1 : Nat))) σ32)) = R →
          f19_L5 guardT 0 (.p (eWt wa)) (.p (eWt wg)) (.ptr 0 0) (.ptr 1 0) x8 (.p (pI (to : Nat))) (.p (pI (i : Nat))) (.p (pI (k : Nat))) σ = R := by
        intro R hR
        rw [f19_L5_eq guardT rfl]
        simp only [fa25_3, fa25_2, shift_ptr, shift_pptr, Nat.zero_add, Nat.add_zero, pureFn_fn, List.append_nil, List.singleton_append, List.cons_append, List.nil_append, load23, load1_ptr (off := 3) h0 rfl, len23, b_lss, b_eql, b_neq, b_leq, b_geq, b_gtr, h', guard_tt, guard_ff, guard_tf, guard_ft, guard_sk, obind, omap, pickV_true, pickV_false, condK_true, condK_false, decide_true, decide_false, Bool.not_true, Bool.not_false, not_bool, idx23 hkk, load106, hld106, zero106, n1, fa106_0, fa106_1, load3, load1_ptr (off := 0) gE rfl, load1_ptr (off := 1) gE rfl, i1, load112, i3, s1, dfe, load25, cm_all g0, fa112_0, fa112_1, fa112_2, load33, i4, l106, s3, i5, i6, r1, load48, r2, r3, load22, r4, load1_ptr (off := 2) g0 rfl, idx22i hef.1 hof, load1_getD hof, r5, r6, a1, a2, a3, a4, a5, a6, eRun, build112, zero112, hZ, n2, hτ, lY2, hJ]
        simp only [b_lss, b_eql, b_neq, b_leq, b_geq, b_gtr, load112] at hR
        exact hR
      by_cases hak : nextW (wl wa) (x.n.getD 1 0) (vpr c e) = -1
      · rw [if_pos hak]
        obtain ⟨x8', σ', m1, m2, m3, m4, m5⟩ := L19_5 (to := to) hxi r (k + 1) q x8 τ (by omega) (by omega) hv hpre hI hS2 y0 y1
        refine ⟨x8', σ', m1, m2, m3, m4, head _ ?_⟩
        have dak : decide (nextW (wl wa) (x.n.getD 1 0) (vpr c e) = -1) = true := decide_eq_true hak
        simp only [b_lss, b_eql, b_neq, b_leq, b_geq, b_gtr, dak, guard_tt, guard_ff, guard_tf, guard_ft, guard_sk, obind, omap, pickV_true, pickV_false, condK_true, condK_false, decide_true, decide_false, Bool.not_true, Bool.not_false, not_bool]
        exact m5
      · rw [if_neg hak]
        have dak : decide (nextW (wl wa) (x.n.getD 1 0) (vpr c e) = -1) = false := decide_eq_false hak
        have hpl2 : (x.p ++ [e.t, e.a]).length ≤ 2000 := by simp; omega
        have hqq : ∀ y ∈ q, y.n.length = 3 ∧ POk n y.p (y.n.getD 0 0) ∧ y.p.length ≤ 2000 := fun y hy => ⟨(hI.ok y hy).len, hI.pp y hy, by have := hI.pl y hy; omega⟩
        have hnk : NOkV n (wl wa) (wl wg) [e.a, nextW (wl wa) (x.n.getD 1 0) (vpr c e), nextW (wl wg) (x.n.getD 2 0) (vpr c e)] := ⟨rfl, hea, next_rng ha hx.a hp hak, next_rng hg hx.g hp hbk⟩
        have hI2 := hI.add hnk (p := x.p ++ [e.t, e.a]) (by simp; omega) (hpx.snoc hea)
        have hpos : q.length ≠ 0 := by have := (List.getElem?_eq_some_iff.1 hxi').1; omega
        have h64 := S64 (σ := τ) (y := ⟨[e.a, nextW (wl wa) (x.n.getD 1 0) (vpr c e), nextW (wl wg) (x.n.getD 2 0) (vpr c e)], x.p ++ [e.t, e.a]⟩) hS2 hpos hqq ⟨rfl, hpx.snoc hea, hpl2⟩ (u0 := eSl (runS c (x.p ++ [e.t, e.a])).st) (u1 := ePs (runS c (x.p ++ [e.t, e.a])).ps) ⟨by simp [loosen_sl], by simp [loosen_ps]⟩ (by omega)
        have h64 : pureFn CC (.fn 64 []) [x8, .agg [.p (eSl (runS c (x.p ++ [e.t, e.a])).st), .p (ePs (runS c (x.p ++ [e.t, e.a])).ps), .p (pI (nextW (wl wa) (x.n.getD 1 0) (vpr c e))), .p (pI (nextW (wl wg) (x.n.getD 2 0) (vpr c e)))]] τ = some (.p (.bool (hasN q [e.a, nextW (wl wa) (x.n.getD 1 0) (vpr c e), nextW (wl wg) (x.n.getD 2 0) (vpr c e)]))) := h64
        have hpre2 := hpre.trans (addN_pre q [e.a, nextW (wl wa) (x.n.getD 1 0) (vpr c e), nextW (wl wg) (x.n.getD 2 0) (vpr c e)] (x.p ++ [e.t, e.a]))
        unfold addN at hI2 hpre2 ⊢
        cases hh : hasN q [e.a, nextW (wl wa) (x.n.getD 1 0) (vpr c e), nextW (wl wg) (x.n.getD 2 0) (vpr c e)] with
        | true =>
          rw [hh] at hI2 hpre2
          simp only [if_true] at hI2 hpre2 ⊢
          obtain ⟨x8', σ', m1, m2, m3, m4, m5⟩ := L19_5 (to := to) hxi r (k + 1) q x8 τ (by omega) (by omega) hv hpre hI hS2 y0 y1
          refine ⟨x8', σ', m1, m2, m3, m4, head _ ?_⟩
          simp only [b_lss, b_eql, b_neq, b_leq, b_geq, b_gtr, dak, guard_tt, guard_ff, guard_tf, guard_ft, guard_sk, obind, omap, pickV_true, pickV_false, condK_true, condK_false, decide_true, decide_false, Bool.not_true, Bool.not_false, not_bool, load112, l112, h64, hh]
          exact m5
        | false =>
          rw [hh] at hI2 hpre2
          simp only [Bool.false_eq_true, if_false] at hI2 hpre2 ⊢
          obtain ⟨x', σ1, p1, p2, p3⟩ := push110 (y := ⟨[e.a, nextW (wl wa) (x.n.getD 1 0) (vpr c e), nextW (wl wg) (x.n.getD 2 0) (vpr c e)], x.p ++ [e.t, e.a]⟩) hS2 (by omega)
          have p1 : append PP 0 false 110 110 x8 (.p (.sl true 1 [eSl (runS c (x.p ++ [e.t, e.a])).st, ePs (runS c (x.p ++ [e.t, e.a])).ps, pI (nextW (wl wa) (x.n.getD 1 0) (vpr c e)), pI (nextW (wl wg) (x.n.getD 2 0) (vpr c e))])) τ = some (x', σ1) := p1
          obtain ⟨x8', σ', m1, m2, m3, m4, m5⟩ := L19_5 (to := to) hxi r (k + 1) _ x' σ1 (by omega) (by omega) hv hpre2 hI2 p2 (p3 0 _ (fun v => by simp) y0) (p3 1 _ (fun v => by simp) y1)
          refine ⟨x8', σ', m1, m2, m3, m4, head _ ?_⟩
          simp only [b_lss, b_eql, b_neq, b_leq, b_geq, b_gtr, dak, guard_tt, guard_ff, guard_tf, guard_ft, guard_sk, obind, omap, pickV_true, pickV_false, condK_true, condK_false, decide_true, decide_false, Bool.not_true, Bool.not_false, not_bool, load112, l112, h64, hh, bs110, p1]
          exact m5
    · rw [if_neg hfe]
      have dfe : decide (e.f = x.n.getD 0 0) = false := decide_eq_false hfe
      rw [if_neg (fun h => hfe h.1)] at hv
      obtain ⟨x8', σ', m1, m2, m3, m4, m5⟩ := L19_5 (to := to) hxi r (k + 1) q x8 (σ ++ [Row.mix (edgD e)]) (by omega) (by omega) hv hpre hI hS1 g0 g1
      refine ⟨x8', σ', m1, m2, m3, m4, Eq.trans ?_ m5⟩
      rw [f19_L5_eq guardT rfl]
      simp only [fa25_3, shift_ptr, shift_pptr, Nat.zero_add, Nat.add_zero, pureFn_fn, List.append_nil, List.singleton_append, List.cons_append, List.nil_append, load23, load1_ptr (off := 3) h0 rfl, len23, b_lss, b_eql, b_neq, b_leq, b_geq, b_gtr, h', guard_tt, guard_ff, guard_tf, guard_ft, guard_sk, obind, omap, pickV_true, pickV_false, condK_true, condK_false, decide_true, decide_false, Bool.not_true, Bool.not_false, not_bool, idx23 hkk, load106, hld106, zero106, n1, fa106_0, load3, load1_ptr (off := 0) gE rfl, i1, load112, i3, s1, dfe, hJ]
/-- The second pass. -/
theorem L19_4 {q0 : List QE} : ∀ (d i : Nat) (q : List QE) (x8 : DV) (σ : Store), q0.length - i = d → i ≤ q0.length → violL c (wl wg) q0 d i = none → q0 <+: q → IV n (wl wa) (wl wg) q → Seen c σ q x8 → σ[0]? = some (.mix (eCmp c)) → σ[1]? = some (.mix [.p .nilsl, .p .nilsl]) →
    ∃ x8' σ', Seen c σ' (addsL c (wl wa) (wl wg) d i q) x8' ∧ IV n (wl wa) (wl wg) (addsL c (wl wa) (wl wg) d i q) ∧ q0 <+: addsL c (wl wa) (wl wg) d i q ∧ σ'[0]? = some (.mix (eCmp c)) ∧ σ'[1]? = some (.mix [.p .nilsl, .p .nilsl]) ∧
      f19_L4 guardT 0 (.p (eWt wa)) (.p (eWt wg)) (.ptr 0 0) (.ptr 1 0) x8 (.p (pI (q0.length : Nat))) (.p (pI (i : Nat))) σ = f19_L1 guardT 0 (.p (eWt wa)) (.p (eWt wg)) (.ptr 0 0) (.ptr 1 0) x8' (.p (pI (q0.length : Nat))) σ'
  | 0, i, q, x8, σ, hk, hi, hv, hpre, hI, hS, h0, h1 => by
    have hn : ¬ (i : Int) < (q0.length : Nat) := by omega
    refine ⟨x8, σ, hS, hI, hpre, h0, h1, ?_⟩
    rw [f19_L4_eq guardT rfl]
    simp only [b_lss, b_eql, b_neq, b_leq, b_geq, b_gtr, hn, guard_tt, guard_ff, guard_tf, guard_ft, guard_sk, obind, omap, pickV_true, pickV_false, condK_true, condK_false, decide_true, decide_false, Bool.not_true, Bool.not_false, not_bool]
  | d + 1, i, q, x8, σ, hk, hi, hv, hpre, hI, hS, h0, h1 => by
    have h : i < q0.length := by omega
    have h' : (i : Int) < (q0.length : Nat) := by omega
    have hx : q0[i]? = some (q0.getD i default) := by rw [List.getElem?_eq_getElem h, getD_at default h]
    have eD : q.getD i default = q0.getD i default := by
      obtain ⟨t, rfl⟩ := hpre
      rw [List.getD_eq_getElem?_getD, List.getElem?_append_left h, List.getD_eq_getElem?_getD]
    unfold violL at hv
    cases hvf : violF c (wl wg) (q0.getD i default) (L c.mv).length 0 with
    | some p => rw [hvf] at hv; exact absurd hv (by simp)
    | none =>
      rw [hvf] at hv
      obtain ⟨x1, σ1, m1, m2, m3, m4, m5⟩ := L19_5 hc ha hg (to := q0.length) hx _ 0 q x8 σ rfl (Nat.zero_le _) hvf hpre hI hS h0 h1
      obtain ⟨x8', σ', k1, k2, k3, k4, k5, k6⟩ := L19_4 d (i + 1) _ x1 σ1 (by omega) (by omega) hv (hpre.trans (addsF_pre _ _ _ _ _ _ _)) m2 m1 m3 m4
      have hst : f19_L4 guardT 0 (.p (eWt wa)) (.p (eWt wg)) (.ptr 0 0) (.ptr 1 0) x8 (.p (pI (q0.length : Nat))) (.p (pI (i : Nat))) σ = f19_L5 guardT 0 (.p (eWt wa)) (.p (eWt wg)) (.ptr 0 0) (.ptr 1 0) x8 (.p (pI (q0.length : Nat))) (.p (pI (i : Nat))) (.p (pI (0 : Nat))) σ := by
        rw [f19_L4_eq guardT rfl]
        simp only [b_lss, b_eql, b_neq, b_leq, b_geq, b_gtr, h', guard_tt, guard_ff, guard_tf, guard_ft, guard_sk, obind, omap, pickV_true, pickV_false, condK_true, condK_false, decide_true, decide_false, Bool.not_true, Bool.not_false, not_bool]
        rfl
      unfold addsL
      rw [eD]
      exact ⟨x8', σ', k1, k2, k3, k4, k5, hst.trans (m5.trans k6)⟩
theorem L19_1 : ∀ (m k fr : Nat) (q : List QE) (x8 : DV) (σ : Store), k ≤ m → 361 - fr = k → fr ≤ q.length → IV n (wl wa) (wl wg) q → Seen c σ q x8 → σ[0]? = some (.mix (eCmp c)) → σ[1]? = some (.mix [.p .nilsl, .p .nilsl]) →
    ∃ σ', f19_L1 guardT 0 (.p (eWt wa)) (.p (eWt wg)) (.ptr 0 0) (.ptr 1 0) x8 (.p (pI (fr : Nat))) σ = match bfsQ (visV c (wl wa) (wl wg)) k fr q with
      | some p => some (.tuple [.agg (eRun (runS c p)), .p (.bool true)], σ')
      | none => some (.tuple [.agg (eRun ⟨none, none⟩), .p (.bool false)], σ')
  | 0, k, fr, q, x8, σ, hm, hk, hf, hI, hS, h0, h1 => by
    have := hI.le hc.n10 ha hg
    omega
  | m + 1, k, fr, q, x8, σ, hm, hk, hf, hI, hS, h0, h1 => by
    have hql := hI.le hc.n10 ha hg
    by_cases h : fr < q.length
    · have h' : (fr : Int) < (q.length : Nat) := by omega
      obtain ⟨σ1, k1, k2, k3, k4⟩ := L19_2 hc ha hg (x8 := x8) (x1 := .p (eWt wa)) (fr := fr) hI _ fr σ rfl hf hS h0 h1
      have hst : f19_L1 guardT 0 (.p (eWt wa)) (.p (eWt wg)) (.ptr 0 0) (.ptr 1 0) x8 (.p (pI (fr : Nat))) σ = f19_L2 guardT 0 (.p (eWt wa)) (.p (eWt wg)) (.ptr 0 0) (.ptr 1 0) x8 (.p (pI (fr : Nat))) (.p (pI (q.length : Nat))) (.p (pI (fr : Nat))) σ := by
        rw [f19_L1_eq guardT rfl]
        simp only [hS.len, b_lss, b_eql, b_neq, b_leq, b_geq, b_gtr, h', guard_tt, guard_ff, guard_tf, guard_ft, guard_sk, obind, omap, pickV_true, pickV_false, condK_true, condK_false, decide_true, decide_false, Bool.not_true, Bool.not_false, not_bool]
      have hb := bfs_seg c (wl wa) (wl wg) (361 - q.length) (q.length - fr) fr q (by omega)
      rw [show 361 - q.length + (q.length - fr) = k by omega] at hb
      rw [hst, k4, hb]
      cases hv : violL c (wl wg) q (q.length - fr) fr with
      | some p => exact ⟨_, rfl⟩
      | none =>
        obtain ⟨x8', σ2, m1, m2, m3, m4, m5, m6⟩ := L19_4 hc ha hg _ fr q x8 σ1 rfl hf hv (List.prefix_refl _) hI k1 k2 k3
        rw [show fr + (q.length - fr) = q.length by omega]
        have := m3.length_le
        obtain ⟨σ', w⟩ := L19_1 m (361 - q.length) q.length _ x8' σ2 (by omega) rfl this m2 m1 m4 m5
        exact ⟨σ', m6.trans w⟩
    · have hn : ¬ (fr : Int) < (q.length : Nat) := by omega
      obtain ⟨k', rfl⟩ : ∃ k', k = k' + 1 := ⟨k - 1, by omega⟩
      rw [RnV.bfsQ_none (List.getElem?_eq_none (by omega))]
      have hst : store PP 0 33 (.ptr 1 0) (.agg [.p .nilsl, .p .nilsl]) σ = some (σ.set 1 (.mix [.p .nilsl, .p .nilsl])) := by
        simp [store, s33, DV.cells, storeN, h1, DV.one, splice]
      have g3 : (σ.set 1 (.mix [.p .nilsl, .p .nilsl]))[1]? = some (.mix [.p .nilsl, .p .nilsl]) := by rw [List.getElem?_set_self (get_lt h1)]
      refine ⟨σ.set 1 (.mix [.p .nilsl, .p .nilsl]), ?_⟩
      rw [f19_L1_eq guardT rfl]
      simp only [hS.len, b_lss, b_eql, b_neq, b_leq, b_geq, b_gtr, hn, guard_tt, guard_ff, guard_tf, guard_ft, guard_sk, obind, omap, pickV_true, pickV_false, condK_true, condK_false, decide_true, decide_false, Bool.not_true, Bool.not_false, not_bool, build33_0, hst, cv33, loadN_ptr (off := 0) (n := 2) (vs := [.p .nilsl, .p .nilsl]) g3 rfl (by simp)]
      rfl
omit ha hg in
theorem L19_0 : ∀ (k i : Nat) (x8 : DV) (σ : Store), (L c.init).length - i = k → i ≤ (L c.init).length → Seen c σ ((initQ c).take i) x8 → σ[0]? = some (.mix (eCmp c)) → σ[1]? = some (.mix [.p .nilsl, .p .nilsl]) →
    ∃ x8' σ', f19_L0 guardT 0 (.p (eWt wa)) (.p (eWt wg)) (.ptr 0 0) (.ptr 1 0) x8 (.p (pI (i : Nat))) σ = f19_L1 guardT 0 (.p (eWt wa)) (.p (eWt wg)) (.ptr 0 0) (.ptr 1 0) x8' (.p (pI (0 : Nat))) σ' ∧ Seen c σ' (initQ c) x8' ∧ σ'[0]? = some (.mix (eCmp c)) ∧ σ'[1]? = some (.mix [.p .nilsl, .p .nilsl])
  | 0, i, x8, σ, hk, hi, hS, h0, h1 => by
    have hn : ¬ (i : Int) < ((L c.init).length : Nat) := by omega
    rw [List.take_of_length_le (by simp [initQ]; omega)] at hS
    refine ⟨x8, σ, ?_, hS, h0, h1⟩
    rw [f19_L0_eq guardT rfl]
    simp only [fa25_1, shift_ptr, shift_pptr, Nat.zero_add, Nat.add_zero, pureFn_fn, List.append_nil, List.singleton_append, List.cons_append, List.nil_append, load22, load1_ptr (off := 1) h0 rfl, len22, b_lss, b_eql, b_neq, b_leq, b_geq, b_gtr, hn, guard_tt, guard_ff, guard_tf, guard_ft, guard_sk, obind, omap, pickV_true, pickV_false, condK_true, condK_false, decide_true, decide_false, Bool.not_true, Bool.not_false, not_bool]
    rfl
  | k + 1, i, x8, σ, hk, hi, hS, h0, h1 => by
    have hil := hc.sm.i
    have h : i < (L c.init).length := by omega
    have h' : (i : Int) < ((L c.init).length : Nat) := by omega
    have hlq : i < (initQ c).length := by simp [initQ]; omega
    obtain ⟨cs, g1, g2⟩ := hS
    have htl : ((initQ c).take i).length = i := by rw [List.length_take]; omega
    rw [htl] at g1
    obtain ⟨r, v, σ1, e1, e2, _, _, _, _, e3⟩ := g1.push (t := 110) (lo := 0) (m := 1) (vs := [.sl true 1 [pI ((L c.init).getD i 0)], .nilsl, pI 0, pI 0]) src110 u110 s112 bytes112 zero112 rfl (by decide) (by decide) (by decide) rfl (by decide) (by decide) (by omega) (Nat.zero_le _) (Nat.zero_le _)
    have hS1 : Seen c σ1 ((initQ c).take (i + 1)) (.osl r v 4 (i + 1) (cs ++ [.sl true 1 [pI ((L c.init).getD i 0)], .nilsl, pI 0, pI 0])) := by
      refine ⟨cs ++ [.sl true 1 [pI ((L c.init).getD i 0)], .nilsl, pI 0, pI 0], ?_, ?_⟩
      · rw [show ((initQ c).take (i + 1)).length = i + 1 by rw [List.length_take]; omega]; exact e2
      · rw [List.take_succ_eq_append_getElem hlq, loosens_app, g2, vsP_app]
        have : (initQ c)[i] = ⟨[(L c.init).getD i 0, 0, 0], [(L c.init).getD i 0]⟩ := by rw [getD_at 0 h]; simp [initQ]
        rw [this]
        simp [vsP, vsE, runS, stsOf, loosens, loosen, eSl, eInts, ePs]
    obtain ⟨x8', σ', f1, f2⟩ := L19_0 k (i + 1) _ σ1 (by omega) (by omega) hS1 (e3 0 _ (fun v => by simp) h0) (e3 1 _ (fun v => by simp) h1)
    refine ⟨x8', σ', Eq.trans ?_ f1, f2⟩
    rw [f19_L0_eq guardT rfl]
    simp only [fa25_1, shift_ptr, shift_pptr, Nat.zero_add, Nat.add_zero, pureFn_fn, List.append_nil, List.singleton_append, List.cons_append, List.nil_append, load22, load1_ptr (off := 1) h0 rfl, len22, b_lss, b_eql, b_neq, b_leq, b_geq, b_gtr, h', guard_tt, guard_ff, guard_tf, guard_ft, guard_sk, obind, omap, pickV_true, pickV_false, condK_true, condK_false, decide_true, decide_false, Bool.not_true, Bool.not_false, not_bool, idx22 h, load3, load1_getD h, bs22_1, build33_1, build112a, bs110, e1, b_add, wrap_succ (show i ≤ 1000000 by omega)]
theorem S19 {σ : Store} : pureV CC 19 [.agg (eCmp c), .p (eWt wa), .p (eWt wg)] σ = some (match viRes c (wl wa) (wl wg) with | none => .tuple [.agg (eRun ⟨none, none⟩), .p (.bool false)] | some p => .tuple [.agg (eRun (runV c p)), .p (.bool true)]) := by
  have hS0 : Seen c [.mix (eCmp c), .mix [.p .nilsl, .p .nilsl]] ((initQ c).take 0) (.p .nilsl) := ⟨[], ⟨rfl, .inl ⟨rfl, rfl⟩⟩, rfl⟩
  obtain ⟨x8, σ1, e1, k1, k2, k3⟩ := L19_0 (wa := wa) (wg := wg) hc _ 0 (.p .nilsl) [.mix (eCmp c), .mix [.p .nilsl, .p .nilsl]] rfl (Nat.zero_le _) hS0 rfl rfl
  obtain ⟨σ2, e2⟩ := L19_1 hc ha hg 361 361 0 (initQ c) x8 σ1 (Nat.le_refl _) rfl (Nat.zero_le _) (iv0 hc ha hg) k1 k2 k3
  have hu : bfsQ (visV c (wl wa) (wl wg)) 361 0 (initQ c) = viRes c (wl wa) (wl wg) := rfl
  rw [hu] at e2
  cases hv : viRes c (wl wa) (wl wg) with
  | none =>
    rw [hv] at e2
    refine pureV_free (by simp [cmp_view, wt_view]) rfl (F19_call (r := (.tuple [.agg (eRun ⟨none, none⟩), .p (.bool false)], σ2)) ?_) rfl
    rw [F19_eq]
    simp only [box_cmp, zero33, guard_tt, guard_ff, guard_tf, guard_ft, guard_sk, obind, omap, pickV_true, pickV_false, condK_true, condK_false, decide_true, decide_false, Bool.not_true, Bool.not_false, not_bool, List.length_nil, List.nil_append, List.cons_append, List.length_cons, Nat.zero_add]
    exact e1.trans e2
  | some p =>
    rw [hv] at e2
    obtain ⟨_, s, r, rfl, _, hr0, _⟩ := bfsV_ok hc ha hg _ _ _ (iv0 hc ha hg) hv
    have hrs : runS c (s :: r) = runV c (s :: r) := by
      show (⟨some (s :: stsOf r), if r = [] then none else some (prsOf c s r)⟩ : Run) = ⟨some (s :: stsOf r), some (prsOf c s r)⟩
      rw [if_neg hr0]
    simp only [hrs] at e2
    refine pureV_free (by simp [cmp_view, wt_view]) rfl (F19_call (r := (.tuple [.agg (eRun (runV c (s :: r))), .p (.bool true)], σ2)) ?_) ?_
    · rw [F19_eq]
      simp only [box_cmp, zero33, guard_tt, guard_ff, guard_tf, guard_ft, guard_sk, obind, omap, pickV_true, pickV_false, condK_true, condK_false, decide_true, decide_false, Bool.not_true, Bool.not_false, not_bool, List.length_nil, List.nil_append, List.cons_append, List.length_cons, Nat.zero_add]
      exact e1.trans e2
    · simp [thawAll, mapO, thawPart, thaw, thaw1, thawP, loosen, eRun, loosen_sl, loosen_ps]
end
end Go.D
end
/- OpenViolations: the law answers true. -/
section
set_option linter.unusedVariables false
set_option linter.unusedSimpArgs false
namespace Go.D
/-! ### ViolationOf -/
def run0 : Run := ⟨none, none⟩
/-- What ViolationOf answers. -/
def vioRes (c : Cmp) (wa wg : W3) : Run × Int :=
  if orL [cmpE c, wchE wa, wchE wg] = 0 then match viRes c wa wg with
    | none => (run0, 25)
    | some p => if (L (runV c p).ps).length > 60 then (run0, 2) else (runV c p, 0)
  else (run0, orL [cmpE c, wchE wa, wchE wg])
theorem either3 (x y z : Int) (σ : Store) : pureV CC 52 [.p (.sl true 3 (eInts [x, y, z]))] σ = some (.p (pI (orL [x, y, z]))) := S52t (l := [x, y, z]) rfl (by simp)
theorem orL3 {a b d : Int} (h : orL [a, b, d] = 0) : a = 0 ∧ b = 0 ∧ d = 0 := by
  simp only [orL_cons] at h
  split at h
  · rename_i h1
    split at h
    · rename_i h2
      split at h
      · rename_i h3; exact ⟨h1, h2, h3⟩
      · rename_i h3; exact absurd h h3
    · rename_i h2; exact absurd h h2
  · rename_i h1; exact absurd h h1
theorem st33n {σ : Store} {r : Nat} {z : List DV} {w : Run} (h : σ[r]? = some (.mix z)) (hz : z.length = 2) : store PP 0 33 (.ptr r 0) (.agg (eRun w)) σ = some (σ.set r (.mix (eRun w))) := by
  have e : splice z 0 (eRun w) = eRun w := by simp [splice, eRun, hz]
  have e2 : (eRun w).length = 2 := rfl
  have e3 : (eRun w).all DV.one = true := rfl
  simp [store, s33, DV.cells, storeN, h, e, e2, e3, hz]
theorem cv33s {σ : Store} {r : Nat} {w : Run} (h : σ[r]? = some (.mix (eRun w))) : cellV PP 33 (.ptr r 0) σ = some (.agg (eRun w)) := by
  rw [cv33, loadN_ptr (vs := eRun w) h rfl (by simp [eRun])]
  rfl
theorem thaw_run (w : Run) (v : PV) (σ : Store) (hv : loosen v = v) : thawAll 0 σ (.tuple [.agg (eRun w), .p v]) = some (.tuple [.agg (eRun w), .p v]) := by
  simp [thawAll, mapO, thawPart, thaw, thaw1, thawP, eRun, loosen_sl, loosen_ps, hv]
theorem S13 {c : Cmp} {wa wg : OW} {σ : Store} (hc : CSm c) (ha : WSm wa) (hg : WSm wg) : pureV CC 13 [.agg (eCmp c), .p (eWt wa), .p (eWt wg)] σ = some (.tuple [.agg (eRun (vioRes c (wl wa) (wl wg)).1), .p (pI (vioRes c (wl wa) (wl wg)).2)]) := by
  have hF : ∃ σ', F13 guardT 0 (.agg (eCmp c)) (.p (eWt wa)) (.p (eWt wg)) [] = some (.tuple [.agg (eRun (vioRes c (wl wa) (wl wg)).1), .p (pI (vioRes c (wl wa) (wl wg)).2)], σ') := by
    rw [F13_eq]
    simp only [box_cmp, zero33, guard_tt, guard_ff, guard_tf, guard_ft, guard_sk, obind, omap, pickV_true, pickV_false, condK_true, condK_false, decide_true, decide_false, Bool.not_true, Bool.not_false, not_bool, List.length_nil, List.nil_append, List.cons_append, List.length_cons, Nat.zero_add]
    have t0 : ([.mix (eCmp c), .mix [.p .nilsl, .p .nilsl]] : Store)[0]? = some (.mix (eCmp c)) := rfl
    have t1 : ([.mix (eCmp c), .mix [.p .nilsl, .p .nilsl]] : Store)[1]? = some (.mix [.p .nilsl, .p .nilsl]) := rfl
    generalize ([.mix (eCmp c), .mix [.p .nilsl, .p .nilsl]] : Store) = τ at *
    have hbs : buildSlice PP none 160 3 [(0, .p (pI (cmpE c))), (1, .p (pI (wchE (wl wa)))), (2, .p (pI (wchE (wl wg))))] τ = some (.p (.sl true 3 (eInts [cmpE c, wchE (wl wa), wchE (wl wg)])), τ) := bs160_3 _ _ _ _
    have n0 : (.agg [.p .nilsl, .p .nilsl] : DV) = .agg (eRun run0) := rfl
    have st0 := fun (ρ : Store) (z : List DV) (h : ρ[1]? = some (.mix z)) (hz : z.length = 2) => st33n (w := run0) h hz
    simp only [load25, cm_all t0, guard_tt, guard_ff, guard_tf, guard_ft, guard_sk, obind, omap, pickV_true, pickV_false, condK_true, condK_false, decide_true, decide_false, Bool.not_true, Bool.not_false, not_bool, shift_ptr, shift_pptr, Nat.zero_add, Nat.add_zero, pureFn_fn, List.append_nil, List.singleton_append, List.cons_append, List.nil_append, S29 hc, S33 ha, S33 hg, hbs, either3, b_lss, b_eql, b_neq, b_leq, b_geq, b_gtr]
    unfold vioRes
    by_cases hz : orL [cmpE c, wchE (wl wa), wchE (wl wg)] = 0
    · obtain ⟨z1, z2, z3⟩ := orL3 hz
      have hck := cok_of hc z1
      have h53 := S53 (σ := τ) hck (wok_of z2) (wok_of z3)
      have dz : decide (orL [cmpE c, wchE (wl wa), wchE (wl wg)] = 0) = true := decide_eq_true hz
      rw [if_pos hz]
      cases hv : viRes c (wl wa) (wl wg) with
      | none =>
        rw [hv] at h53
        have n1 := RnV.storeNew (lo := 0) (cs := eRun run0) (z := [.p .nilsl, .p .nilsl]) s33 τ rfl rfl rfl (Nat.zero_le _)
        have gR : (τ ++ [Row.mix (eRun run0)])[τ.length]? = some (.mix (eRun run0)) := get_snoc
        have g1 := get_old (r := .mix (eRun run0)) t1
        have gs : ((τ ++ [Row.mix (eRun run0)]).set 1 (.mix (eRun run0)))[1]? = some (.mix (eRun run0)) := by rw [List.getElem?_set_self (get_lt g1)]
        have hl : L run0.ps = [] := rfl
        have h53 : pureV CC 53 [.agg (eCmp c), .p (eWt wa), .p (eWt wg)] τ = some (.tuple [.agg (eRun run0), .p (.bool false)]) := h53
        refine ⟨(τ ++ [Row.mix (eRun run0)]).set 1 (.mix (eRun run0)), ?_⟩
        simp only [dz, guard_tt, guard_ff, guard_tf, guard_ft, guard_sk, obind, omap, pickV_true, pickV_false, condK_true, condK_false, decide_true, decide_false, Bool.not_true, Bool.not_false, not_bool, h53, ex0, ex1, zero33, n1, fa33_1, shift_ptr, shift_pptr, Nat.zero_add, Nat.add_zero, pureFn_fn, List.append_nil, List.singleton_append, List.cons_append, List.nil_append, load31, load1_ptr (off := 1) gR rfl, len31, hl, List.length_nil, b_lss, b_eql, b_neq, b_leq, b_geq, b_gtr, show ¬ (((0 : Nat) : Int) > 60) by decide, load33, loadN_ptr (off := 0) (n := 2) (vs := eRun run0) gR rfl (by simp [eRun]), S54, Bool.false_eq_true, if_false, st33n g1 rfl, cv33s gs]
      | some p =>
        rw [hv] at h53
        have n1 := RnV.storeNew (lo := 0) (cs := eRun (runV c p)) (z := [.p .nilsl, .p .nilsl]) s33 τ rfl rfl rfl (Nat.zero_le _)
        have gR : (τ ++ [Row.mix (eRun (runV c p))])[τ.length]? = some (.mix (eRun (runV c p))) := get_snoc
        have g1 := get_old (r := .mix (eRun (runV c p))) t1
        by_cases h60 : (L (runV c p).ps).length > 60
        · have h60' : ((L (runV c p).ps).length : Int) > 60 := by omega
          have gs : ((τ ++ [Row.mix (eRun (runV c p))]).set 1 (.mix (eRun run0)))[1]? = some (.mix (eRun run0)) := by rw [List.getElem?_set_self (get_lt g1)]
          have s0 := st33n (w := run0) g1 rfl
          refine ⟨(τ ++ [Row.mix (eRun (runV c p))]).set 1 (.mix (eRun run0)), ?_⟩
          simp only [dz, guard_tt, guard_ff, guard_tf, guard_ft, guard_sk, obind, omap, pickV_true, pickV_false, condK_true, condK_false, decide_true, decide_false, Bool.not_true, Bool.not_false, not_bool, h53, ex0, ex1, zero33, n1, fa33_1, shift_ptr, shift_pptr, Nat.zero_add, Nat.add_zero, pureFn_fn, List.append_nil, List.singleton_append, List.cons_append, List.nil_append, load31, load1_ptr (off := 1) gR rfl, len31, b_lss, b_eql, b_neq, b_leq, b_geq, b_gtr, h60', build33_0, n0, s0, cv33s gs, h60, if_true]
        · have h60' : ¬ ((L (runV c p).ps).length : Int) > 60 := by omega
          have gs : ((τ ++ [Row.mix (eRun (runV c p))]).set 1 (.mix (eRun (runV c p))))[1]? = some (.mix (eRun (runV c p))) := by rw [List.getElem?_set_self (get_lt g1)]
          refine ⟨(τ ++ [Row.mix (eRun (runV c p))]).set 1 (.mix (eRun (runV c p))), ?_⟩
          simp only [dz, guard_tt, guard_ff, guard_tf, guard_ft, guard_sk, obind, omap, pickV_true, pickV_false, condK_true, condK_false, decide_true, decide_false, Bool.not_true, Bool.not_false, not_bool, h53, ex0, ex1, zero33, n1, fa33_1, shift_ptr, shift_pptr, Nat.zero_add, Nat.add_zero, pureFn_fn, List.append_nil, List.singleton_append, List.cons_append, List.nil_append, load31, load1_ptr (off := 1) gR rfl, len31, b_lss, b_eql, b_neq, b_leq, b_geq, b_gtr, h60', load33, loadN_ptr (off := 0) (n := 2) (vs := eRun (runV c p)) gR rfl (by simp [eRun]), S54, if_true, st33n g1 rfl, cv33s gs, h60, if_false]
    · have dz : decide (orL [cmpE c, wchE (wl wa), wchE (wl wg)] = 0) = false := decide_eq_false hz
      rw [if_neg hz]
      have gs : (τ.set 1 (.mix (eRun run0)))[1]? = some (.mix (eRun run0)) := by rw [List.getElem?_set_self (get_lt t1)]
      have s0 := st33n (w := run0) t1 rfl
      refine ⟨τ.set 1 (.mix (eRun run0)), ?_⟩
      simp only [dz, guard_tt, guard_ff, guard_tf, guard_ft, guard_sk, obind, omap, pickV_true, pickV_false, condK_true, condK_false, decide_true, decide_false, Bool.not_true, Bool.not_false, not_bool, build33_0, n0, s0, cv33s gs]
  obtain ⟨σ', h⟩ := hF
  exact pureV_free (by simp [cmp_view, wt_view]) rfl (F13_call h) (thaw_run _ _ _ rfl)
/-! ### Equal runs -/
theorem S18 {a : Run} {σ : Store} (hs : (L a.st).length ≤ 1000) (hp : (L a.ps).length ≤ 1000) : pureV CC 18 [.agg (eRun a), .agg (eRun a)] σ = some (.p (.bool true)) := by
  have key : ∃ r, F18 guardT 0 (.agg (eRun a)) (.agg (eRun a)) [] = some (.p (.bool true), r) := by
    rw [F18_eq]
    simp only [box_run, guard_tt, guard_ff, guard_tf, guard_ft, guard_sk, obind, omap, pickV_true, pickV_false, condK_true, condK_false, decide_true, decide_false, Bool.not_true, Bool.not_false, not_bool, List.length_nil, List.nil_append, List.cons_append, List.length_cons, Nat.zero_add]
    have t0 : ([.mix (eRun a), .mix (eRun a)] : Store)[0]? = some (.mix (eRun a)) := rfl
    have t1 : ([.mix (eRun a), .mix (eRun a)] : Store)[1]? = some (.mix (eRun a)) := rfl
    generalize ([.mix (eRun a), .mix (eRun a)] : Store) = τ at *
    have h27 : pureV CC 27 [.p (ePs a.ps), .p (ePs a.ps)] τ = some (.p (.bool true)) := S27 (by omega)
    have h61 : pureV CC 61 [.p (eSl a.st), .p (eSl a.st)] τ = some (.p (.bool true)) := S61 rfl hs
    exact ⟨_, by simp only [fa33_0, fa33_1, shift_ptr, shift_pptr, Nat.zero_add, Nat.add_zero, pureFn_fn, List.append_nil, List.singleton_append, List.cons_append, List.nil_append, load22, load31, load1_ptr (off := 0) t0 rfl, load1_ptr (off := 0) t1 rfl, load1_ptr (off := 1) t0 rfl, load1_ptr (off := 1) t1 rfl, h61, guard_tt, guard_ff, guard_tf, guard_ft, guard_sk, obind, omap, pickV_true, pickV_false, condK_true, condK_false, decide_true, decide_false, Bool.not_true, Bool.not_false, not_bool, h27]; rfl⟩
  obtain ⟨r, h⟩ := key
  exact pureV_free (by simp [run_view]) rfl (F18_call h) rfl
theorem runV_sm {c : Cmp} {n : Nat} {p : List Int} (h : PFin n p) : (L (runV c p).st).length ≤ 1000 ∧ (L (runV c p).ps).length ≤ 1000 ∧ p ≠ [] := by
  obtain ⟨hl, s, r, rfl, h2, h3, h4⟩ := h
  have a := stsOf_len r h2
  have b := prsOf_len c s r h2
  simp only [List.length_cons] at hl
  refine ⟨?_, ?_, by simp⟩
  · show (s :: stsOf r).length ≤ 1000
    simp only [List.length_cons]; omega
  · show (prsOf c s r).length ≤ 1000
    omega
/-! ### The law -/
theorem prsOf_own (c : Cmp) : ∀ (s : Int) (r : List Int), prsOf (ownC c) s r = prsOf c s r
  | s, [] => rfl
  | s, [a] => rfl
  | s, i :: t :: r => by
    show (⟨i, outC (ownC c) s⟩ : Pr) :: prsOf (ownC c) t r = ⟨i, outC c s⟩ :: prsOf c t r
    rw [prsOf_own c t r]
    rfl
theorem runV_own (c : Cmp) (p : List Int) : runV (ownC c) p = runV c p := by
  match p with
  | [] => rfl
  | s :: r =>
    show (⟨some (s :: stsOf r), some (prsOf (ownC c) s r)⟩ : Run) = ⟨some (s :: stsOf r), some (prsOf c s r)⟩
    rw [prsOf_own]
theorem vio_own (c : Cmp) (wa wg : W3) : vioRes (ownC c) wa wg = vioRes c wa wg := by
  have h1 : ∀ (x : QE) (r k : Nat) (q : List QE), visVF (ownC c) wa wg x r k q = visVF c wa wg x r k q := by
    intro x r
    induction r with
    | zero => intro k q; rfl
    | succ r ih =>
      intro k q
      unfold visVF
      simp only [ih]
      rfl
  have h2 : visV (ownC c) wa wg = visV c wa wg := by
    funext x q
    exact h1 x _ 0 q
  have h4 : viRes (ownC c) wa wg = viRes c wa wg := by unfold viRes; rw [h2]; rfl
  unfold vioRes
  rw [h4]
  simp only [runV_own]
  rfl
theorem law3 (hawake : ∀ σ, pureV CC 10 [] σ = some (.p (.bool true))) (c : Cmp) (wa wg : OW) : ∃ σ', F3 guardT 0 (.agg (eCmp c)) (.p (eWt wa)) (.p (eWt wg)) [] = some (.p (.bool true), σ') := by
  rw [F3_eq]
  have t0 : ([.mix (eCmp c)] : Store)[0]? = some (.mix (eCmp c)) := rfl
  have hl1 : ([.mix (eCmp c)] : Store).length = 1 := rfl
  simp only [box_cmp, guard_tt, guard_ff, guard_tf, guard_ft, guard_sk, obind, omap, pickV_true, pickV_false, condK_true, condK_false, decide_true, decide_false, Bool.not_true, Bool.not_false, not_bool, List.length_nil, List.nil_append]
  generalize ([.mix (eCmp c)] : Store) = τ at *
  simp only [shift_ptr, shift_pptr, Nat.zero_add, Nat.add_zero, pureFn_fn, List.append_nil, List.singleton_append, List.cons_append, List.nil_append, hawake, guard_tt, guard_ff, guard_tf, guard_ft, guard_sk, obind, omap, pickV_true, pickV_false, condK_true, condK_false, decide_true, decide_false, Bool.not_true, Bool.not_false, not_bool, load25, cm_all t0, S11]
  cases hfew : fewC c with
  | false => exact ⟨_, by simp only [guard_tt, guard_ff, guard_tf, guard_ft, guard_sk, obind, omap, pickV_true, pickV_false, condK_true, condK_false, decide_true, decide_false, Bool.not_true, Bool.not_false, not_bool]; rfl⟩
  | true =>
    have hc := csm_of hfew
    cases hsa : smallW wa with
    | false => exact ⟨_, by simp only [guard_tt, guard_ff, guard_tf, guard_ft, guard_sk, obind, omap, pickV_true, pickV_false, condK_true, condK_false, decide_true, decide_false, Bool.not_true, Bool.not_false, not_bool, S12, hsa, shift_ptr, shift_pptr, Nat.zero_add, Nat.add_zero, pureFn_fn, List.append_nil, List.singleton_append, List.cons_append, List.nil_append]; rfl⟩
    | true =>
      have ha := wsm_of hsa
      cases hsg : smallW wg with
      | false => exact ⟨_, by simp only [guard_tt, guard_ff, guard_tf, guard_ft, guard_sk, obind, omap, pickV_true, pickV_false, condK_true, condK_false, decide_true, decide_false, Bool.not_true, Bool.not_false, not_bool, S12, hsa, hsg, shift_ptr, shift_pptr, Nat.zero_add, Nat.add_zero, pureFn_fn, List.append_nil, List.singleton_append, List.cons_append, List.nil_append]; rfl⟩
      | true =>
        have hg := wsm_of hsg
        have n1 := fun (w : Run) => RnV.storeNew (lo := 0) (cs := eRun w) (z := [.p .nilsl, .p .nilsl]) s33 τ rfl rfl rfl (Nat.zero_le _)
        have g0 : ∀ w : Run, (τ ++ [Row.mix (eRun w)])[0]? = some (.mix (eCmp c)) := fun w => get_old t0
        have g1 : ∀ w : Run, (τ ++ [Row.mix (eRun w)])[1]? = some (.mix (eRun w)) := fun w => by rw [← hl1]; exact get_snoc
        rw [hl1] at n1
        have hr0 : ∀ σ, pureV CC 18 [.agg (eRun run0), .agg (eRun run0)] σ = some (.p (.bool true)) := fun σ => S18 (by decide) (by decide)
        have n0 : (.agg [.p .nilsl, .p .nilsl] : DV) = .agg (eRun run0) := rfl
        simp only [guard_tt, guard_ff, guard_tf, guard_ft, guard_sk, obind, omap, pickV_true, pickV_false, condK_true, condK_false, decide_true, decide_false, Bool.not_true, Bool.not_false, not_bool, S12, hsa, hsg, shift_ptr, shift_pptr, Nat.zero_add, Nat.add_zero, pureFn_fn, List.append_nil, List.singleton_append, List.cons_append, List.nil_append, S14 hc, S15 ha, S15 hg, S13 (csm_own hc) (wsm_own ha) (wsm_own hg), wl_own, vio_own, ex0, ex1, zero33, hl1, n1, load25, cm_all t0, cm_all (g0 _), S16 hc]
        have hw : ∀ ρ : Store, ρ[0]? = some (.mix (eCmp c)) → ρ[1]? = some (.mix (eRun (vioRes c (wl wa) (wl wg)).1)) → ∀ e : Int, e = orL [cmpE c, wchE (wl wa), wchE (wl wg)] → ∀ x12 x13 x14 x15 x16 x17 x18 x19 x20 x21 x22 x23 x24 x25 x26 x27 x28 x29 x30 x31 x32 x33 x34 x35 x36 x37 x38 x39 x40 x41 x42 x43 x44 x45 x46 : DV, ∃ σ', f3_J1 guardT 0 (.agg (eCmp c)) (.p (eWt wa)) (.p (eWt wg)) (.ptr 0 0) (.p (.bool false)) (.ptr 1 0) (.p (pI (vioRes c (wl wa) (wl wg)).2)) (.p (pI e)) x12 x13 x14 x15 x16 x17 x18 x19 x20 x21 x22 x23 x24 x25 x26 x27 x28 x29 x30 x31 x32 x33 x34 x35 x36 x37 x38 x39 x40 x41 x42 x43 x44 x45 x46 ρ = some (.p (.bool true), σ') := by
          intro ρ r0 r1 e he x12 x13 x14 x15 x16 x17 x18 x19 x20 x21 x22 x23 x24 x25 x26 x27 x28 x29 x30 x31 x32 x33 x34 x35 x36 x37 x38 x39 x40 x41 x42 x43 x44 x45 x46
          rw [f3_J1_eq]
          by_cases hz : e = 0
          · have hz2 : orL [cmpE c, wchE (wl wa), wchE (wl wg)] = 0 := by rw [← he]; exact hz
            obtain ⟨z1, z2, z3⟩ := orL3 hz2
            have h19 := fun σ => S19 (σ := σ) (cok_of hc z1) (wok_of z2) (wok_of z3)
            have hvr : vioRes c (wl wa) (wl wg) = match viRes c (wl wa) (wl wg) with | none => (run0, 25) | some p => if (L (runV c p).ps).length > 60 then (run0, 2) else (runV c p, 0) := by
              unfold vioRes
              rw [if_pos hz2]
            cases hv : viRes c (wl wa) (wl wg) with
            | none =>
              have hvr : vioRes c (wl wa) (wl wg) = (run0, 25) := by rw [hvr, hv]
              rw [hv] at h19
              have h19 : ∀ σ, pureV CC 19 [.agg (eCmp c), .p (eWt wa), .p (eWt wg)] σ = some (.tuple [.agg (eRun run0), .p (.bool false)]) := h19
              rw [hvr, hz]
              have n2 := RnV.storeNew (lo := 0) (cs := eRun run0) (z := [.p .nilsl, .p .nilsl]) s33 ρ rfl rfl rfl (Nat.zero_le _)
              rw [hvr] at r1
              have g2 := get_old (r := .mix (eRun run0)) r1
              exact ⟨_, by simp only [b_lss, b_eql, b_neq, b_leq, b_geq, b_gtr, guard_tt, guard_ff, guard_tf, guard_ft, guard_sk, obind, omap, pickV_true, pickV_false, condK_true, condK_false, decide_true, decide_false, Bool.not_true, Bool.not_false, not_bool, load25, cm_all r0, shift_ptr, shift_pptr, Nat.zero_add, Nat.add_zero, pureFn_fn, List.append_nil, List.singleton_append, List.cons_append, List.nil_append, h19, ex0, ex1, zero33, n2, load33, loadN_ptr (off := 0) (n := 2) (vs := eRun run0) g2 rfl (by simp [eRun]), build33_0, n0, hr0]; rfl⟩
            | some p =>
              rw [hv] at h19 hvr
              have hfin := runV_sm (c := c) (bfsV_ok (cok_of hc z1) (wok_of z2) (wok_of z3) _ _ _ (iv0 (cok_of hc z1) (wok_of z2) (wok_of z3)) hv)
              have n2 := RnV.storeNew (lo := 0) (cs := eRun (runV c p)) (z := [.p .nilsl, .p .nilsl]) s33 ρ rfl rfl rfl (Nat.zero_le _)
              have gR : (ρ ++ [Row.mix (eRun (runV c p))])[ρ.length]? = some (.mix (eRun (runV c p))) := get_snoc
              have g2 := get_old (r := .mix (eRun (runV c p))) r1
              by_cases h60 : (L (runV c p).ps).length > 60
              · have h60' : ((L (runV c p).ps).length : Int) > 60 := by omega
                have hvr : vioRes c (wl wa) (wl wg) = (run0, 2) := by rw [hvr]; exact if_pos h60
                rw [hvr] at g2
                rw [hvr, hz]
                exact ⟨_, by simp only [b_lss, b_eql, b_neq, b_leq, b_geq, b_gtr, guard_tt, guard_ff, guard_tf, guard_ft, guard_sk, obind, omap, pickV_true, pickV_false, condK_true, condK_false, decide_true, decide_false, Bool.not_true, Bool.not_false, not_bool, load25, cm_all r0, shift_ptr, shift_pptr, Nat.zero_add, Nat.add_zero, pureFn_fn, List.append_nil, List.singleton_append, List.cons_append, List.nil_append, h19, ex0, ex1, zero33, n2, fa33_1, load31, load1_ptr (off := 1) gR rfl, len31, h60', load33, loadN_ptr (off := 0) (n := 2) (vs := eRun run0) g2 rfl (by simp [eRun]), build33_0, n0, hr0]; rfl⟩
              · have h60' : ¬ ((L (runV c p).ps).length : Int) > 60 := by omega
                have hvr : vioRes c (wl wa) (wl wg) = (runV c p, 0) := by rw [hvr]; exact if_neg h60
                rw [hvr] at g2
                rw [hvr, hz]
                exact ⟨_, by simp only [b_lss, b_eql, b_neq, b_leq, b_geq, b_gtr, guard_tt, guard_ff, guard_tf, guard_ft, guard_sk, obind, omap, pickV_true, pickV_false, condK_true, condK_false, decide_true, decide_false, Bool.not_true, Bool.not_false, not_bool, load25, cm_all r0, shift_ptr, shift_pptr, Nat.zero_add, Nat.add_zero, pureFn_fn, List.append_nil, List.singleton_append, List.cons_append, List.nil_append, h19, ex0, ex1, zero33, n2, fa33_1, load31, load1_ptr (off := 1) gR rfl, len31, h60', load33, loadN_ptr (off := 0) (n := 2) (vs := eRun (runV c p)) g2 rfl (by simp [eRun]), loadN_ptr (off := 0) (n := 2) (vs := eRun (runV c p)) gR rfl (by simp [eRun]), S18 hfin.1 hfin.2.1]; rfl⟩
          · have hz2 : ¬ orL [cmpE c, wchE (wl wa), wchE (wl wg)] = 0 := by rw [← he]; exact hz
            have hvr : vioRes c (wl wa) (wl wg) = (run0, e) := by unfold vioRes; rw [if_neg hz2, ← he]
            rw [hvr] at r1
            rw [hvr]
            have g1' := r1
            exact ⟨_, by simp only [b_lss, b_eql, b_neq, b_leq, b_geq, b_gtr, guard_tt, guard_ff, guard_tf, guard_ft, guard_sk, obind, omap, pickV_true, pickV_false, condK_true, condK_false, decide_true, decide_false, Bool.not_true, Bool.not_false, not_bool, hz, load33, loadN_ptr (off := 0) (n := 2) (vs := eRun run0) g1' rfl (by simp [eRun]), build33_0, n0, hr0, shift_ptr, shift_pptr, Nat.zero_add, Nat.add_zero, pureFn_fn, List.append_nil, List.singleton_append, List.cons_append, List.nil_append]; rfl⟩
        have hj0 : ∀ ρ : Store, ρ[0]? = some (.mix (eCmp c)) → ρ[1]? = some (.mix (eRun (vioRes c (wl wa) (wl wg)).1)) → ∀ e : Int, e = orL [cmpE c, wchE (wl wa)] → ∀ x12 x13 x14 x15 x16 x17 x18 x19 x20 x21 x22 x23 x24 x25 x26 x27 x28 x29 x30 x31 x32 x33 x34 x35 x36 x37 x38 x39 x40 x41 x42 : DV, ∃ σ', f3_J0 guardT 0 (.agg (eCmp c)) (.p (eWt wa)) (.p (eWt wg)) (.ptr 0 0) (.p (.bool false)) (.ptr 1 0) (.p (pI (vioRes c (wl wa) (wl wg)).2)) (.p (pI e)) x12 x13 x14 x15 x16 x17 x18 x19 x20 x21 x22 x23 x24 x25 x26 x27 x28 x29 x30 x31 x32 x33 x34 x35 x36 x37 x38 x39 x40 x41 x42 ρ = some (.p (.bool true), σ') := by
          intro ρ r0 r1 e he x12 x13 x14 x15 x16 x17 x18 x19 x20 x21 x22 x23 x24 x25 x26 x27 x28 x29 x30 x31 x32 x33 x34 x35 x36 x37 x38 x39 x40 x41 x42
          rw [f3_J0_eq]
          have ho : orL [cmpE c, wchE (wl wa), wchE (wl wg)] = if e = 0 then wchE (wl wg) else e := by
            have := orL_app [cmpE c, wchE (wl wa)] [wchE (wl wg)]
            rw [← he] at this
            refine this.trans ?_
            by_cases h : e = 0
            · rw [if_pos h, if_pos h, orL_cons]
              by_cases h2 : wchE (wl wg) = 0
              · rw [if_pos h2, h2]; rfl
              · rw [if_neg h2]
            · rw [if_neg h, if_neg h]
          by_cases hz : e = 0
          · rw [if_pos hz] at ho
            simp only [b_lss, b_eql, b_neq, b_leq, b_geq, b_gtr, hz, guard_tt, guard_ff, guard_tf, guard_ft, guard_sk, obind, omap, pickV_true, pickV_false, condK_true, condK_false, decide_true, decide_false, Bool.not_true, Bool.not_false, not_bool, shift_ptr, shift_pptr, Nat.zero_add, Nat.add_zero, pureFn_fn, List.append_nil, List.singleton_append, List.cons_append, List.nil_append, S17 hg]
            exact hw ρ r0 r1 _ ho.symm _ _ _ _ _ _ _ _ _ _ _ _ _ _ _ _ _ _ _ _ _ _ _ _ _ _ _ _ _ _ _ _ _ _ _
          · rw [if_neg hz] at ho
            simp only [b_lss, b_eql, b_neq, b_leq, b_geq, b_gtr, hz, guard_tt, guard_ff, guard_tf, guard_ft, guard_sk, obind, omap, pickV_true, pickV_false, condK_true, condK_false, decide_true, decide_false, Bool.not_true, Bool.not_false, not_bool]
            exact hw ρ r0 r1 _ ho.symm _ _ _ _ _ _ _ _ _ _ _ _ _ _ _ _ _ _ _ _ _ _ _ _ _ _ _ _ _ _ _ _ _ _ _
        by_cases hz : cmpE c = 0
        · simp only [b_lss, b_eql, b_neq, b_leq, b_geq, b_gtr, hz, guard_tt, guard_ff, guard_tf, guard_ft, guard_sk, obind, omap, pickV_true, pickV_false, condK_true, condK_false, decide_true, decide_false, Bool.not_true, Bool.not_false, not_bool, shift_ptr, shift_pptr, Nat.zero_add, Nat.add_zero, pureFn_fn, List.append_nil, List.singleton_append, List.cons_append, List.nil_append, S17 ha]
          refine hj0 _ (g0 _) (g1 _) _ ?_ _ _ _ _ _ _ _ _ _ _ _ _ _ _ _ _ _ _ _ _ _ _ _ _ _ _ _ _ _ _ _
          rw [orL_cons, if_pos hz, orL_cons]
          by_cases h2 : wchE (wl wa) = 0
          · rw [if_pos h2, h2]; rfl
          · rw [if_neg h2]
        · simp only [b_lss, b_eql, b_neq, b_leq, b_geq, b_gtr, hz, guard_tt, guard_ff, guard_tf, guard_ft, guard_sk, obind, omap, pickV_true, pickV_false, condK_true, condK_false, decide_true, decide_false, Bool.not_true, Bool.not_false, not_bool]
          refine hj0 _ (g0 _) (g1 _) _ ?_ _ _ _ _ _ _ _ _ _ _ _ _ _ _ _ _ _ _ _ _ _ _ _ _ _ _ _ _ _ _ _
          rw [orL_cons, if_neg hz]
theorem call3 (hawake : ∀ σ, pureV CC 10 [] σ = some (.p (.bool true))) (c : Cmp) (wa wg : OW) : ∃ σ', CC 0 3 [.agg (eCmp c), .p (eWt wa), .p (eWt wg)] [] = some (.p (.bool true), σ') := by
  obtain ⟨σ', h⟩ := law3 hawake c wa wg
  exact ⟨σ', F3_call h⟩
end Go.D
end
/- OpenViolations: for every component and all two watches the law answers true and leaves its arguments as they were: the given statement, without conditions. -/
section
set_option linter.unusedVariables false
set_option linter.unusedSimpArgs false
set_option maxRecDepth 100000
namespace Go.D
open Go.ChangeShapes Go.WideShapes Go.ChangeAt Go.RowKit

theorem openViolations_calls (hawake : Awake) {H : Type} {enc : TypeId × Value → H} {W : World} {base : Nat} {args : Array Value} {ds : List (DataW H)} {ps : List MemPlace}
    (hval : ∀ (j : Nat) t v, ([25, 27, 27] : List TypeId).toArray[j]? = some t → args[j]? = some v → Value.okWide PP W .any base t v)
    (hA : DataW.TrodAll enc PP W 0 (fun _ => true) true [25, 27, 27] args.toList ds ps) :
    Calls PP 3 args W fun e W' => e = .returned (.bool true) ∧ Below W.heap.size W W' := by
  obtain ⟨v0, v1, v2, d0, d1, d2, p0, p1, p2, rfl, rfl, rfl, h0, h1, h2⟩ := trodAll_three hA
  obtain ⟨o0, ho0⟩ := read_cmp (hval 0 25 v0 rfl rfl) h0
  obtain ⟨o1, ho1⟩ := read_wt (hval 1 27 v1 rfl rfl) h1
  obtain ⟨o2, ho2⟩ := read_wt (hval 2 27 v2 rfl rfl) h2
  obtain ⟨σ', hc⟩ := call3 hawake o0 o1 o2
  refine calls_of hc ⟨rfl, fun j h1 h2 => ?_⟩
  match j, h1 with
  | 0, _ => exact ho0
  | 1, _ => exact ho1
  | 2, _ => exact ho2

end Go.D
namespace Go.Proofs.Ythddgnfaaccgjaa
open Go.D Go.ChangeShapes Go.WideShapes Go.ChangeAt Go.RowKit

set_option maxRecDepth 100000 in
theorem openViolations_lifted (hawake : Awake) (os : Os) (started : os.Started) (H : Type) (enc : TypeId × Value → H) :
    ReturnsInHanded {} Try.checked os 3 .any (Rows.openViolationsSpec.pre6 enc Try.prog Try.f3 Rows.openViolationsRow.domain false) (Rows.openViolationsSpec.post enc Try.prog Try.f3 false true false false) := by
  refine returnsInHanded_of_change_sized (C := Try.checked) own_ok started (by kernel_rfl) Try.func3
    (ChangeSpec.witness6 (enc := enc) (C := Try.checked) false ⟨#[], #[.agg #[.int .i64 0, .slice none 0 0, .slice none 0 0, .slice none 0 0], .slice none 0 0, .slice none 0 0], []⟩ 8 (by kernel_rfl) (by kernel_rfl) (by kernel_rfl) (by kernel_rfl)) ?_
  intro W base args ds gs before hval0 hW _ hsz0 _
  have hval : ∀ (j : Nat) t v, Try.f3.params[j]? = some t → args[j]? = some v → Value.okWide Try.prog W .any base t v := hval0
  have hW' := hW
  obtain ⟨p, q, hA0, hV, rfl, _, _⟩ := hW
  have hA : DataW.TrodAll enc Try.prog W 0 (fun _ => true) true Try.f3.params.toList args.toList ds p := hA0
  rw [Try.params3] at hA hval
  have hA2 := hA
  obtain ⟨v0, v1, v2, d0, d1, d2, p0, p1, p2, rfl, rfl, rfl, h0, h1, h2⟩ := trodAll_three hA
  obtain ⟨rfl, rfl⟩ := trodVars_none hV
  have hlt : ∀ x ∈ p0 ++ p1 ++ p2, x.block < W.heap.size := fun x hx => by
    have := hW'.lt x (by simpa using hx)
    exact this
  have e0 : ∀ x ∈ p0, x.block < W.heap.size := fun x hx => hlt x (List.mem_append_left _ (List.mem_append_left _ hx))
  have e1 : ∀ x ∈ p1, x.block < W.heap.size := fun x hx => hlt x (List.mem_append_left _ (List.mem_append_right _ hx))
  have e2 : ∀ x ∈ p2, x.block < W.heap.size := fun x hx => hlt x (List.mem_append_right _ hx)
  refine (openViolations_calls hawake (base := base) hval hA2).mono ?_
  rintro e W2 ⟨rfl, hnx⟩
  refine ⟨_, rfl, _, _, _, [], p0 ++ (p1 ++ p2), [], hW', ?_, ?_, rfl, hnx.frame _, fun h => by cases h⟩
  · exact trodAll_mk1 (shut_bool ul4 true)
  · exact trodAll_mk3 (Below.trod laidOut_ok (by kernel_rfl) (of_decide_eq_true (by kernel_rfl)) h0 hnx e0) (Below.trod laidOut_ok (by kernel_rfl) (of_decide_eq_true (by kernel_rfl)) h1 hnx e1) (Below.trod laidOut_ok (by kernel_rfl) (of_decide_eq_true (by kernel_rfl)) h2 hnx e2)

theorem openViolations_holds : Rows.OpenViolationsSaid :=
  OpenClaim.holds_of_wide 3 Try.f3 rfl rfl rfl rfl rfl rfl rfl ⟨rfl, rfl, rfl, rfl, rfl⟩ rfl rfl rfl rfl rfl (by kernel_rfl) Try.func3 (by kernel_rfl)
    (of_decide_eq_true (by kernel_rfl)) (by unfold Func.isWrapper; first | (rw [if_pos (by decide +kernel)]; kernel_rfl) | (rw [if_neg (by decide +kernel)]; exact ⟨rfl, rfl⟩))
    (fun os started H enc _ => openViolations_lifted awake_true os started H enc)

end Go.Proofs.Ythddgnfaaccgjaa
end
