/- OpenViolates: for every component, all two watches and every run the law answers true and leaves its arguments as they were: the given statement, without conditions. -/
import Derived.Test.YthddgnfaaccgjaaPh
import Derived.Test.YthddgnfaaccgjaaPg
/- Violations: the reference's second pass, both answers. -/
section
set_option linter.unusedVariables false
set_option linter.unusedSimpArgs false
namespace Go.D
theorem build112 (a b : PV) (x y : Int) : build PP 112 [(0, .agg [.p a, .p b]), (1, .p (pI x)), (2, .p (pI y))] = some (.agg [.p a, .p b, .p (pI x), .p (pI y)]) := Eq.trans (by kernel_rfl) rfl
theorem build112a (a b : PV) : build PP 112 [(0, .agg [.p a, .p b])] = some (.agg [.p a, .p b, .p (pI 0), .p (pI 0)]) := Eq.trans (by kernel_rfl) rfl
theorem bs110 (a b : PV) (x y : Int) (σ : Store) : buildSlice PP none 110 1 [(0, .agg [.p a, .p b, .p (pI x), .p (pI y)])] σ = some (.p (.sl true 1 [a, b, pI x, pI y]), σ) := Eq.trans (by kernel_rfl) rfl
section
variable {c : Cmp} {n : Nat} {wa wg : OW} (hc : COk c n) (ha : WOk (wl wa) (wl wa).length) (hg : WOk (wl wg) (wl wg).length)
include hc ha hg
omit hc ha hg in
theorem push110 {σ : Store} {q : List QE} {x8 : DV} {y : QE} (hS : Seen c σ q x8) (hql : q.length ≤ 100000) : ∃ x' σ', append PP 0 false 110 110 x8 (.p (.sl true 1 [eSl (runS c y.p).st, ePs (runS c y.p).ps, pI (y.n.getD 1 0), pI (y.n.getD 2 0)])) σ = some (x', σ') ∧ Seen c σ' (q ++ [y]) x' ∧
    ∀ (j : Nat) (row : Row), (∀ v, row ≠ .tok v) → σ[j]? = some row → σ'[j]? = some row := by
  obtain ⟨cs, g1, g2⟩ := hS
  obtain ⟨r, v, σ', e1, e2, _, _, _, _, e3⟩ := g1.push (t := 110) (lo := 0) (m := 1) (vs := vsE c y) src110 u110 s112 bytes112 zero112 rfl (by decide) (by decide) (by decide) rfl (by decide) (by decide) (by omega) (Nat.zero_le _) (Nat.zero_le _)
  refine ⟨_, σ', e1, ⟨cs ++ vsE c y, ?_, ?_⟩, e3⟩
  · rw [List.length_append]; exact e2
  · rw [loosens_app, g2, loosens_vsE, vsP_app]; simp [vsP]
/-- The second pass, at one element. -/
theorem L19_5 {i to : Nat} {x : QE} {q0 : List QE} (hxi : q0[i]? = some x) : ∀ (r k : Nat) (q : List QE) (x8 : DV) (σ : Store), (L c.mv).length - k = r → k ≤ (L c.mv).length → violF c (wl wg) x r k = none → q0 <+: q → IV n (wl wa) (wl wg) q → Seen c σ q x8 → σ[0]? = some (.mix (eCmp c)) → σ[1]? = some (.mix [.p .nilsl, .p .nilsl]) →
    ∃ x8' σ', Seen c σ' (addsF c (wl wa) (wl wg) x r k q) x8' ∧ IV n (wl wa) (wl wg) (addsF c (wl wa) (wl wg) x r k q) ∧ σ'[0]? = some (.mix (eCmp c)) ∧ σ'[1]? = some (.mix [.p .nilsl, .p .nilsl]) ∧
      f19_L5 guardT 0 (.p (eWt wa)) (.p (eWt wg)) (.ptr 0 0) (.ptr 1 0) x8 (.p (pI (to : Nat))) (.p (pI (i : Nat))) (.p (pI (k : Nat))) σ = f19_L4 guardT 0 (.p (eWt wa)) (.p (eWt wg)) (.ptr 0 0) (.ptr 1 0) x8' (.p (pI (to : Nat))) (.p (pI (i + 1 : Nat))) σ'
  | 0, k, q, x8, σ, hk, hkl, hv, hpre, hI, hS, h0, h1 => by
    have hn : ¬ (k : Int) < ((L c.mv).length : Nat) := by omega
    have hi := (List.getElem?_eq_some_iff.1 hxi).1
    have hql := hI.le hc.n10 ha hg
    have := hpre.length_le
    refine ⟨x8, σ, hS, hI, h0, h1, ?_⟩
    rw [f19_L5_eq guardT rfl]
    simp only [fa25_3, shift_ptr, shift_pptr, Nat.zero_add, Nat.add_zero, pureFn_fn, List.append_nil, List.singleton_append, List.cons_append, List.nil_append, load23, load1_ptr (off := 3) h0 rfl, len23, b_lss, b_eql, b_neq, b_leq, b_geq, b_gtr, hn, guard_tt, guard_ff, guard_tf, guard_ft, guard_sk, obind, omap, pickV_true, pickV_false, condK_true, condK_false, decide_true, decide_false, Bool.not_true, Bool.not_false, not_bool, b_add, wrap_succ (show i ≤ 1000000 by omega)]
  | r + 1, k, q, x8, σ, hk, hkl, hv, hpre, hI, hS, h0, h1 => by
    have hm60 := hc.m60
    have hkk : k < (L c.mv).length := by omega
    have h' : (k : Int) < ((L c.mv).length : Nat) := by omega
    have hxi' : q[i]? = some x := by
      obtain ⟨t, rfl⟩ := hpre
      rw [List.getElem?_append_left (List.getElem?_eq_some_iff.1 hxi).1, hxi]
    have hm := List.mem_of_getElem? hxi'
    have hx := hI.ok x hm
    have hpx := hI.pp x hm
    have hql := hI.le hc.n10 ha hg
    have hpl := hI.pl x hm
    have hp := vpr_ok hc hkk
    obtain ⟨hef, hea, het⟩ := hc.ml _ (List.getElem_mem hkk)
    rw [← getD_at default hkk] at hef hea het
    have hof : ((L c.mv).getD k default).f.toNat < (L c.out).length := by rw [hc.o]; omega
    obtain ⟨cs, v0, v1, i1, i2, i3, i4, i5, i6⟩ := hS.at hxi'
    unfold violF at hv
    unfold addsF
    have hmv : mvD c k = (L c.mv).getD k default := rfl
    rw [hmv] at hv ⊢
    generalize hE : (L c.mv).getD k default = e at *
    have hld106 : (loadN σ 3 (.pptr (eEdgs (L c.mv)) (k * 3))).map DV.agg = some (.agg (edgD e)) := by rw [load106_D hkk, hE]
    have n1 := RnV.storeNew (lo := 0) (cs := edgD e) (z := [.p (pI 0), .p (pI 0), .p (pI 0)]) s106 σ rfl rfl rfl (Nat.zero_le _)
    have gE : (σ ++ [Row.mix (edgD e)])[σ.length]? = some (.mix (edgD e)) := get_snoc
    have g0 : (σ ++ [Row.mix (edgD e)])[0]? = some (.mix (eCmp c)) := get_old h0
    have g1 : (σ ++ [Row.mix (edgD e)])[1]? = some (.mix [.p .nilsl, .p .nilsl]) := get_old h1
    have hS1 := hS.snoc (.mix (edgD e))
    have s1 := S62 (σ := σ ++ [Row.mix (edgD e)]) (a := x.n.getD 1 0) (g := x.n.getD 2 0) i2 hpx (by omega)
    have hJ : ∀ (x8' : DV) (σ'' : Store), f19_J0 guardT 0 (.p (eWt wa)) (.p (eWt wg)) (.ptr 0 0) (.ptr 1 0) x8' (.p (pI (to : Nat))) (.p (pI (i : Nat))) (.p (pI (k : Nat))) σ'' = f19_L5 guardT 0 (.p (eWt wa)) (.p (eWt wg)) (.ptr 0 0) (.ptr 1 0) x8' (.p (pI (to : Nat))) (.p (pI (i : Nat))) (.p (pI (k + 1 : Nat))) σ'' := by
      intro x8' σ''
      rw [f19_J0_eq]
      simp only [b_add, wrap_succ (show k ≤ 1000000 by omega), guard_tt, guard_ff, guard_tf, guard_ft, guard_sk, obind, omap, pickV_true, pickV_false, condK_true, condK_false, decide_true, decide_false, Bool.not_true, Bool.not_false, not_bool]
    obtain ⟨r1, r2, r3, r4, r5, r6⟩ := rdP hg hx.g hp
    obtain ⟨a1, a2, a3, a4, a5, a6⟩ := rdP ha hx.a hp
    have hpi : (vpr c e).i = e.t := rfl
    have hpo : (vpr c e).o = (L c.out).getD e.f.toNat 0 := rfl
    rw [hpi] at r3 r4 r5 r6 a3 a4 a5 a6
    rw [hpo] at r5 r6 a5 a6
    by_cases hfe : e.f = x.n.getD 0 0
    · rw [if_pos hfe]
      have dfe : decide (e.f = x.n.getD 0 0) = true := decide_eq_true hfe
      have hbk : nextW (wl wg) (x.n.getD 2 0) (vpr c e) ≠ -1 := by
        intro h
        rw [if_pos ⟨hfe, h⟩] at hv
        exact absurd hv (by simp)
      rw [if_neg (fun h => hbk h.2)] at hv
      have s3 := S63 (σ := σ ++ [Row.mix (edgD e)]) hc i2 hpx (by omega) hfe hef
      have l106 : loadN (σ ++ [Row.mix (edgD e)]) 3 (.ptr σ.length 0) = some (edgD e) := loadN_ptr gE rfl (by simp [edgD])
      have n2 := RnV.storeNew (lo := 0) (cs := [.p (eSl (runS c (x.p ++ [e.t, e.a])).st), .p (ePs (runS c (x.p ++ [e.t, e.a])).ps), .p (pI (nextW (wl wa) (x.n.getD 1 0) (vpr c e))), .p (pI (nextW (wl wg) (x.n.getD 2 0) (vpr c e)))]) (z := [.p .nilsl, .p .nilsl, .p (pI 0), .p (pI 0)]) s112 (σ ++ [Row.mix (edgD e)]) rfl rfl rfl (Nat.zero_le _)
      have gY : ((σ ++ [Row.mix (edgD e)]) ++ [Row.mix [.p (eSl (runS c (x.p ++ [e.t, e.a])).st), .p (ePs (runS c (x.p ++ [e.t, e.a])).ps), .p (pI (nextW (wl wa) (x.n.getD 1 0) (vpr c e))), .p (pI (nextW (wl wg) (x.n.getD 2 0) (vpr c e)))]])[(σ ++ [Row.mix (edgD e)]).length]? = some (.mix [.p (eSl (runS c (x.p ++ [e.t, e.a])).st), .p (ePs (runS c (x.p ++ [e.t, e.a])).ps), .p (pI (nextW (wl wa) (x.n.getD 1 0) (vpr c e))), .p (pI (nextW (wl wg) (x.n.getD 2 0) (vpr c e)))]) := get_snoc
      have y0 := get_old (r := .mix [.p (eSl (runS c (x.p ++ [e.t, e.a])).st), .p (ePs (runS c (x.p ++ [e.t, e.a])).ps), .p (pI (nextW (wl wa) (x.n.getD 1 0) (vpr c e))), .p (pI (nextW (wl wg) (x.n.getD 2 0) (vpr c e)))]) g0
      have y1 := get_old (r := .mix [.p (eSl (runS c (x.p ++ [e.t, e.a])).st), .p (ePs (runS c (x.p ++ [e.t, e.a])).ps), .p (pI (nextW (wl wa) (x.n.getD 1 0) (vpr c e))), .p (pI (nextW (wl wg) (x.n.getD 2 0) (vpr c e)))]) g1
      have hS2 := hS1.snoc (.mix [.p (eSl (runS c (x.p ++ [e.t, e.a])).st), .p (ePs (runS c (x.p ++ [e.t, e.a])).ps), .p (pI (nextW (wl wa) (x.n.getD 1 0) (vpr c e))), .p (pI (nextW (wl wg) (x.n.getD 2 0) (vpr c e)))])
      have l112 : loadN ((σ ++ [Row.mix (edgD e)]) ++ [Row.mix [.p (eSl (runS c (x.p ++ [e.t, e.a])).st), .p (ePs (runS c (x.p ++ [e.t, e.a])).ps), .p (pI (nextW (wl wa) (x.n.getD 1 0) (vpr c e))), .p (pI (nextW (wl wg) (x.n.getD 2 0) (vpr c e)))]]) 4 (.ptr (σ ++ [Row.mix (edgD e)]).length 0) = some [.p (eSl (runS c (x.p ++ [e.t, e.a])).st), .p (ePs (runS c (x.p ++ [e.t, e.a])).ps), .p (pI (nextW (wl wa) (x.n.getD 1 0) (vpr c e))), .p (pI (nextW (wl wg) (x.n.getD 2 0) (vpr c e)))] := loadN_ptr gY rfl (by simp)
      have lY2 : load1 (.ptr (σ ++ [Row.mix (edgD e)]).length 2) ((σ ++ [Row.mix (edgD e)]) ++ [Row.mix [.p (eSl (runS c (x.p ++ [e.t, e.a])).st), .p (ePs (runS c (x.p ++ [e.t, e.a])).ps), .p (pI (nextW (wl wa) (x.n.getD 1 0) (vpr c e))), .p (pI (nextW (wl wg) (x.n.getD 2 0) (vpr c e)))]]) = some (.p (pI (nextW (wl wa) (x.n.getD 1 0) (vpr c e)))) := load1_ptr gY rfl
      generalize hZ : (σ ++ [Row.mix (edgD e)]).length = Z at *
      generalize hτ : (σ ++ [Row.mix (edgD e)]) ++ [Row.mix [.p (eSl (runS c (x.p ++ [e.t, e.a])).st), .p (ePs (runS c (x.p ++ [e.t, e.a])).ps), .p (pI (nextW (wl wa) (x.n.getD 1 0) (vpr c e))), .p (pI (nextW (wl wg) (x.n.getD 2 0) (vpr c e)))]] = τ at *
      have head : ∀ R, ((binOp PP .neq 3 (.p (pI (nextW (wl wa) (x.n.getD 1 0) (vpr c e)))) (.p (.int .i64 (-1)))).bind fun x177 =>
          guardT _ x177 true (some (x8, τ)) τ fun x179 σ29 =>
          guardT _ x177 true ((load PP 112 (.ptr Z 0) σ29).bind fun v => some (v, σ29)) σ29 fun x180 σ30 =>
          guardT _ x177 true ((pureFn CC (.fn 64 []) [x179, x180] σ30).bind fun v => some (v, σ30)) σ30 fun x181 σ31 =>
          guardT _ x177 true ((unOp .not x181).bind fun v => some (v, σ31)) σ31 fun x182 σ32 =>
          (pickV x177 x182 (.p (.bool false))).bind fun x183 => condK x183
            ((load PP 112 (.ptr Z 0) σ32).bind fun x185 => (buildSlice PP none 110 1 [(0, x185)] σ32).bind fun r186 => (append PP 0 false 110 110 x8 r186.1 r186.2).bind fun r187 => f19_L5 guardT 0 (.p (eWt wa)) (.p (eWt wg)) (.ptr 0 0) (.ptr 1 0) r187.1 (.p (pI (to : Nat))) (.p (pI (i : Nat))) (.p (pI (k + 1 : Nat))) r187.2)
            (f19_L5 guardT 0 (.p (eWt wa)) (.p (eWt wg)) (.ptr 0 0) (.ptr 1 0) x8 (.p (pI (to : Nat))) (.p (pI (i : Nat))) (.p (pI (k + 1 : Nat))) σ32)) = R →
          f19_L5 guardT 0 (.p (eWt wa)) (.p (eWt wg)) (.ptr 0 0) (.ptr 1 0) x8 (.p (pI (to : Nat))) (.p (pI (i : Nat))) (.p (pI (k : Nat))) σ = R := by
        intro R hR
        rw [f19_L5_eq guardT rfl]
        simp only [fa25_3, fa25_2, shift_ptr, shift_pptr, Nat.zero_add, Nat.add_zero, pureFn_fn, List.append_nil, List.singleton_append, List.cons_append, List.nil_append, load23, load1_ptr (off := 3) h0 rfl, len23, b_lss, b_eql, b_neq, b_leq, b_geq, b_gtr, h', guard_tt, guard_ff, guard_tf, guard_ft, guard_sk, obind, omap, pickV_true, pickV_false, condK_true, condK_false, decide_true, decide_false, Bool.not_true, Bool.not_false, not_bool, idx23 hkk, load106, hld106, zero106, n1, fa106_0, fa106_1, load3, load1_ptr (off := 0) gE rfl, load1_ptr (off := 1) gE rfl, i1, load112, i3, s1, dfe, load25, cm_all g0, fa112_0, fa112_1, fa112_2, load33, i4, l106, s3, i5, i6, r1, load48, r2, r3, load22, r4, load1_ptr (off := 2) g0 rfl, idx22i hef.1 hof, load1_getD hof, r5, r6, a1, a2, a3, a4, a5, a6, eRun, build112, zero112, hZ, n2, hτ, lY2, hJ]
        simp only [b_lss, b_eql, b_neq, b_leq, b_geq, b_gtr, load112] at hR
        exact hR
      by_cases hak : nextW (wl wa) (x.n.getD 1 0) (vpr c e) = -1
      · rw [if_pos hak]
        obtain ⟨x8', σ', m1, m2, m3, m4, m5⟩ := L19_5 (to := to) hxi r (k + 1) q x8 τ (by omega) (by omega) hv hpre hI hS2 y0 y1
        refine ⟨x8', σ', m1, m2, m3, m4, head _ ?_⟩
        have dak : decide (nextW (wl wa) (x.n.getD 1 0) (vpr c e) = -1) = true := decide_eq_true hak
        simp only [b_lss, b_eql, b_neq, b_leq, b_geq, b_gtr, dak, guard_tt, guard_ff, guard_tf, guard_ft, guard_sk, obind, omap, pickV_true, pickV_false, condK_true, condK_false, decide_true, decide_false, Bool.not_true, Bool.not_false, not_bool]
        exact m5
      · rw [if_neg hak]
        have dak : decide (nextW (wl wa) (x.n.getD 1 0) (vpr c e) = -1) = false := decide_eq_false hak
        have hpl2 : (x.p ++ [e.t, e.a]).length ≤ 2000 := by simp; omega
        have hqq : ∀ y ∈ q, y.n.length = 3 ∧ POk n y.p (y.n.getD 0 0) ∧ y.p.length ≤ 2000 := fun y hy => ⟨(hI.ok y hy).len, hI.pp y hy, by have := hI.pl y hy; omega⟩
        have hnk : NOkV n (wl wa) (wl wg) [e.a, nextW (wl wa) (x.n.getD 1 0) (vpr c e), nextW (wl wg) (x.n.getD 2 0) (vpr c e)] := ⟨rfl, hea, next_rng ha hx.a hp hak, next_rng hg hx.g hp hbk⟩
        have hI2 := hI.add hnk (p := x.p ++ [e.t, e.a]) (by simp; omega) (hpx.snoc hea)
        have hpos : q.length ≠ 0 := by have := (List.getElem?_eq_some_iff.1 hxi').1; omega
        have h64 := S64 (σ := τ) (y := ⟨[e.a, nextW (wl wa) (x.n.getD 1 0) (vpr c e), nextW (wl wg) (x.n.getD 2 0) (vpr c e)], x.p ++ [e.t, e.a]⟩) hS2 hpos hqq ⟨rfl, hpx.snoc hea, hpl2⟩ (u0 := eSl (runS c (x.p ++ [e.t, e.a])).st) (u1 := ePs (runS c (x.p ++ [e.t, e.a])).ps) ⟨by simp [loosen_sl], by simp [loosen_ps]⟩ (by omega)
        have h64 : pureFn CC (.fn 64 []) [x8, .agg [.p (eSl (runS c (x.p ++ [e.t, e.a])).st), .p (ePs (runS c (x.p ++ [e.t, e.a])).ps), .p (pI (nextW (wl wa) (x.n.getD 1 0) (vpr c e))), .p (pI (nextW (wl wg) (x.n.getD 2 0) (vpr c e)))]] τ = some (.p (.bool (hasN q [e.a, nextW (wl wa) (x.n.getD 1 0) (vpr c e), nextW (wl wg) (x.n.getD 2 0) (vpr c e)]))) := h64
        have hpre2 := hpre.trans (addN_pre q [e.a, nextW (wl wa) (x.n.getD 1 0) (vpr c e), nextW (wl wg) (x.n.getD 2 0) (vpr c e)] (x.p ++ [e.t, e.a]))
        unfold addN at hI2 hpre2 ⊢
        cases hh : hasN q [e.a, nextW (wl wa) (x.n.getD 1 0) (vpr c e), nextW (wl wg) (x.n.getD 2 0) (vpr c e)] with
        | true =>
          rw [hh] at hI2 hpre2
          simp only [if_true] at hI2 hpre2 ⊢
          obtain ⟨x8', σ', m1, m2, m3, m4, m5⟩ := L19_5 (to := to) hxi r (k + 1) q x8 τ (by omega) (by omega) hv hpre hI hS2 y0 y1
          refine ⟨x8', σ', m1, m2, m3, m4, head _ ?_⟩
          simp only [b_lss, b_eql, b_neq, b_leq, b_geq, b_gtr, dak, guard_tt, guard_ff, guard_tf, guard_ft, guard_sk, obind, omap, pickV_true, pickV_false, condK_true, condK_false, decide_true, decide_false, Bool.not_true, Bool.not_false, not_bool, load112, l112, h64, hh]
          exact m5
        | false =>
          rw [hh] at hI2 hpre2
          simp only [Bool.false_eq_true, if_false] at hI2 hpre2 ⊢
          obtain ⟨x', σ1, p1, p2, p3⟩ := push110 (y := ⟨[e.a, nextW (wl wa) (x.n.getD 1 0) (vpr c e), nextW (wl wg) (x.n.getD 2 0) (vpr c e)], x.p ++ [e.t, e.a]⟩) hS2 (by omega)
          have p1 : append PP 0 false 110 110 x8 (.p (.sl true 1 [eSl (runS c (x.p ++ [e.t, e.a])).st, ePs (runS c (x.p ++ [e.t, e.a])).ps, pI (nextW (wl wa) (x.n.getD 1 0) (vpr c e)), pI (nextW (wl wg) (x.n.getD 2 0) (vpr c e))])) τ = some (x', σ1) := p1
          obtain ⟨x8', σ', m1, m2, m3, m4, m5⟩ := L19_5 (to := to) hxi r (k + 1) _ x' σ1 (by omega) (by omega) hv hpre2 hI2 p2 (p3 0 _ (fun v => by simp) y0) (p3 1 _ (fun v => by simp) y1)
          refine ⟨x8', σ', m1, m2, m3, m4, head _ ?_⟩
          simp only [b_lss, b_eql, b_neq, b_leq, b_geq, b_gtr, dak, guard_tt, guard_ff, guard_tf, guard_ft, guard_sk, obind, omap, pickV_true, pickV_false, condK_true, condK_false, decide_true, decide_false, Bool.not_true, Bool.not_false, not_bool, load112, l112, h64, hh, bs110, p1]
          exact m5
    · rw [if_neg hfe]
      have dfe : decide (e.f = x.n.getD 0 0) = false := decide_eq_false hfe
      rw [if_neg (fun h => hfe h.1)] at hv
      obtain ⟨x8', σ', m1, m2, m3, m4, m5⟩ := L19_5 (to := to) hxi r (k + 1) q x8 (σ ++ [Row.mix (edgD e)]) (by omega) (by omega) hv hpre hI hS1 g0 g1
      refine ⟨x8', σ', m1, m2, m3, m4, Eq.trans ?_ m5⟩
      rw [f19_L5_eq guardT rfl]
      simp only [fa25_3, shift_ptr, shift_pptr, Nat.zero_add, Nat.add_zero, pureFn_fn, List.append_nil, List.singleton_append, List.cons_append, List.nil_append, load23, load1_ptr (off := 3) h0 rfl, len23, b_lss, b_eql, b_neq, b_leq, b_geq, b_gtr, h', guard_tt, guard_ff, guard_tf, guard_ft, guard_sk, obind, omap, pickV_true, pickV_false, condK_true, condK_false, decide_true, decide_false, Bool.not_true, Bool.not_false, not_bool, idx23 hkk, load106, hld106, zero106, n1, fa106_0, load3, load1_ptr (off := 0) gE rfl, i1, load112, i3, s1, dfe, hJ]
/-- The second pass. -/
theorem L19_4 {q0 : List QE} : ∀ (d i : Nat) (q : List QE) (x8 : DV) (σ : Store), q0.length - i = d → i ≤ q0.length → violL c (wl wg) q0 d i = none → q0 <+: q → IV n (wl wa) (wl wg) q → Seen c σ q x8 → σ[0]? = some (.mix (eCmp c)) → σ[1]? = some (.mix [.p .nilsl, .p .nilsl]) →
    ∃ x8' σ', Seen c σ' (addsL c (wl wa) (wl wg) d i q) x8' ∧ IV n (wl wa) (wl wg) (addsL c (wl wa) (wl wg) d i q) ∧ q0 <+: addsL c (wl wa) (wl wg) d i q ∧ σ'[0]? = some (.mix (eCmp c)) ∧ σ'[1]? = some (.mix [.p .nilsl, .p .nilsl]) ∧
      f19_L4 guardT 0 (.p (eWt wa)) (.p (eWt wg)) (.ptr 0 0) (.ptr 1 0) x8 (.p (pI (q0.length : Nat))) (.p (pI (i : Nat))) σ = f19_L1 guardT 0 (.p (eWt wa)) (.p (eWt wg)) (.ptr 0 0) (.ptr 1 0) x8' (.p (pI (q0.length : Nat))) σ'
  | 0, i, q, x8, σ, hk, hi, hv, hpre, hI, hS, h0, h1 => by
    have hn : ¬ (i : Int) < (q0.length : Nat) := by omega
    refine ⟨x8, σ, hS, hI, hpre, h0, h1, ?_⟩
    rw [f19_L4_eq guardT rfl]
    simp only [b_lss, b_eql, b_neq, b_leq, b_geq, b_gtr, hn, guard_tt, guard_ff, guard_tf, guard_ft, guard_sk, obind, omap, pickV_true, pickV_false, condK_true, condK_false, decide_true, decide_false, Bool.not_true, Bool.not_false, not_bool]
  | d + 1, i, q, x8, σ, hk, hi, hv, hpre, hI, hS, h0, h1 => by
    have h : i < q0.length := by omega
    have h' : (i : Int) < (q0.length : Nat) := by omega
    have hx : q0[i]? = some (q0.getD i default) := by rw [List.getElem?_eq_getElem h, getD_at default h]
    have eD : q.getD i default = q0.getD i default := by
      obtain ⟨t, rfl⟩ := hpre
      rw [List.getD_eq_getElem?_getD, List.getElem?_append_left h, List.getD_eq_getElem?_getD]
    unfold violL at hv
    cases hvf : violF c (wl wg) (q0.getD i default) (L c.mv).length 0 with
    | some p => rw [hvf] at hv; exact absurd hv (by simp)
    | none =>
      rw [hvf] at hv
      obtain ⟨x1, σ1, m1, m2, m3, m4, m5⟩ := L19_5 hc ha hg (to := q0.length) hx _ 0 q x8 σ rfl (Nat.zero_le _) hvf hpre hI hS h0 h1
      obtain ⟨x8', σ', k1, k2, k3, k4, k5, k6⟩ := L19_4 d (i + 1) _ x1 σ1 (by omega) (by omega) hv (hpre.trans (addsF_pre _ _ _ _ _ _ _)) m2 m1 m3 m4
      have hst : f19_L4 guardT 0 (.p (eWt wa)) (.p (eWt wg)) (.ptr 0 0) (.ptr 1 0) x8 (.p (pI (q0.length : Nat))) (.p (pI (i : Nat))) σ = f19_L5 guardT 0 (.p (eWt wa)) (.p (eWt wg)) (.ptr 0 0) (.ptr 1 0) x8 (.p (pI (q0.length : Nat))) (.p (pI (i : Nat))) (.p (pI (0 : Nat))) σ := by
        rw [f19_L4_eq guardT rfl]
        simp only [b_lss, b_eql, b_neq, b_leq, b_geq, b_gtr, h', guard_tt, guard_ff, guard_tf, guard_ft, guard_sk, obind, omap, pickV_true, pickV_false, condK_true, condK_false, decide_true, decide_false, Bool.not_true, Bool.not_false, not_bool]
        rfl
      unfold addsL
      rw [eD]
      exact ⟨x8', σ', k1, k2, k3, k4, k5, hst.trans (m5.trans k6)⟩
theorem L19_1 : ∀ (m k fr : Nat) (q : List QE) (x8 : DV) (σ : Store), k ≤ m → 361 - fr = k → fr ≤ q.length → IV n (wl wa) (wl wg) q → Seen c σ q x8 → σ[0]? = some (.mix (eCmp c)) → σ[1]? = some (.mix [.p .nilsl, .p .nilsl]) →
    ∃ σ', f19_L1 guardT 0 (.p (eWt wa)) (.p (eWt wg)) (.ptr 0 0) (.ptr 1 0) x8 (.p (pI (fr : Nat))) σ = match bfsQ (visV c (wl wa) (wl wg)) k fr q with
      | some p => some (.tuple [.agg (eRun (runS c p)), .p (.bool true)], σ')
      | none => some (.tuple [.agg (eRun ⟨none, none⟩), .p (.bool false)], σ')
  | 0, k, fr, q, x8, σ, hm, hk, hf, hI, hS, h0, h1 => by
    have := hI.le hc.n10 ha hg
    omega
  | m + 1, k, fr, q, x8, σ, hm, hk, hf, hI, hS, h0, h1 => by
    have hql := hI.le hc.n10 ha hg
    by_cases h : fr < q.length
    · have h' : (fr : Int) < (q.length : Nat) := by omega
      obtain ⟨σ1, k1, k2, k3, k4⟩ := L19_2 hc ha hg (x8 := x8) (x1 := .p (eWt wa)) (fr := fr) hI _ fr σ rfl hf hS h0 h1
      have hst : f19_L1 guardT 0 (.p (eWt wa)) (.p (eWt wg)) (.ptr 0 0) (.ptr 1 0) x8 (.p (pI (fr : Nat))) σ = f19_L2 guardT 0 (.p (eWt wa)) (.p (eWt wg)) (.ptr 0 0) (.ptr 1 0) x8 (.p (pI (fr : Nat))) (.p (pI (q.length : Nat))) (.p (pI (fr : Nat))) σ := by
        rw [f19_L1_eq guardT rfl]
        simp only [hS.len, b_lss, b_eql, b_neq, b_leq, b_geq, b_gtr, h', guard_tt, guard_ff, guard_tf, guard_ft, guard_sk, obind, omap, pickV_true, pickV_false, condK_true, condK_false, decide_true, decide_false, Bool.not_true, Bool.not_false, not_bool]
      have hb := bfs_seg c (wl wa) (wl wg) (361 - q.length) (q.length - fr) fr q (by omega)
      rw [show 361 - q.length + (q.length - fr) = k by omega] at hb
      rw [hst, k4, hb]
      cases hv : violL c (wl wg) q (q.length - fr) fr with
      | some p => exact ⟨_, rfl⟩
      | none =>
        obtain ⟨x8', σ2, m1, m2, m3, m4, m5, m6⟩ := L19_4 hc ha hg _ fr q x8 σ1 rfl hf hv (List.prefix_refl _) hI k1 k2 k3
        rw [show fr + (q.length - fr) = q.length by omega]
        have := m3.length_le
        obtain ⟨σ', w⟩ := L19_1 m (361 - q.length) q.length _ x8' σ2 (by omega) rfl this m2 m1 m4 m5
        exact ⟨σ', m6.trans w⟩
    · have hn : ¬ (fr : Int) < (q.length : Nat) := by omega
      obtain ⟨k', rfl⟩ : ∃ k', k = k' + 1 := ⟨k - 1, by omega⟩
      rw [RnV.bfsQ_none (List.getElem?_eq_none (by omega))]
      have hst : store PP 0 33 (.ptr 1 0) (.agg [.p .nilsl, .p .nilsl]) σ = some (σ.set 1 (.mix [.p .nilsl, .p .nilsl])) := by
        simp [store, s33, DV.cells, storeN, h1, DV.one, splice]
      have g3 : (σ.set 1 (.mix [.p .nilsl, .p .nilsl]))[1]? = some (.mix [.p .nilsl, .p .nilsl]) := by rw [List.getElem?_set_self (get_lt h1)]
      refine ⟨σ.set 1 (.mix [.p .nilsl, .p .nilsl]), ?_⟩
      rw [f19_L1_eq guardT rfl]
      simp only [hS.len, b_lss, b_eql, b_neq, b_leq, b_geq, b_gtr, hn, guard_tt, guard_ff, guard_tf, guard_ft, guard_sk, obind, omap, pickV_true, pickV_false, condK_true, condK_false, decide_true, decide_false, Bool.not_true, Bool.not_false, not_bool, build33_0, hst, cv33, loadN_ptr (off := 0) (n := 2) (vs := [.p .nilsl, .p .nilsl]) g3 rfl (by simp)]
      rfl
omit ha hg in
theorem L19_0 : ∀ (k i : Nat) (x8 : DV) (σ : Store), (L c.init).length - i = k → i ≤ (L c.init).length → Seen c σ ((initQ c).take i) x8 → σ[0]? = some (.mix (eCmp c)) → σ[1]? = some (.mix [.p .nilsl, .p .nilsl]) →
    ∃ x8' σ', f19_L0 guardT 0 (.p (eWt wa)) (.p (eWt wg)) (.ptr 0 0) (.ptr 1 0) x8 (.p (pI (i : Nat))) σ = f19_L1 guardT 0 (.p (eWt wa)) (.p (eWt wg)) (.ptr 0 0) (.ptr 1 0) x8' (.p (pI (0 : Nat))) σ' ∧ Seen c σ' (initQ c) x8' ∧ σ'[0]? = some (.mix (eCmp c)) ∧ σ'[1]? = some (.mix [.p .nilsl, .p .nilsl])
  | 0, i, x8, σ, hk, hi, hS, h0, h1 => by
    have hn : ¬ (i : Int) < ((L c.init).length : Nat) := by omega
    rw [List.take_of_length_le (by simp [initQ]; omega)] at hS
    refine ⟨x8, σ, ?_, hS, h0, h1⟩
    rw [f19_L0_eq guardT rfl]
    simp only [fa25_1, shift_ptr, shift_pptr, Nat.zero_add, Nat.add_zero, pureFn_fn, List.append_nil, List.singleton_append, List.cons_append, List.nil_append, load22, load1_ptr (off := 1) h0 rfl, len22, b_lss, b_eql, b_neq, b_leq, b_geq, b_gtr, hn, guard_tt, guard_ff, guard_tf, guard_ft, guard_sk, obind, omap, pickV_true, pickV_false, condK_true, condK_false, decide_true, decide_false, Bool.not_true, Bool.not_false, not_bool]
    rfl
  | k + 1, i, x8, σ, hk, hi, hS, h0, h1 => by
    have hil := hc.sm.i
    have h : i < (L c.init).length := by omega
    have h' : (i : Int) < ((L c.init).length : Nat) := by omega
    have hlq : i < (initQ c).length := by simp [initQ]; omega
    obtain ⟨cs, g1, g2⟩ := hS
    have htl : ((initQ c).take i).length = i := by rw [List.length_take]; omega
    rw [htl] at g1
    obtain ⟨r, v, σ1, e1, e2, _, _, _, _, e3⟩ := g1.push (t := 110) (lo := 0) (m := 1) (vs := [.sl true 1 [pI ((L c.init).getD i 0)], .nilsl, pI 0, pI 0]) src110 u110 s112 bytes112 zero112 rfl (by decide) (by decide) (by decide) rfl (by decide) (by decide) (by omega) (Nat.zero_le _) (Nat.zero_le _)
    have hS1 : Seen c σ1 ((initQ c).take (i + 1)) (.osl r v 4 (i + 1) (cs ++ [.sl true 1 [pI ((L c.init).getD i 0)], .nilsl, pI 0, pI 0])) := by
      refine ⟨cs ++ [.sl true 1 [pI ((L c.init).getD i 0)], .nilsl, pI 0, pI 0], ?_, ?_⟩
      · rw [show ((initQ c).take (i + 1)).length = i + 1 by rw [List.length_take]; omega]; exact e2
      · rw [List.take_succ_eq_append_getElem hlq, loosens_app, g2, vsP_app]
        have : (initQ c)[i] = ⟨[(L c.init).getD i 0, 0, 0], [(L c.init).getD i 0]⟩ := by rw [getD_at 0 h]; simp [initQ]
        rw [this]
        simp [vsP, vsE, runS, stsOf, loosens, loosen, eSl, eInts, ePs]
    obtain ⟨x8', σ', f1, f2⟩ := L19_0 k (i + 1) _ σ1 (by omega) (by omega) hS1 (e3 0 _ (fun v => by simp) h0) (e3 1 _ (fun v => by simp) h1)
    refine ⟨x8', σ', Eq.trans ?_ f1, f2⟩
    rw [f19_L0_eq guardT rfl]
    simp only [fa25_1, shift_ptr, shift_pptr, Nat.zero_add, Nat.add_zero, pureFn_fn, List.append_nil, List.singleton_append, List.cons_append, List.nil_append, load22, load1_ptr (off := 1) h0 rfl, len22, b_lss, b_eql, b_neq, b_leq, b_geq, b_gtr, h', guard_tt, guard_ff, guard_tf, guard_ft, guard_sk, obind, omap, pickV_true, pickV_false, condK_true, condK_false, decide_true, decide_false, Bool.not_true, Bool.not_false, not_bool, idx22 h, load3, load1_getD h, bs22_1, build33_1, build112a, bs110, e1, b_add, wrap_succ (show i ≤ 1000000 by omega)]
theorem S19 {σ : Store} : pureV CC 19 [.agg (eCmp c), .p (eWt wa), .p (eWt wg)] σ = some (match viRes c (wl wa) (wl wg) with | none => .tuple [.agg (eRun ⟨none, none⟩), .p (.bool false)] | some p => .tuple [.agg (eRun (runV c p)), .p (.bool true)]) := by
  have hS0 : Seen c [.mix (eCmp c), .mix [.p .nilsl, .p .nilsl]] ((initQ c).take 0) (.p .nilsl) := ⟨[], ⟨rfl, .inl ⟨rfl, rfl⟩⟩, rfl⟩
  obtain ⟨x8, σ1, e1, k1, k2, k3⟩ := L19_0 (wa := wa) (wg := wg) hc _ 0 (.p .nilsl) [.mix (eCmp c), .mix [.p .nilsl, .p .nilsl]] rfl (Nat.zero_le _) hS0 rfl rfl
  obtain ⟨σ2, e2⟩ := L19_1 hc ha hg 361 361 0 (initQ c) x8 σ1 (Nat.le_refl _) rfl (Nat.zero_le _) (iv0 hc ha hg) k1 k2 k3
  have hu : bfsQ (visV c (wl wa) (wl wg)) 361 0 (initQ c) = viRes c (wl wa) (wl wg) := rfl
  rw [hu] at e2
  cases hv : viRes c (wl wa) (wl wg) with
  | none =>
    rw [hv] at e2
    refine pureV_free (by simp [cmp_view, wt_view]) rfl (F19_call (r := (.tuple [.agg (eRun ⟨none, none⟩), .p (.bool false)], σ2)) ?_) rfl
    rw [F19_eq]
    simp only [box_cmp, zero33, guard_tt, guard_ff, guard_tf, guard_ft, guard_sk, obind, omap, pickV_true, pickV_false, condK_true, condK_false, decide_true, decide_false, Bool.not_true, Bool.not_false, not_bool, List.length_nil, List.nil_append, List.cons_append, List.length_cons, Nat.zero_add]
    exact e1.trans e2
  | some p =>
    rw [hv] at e2
    obtain ⟨_, s, r, rfl, _, hr0, _⟩ := bfsV_ok hc ha hg _ _ _ (iv0 hc ha hg) hv
    have hrs : runS c (s :: r) = runV c (s :: r) := by
      show (⟨some (s :: stsOf r), if r = [] then none else some (prsOf c s r)⟩ : Run) = ⟨some (s :: stsOf r), some (prsOf c s r)⟩
      rw [if_neg hr0]
    simp only [hrs] at e2
    refine pureV_free (by simp [cmp_view, wt_view]) rfl (F19_call (r := (.tuple [.agg (eRun (runV c (s :: r))), .p (.bool true)], σ2)) ?_) ?_
    · rw [F19_eq]
      simp only [box_cmp, zero33, guard_tt, guard_ff, guard_tf, guard_ft, guard_sk, obind, omap, pickV_true, pickV_false, condK_true, condK_false, decide_true, decide_false, Bool.not_true, Bool.not_false, not_bool, List.length_nil, List.nil_append, List.cons_append, List.length_cons, Nat.zero_add]
      exact e1.trans e2
    · simp [thawAll, mapO, thawPart, thaw, thaw1, thawP, loosen, eRun, loosen_sl, loosen_ps]
end
end Go.D
end
/- OpenViolations: the law answers true. -/
section
set_option linter.unusedVariables false
set_option linter.unusedSimpArgs false
namespace Go.D
/-! ### ViolationOf -/
def run0 : Run := ⟨none, none⟩
/-- What ViolationOf answers. -/
def vioRes (c : Cmp) (wa wg : W3) : Run × Int :=
  if orL [cmpE c, wchE wa, wchE wg] = 0 then match viRes c wa wg with
    | none => (run0, 25)
    | some p => if (L (runV c p).ps).length > 60 then (run0, 2) else (runV c p, 0)
  else (run0, orL [cmpE c, wchE wa, wchE wg])
theorem either3 (x y z : Int) (σ : Store) : pureV CC 52 [.p (.sl true 3 (eInts [x, y, z]))] σ = some (.p (pI (orL [x, y, z]))) := S52t (l := [x, y, z]) rfl (by simp)
theorem orL3 {a b d : Int} (h : orL [a, b, d] = 0) : a = 0 ∧ b = 0 ∧ d = 0 := by
  simp only [orL_cons] at h
  split at h
  · rename_i h1
    split at h
    · rename_i h2
      split at h
      · rename_i h3; exact ⟨h1, h2, h3⟩
      · rename_i h3; exact absurd h h3
    · rename_i h2; exact absurd h h2
  · rename_i h1; exact absurd h h1
theorem st33n {σ : Store} {r : Nat} {z : List DV} {w : Run} (h : σ[r]? = some (.mix z)) (hz : z.length = 2) : store PP 0 33 (.ptr r 0) (.agg (eRun w)) σ = some (σ.set r (.mix (eRun w))) := by
  have e : splice z 0 (eRun w) = eRun w := by simp [splice, eRun, hz]
  have e2 : (eRun w).length = 2 := rfl
  have e3 : (eRun w).all DV.one = true := rfl
  simp [store, s33, DV.cells, storeN, h, e, e2, e3, hz]
theorem cv33s {σ : Store} {r : Nat} {w : Run} (h : σ[r]? = some (.mix (eRun w))) : cellV PP 33 (.ptr r 0) σ = some (.agg (eRun w)) := by
  rw [cv33, loadN_ptr (vs := eRun w) h rfl (by simp [eRun])]
  rfl
theorem thaw_run (w : Run) (v : PV) (σ : Store) (hv : loosen v = v) : thawAll 0 σ (.tuple [.agg (eRun w), .p v]) = some (.tuple [.agg (eRun w), .p v]) := by
  simp [thawAll, mapO, thawPart, thaw, thaw1, thawP, eRun, loosen_sl, loosen_ps, hv]
theorem S13 {c : Cmp} {wa wg : OW} {σ : Store} (hc : CSm c) (ha : WSm wa) (hg : WSm wg) : pureV CC 13 [.agg (eCmp c), .p (eWt wa), .p (eWt wg)] σ = some (.tuple [.agg (eRun (vioRes c (wl wa) (wl wg)).1), .p (pI (vioRes c (wl wa) (wl wg)).2)]) := by
  have hF : ∃ σ', F13 guardT 0 (.agg (eCmp c)) (.p (eWt wa)) (.p (eWt wg)) [] = some (.tuple [.agg (eRun (vioRes c (wl wa) (wl wg)).1), .p (pI (vioRes c (wl wa) (wl wg)).2)], σ') := by
    rw [F13_eq]
    simp only [box_cmp, zero33, guard_tt, guard_ff, guard_tf, guard_ft, guard_sk, obind, omap, pickV_true, pickV_false, condK_true, condK_false, decide_true, decide_false, Bool.not_true, Bool.not_false, not_bool, List.length_nil, List.nil_append, List.cons_append, List.length_cons, Nat.zero_add]
    have t0 : ([.mix (eCmp c), .mix [.p .nilsl, .p .nilsl]] : Store)[0]? = some (.mix (eCmp c)) := rfl
    have t1 : ([.mix (eCmp c), .mix [.p .nilsl, .p .nilsl]] : Store)[1]? = some (.mix [.p .nilsl, .p .nilsl]) := rfl
    generalize ([.mix (eCmp c), .mix [.p .nilsl, .p .nilsl]] : Store) = τ at *
    have hbs : buildSlice PP none 160 3 [(0, .p (pI (cmpE c))), (1, .p (pI (wchE (wl wa)))), (2, .p (pI (wchE (wl wg))))] τ = some (.p (.sl true 3 (eInts [cmpE c, wchE (wl wa), wchE (wl wg)])), τ) := bs160_3 _ _ _ _
    have n0 : (.agg [.p .nilsl, .p .nilsl] : DV) = .agg (eRun run0) := rfl
    have st0 := fun (ρ : Store) (z : List DV) (h : ρ[1]? = some (.mix z)) (hz : z.length = 2) => st33n (w := run0) h hz
    simp only [load25, cm_all t0, guard_tt, guard_ff, guard_tf, guard_ft, guard_sk, obind, omap, pickV_true, pickV_false, condK_true, condK_false, decide_true, decide_false, Bool.not_true, Bool.not_false, not_bool, shift_ptr, shift_pptr, Nat.zero_add, Nat.add_zero, pureFn_fn, List.append_nil, List.singleton_append, List.cons_append, List.nil_append, S29 hc, S33 ha, S33 hg, hbs, either3, b_lss, b_eql, b_neq, b_leq, b_geq, b_gtr]
    unfold vioRes
    by_cases hz : orL [cmpE c, wchE (wl wa), wchE (wl wg)] = 0
    · obtain ⟨z1, z2, z3⟩ := orL3 hz
      have hck := cok_of hc z1
      have h53 := S53 (σ := τ) hck (wok_of z2) (wok_of z3)
      have dz : decide (orL [cmpE c, wchE (wl wa), wchE (wl wg)] = 0) = true := decide_eq_true hz
      rw [if_pos hz]
      cases hv : viRes c (wl wa) (wl wg) with
      | none =>
        rw [hv] at h53
        have n1 := RnV.storeNew (lo := 0) (cs := eRun run0) (z := [.p .nilsl, .p .nilsl]) s33 τ rfl rfl rfl (Nat.zero_le _)
        have gR : (τ ++ [Row.mix (eRun run0)])[τ.length]? = some (.mix (eRun run0)) := get_snoc
        have g1 := get_old (r := .mix (eRun run0)) t1
        have gs : ((τ ++ [Row.mix (eRun run0)]).set 1 (.mix (eRun run0)))[1]? = some (.mix (eRun run0)) := by rw [List.getElem?_set_self (get_lt g1)]
        have hl : L run0.ps = [] := rfl
        have h53 : pureV CC 53 [.agg (eCmp c), .p (eWt wa), .p (eWt wg)] τ = some (.tuple [.agg (eRun run0), .p (.bool false)]) := h53
        refine ⟨(τ ++ [Row.mix (eRun run0)]).set 1 (.mix (eRun run0)), ?_⟩
        simp only [dz, guard_tt, guard_ff, guard_tf, guard_ft, guard_sk, obind, omap, pickV_true, pickV_false, condK_true, condK_false, decide_true, decide_false, Bool.not_true, Bool.not_false, not_bool, h53, ex0, ex1, zero33, n1, fa33_1, shift_ptr, shift_pptr, Nat.zero_add, Nat.add_zero, pureFn_fn, List.append_nil, List.singleton_append, List.cons_append, List.nil_append, load31, load1_ptr (off := 1) gR rfl, len31, hl, List.length_nil, b_lss, b_eql, b_neq, b_leq, b_geq, b_gtr, show ¬ (((0 : Nat) : Int) > 60) by decide, load33, loadN_ptr (off := 0) (n := 2) (vs := eRun run0) gR rfl (by simp [eRun]), S54, Bool.false_eq_true, if_false, st33n g1 rfl, cv33s gs]
      | some p =>
        rw [hv] at h53
        have n1 := RnV.storeNew (lo := 0) (cs := eRun (runV c p)) (z := [.p .nilsl, .p .nilsl]) s33 τ rfl rfl rfl (Nat.zero_le _)
        have gR : (τ ++ [Row.mix (eRun (runV c p))])[τ.length]? = some (.mix (eRun (runV c p))) := get_snoc
        have g1 := get_old (r := .mix (eRun (runV c p))) t1
        by_cases h60 : (L (runV c p).ps).length > 60
        · have h60' : ((L (runV c p).ps).length : Int) > 60 := by omega
          have gs : ((τ ++ [Row.mix (eRun (runV c p))]).set 1 (.mix (eRun run0)))[1]? = some (.mix (eRun run0)) := by rw [List.getElem?_set_self (get_lt g1)]
          have s0 := st33n (w := run0) g1 rfl
          refine ⟨(τ ++ [Row.mix (eRun (runV c p))]).set 1 (.mix (eRun run0)), ?_⟩
          simp only [dz, guard_tt, guard_ff, guard_tf, guard_ft, guard_sk, obind, omap, pickV_true, pickV_false, condK_true, condK_false, decide_true, decide_false, Bool.not_true, Bool.not_false, not_bool, h53, ex0, ex1, zero33, n1, fa33_1, shift_ptr, shift_pptr, Nat.zero_add, Nat.add_zero, pureFn_fn, List.append_nil, List.singleton_append, List.cons_append, List.nil_append, load31, load1_ptr (off := 1) gR rfl, len31, b_lss, b_eql, b_neq, b_leq, b_geq, b_gtr, h60', build33_0, n0, s0, cv33s gs, h60, if_true]
        · have h60' : ¬ ((L (runV c p).ps).length : Int) > 60 := by omega
          have gs : ((τ ++ [Row.mix (eRun (runV c p))]).set 1 (.mix (eRun (runV c p))))[1]? = some (.mix (eRun (runV c p))) := by rw [List.getElem?_set_self (get_lt g1)]
          refine ⟨(τ ++ [Row.mix (eRun (runV c p))]).set 1 (.mix (eRun (runV c p))), ?_⟩
          simp only [dz, guard_tt, guard_ff, guard_tf, guard_ft, guard_sk, obind, omap, pickV_true, pickV_false, condK_true, condK_false, decide_true, decide_false, Bool.not_true, Bool.not_false, not_bool, h53, ex0, ex1, zero33, n1, fa33_1, shift_ptr, shift_pptr, Nat.zero_add, Nat.add_zero, pureFn_fn, List.append_nil, List.singleton_append, List.cons_append, List.nil_append, load31, load1_ptr (off := 1) gR rfl, len31, b_lss, b_eql, b_neq, b_leq, b_geq, b_gtr, h60', load33, loadN_ptr (off := 0) (n := 2) (vs := eRun (runV c p)) gR rfl (by simp [eRun]), S54, if_true, st33n g1 rfl, cv33s gs, h60, if_false]
    · have dz : decide (orL [cmpE c, wchE (wl wa), wchE (wl wg)] = 0) = false := decide_eq_false hz
      rw [if_neg hz]
      have gs : (τ.set 1 (.mix (eRun run0)))[1]? = some (.mix (eRun run0)) := by rw [List.getElem?_set_self (get_lt t1)]
      have s0 := st33n (w := run0) t1 rfl
      refine ⟨τ.set 1 (.mix (eRun run0)), ?_⟩
      simp only [dz, guard_tt, guard_ff, guard_tf, guard_ft, guard_sk, obind, omap, pickV_true, pickV_false, condK_true, condK_false, decide_true, decide_false, Bool.not_true, Bool.not_false, not_bool, build33_0, n0, s0, cv33s gs]
  obtain ⟨σ', h⟩ := hF
  exact pureV_free (by simp [cmp_view, wt_view]) rfl (F13_call h) (thaw_run _ _ _ rfl)
/-! ### Equal runs -/
theorem S18 {a : Run} {σ : Store} (hs : (L a.st).length ≤ 1000) (hp : (L a.ps).length ≤ 1000) : pureV CC 18 [.agg (eRun a), .agg (eRun a)] σ = some (.p (.bool true)) := by
  have key : ∃ r, F18 guardT 0 (.agg (eRun a)) (.agg (eRun a)) [] = some (.p (.bool true), r) := by
    rw [F18_eq]
    simp only [box_run, guard_tt, guard_ff, guard_tf, guard_ft, guard_sk, obind, omap, pickV_true, pickV_false, condK_true, condK_false, decide_true, decide_false, Bool.not_true, Bool.not_false, not_bool, List.length_nil, List.nil_append, List.cons_append, List.length_cons, Nat.zero_add]
    have t0 : ([.mix (eRun a), .mix (eRun a)] : Store)[0]? = some (.mix (eRun a)) := rfl
    have t1 : ([.mix (eRun a), .mix (eRun a)] : Store)[1]? = some (.mix (eRun a)) := rfl
    generalize ([.mix (eRun a), .mix (eRun a)] : Store) = τ at *
    have h27 : pureV CC 27 [.p (ePs a.ps), .p (ePs a.ps)] τ = some (.p (.bool true)) := S27 (by omega)
    have h61 : pureV CC 61 [.p (eSl a.st), .p (eSl a.st)] τ = some (.p (.bool true)) := S61 rfl hs
    exact ⟨_, by simp only [fa33_0, fa33_1, shift_ptr, shift_pptr, Nat.zero_add, Nat.add_zero, pureFn_fn, List.append_nil, List.singleton_append, List.cons_append, List.nil_append, load22, load31, load1_ptr (off := 0) t0 rfl, load1_ptr (off := 0) t1 rfl, load1_ptr (off := 1) t0 rfl, load1_ptr (off := 1) t1 rfl, h61, guard_tt, guard_ff, guard_tf, guard_ft, guard_sk, obind, omap, pickV_true, pickV_false, condK_true, condK_false, decide_true, decide_false, Bool.not_true, Bool.not_false, not_bool, h27]; rfl⟩
  obtain ⟨r, h⟩ := key
  exact pureV_free (by simp [run_view]) rfl (F18_call h) rfl
theorem runV_sm {c : Cmp} {n : Nat} {p : List Int} (h : PFin n p) : (L (runV c p).st).length ≤ 1000 ∧ (L (runV c p).ps).length ≤ 1000 ∧ p ≠ [] := by
  obtain ⟨hl, s, r, rfl, h2, h3, h4⟩ := h
  have a := stsOf_len r h2
  have b := prsOf_len c s r h2
  simp only [List.length_cons] at hl
  refine ⟨?_, ?_, by simp⟩
  · show (s :: stsOf r).length ≤ 1000
    simp only [List.length_cons]; omega
  · show (prsOf c s r).length ≤ 1000
    omega
/-! ### The law -/
theorem prsOf_own (c : Cmp) : ∀ (s : Int) (r : List Int), prsOf (ownC c) s r = prsOf c s r
  | s, [] => rfl
  | s, [a] => rfl
  | s, i :: t :: r => by
    show (⟨i, outC (ownC c) s⟩ : Pr) :: prsOf (ownC c) t r = ⟨i, outC c s⟩ :: prsOf c t r
    rw [prsOf_own c t r]
    rfl
theorem runV_own (c : Cmp) (p : List Int) : runV (ownC c) p = runV c p := by
  match p with
  | [] => rfl
  | s :: r =>
    show (⟨some (s :: stsOf r), some (prsOf (ownC c) s r)⟩ : Run) = ⟨some (s :: stsOf r), some (prsOf c s r)⟩
    rw [prsOf_own]
theorem vio_own (c : Cmp) (wa wg : W3) : vioRes (ownC c) wa wg = vioRes c wa wg := by
  have h1 : ∀ (x : QE) (r k : Nat) (q : List QE), visVF (ownC c) wa wg x r k q = visVF c wa wg x r k q := by
    intro x r
    induction r with
    | zero => intro k q; rfl
    | succ r ih =>
      intro k q
      unfold visVF
      simp only [ih]
      rfl
  have h2 : visV (ownC c) wa wg = visV c wa wg := by
    funext x q
    exact h1 x _ 0 q
  have h4 : viRes (ownC c) wa wg = viRes c wa wg := by unfold viRes; rw [h2]; rfl
  unfold vioRes
  rw [h4]
  simp only [runV_own]
  rfl
theorem law3 (hawake : ∀ σ, pureV CC 10 [] σ = some (.p (.bool true))) (c : Cmp) (wa wg : OW) : ∃ σ', F3 guardT 0 (.agg (eCmp c)) (.p (eWt wa)) (.p (eWt wg)) [] = some (.p (.bool true), σ') := by
  rw [F3_eq]
  have t0 : ([.mix (eCmp c)] : Store)[0]? = some (.mix (eCmp c)) := rfl
  have hl1 : ([.mix (eCmp c)] : Store).length = 1 := rfl
  simp only [box_cmp, guard_tt, guard_ff, guard_tf, guard_ft, guard_sk, obind, omap, pickV_true, pickV_false, condK_true, condK_false, decide_true, decide_false, Bool.not_true, Bool.not_false, not_bool, List.length_nil, List.nil_append]
  generalize ([.mix (eCmp c)] : Store) = τ at *
  simp only [shift_ptr, shift_pptr, Nat.zero_add, Nat.add_zero, pureFn_fn, List.append_nil, List.singleton_append, List.cons_append, List.nil_append, hawake, guard_tt, guard_ff, guard_tf, guard_ft, guard_sk, obind, omap, pickV_true, pickV_false, condK_true, condK_false, decide_true, decide_false, Bool.not_true, Bool.not_false, not_bool, load25, cm_all t0, S11]
  cases hfew : fewC c with
  | false => exact ⟨_, by simp only [guard_tt, guard_ff, guard_tf, guard_ft, guard_sk, obind, omap, pickV_true, pickV_false, condK_true, condK_false, decide_true, decide_false, Bool.not_true, Bool.not_false, not_bool]; rfl⟩
  | true =>
    have hc := csm_of hfew
    cases hsa : smallW wa with
    | false => exact ⟨_, by simp only [guard_tt, guard_ff, guard_tf, guard_ft, guard_sk, obind, omap, pickV_true, pickV_false, condK_true, condK_false, decide_true, decide_false, Bool.not_true, Bool.not_false, not_bool, S12, hsa, shift_ptr, shift_pptr, Nat.zero_add, Nat.add_zero, pureFn_fn, List.append_nil, List.singleton_append, List.cons_append, List.nil_append]; rfl⟩
    | true =>
      have ha := wsm_of hsa
      cases hsg : smallW wg with
      | false => exact ⟨_, by simp only [guard_tt, guard_ff, guard_tf, guard_ft, guard_sk, obind, omap, pickV_true, pickV_false, condK_true, condK_false, decide_true, decide_false, Bool.not_true, Bool.not_false, not_bool, S12, hsa, hsg, shift_ptr, shift_pptr, Nat.zero_add, Nat.add_zero, pureFn_fn, List.append_nil, List.singleton_append, List.cons_append, List.nil_append]; rfl⟩
      | true =>
        have hg := wsm_of hsg
        have n1 := fun (w : Run) => RnV.storeNew (lo := 0) (cs := eRun w) (z := [.p .nilsl, .p .nilsl]) s33 τ rfl rfl rfl (Nat.zero_le _)
        have g0 : ∀ w : Run, (τ ++ [Row.mix (eRun w)])[0]? = some (.mix (eCmp c)) := fun w => get_old t0
        have g1 : ∀ w : Run, (τ ++ [Row.mix (eRun w)])[1]? = some (.mix (eRun w)) := fun w => by rw [← hl1]; exact get_snoc
        rw [hl1] at n1
        have hr0 : ∀ σ, pureV CC 18 [.agg (eRun run0), .agg (eRun run0)] σ = some (.p (.bool true)) := fun σ => S18 (by decide) (by decide)
        have n0 : (.agg [.p .nilsl, .p .nilsl] : DV) = .agg (eRun run0) := rfl
        simp only [guard_tt, guard_ff, guard_tf, guard_ft, guard_sk, obind, omap, pickV_true, pickV_false, condK_true, condK_false, decide_true, decide_false, Bool.not_true, Bool.not_false, not_bool, S12, hsa, hsg, shift_ptr, shift_pptr, Nat.zero_add, Nat.add_zero, pureFn_fn, List.append_nil, List.singleton_append, List.cons_append, List.nil_append, S14 hc, S15 ha, S15 hg, S13 (csm_own hc) (wsm_own ha) (wsm_own hg), wl_own, vio_own, ex0, ex1, zero33, hl1, n1, load25, cm_all t0, cm_all (g0 _), S16 hc]
        have hw : ∀ ρ : Store, ρ[0]? = some (.mix (eCmp c)) → ρ[1]? = some (.mix (eRun (vioRes c (wl wa) (wl wg)).1)) → ∀ e : Int, e = orL [cmpE c, wchE (wl wa), wchE (wl wg)] → ∀ x12 x13 x14 x15 x16 x17 x18 x19 x20 x21 x22 x23 x24 x25 x26 x27 x28 x29 x30 x31 x32 x33 x34 x35 x36 x37 x38 x39 x40 x41 x42 x43 x44 x45 x46 : DV, ∃ σ', f3_J1 guardT 0 (.agg (eCmp c)) (.p (eWt wa)) (.p (eWt wg)) (.ptr 0 0) (.p (.bool false)) (.ptr 1 0) (.p (pI (vioRes c (wl wa) (wl wg)).2)) (.p (pI e)) x12 x13 x14 x15 x16 x17 x18 x19 x20 x21 x22 x23 x24 x25 x26 x27 x28 x29 x30 x31 x32 x33 x34 x35 x36 x37 x38 x39 x40 x41 x42 x43 x44 x45 x46 ρ = some (.p (.bool true), σ') := by
          intro ρ r0 r1 e he x12 x13 x14 x15 x16 x17 x18 x19 x20 x21 x22 x23 x24 x25 x26 x27 x28 x29 x30 x31 x32 x33 x34 x35 x36 x37 x38 x39 x40 x41 x42 x43 x44 x45 x46
          rw [f3_J1_eq]
          by_cases hz : e = 0
          · have hz2 : orL [cmpE c, wchE (wl wa), wchE (wl wg)] = 0 := by rw [← he]; exact hz
            obtain ⟨z1, z2, z3⟩ := orL3 hz2
            have h19 := fun σ => S19 (σ := σ) (cok_of hc z1) (wok_of z2) (wok_of z3)
            have hvr : vioRes c (wl wa) (wl wg) = match viRes c (wl wa) (wl wg) with | none => (run0, 25) | some p => if (L (runV c p).ps).length > 60 then (run0, 2) else (runV c p, 0) := by
              unfold vioRes
              refine (if_pos hz2).trans ?_
              cases viRes c (wl wa) (wl wg) <;> rfl
            cases hv : viRes c (wl wa) (wl wg) with
            | none =>
              have hvr : vioRes c (wl wa) (wl wg) = (run0, 25) := by rw [hvr, hv]
              rw [hv] at h19
              have h19 : ∀ σ, pureV CC 19 [.agg (eCmp c), .p (eWt wa), .p (eWt wg)] σ = some (.tuple [.agg (eRun run0), .p (.bool false)]) := h19
              rw [hvr, hz]
              have n2 := RnV.storeNew (lo := 0) (cs := eRun run0) (z := [.p .nilsl, .p .nilsl]) s33 ρ rfl rfl rfl (Nat.zero_le _)
              rw [hvr] at r1
              have g2 := get_old (r := .mix (eRun run0)) r1
              exact ⟨_, by simp only [b_lss, b_eql, b_neq, b_leq, b_geq, b_gtr, guard_tt, guard_ff, guard_tf, guard_ft, guard_sk, obind, omap, pickV_true, pickV_false, condK_true, condK_false, decide_true, decide_false, Bool.not_true, Bool.not_false, not_bool, load25, cm_all r0, shift_ptr, shift_pptr, Nat.zero_add, Nat.add_zero, pureFn_fn, List.append_nil, List.singleton_append, List.cons_append, List.nil_append, h19, ex0, ex1, zero33, n2, load33, loadN_ptr (off := 0) (n := 2) (vs := eRun run0) g2 rfl (by simp [eRun]), build33_0, n0, hr0]; rfl⟩
            | some p =>
              rw [hv] at h19 hvr
              have hfin := runV_sm (c := c) (bfsV_ok (cok_of hc z1) (wok_of z2) (wok_of z3) _ _ _ (iv0 (cok_of hc z1) (wok_of z2) (wok_of z3)) hv)
              have n2 := RnV.storeNew (lo := 0) (cs := eRun (runV c p)) (z := [.p .nilsl, .p .nilsl]) s33 ρ rfl rfl rfl (Nat.zero_le _)
              have gR : (ρ ++ [Row.mix (eRun (runV c p))])[ρ.length]? = some (.mix (eRun (runV c p))) := get_snoc
              have g2 := get_old (r := .mix (eRun (runV c p))) r1
              by_cases h60 : (L (runV c p).ps).length > 60
              · have h60' : ((L (runV c p).ps).length : Int) > 60 := by omega
                have hvr : vioRes c (wl wa) (wl wg) = (run0, 2) := by rw [hvr]; exact if_pos h60
                rw [hvr] at g2
                rw [hvr, hz]
                exact ⟨_, by simp only [b_lss, b_eql, b_neq, b_leq, b_geq, b_gtr, guard_tt, guard_ff, guard_tf, guard_ft, guard_sk, obind, omap, pickV_true, pickV_false, condK_true, condK_false, decide_true, decide_false, Bool.not_true, Bool.not_false, not_bool, load25, cm_all r0, shift_ptr, shift_pptr, Nat.zero_add, Nat.add_zero, pureFn_fn, List.append_nil, List.singleton_append, List.cons_append, List.nil_append, h19, ex0, ex1, zero33, n2, fa33_1, load31, load1_ptr (off := 1) gR rfl, len31, h60', load33, loadN_ptr (off := 0) (n := 2) (vs := eRun run0) g2 rfl (by simp [eRun]), build33_0, n0, hr0]; rfl⟩
              · have h60' : ¬ ((L (runV c p).ps).length : Int) > 60 := by omega
                have hvr : vioRes c (wl wa) (wl wg) = (runV c p, 0) := by rw [hvr]; exact if_neg h60
                rw [hvr] at g2
                rw [hvr, hz]
                exact ⟨_, by simp only [b_lss, b_eql, b_neq, b_leq, b_geq, b_gtr, guard_tt, guard_ff, guard_tf, guard_ft, guard_sk, obind, omap, pickV_true, pickV_false, condK_true, condK_false, decide_true, decide_false, Bool.not_true, Bool.not_false, not_bool, load25, cm_all r0, shift_ptr, shift_pptr, Nat.zero_add, Nat.add_zero, pureFn_fn, List.append_nil, List.singleton_append, List.cons_append, List.nil_append, h19, ex0, ex1, zero33, n2, fa33_1, load31, load1_ptr (off := 1) gR rfl, len31, h60', load33, loadN_ptr (off := 0) (n := 2) (vs := eRun (runV c p)) g2 rfl (by simp [eRun]), loadN_ptr (off := 0) (n := 2) (vs := eRun (runV c p)) gR rfl (by simp [eRun]), S18 hfin.1 hfin.2.1]; rfl⟩
          · have hz2 : ¬ orL [cmpE c, wchE (wl wa), wchE (wl wg)] = 0 := by rw [← he]; exact hz
            have hvr : vioRes c (wl wa) (wl wg) = (run0, e) := by unfold vioRes; rw [if_neg hz2, ← he]
            rw [hvr] at r1
            rw [hvr]
            have g1' := r1
            exact ⟨_, by simp only [b_lss, b_eql, b_neq, b_leq, b_geq, b_gtr, guard_tt, guard_ff, guard_tf, guard_ft, guard_sk, obind, omap, pickV_true, pickV_false, condK_true, condK_false, decide_true, decide_false, Bool.not_true, Bool.not_false, not_bool, hz, load33, loadN_ptr (off := 0) (n := 2) (vs := eRun run0) g1' rfl (by simp [eRun]), build33_0, n0, hr0, shift_ptr, shift_pptr, Nat.zero_add, Nat.add_zero, pureFn_fn, List.append_nil, List.singleton_append, List.cons_append, List.nil_append]; rfl⟩
        have hj0 : ∀ ρ : Store, ρ[0]? = some (.mix (eCmp c)) → ρ[1]? = some (.mix (eRun (vioRes c (wl wa) (wl wg)).1)) → ∀ e : Int, e = orL [cmpE c, wchE (wl wa)] → ∀ x12 x13 x14 x15 x16 x17 x18 x19 x20 x21 x22 x23 x24 x25 x26 x27 x28 x29 x30 x31 x32 x33 x34 x35 x36 x37 x38 x39 x40 x41 x42 : DV, ∃ σ', f3_J0 guardT 0 (.agg (eCmp c)) (.p (eWt wa)) (.p (eWt wg)) (.ptr 0 0) (.p (.bool false)) (.ptr 1 0) (.p (pI (vioRes c (wl wa) (wl wg)).2)) (.p (pI e)) x12 x13 x14 x15 x16 x17 x18 x19 x20 x21 x22 x23 x24 x25 x26 x27 x28 x29 x30 x31 x32 x33 x34 x35 x36 x37 x38 x39 x40 x41 x42 ρ = some (.p (.bool true), σ') := by
          intro ρ r0 r1 e he x12 x13 x14 x15 x16 x17 x18 x19 x20 x21 x22 x23 x24 x25 x26 x27 x28 x29 x30 x31 x32 x33 x34 x35 x36 x37 x38 x39 x40 x41 x42
          rw [f3_J0_eq]
          have ho : orL [cmpE c, wchE (wl wa), wchE (wl wg)] = if e = 0 then wchE (wl wg) else e := by
            have := orL_app [cmpE c, wchE (wl wa)] [wchE (wl wg)]
            rw [← he] at this
            refine this.trans ?_
            by_cases h : e = 0
            · rw [if_pos h, if_pos h, orL_cons]
              by_cases h2 : wchE (wl wg) = 0
              · rw [if_pos h2, h2]; rfl
              · rw [if_neg h2]
            · rw [if_neg h, if_neg h]
          by_cases hz : e = 0
          · rw [if_pos hz] at ho
            simp only [b_lss, b_eql, b_neq, b_leq, b_geq, b_gtr, hz, guard_tt, guard_ff, guard_tf, guard_ft, guard_sk, obind, omap, pickV_true, pickV_false, condK_true, condK_false, decide_true, decide_false, Bool.not_true, Bool.not_false, not_bool, shift_ptr, shift_pptr, Nat.zero_add, Nat.add_zero, pureFn_fn, List.append_nil, List.singleton_append, List.cons_append, List.nil_append, S17 hg]
            exact hw ρ r0 r1 _ ho.symm _ _ _ _ _ _ _ _ _ _ _ _ _ _ _ _ _ _ _ _ _ _ _ _ _ _ _ _ _ _ _ _ _ _ _
          · rw [if_neg hz] at ho
            simp only [b_lss, b_eql, b_neq, b_leq, b_geq, b_gtr, hz, guard_tt, guard_ff, guard_tf, guard_ft, guard_sk, obind, omap, pickV_true, pickV_false, condK_true, condK_false, decide_true, decide_false, Bool.not_true, Bool.not_false, not_bool]
            exact hw ρ r0 r1 _ ho.symm _ _ _ _ _ _ _ _ _ _ _ _ _ _ _ _ _ _ _ _ _ _ _ _ _ _ _ _ _ _ _ _ _ _ _
        by_cases hz : cmpE c = 0
        · simp only [b_lss, b_eql, b_neq, b_leq, b_geq, b_gtr, hz, guard_tt, guard_ff, guard_tf, guard_ft, guard_sk, obind, omap, pickV_true, pickV_false, condK_true, condK_false, decide_true, decide_false, Bool.not_true, Bool.not_false, not_bool, shift_ptr, shift_pptr, Nat.zero_add, Nat.add_zero, pureFn_fn, List.append_nil, List.singleton_append, List.cons_append, List.nil_append, S17 ha]
          refine hj0 _ (g0 _) (g1 _) _ ?_ _ _ _ _ _ _ _ _ _ _ _ _ _ _ _ _ _ _ _ _ _ _ _ _ _ _ _ _ _ _ _
          rw [orL_cons, if_pos hz, orL_cons]
          by_cases h2 : wchE (wl wa) = 0
          · rw [if_pos h2, h2]; rfl
          · rw [if_neg h2]
        · simp only [b_lss, b_eql, b_neq, b_leq, b_geq, b_gtr, hz, guard_tt, guard_ff, guard_tf, guard_ft, guard_sk, obind, omap, pickV_true, pickV_false, condK_true, condK_false, decide_true, decide_false, Bool.not_true, Bool.not_false, not_bool]
          refine hj0 _ (g0 _) (g1 _) _ ?_ _ _ _ _ _ _ _ _ _ _ _ _ _ _ _ _ _ _ _ _ _ _ _ _ _ _ _ _ _ _ _
          rw [orL_cons, if_neg hz]
theorem call3 (hawake : ∀ σ, pureV CC 10 [] σ = some (.p (.bool true))) (c : Cmp) (wa wg : OW) : ∃ σ', CC 0 3 [.agg (eCmp c), .p (eWt wa), .p (eWt wg)] [] = some (.p (.bool true), σ') := by
  obtain ⟨σ', h⟩ := law3 hawake c wa wg
  exact ⟨σ', F3_call h⟩
end Go.D
end
/- A violation that is found violates, and none is shorter. -/
section
set_option linter.unusedVariables false
set_option linter.unusedSimpArgs false
namespace Go.D
/-! ### Watches along pairs -/
def trW (l : W3) (ps : List Pr) : Nat → Int
  | 0 => 0
  | j + 1 => nextW l (trW l ps j) (ps.getD j default)
theorem brkFrom_none {l : W3} {ps : List Pr} : ∀ (k i : Nat), (∀ j, i ≤ j → j < i + k → trW l ps (j + 1) ≠ -1) → brkFrom l ps (trW l ps i) i k = -1
  | 0, i, h => rfl
  | k + 1, i, h => by
    unfold brkFrom
    have h0 := h i (Nat.le_refl _) (by omega)
    rw [if_neg (by exact h0)]
    exact brkFrom_none k (i + 1) fun j h1 h2 => h j (by omega) (by omega)
theorem brkFrom_some {l : W3} {ps : List Pr} {n : Nat} : ∀ (k i : Nat), i ≤ n → n < i + k → (∀ j, i ≤ j → j < n → trW l ps (j + 1) ≠ -1) → trW l ps (n + 1) = -1 → brkFrom l ps (trW l ps i) i k = n
  | 0, i, h1, h2, _, _ => by omega
  | k + 1, i, h1, h2, h, hn => by
    unfold brkFrom
    by_cases e : i = n
    · subst e
      rw [if_pos (by exact hn)]
    · rw [if_neg (by exact h i (Nat.le_refl _) (by omega))]
      exact brkFrom_some k (i + 1) (by omega) (by omega) (fun j a b => h j (by omega) b) hn
/-- The first pair that breaks a watch, or none. -/
theorem first_brk (l : W3) (ps : List Pr) : ∀ m : Nat, (∀ j, j < m → trW l ps (j + 1) ≠ -1) ∨ ∃ n, n < m ∧ (∀ j, j < n → trW l ps (j + 1) ≠ -1) ∧ trW l ps (n + 1) = -1
  | 0 => .inl fun j h => absurd h (by omega)
  | m + 1 => by
    rcases first_brk l ps m with h | ⟨n, h1, h2, h3⟩
    · by_cases e : trW l ps (m + 1) = -1
      · exact .inr ⟨m, by omega, h, e⟩
      · refine .inl fun j hj => ?_
        by_cases ej : j = m
        · subst ej; exact e
        · exact h j (by omega)
    · exact .inr ⟨n, by omega, h2, h3⟩
theorem brk_none_iff {l : W3} {ps : List Pr} : brk l ps = -1 ↔ ∀ j, j < ps.length → trW l ps (j + 1) ≠ -1 := by
  constructor
  · intro h
    rcases first_brk l ps ps.length with h1 | ⟨n, h1, h2, h3⟩
    · exact h1
    · have := brkFrom_some (l := l) (ps := ps) ps.length 0 (Nat.zero_le n) (by omega) (fun j _ hj => h2 j hj) h3
      have e : brk l ps = (n : Int) := this
      rw [e] at h
      omega
  · intro h
    exact brkFrom_none ps.length 0 fun j _ hj => h j (by omega)
theorem brk_some_iff {l : W3} {ps : List Pr} {n : Nat} (hn : n < ps.length) : brk l ps = n ↔ (∀ j, j < n → trW l ps (j + 1) ≠ -1) ∧ trW l ps (n + 1) = -1 := by
  constructor
  · intro h
    rcases first_brk l ps ps.length with h1 | ⟨n', h1, h2, h3⟩
    · have := brk_none_iff.2 h1
      rw [this] at h
      omega
    · have := brkFrom_some (l := l) (ps := ps) ps.length 0 (Nat.zero_le n') (by omega) (fun j _ hj => h2 j hj) h3
      have e : brk l ps = (n' : Int) := this
      rw [e] at h
      have : n' = n := by omega
      subst this
      exact ⟨h2, h3⟩
  · rintro ⟨h1, h2⟩
    exact brkFrom_some ps.length 0 (Nat.zero_le _) (by omega) (fun j _ hj => h1 j hj) h2
theorem trW_app (l : W3) (ps qs : List Pr) : ∀ j, j ≤ ps.length → trW l (ps ++ qs) j = trW l ps j
  | 0, _ => rfl
  | j + 1, h => by
    rw [trW, trW, trW_app l ps qs j (by omega)]
    congr 1
    rw [List.getD_eq_getElem?_getD, List.getElem?_append_left (by omega), List.getD_eq_getElem?_getD]

/-! ### Runs -/
/-- A run that violates. -/
structure Vio (c : Cmp) (wa wg : W3) (r : Run) : Prop where
  pe : prsE (L r.ps) = 0
  ls : (L r.st).length = (L r.ps).length + 1
  rg : (L r.st).any (badS c) = false
  i0 : hasI (L c.init) (stAt r 0) = true
  ok : ∀ i, i < (L r.ps).length → okStep c r i = true
  m1 : 1 ≤ (L r.ps).length
  a : ∀ j, j + 1 < (L r.ps).length → trW wa (L r.ps) (j + 1) ≠ -1
  g : ∀ j, j + 1 < (L r.ps).length → trW wg (L r.ps) (j + 1) ≠ -1
  b : trW wg (L r.ps) (L r.ps).length = -1
/-- What violates answers. -/
def violB (c : Cmp) (wa wg : W3) (r : Run) : Bool :=
  if (chkRun c r).2 = 0 then if (L r.ps).length = 0 then false else decide ((brkRes wa ((L r.ps).take ((L r.ps).length - 1))).2 = 25) && (decide ((brkRes wg (L r.ps)).2 = 0) && decide ((brkRes wg (L r.ps)).1 = ((L r.ps).length - 1 : Nat))) else false
theorem runLoop_ok {c : Cmp} {r : Run} : ∀ (k i : Nat), i + k = (L r.ps).length → ((runLoop c r i k).2 = 0 ↔ ∀ j, i ≤ j → j < i + k → okStep c r j = true)
  | 0, i, h => by
    constructor
    · intro _ j h1 h2; omega
    · intro _; rfl
  | k + 1, i, h => by
    have ih := runLoop_ok (c := c) (r := r) k (i + 1) (by omega)
    unfold runLoop
    cases hs : okStep c r i with
    | true =>
      rw [if_pos rfl, ih]
      constructor
      · intro h1 j h2 h3
        by_cases e : j = i
        · subst e; exact hs
        · exact h1 j (by omega) (by omega)
      · intro h1 j h2 h3; exact h1 j (by omega) (by omega)
    | false =>
      constructor
      · intro h1; exact absurd h1 (by simp)
      · intro h1
        have := h1 i (Nat.le_refl _) (by omega)
        rw [hs] at this; exact absurd this (by decide)
theorem chk_iff {c : Cmp} {r : Run} (hz : cmpE c = 0) : (chkRun c r).2 = 0 ↔ prsE (L r.ps) = 0 ∧ (L r.st).length = (L r.ps).length + 1 ∧ (L r.st).any (badS c) = false ∧ hasI (L c.init) (stAt r 0) = true ∧ ∀ i, i < (L r.ps).length → okStep c r i = true := by
  unfold chkRun
  rw [if_pos hz]
  unfold runRes
  by_cases h1 : prsE (L r.ps) = 0
  · rw [if_pos h1]
    by_cases h2 : ((L r.st).length : Int) = ((L r.ps).length : Nat) + 1
    · rw [if_pos h2]
      cases h3 : (L r.st).any (badS c) with
      | true =>
        rw [if_pos rfl]
        constructor
        · intro h; exact absurd h (by decide)
        · rintro ⟨_, _, h, _⟩; exact absurd h (by decide)
      | false =>
        rw [if_neg (by decide)]
        cases h4 : hasI (L c.init) (stAt r 0) with
        | true =>
          rw [if_pos rfl, runLoop_ok _ 0 (by omega)]
          constructor
          · intro h; exact ⟨h1, by omega, rfl, rfl, fun i hi => h i (Nat.zero_le _) (by omega)⟩
          · rintro ⟨_, _, _, _, h⟩ j _ hj; exact h j (by omega)
        | false =>
          rw [if_neg (by decide)]
          constructor
          · intro h; exact absurd h (by decide)
          · rintro ⟨_, _, _, h, _⟩; exact absurd h (by decide)
    · rw [if_neg h2]
      constructor
      · intro h; exact absurd h (by decide)
      · rintro ⟨_, h, _⟩; omega
  · rw [if_neg h1]
    constructor
    · intro h; exact absurd h h1
    · rintro ⟨h, _⟩; exact absurd h h1
theorem prsE_take {l : List Pr} (h : prsE l = 0) (k : Nat) : prsE (l.take k) = 0 := by
  obtain ⟨h1, h2⟩ := prsE_zero h
  unfold prsE
  have h3 : (l.take k).length ≤ 60 := by rw [List.length_take]; omega
  have h4 : (l.take k).any badP = false := by
    rw [List.any_eq_false] at h1 ⊢
    exact fun x hx => h1 x (List.mem_of_mem_take hx)
  rw [if_pos h3, h4]
  rfl
theorem trW_take (l : W3) (ps : List Pr) (k j : Nat) (h : j ≤ k) (hk : k ≤ ps.length) : trW l (ps.take k) j = trW l ps j := by
  have := trW_app l (ps.take k) (ps.drop k) j (by rw [List.length_take]; omega)
  rw [List.take_append_drop] at this
  exact this.symm
theorem viol_iff {c : Cmp} {wa wg : W3} {r : Run} (hz : cmpE c = 0) (ha : wchE wa = 0) (hg : wchE wg = 0) : violB c wa wg r = true ↔ Vio c wa wg r := by
  unfold violB
  have hchk := chk_iff (r := r) hz
  constructor
  · intro h
    split at h
    · rename_i h1
      obtain ⟨c1, c2, c3, c4, c5⟩ := hchk.1 h1
      split at h
      · exact absurd h (by decide)
      · rename_i h2
        simp only [Bool.and_eq_true, decide_eq_true_eq] at h
        obtain ⟨b1, b2, b3⟩ := h
        have e1 : brk wa ((L r.ps).take ((L r.ps).length - 1)) = -1 := by
          unfold brkRes at b1
          rw [if_pos ha, if_pos (prsE_take c1 _)] at b1
          split at b1
          · assumption
          · exact absurd b1 (by simp)
        have e2 : brk wg (L r.ps) = (((L r.ps).length - 1 : Nat) : Int) := by
          unfold brkRes at b2 b3
          rw [if_pos hg, if_pos c1] at b2 b3
          split at b2
          · exact absurd b2 (by decide)
          · rename_i hb
            rw [if_neg hb] at b3
            exact b3
        rw [brk_none_iff] at e1
        rw [brk_some_iff (by omega)] at e2
        refine ⟨c1, c2, c3, c4, c5, by omega, fun j hj => ?_, fun j hj => e2.1 j (by omega), ?_⟩
        · have := e1 j (by rw [List.length_take]; omega)
          rwa [trW_take _ _ _ _ (by omega) (by omega)] at this
        · have := e2.2
          rwa [show (L r.ps).length - 1 + 1 = (L r.ps).length by omega] at this
    · exact absurd h (by decide)
  · intro h
    have hm := h.m1
    rw [if_pos (hchk.2 ⟨h.pe, h.ls, h.rg, h.i0, h.ok⟩), if_neg (by omega)]
    have e1 : brk wa ((L r.ps).take ((L r.ps).length - 1)) = -1 := by
      rw [brk_none_iff]
      intro j hj
      rw [List.length_take] at hj
      rw [trW_take _ _ _ _ (by omega) (by omega)]
      exact h.a j (by omega)
    have e2 : brk wg (L r.ps) = (((L r.ps).length - 1 : Nat) : Int) := by
      rw [brk_some_iff (by omega)]
      refine ⟨fun j hj => h.g j (by omega), ?_⟩
      rw [show (L r.ps).length - 1 + 1 = (L r.ps).length by omega]
      exact h.b
    unfold brkRes
    rw [if_pos ha, if_pos (prsE_take h.pe _), if_pos e1, if_pos hg, if_pos h.pe, if_neg (by rw [e2]; omega), e2]
    simp
end Go.D
end
/- The search for violations: sound, complete, shortest. -/
section
set_option linter.unusedVariables false
set_option linter.unusedSimpArgs false
namespace Go.D
/-! ### What is found is a run -/
/-- The path x.p is a run that keeps both watches, in the states of x.n. -/
structure PS (c : Cmp) (wa wg : W3) (x : QE) : Prop where
  ex : ∃ s r, x.p = s :: r ∧ r.length % 2 = 0 ∧ hasI (L c.init) s = true ∧ endOf s r = x.n.getD 0 0 ∧ (∀ j, j < r.length / 2 → okStep c (runV c (s :: r)) j = true) ∧
    (∀ j, j < r.length / 2 → trW wa (prsOf c s r) (j + 1) ≠ -1) ∧ (∀ j, j < r.length / 2 → trW wg (prsOf c s r) (j + 1) ≠ -1) ∧ trW wa (prsOf c s r) (r.length / 2) = x.n.getD 1 0 ∧ trW wg (prsOf c s r) (r.length / 2) = x.n.getD 2 0
theorem getD_app {α : Type} (d : α) {l m : List α} {i : Nat} (h : i < l.length) : (l ++ m).getD i d = l.getD i d := by
  rw [List.getD_eq_getElem?_getD, List.getElem?_append_left h, List.getD_eq_getElem?_getD]
theorem getD_app_at {α : Type} (d x : α) {l : List α} : (l ++ [x]).getD l.length d = x := by
  rw [List.getD_eq_getElem?_getD, List.getElem?_append_right (Nat.le_refl _)]; simp
/-- One move more. -/
theorem run_step {c : Cmp} {s : Int} {r : List Int} (hr : r.length % 2 = 0) {e : Edg} (he : e ∈ L c.mv) (hend : endOf s r = e.f) (hok : ∀ j, j < r.length / 2 → okStep c (runV c (s :: r)) j = true) :
    prsOf c s (r ++ [e.t, e.a]) = prsOf c s r ++ [vpr c e] ∧ (∀ j, j < (r ++ [e.t, e.a]).length / 2 → okStep c (runV c (s :: (r ++ [e.t, e.a]))) j = true) := by
  have hl1 := stsOf_len r hr
  have hl2 := prsOf_len c s r hr
  have e1 : prsOf c s (r ++ [e.t, e.a]) = prsOf c s r ++ [vpr c e] := by rw [prsOf_snoc c e.t e.a s r hr, hend]; rfl
  refine ⟨e1, fun j hj => ?_⟩
  have hst : ∀ i, stAt (runV c (s :: (r ++ [e.t, e.a]))) i = ((s :: stsOf r) ++ [e.a]).getD i 0 := by
    intro i
    show (s :: stsOf (r ++ [e.t, e.a])).getD i 0 = _
    rw [stsOf_snoc e.t e.a r hr]; rfl
  have hpr : ∀ i, prAt (runV c (s :: (r ++ [e.t, e.a]))) i = (prsOf c s r ++ [vpr c e]).getD i default := by
    intro i
    show (prsOf c s (r ++ [e.t, e.a])).getD i default = _
    rw [e1]
  have hlen : (s :: stsOf r).length = r.length / 2 + 1 := by rw [List.length_cons, hl1]
  unfold okStep
  by_cases hjk : j < r.length / 2
  · have := hok j hjk
    unfold okStep at this
    rw [hst, hst, hpr, getD_app 0 (by omega), getD_app 0 (by omega), getD_app default (by omega)]
    exact this
  · have hje : j = r.length / 2 := by simp at hj; omega
    have hl := endOf_last s r hr
    rw [hst, hst, hpr, getD_app 0 (by omega)]
    have a1 : ((s :: stsOf r) ++ [e.a]).getD (j + 1) 0 = e.a := by
      have : j + 1 = (s :: stsOf r).length := by omega
      rw [this]; exact getD_app_at 0 e.a
    have a2 : (prsOf c s r ++ [vpr c e]).getD j default = vpr c e := by
      have : j = (prsOf c s r).length := by omega
      rw [this]; exact getD_app_at default (vpr c e)
    rw [a1, a2, hje, hl, hend]
    simp only [Bool.and_eq_true, decide_eq_true_eq]
    refine ⟨?_, rfl⟩
    unfold hasE
    rw [List.any_eq_true]
    exact ⟨e, he, by simp [vpr]⟩
theorem mv_mem {c : Cmp} {k : Nat} (h : k < (L c.mv).length) : mvD c k ∈ L c.mv := by
  unfold mvD
  rw [getD_at default h]; exact List.getElem_mem h
theorem PS.step {c : Cmp} {wa wg : W3} {x : QE} (h : PS c wa wg x) {k : Nat} (hk : k < (L c.mv).length) (hf : (mvD c k).f = x.n.getD 0 0) (ha : nextW wa (x.n.getD 1 0) (vpr c (mvD c k)) ≠ -1) (hg : nextW wg (x.n.getD 2 0) (vpr c (mvD c k)) ≠ -1) :
    PS c wa wg ⟨[(mvD c k).a, nextW wa (x.n.getD 1 0) (vpr c (mvD c k)), nextW wg (x.n.getD 2 0) (vpr c (mvD c k))], x.p ++ [(mvD c k).t, (mvD c k).a]⟩ := by
  obtain ⟨s, r, hp, h1, h2, h3, h4, h5, h6, h7, h8⟩ := h.ex
  obtain ⟨e1, e2⟩ := run_step h1 (mv_mem hk) (by rw [h3, hf]) h4
  have hl2 := prsOf_len c s r h1
  have hh : (r ++ [(mvD c k).t, (mvD c k).a]).length / 2 = r.length / 2 + 1 := by simp
  have tr : ∀ (l : W3) j, j ≤ r.length / 2 → trW l (prsOf c s r ++ [vpr c (mvD c k)]) j = trW l (prsOf c s r) j := fun l j hj => trW_app l _ _ j (by omega)
  have trl : ∀ l : W3, trW l (prsOf c s r ++ [vpr c (mvD c k)]) (r.length / 2 + 1) = nextW l (trW l (prsOf c s r) (r.length / 2)) (vpr c (mvD c k)) := by
    intro l
    rw [trW, tr l _ (Nat.le_refl _)]
    congr 1
    have : r.length / 2 = (prsOf c s r).length := by omega
    rw [this]; exact getD_app_at default _
  refine ⟨s, r ++ [(mvD c k).t, (mvD c k).a], by rw [hp]; rfl, by simp; omega, h2, endOf_snoc _ _ s r h1, e2, fun j hj => ?_, fun j hj => ?_, ?_, ?_⟩
  · rw [e1]
    by_cases hjk : j < r.length / 2
    · rw [tr _ _ (by omega)]; exact h5 j hjk
    · have : j = r.length / 2 := by omega
      rw [this, trl, h7]; exact ha
  · rw [e1]
    by_cases hjk : j < r.length / 2
    · rw [tr _ _ (by omega)]; exact h6 j hjk
    · have : j = r.length / 2 := by omega
      rw [this, trl, h8]; exact hg
  · rw [e1, hh, trl, h7]; rfl
  · rw [e1, hh, trl, h8]; rfl
/-- A violation found at an element is one. -/
theorem PS.vio {c : Cmp} {n : Nat} {wa wg : W3} {x : QE} (hc : COk c n) (h : PS c wa wg x) (hx : NOkV n wa wg x.n) (hpx : POk n x.p (x.n.getD 0 0)) {k : Nat} (hk : k < (L c.mv).length) (hf : (mvD c k).f = x.n.getD 0 0) (hg : nextW wg (x.n.getD 2 0) (vpr c (mvD c k)) = -1) (h60 : (L (runV c (x.p ++ [(mvD c k).t, (mvD c k).a])).ps).length ≤ 60) :
    Vio c wa wg (runV c (x.p ++ [(mvD c k).t, (mvD c k).a])) := by
  obtain ⟨s, r, hp, h1, h2, h3, h4, h5, h6, h7, h8⟩ := h.ex
  obtain ⟨e1, e2⟩ := run_step h1 (mv_mem hk) (by rw [h3, hf]) h4
  have hl2 := prsOf_len c s r h1
  have hl1 := stsOf_len r h1
  have hh : (r ++ [(mvD c k).t, (mvD c k).a]).length / 2 = r.length / 2 + 1 := by simp
  have tr : ∀ (l : W3) j, j ≤ r.length / 2 → trW l (prsOf c s r ++ [vpr c (mvD c k)]) j = trW l (prsOf c s r) j := fun l j hj => trW_app l _ _ j (by omega)
  have trl : ∀ l : W3, trW l (prsOf c s r ++ [vpr c (mvD c k)]) (r.length / 2 + 1) = nextW l (trW l (prsOf c s r) (r.length / 2)) (vpr c (mvD c k)) := by
    intro l
    rw [trW, tr l _ (Nat.le_refl _)]
    congr 1
    have : r.length / 2 = (prsOf c s r).length := by omega
    rw [this]; exact getD_app_at default _
  have hrun : runV c (x.p ++ [(mvD c k).t, (mvD c k).a]) = runV c (s :: (r ++ [(mvD c k).t, (mvD c k).a])) := by rw [hp]; rfl
  rw [hrun] at h60 ⊢
  have hps : L (runV c (s :: (r ++ [(mvD c k).t, (mvD c k).a]))).ps = prsOf c s r ++ [vpr c (mvD c k)] := e1
  have hst : L (runV c (s :: (r ++ [(mvD c k).t, (mvD c k).a]))).st = (s :: stsOf r) ++ [(mvD c k).a] := by
    show s :: stsOf (r ++ [(mvD c k).t, (mvD c k).a]) = _
    rw [stsOf_snoc _ _ r h1]; rfl
  have hlen : (prsOf c s r ++ [vpr c (mvD c k)]).length = r.length / 2 + 1 := by simp [hl2]
  have hpx2 := hpx.snoc (i := (mvD c k).t) (t := (mvD c k).a) (hc.ml _ (mv_mem hk)).2.1
  obtain ⟨s', r', hp', hr', _, hrng⟩ := hpx2.ex
  have hss : s' = s ∧ r' = r ++ [(mvD c k).t, (mvD c k).a] := by
    rw [hp] at hp'
    simp only [List.cons_append, List.cons.injEq] at hp'
    exact ⟨hp'.1.symm, hp'.2.symm⟩
  rw [hss.1, hss.2, stsOf_snoc _ _ r h1] at hrng
  have pn : pred c.n = (n : Int) - 1 := by
    have := hc.n10
    rw [hc.nn]; exact wrap_ok (by omega) (by omega)
  -- letters
  have hbad : ∀ y ∈ prsOf c s r ++ [vpr c (mvD c k)], badP y = false := by
    have hall : ∀ (m : List Int) (u : Int), m.length % 2 = 0 → (∀ j, j < m.length / 2 → okStep c (runV c (u :: m)) j = true) → ∀ y ∈ prsOf c u m, badP y = false := by
      intro m u hm hok y hy
      obtain ⟨j, hj, rfl⟩ := List.getElem_of_mem hy
      have hlm := prsOf_len c u m hm
      have := hok j (by omega)
      unfold okStep at this
      rw [Bool.and_eq_true] at this
      have h9 := this.1
      unfold hasE at h9
      rw [List.any_eq_true] at h9
      obtain ⟨e, he, hee⟩ := h9
      simp only [decide_eq_true_eq] at hee
      obtain ⟨q1, q2, q3⟩ := hc.ml e he
      have hpa : prAt (runV c (u :: m)) j = (prsOf c u m)[j] := by
        show (prsOf c u m).getD j default = _
        rw [getD_at default hj]
      rw [hpa] at this hee
      have h10 := of_decide_eq_true this.2
      have h11 : stAt (runV c (u :: m)) j = e.f := by rw [hee]
      have h12 : (prsOf c u m)[j].i = e.t := by rw [hee]
      have h13 := hc.ol e.f.toNat (by omega)
      rw [h11] at h10
      simp only [badP, h12, q3, ← h10, h13]; rfl
    have := hall (r ++ [(mvD c k).t, (mvD c k).a]) s (by simp; omega) e2
    rw [e1] at this
    exact this
  have hpe : prsE (prsOf c s r ++ [vpr c (mvD c k)]) = 0 := by
    unfold prsE
    rw [hps] at h60
    rw [if_pos h60]
    have : (prsOf c s r ++ [vpr c (mvD c k)]).any badP = false := by
      rw [List.any_eq_false]
      intro y hy
      rw [hbad y hy]; decide
    rw [this]; rfl
  refine ⟨by rw [hps]; exact hpe, by rw [hps, hst, hlen]; simp [hl1], ?_, h2, ?_, by rw [hps, hlen]; omega, ?_, ?_, ?_⟩
  · rw [hst, List.any_eq_false]
    intro v hv
    have hv2 := hrng v (by simpa [or_assoc] using hv)
    simp only [badS, inR, pn, Bool.not_eq_true, Bool.not_eq_false', Bool.and_eq_true, decide_eq_true_eq]
    omega
  · intro i hi
    rw [hps, hlen] at hi
    exact e2 i (by omega)
  · intro j hj
    rw [hps, hlen] at hj
    rw [hps, tr _ _ (by omega)]
    exact h5 j (by omega)
  · intro j hj
    rw [hps, hlen] at hj
    rw [hps, tr _ _ (by omega)]
    exact h6 j (by omega)
  · rw [hps, hlen, trl, h8]; exact hg

/-! ### Levels -/
def lev (x : QE) : Nat := x.p.length / 2
structure BI (c : Cmp) (wa wg : W3) (q : List QE) (i : Nat) : Prop where
  init : ∀ s, hasI (L c.init) s = true → ∃ y ∈ q, y.n = [s, 0, 0] ∧ lev y = 0
  noV : ∀ (j : Nat) (x : QE), j < i → q[j]? = some x → violF c wg x (L c.mv).length 0 = none
  suc : ∀ (j : Nat) (x : QE), j < i → q[j]? = some x → ∀ k, k < (L c.mv).length → (mvD c k).f = x.n.getD 0 0 → nextW wa (x.n.getD 1 0) (vpr c (mvD c k)) ≠ -1 → ∃ y ∈ q, y.n = [(mvD c k).a, nextW wa (x.n.getD 1 0) (vpr c (mvD c k)), nextW wg (x.n.getD 2 0) (vpr c (mvD c k))] ∧ lev y ≤ lev x + 1
  srt : ∀ (j1 j2 : Nat) (x y : QE), j1 ≤ j2 → q[j1]? = some x → q[j2]? = some y → lev x ≤ lev y
  near : ∀ x, q[i]? = some x → ∀ y ∈ q, lev y ≤ lev x + 1
  ps : ∀ x ∈ q, PS c wa wg x
theorem addN_lev {q : List QE} {n p : List Int} {m : Nat} (hp : p.length / 2 = m) (h : ∀ y ∈ q, lev y ≤ m) : (∃ t, addN q n p = q ++ t ∧ ∀ y ∈ t, lev y = m) ∧ ∃ y ∈ addN q n p, y.n = n ∧ lev y ≤ m := by
  unfold addN
  split
  · rename_i hh
    obtain ⟨y, hy, e⟩ := hasN_mem.1 hh
    exact ⟨⟨[], by simp, fun y hy => absurd hy (by simp)⟩, y, hy, e, h y hy⟩
  · refine ⟨⟨[⟨n, p⟩], rfl, fun y hy => ?_⟩, ⟨n, p⟩, by simp, rfl, by simp [lev, hp]⟩
    rw [List.mem_singleton.1 hy]; exact hp
theorem addsF_lev {c : Cmp} {wa wg : W3} {x : QE} (hodd : x.p.length % 2 = 1) (hps : PS c wa wg x) : ∀ (r k : Nat) (q : List QE), (L c.mv).length - k = r → k ≤ (L c.mv).length → (∀ k', k ≤ k' → k' < (L c.mv).length → ¬ ((mvD c k').f = x.n.getD 0 0 ∧ nextW wg (x.n.getD 2 0) (vpr c (mvD c k')) = -1)) → (∀ y ∈ q, lev y ≤ lev x + 1) → (∀ y ∈ q, PS c wa wg y) →
    (∃ t, addsF c wa wg x r k q = q ++ t ∧ ∀ y ∈ t, lev y = lev x + 1) ∧ (∀ y ∈ addsF c wa wg x r k q, PS c wa wg y) ∧
      ∀ k', k ≤ k' → k' < (L c.mv).length → (mvD c k').f = x.n.getD 0 0 → nextW wa (x.n.getD 1 0) (vpr c (mvD c k')) ≠ -1 → ∃ y ∈ addsF c wa wg x r k q, y.n = [(mvD c k').a, nextW wa (x.n.getD 1 0) (vpr c (mvD c k')), nextW wg (x.n.getD 2 0) (vpr c (mvD c k'))] ∧ lev y ≤ lev x + 1
  | 0, k, q, hr, hk, hv, hl, hq => ⟨⟨[], by simp [addsF], fun y hy => absurd hy (by simp)⟩, hq, fun k' h1 h2 => by omega⟩
  | r + 1, k, q, hr, hk, hv, hl, hq => by
    have hkk : k < (L c.mv).length := by omega
    unfold addsF
    by_cases h1 : (mvD c k).f = x.n.getD 0 0
    · rw [if_pos h1]
      by_cases h2 : nextW wa (x.n.getD 1 0) (vpr c (mvD c k)) = -1
      · rw [if_pos h2]
        obtain ⟨a, b, d⟩ := addsF_lev hodd hps r (k + 1) q (by omega) (by omega) (fun k' p1 p2 => hv k' (by omega) p2) hl hq
        refine ⟨a, b, fun k' p1 p2 p3 p4 => ?_⟩
        by_cases e : k' = k
        · subst e; exact absurd h2 p4
        · exact d k' (by omega) p2 p3 p4
      · rw [if_neg h2]
        have hg : nextW wg (x.n.getD 2 0) (vpr c (mvD c k)) ≠ -1 := fun e => hv k (Nat.le_refl _) hkk ⟨h1, e⟩
        have hpl : (x.p ++ [(mvD c k).t, (mvD c k).a]).length / 2 = lev x + 1 := by simp [lev]
        obtain ⟨⟨t1, e1, l1⟩, y1, m1, n1, v1⟩ := addN_lev (q := q) (n := [(mvD c k).a, nextW wa (x.n.getD 1 0) (vpr c (mvD c k)), nextW wg (x.n.getD 2 0) (vpr c (mvD c k))]) hpl hl
        have hl2 : ∀ y ∈ addN q [(mvD c k).a, nextW wa (x.n.getD 1 0) (vpr c (mvD c k)), nextW wg (x.n.getD 2 0) (vpr c (mvD c k))] (x.p ++ [(mvD c k).t, (mvD c k).a]), lev y ≤ lev x + 1 := by
          intro y hy
          rw [e1] at hy
          rcases List.mem_append.1 hy with h | h
          · exact hl y h
          · rw [l1 y h]; exact Nat.le_refl _
        have hq2 : ∀ y ∈ addN q [(mvD c k).a, nextW wa (x.n.getD 1 0) (vpr c (mvD c k)), nextW wg (x.n.getD 2 0) (vpr c (mvD c k))] (x.p ++ [(mvD c k).t, (mvD c k).a]), PS c wa wg y := by
          intro y hy
          unfold addN at hy
          split at hy
          · exact hq y hy
          · rcases List.mem_append.1 hy with h | h
            · exact hq y h
            · rw [List.mem_singleton.1 h]; exact hps.step hkk h1 h2 hg
        obtain ⟨⟨t2, e2, l2⟩, b, d⟩ := addsF_lev hodd hps r (k + 1) _ (by omega) (by omega) (fun k' p1 p2 => hv k' (by omega) p2) hl2 hq2
        refine ⟨⟨t1 ++ t2, by rw [e2, e1, List.append_assoc], fun y hy => ?_⟩, b, fun k' p1 p2 p3 p4 => ?_⟩
        · rcases List.mem_append.1 hy with h | h
          · exact l1 y h
          · exact l2 y h
        · by_cases e : k' = k
          · subst e
            exact ⟨y1, by rw [e2]; exact List.mem_append_left _ m1, n1, v1⟩
          · exact d k' (by omega) p2 p3 p4
    · rw [if_neg h1]
      obtain ⟨a, b, d⟩ := addsF_lev hodd hps r (k + 1) q (by omega) (by omega) (fun k' p1 p2 => hv k' (by omega) p2) hl hq
      refine ⟨a, b, fun k' p1 p2 p3 p4 => ?_⟩
      by_cases e : k' = k
      · subst e; exact absurd p3 h1
      · exact d k' (by omega) p2 p3 p4
theorem violF_none {c : Cmp} {wg : W3} {x : QE} : ∀ (r k : Nat), violF c wg x r k = none → ∀ k', k ≤ k' → k' < k + r → ¬ ((mvD c k').f = x.n.getD 0 0 ∧ nextW wg (x.n.getD 2 0) (vpr c (mvD c k')) = -1)
  | 0, k, h, k', h1, h2 => by omega
  | r + 1, k, h, k', h1, h2 => by
    unfold violF at h
    split at h
    · exact absurd h (by simp)
    · rename_i hn
      by_cases e : k' = k
      · subst e; exact hn
      · exact violF_none r (k + 1) h k' (by omega) (by omega)
theorem violF_some {c : Cmp} {wg : W3} {x : QE} {p : List Int} : ∀ (r k : Nat), violF c wg x r k = some p → ∃ k', k ≤ k' ∧ k' < k + r ∧ (mvD c k').f = x.n.getD 0 0 ∧ nextW wg (x.n.getD 2 0) (vpr c (mvD c k')) = -1 ∧ p = x.p ++ [(mvD c k').t, (mvD c k').a]
  | 0, k, h => by simp [violF] at h
  | r + 1, k, h => by
    unfold violF at h
    split at h
    · rename_i hn
      exact ⟨k, Nat.le_refl _, by omega, hn.1, hn.2, by simpa using h.symm⟩
    · obtain ⟨k', a, b, d⟩ := violF_some r (k + 1) h
      exact ⟨k', by omega, by omega, d⟩
theorem POk.odd {n : Nat} {p : List Int} {a : Int} (h : POk n p a) : p.length % 2 = 1 := by
  obtain ⟨s, r, rfl, h1, _⟩ := h.ex
  simp only [List.length_cons]; omega
section
variable {c : Cmp} {n : Nat} {wa wg : W3} (hc : COk c n) (ha : WOk wa wa.length) (hg : WOk wg wg.length)
include hc ha hg
theorem bfs_BI : ∀ (K i : Nat) (q : List QE), 361 - i = K → i ≤ q.length → IV n wa wg q → BI c wa wg q i →
    match bfsQ (visV c wa wg) K i q with
    | none => ∃ q', BI c wa wg q' q'.length
    | some p => ∃ q' i' x, BI c wa wg q' i' ∧ IV n wa wg q' ∧ q'[i']? = some x ∧ violF c wg x (L c.mv).length 0 = some p
  | 0, i, q, hk, hi, hI, hB => by
    have := hI.le hc.n10 ha hg
    omega
  | K + 1, i, q, hk, hi, hI, hB => by
    have hql := hI.le hc.n10 ha hg
    rw [bfsQ_succ]
    by_cases h : i < q.length
    · have hx := List.getElem?_eq_getElem h
      have hm := List.getElem_mem h
      have hxn := hI.ok _ hm
      have hpx := hI.pp _ hm
      rw [hx]
      have hv : visV c wa wg q[i] q = _ := visVF_split c wa wg q[i] (L c.mv).length 0 q
      simp only [hv]
      cases hvf : violF c wg q[i] (L c.mv).length 0 with
      | some p => exact ⟨q, i, q[i], hB, hI, hx, hvf⟩
      | none =>
        have hnv := violF_none _ _ hvf
        obtain ⟨⟨t, e1, l1⟩, ps1, s1⟩ := addsF_lev hpx.odd (hB.ps _ hm) _ 0 q rfl (Nat.zero_le _) (fun k' p1 p2 => hnv k' p1 (by omega)) (fun y hy => hB.near _ hx y hy) hB.ps
        have hI2 : IV n wa wg (addsF c wa wg q[i] (L c.mv).length 0 q) := by
          rcases visVF_ok hc ha hg hxn hpx _ 0 q rfl (Nat.zero_le _) hI (hI.pl _ hm) with ⟨p, h1, _⟩ | ⟨q2, h1, h2, _⟩
          · rw [Nat.sub_zero, visVF_split, hvf] at h1; exact absurd h1 (by simp)
          · rw [Nat.sub_zero, visVF_split, hvf] at h1
            have : addsF c wa wg q[i] (L c.mv).length 0 q = q2 := by simpa using h1
            rw [this]; exact h2
        rw [Nat.sub_zero] at e1 ps1 s1
        refine bfs_BI K (i + 1) _ (by omega) (by rw [e1, List.length_append]; omega) hI2 ?_
        have old : ∀ (j : Nat) (y : QE), j < q.length → (addsF c wa wg q[i] (L c.mv).length 0 q)[j]? = some y → q[j]? = some y := by
          intro j y hj hy
          rw [e1, List.getElem?_append_left hj] at hy
          exact hy
        have new : ∀ (j : Nat) (y : QE), (addsF c wa wg q[i] (L c.mv).length 0 q)[j]? = some y → q[j]? = some y ∨ (q.length ≤ j ∧ lev y = lev q[i] + 1) := by
          intro j y hy
          by_cases hj : j < q.length
          · exact .inl (old j y hj hy)
          · rw [e1, List.getElem?_append_right (by omega)] at hy
            exact .inr ⟨by omega, l1 y (List.mem_of_getElem? hy)⟩
        have sub : ∀ y ∈ q, y ∈ addsF c wa wg q[i] (L c.mv).length 0 q := fun y hy => by rw [e1]; exact List.mem_append_left _ hy
        refine ⟨fun s hs => ?_, fun j x hj hjx => ?_, fun j x hj hjx k p2 p3 p4 => ?_, fun j1 j2 x y h12 h1 h2 => ?_, fun x hxx y hy => ?_, ps1⟩
        · obtain ⟨y, hy, r1⟩ := hB.init s hs
          exact ⟨y, sub y hy, r1⟩
        · have hjy := old j x (by omega) hjx
          by_cases e : j = i
          · subst e
            have : x = q[j] := by rw [hx] at hjy; simpa using hjy.symm
            rw [this]; exact hvf
          · exact hB.noV j x (by omega) hjy
        · have hjy := old j x (by omega) hjx
          by_cases e : j = i
          · subst e
            have : x = q[j] := by rw [hx] at hjy; simpa using hjy.symm
            rw [this] at p3 p4 ⊢
            exact s1 k (Nat.zero_le _) p2 p3 p4
          · obtain ⟨y, hy, r1⟩ := hB.suc j x (by omega) hjy k p2 p3 p4
            exact ⟨y, sub y hy, r1⟩
        · rcases new j1 x h1 with g1 | ⟨g1, g2⟩
          · rcases new j2 y h2 with g3 | ⟨g3, g4⟩
            · exact hB.srt j1 j2 x y h12 g1 g3
            · rw [g4]; exact hB.near _ hx x (List.mem_of_getElem? g1)
          · rcases new j2 y h2 with g3 | ⟨g3, g4⟩
            · have := (List.getElem?_eq_some_iff.1 g3).1; omega
            · omega
        · have hlx : lev q[i] ≤ lev x := by
            rcases new (i + 1) x hxx with g1 | ⟨g1, g2⟩
            · exact hB.srt i (i + 1) _ _ (by omega) hx g1
            · omega
          obtain ⟨j, hj, rfl⟩ := List.getElem_of_mem hy
          rcases new j _ (List.getElem?_eq_getElem hj) with g1 | ⟨g1, g2⟩
          · have := hB.near _ hx _ (List.mem_of_getElem? g1); omega
          · omega
    · rw [List.getElem?_eq_none (by omega)]
      have : i = q.length := by omega
      subst this
      exact ⟨q, hB⟩
omit hc ha hg in
theorem BI0 : BI c wa wg (initQ c) 0 := by
  have hm : ∀ x ∈ initQ c, ∃ s ∈ L c.init, x = ⟨[s, 0, 0], [s]⟩ := fun x hx => by
    obtain ⟨s, hs, rfl⟩ := List.mem_map.1 hx
    exact ⟨s, hs, rfl⟩
  have hl0 : ∀ x ∈ initQ c, lev x = 0 := fun x hx => by
    obtain ⟨s, _, rfl⟩ := hm x hx
    simp [lev]
  refine ⟨fun s hs => ?_, fun j x hj => absurd hj (by omega), fun j x hj => absurd hj (by omega), fun j1 j2 x y _ h1 h2 => ?_, fun x hx y hy => ?_, fun x hx => ?_⟩
  · unfold hasI at hs
    rw [List.any_eq_true] at hs
    obtain ⟨a, h1, h2⟩ := hs
    have : s = a := by simpa using h2
    subst this
    exact ⟨⟨[s, 0, 0], [s]⟩, List.mem_map.2 ⟨s, h1, rfl⟩, rfl, by simp [lev]⟩
  · rw [hl0 x (List.mem_of_getElem? h1)]; exact Nat.zero_le _
  · rw [hl0 y hy]; exact Nat.zero_le _
  · obtain ⟨s, hs, rfl⟩ := hm x hx
    refine ⟨s, [], rfl, rfl, ?_, rfl, fun j hj => absurd hj (by simp), fun j hj => absurd hj (by simp), fun j hj => absurd hj (by simp), rfl, rfl⟩
    unfold hasI
    rw [List.any_eq_true]
    exact ⟨s, hs, by simp⟩
omit hc ha hg in
/-- A violating run's states are found. -/
theorem vio_found {r : Run} (hr : Vio c wa wg r) {q : List QE} {i b : Nat} (hB : BI c wa wg q i) (hb : ∀ (j : Nat) (y : QE), q[j]? = some y → lev y < b → j < i) : ∀ j, j < (L r.ps).length → j < b → ∃ y ∈ q, y.n = [stAt r j, trW wa (L r.ps) j, trW wg (L r.ps) j] ∧ lev y ≤ j
  | 0, hj, hjb => by
    obtain ⟨y, h1, h2, h3⟩ := hB.init _ hr.i0
    exact ⟨y, h1, h2, by omega⟩
  | j + 1, hj, hjb => by
    obtain ⟨y, h1, h2, h3⟩ := vio_found hr hB hb j (by omega) (by omega)
    obtain ⟨m, hm, rfl⟩ := List.getElem_of_mem h1
    have hmi := hb m _ (List.getElem?_eq_getElem hm) (by omega)
    have hok := hr.ok j (by omega)
    unfold okStep at hok
    rw [Bool.and_eq_true] at hok
    have he := hok.1
    unfold hasE at he
    rw [List.any_eq_true] at he
    obtain ⟨e, hem, hee⟩ := he
    simp only [decide_eq_true_eq] at hee
    obtain ⟨k, hk, rfl⟩ := List.getElem_of_mem hem
    have hkd : mvD c k = (L c.mv)[k] := getD_at default hk
    have ho := of_decide_eq_true hok.2
    have hv : vpr c (mvD c k) = (L r.ps).getD j default := by
      rw [hkd, hee]
      show (⟨(prAt r j).i, outC c (stAt r j)⟩ : Pr) = prAt r j
      unfold outC
      rw [ho]
    have hf : (mvD c k).f = q[m].n.getD 0 0 := by rw [hkd, hee, h2]; rfl
    have hta : nextW wa (q[m].n.getD 1 0) (vpr c (mvD c k)) = trW wa (L r.ps) (j + 1) := by rw [h2, hv]; rfl
    have htg : nextW wg (q[m].n.getD 2 0) (vpr c (mvD c k)) = trW wg (L r.ps) (j + 1) := by rw [h2, hv]; rfl
    obtain ⟨y', g1, g2, g3⟩ := hB.suc m _ hmi (List.getElem?_eq_getElem hm) k hk hf (by rw [hta]; exact hr.a j (by omega))
    refine ⟨y', g1, ?_, by omega⟩
    rw [g2, hta, htg, hkd, hee]
omit hc ha hg in
theorem vio_last {r : Run} (hr : Vio c wa wg r) {y : QE} (hy : y.n = [stAt r ((L r.ps).length - 1), trW wa (L r.ps) ((L r.ps).length - 1), trW wg (L r.ps) ((L r.ps).length - 1)]) : violF c wg y (L c.mv).length 0 ≠ none := by
  intro hv
  have hm1 := hr.m1
  have hok := hr.ok ((L r.ps).length - 1) (by omega)
  unfold okStep at hok
  rw [Bool.and_eq_true] at hok
  have he := hok.1
  unfold hasE at he
  rw [List.any_eq_true] at he
  obtain ⟨e, hem, hee⟩ := he
  simp only [decide_eq_true_eq] at hee
  obtain ⟨k, hk, rfl⟩ := List.getElem_of_mem hem
  have hkd : mvD c k = (L c.mv)[k] := getD_at default hk
  have ho := of_decide_eq_true hok.2
  have hvp : vpr c (mvD c k) = (L r.ps).getD ((L r.ps).length - 1) default := by
    rw [hkd, hee]
    show (⟨(prAt r ((L r.ps).length - 1)).i, outC c (stAt r ((L r.ps).length - 1))⟩ : Pr) = prAt r ((L r.ps).length - 1)
    unfold outC
    rw [ho]
  refine violF_none _ _ hv k (Nat.zero_le _) (by omega) ⟨by rw [hkd, hee, hy]; rfl, ?_⟩
  rw [hy, hvp]
  have := hr.b
  rw [show (L r.ps).length = (L r.ps).length - 1 + 1 by omega] at this
  exact this
/-- Without a violation that is found there is none. -/
theorem viRes_none (h : viRes c wa wg = none) (r : Run) : ¬ Vio c wa wg r := by
  intro hr
  have := bfs_BI hc ha hg 361 0 (initQ c) rfl (Nat.zero_le _) (iv0 hc ha hg) BI0
  rw [show bfsQ (visV c wa wg) 361 0 (initQ c) = none from h] at this
  obtain ⟨q', hB⟩ := this
  have hm1 := hr.m1
  obtain ⟨y, h1, h2, _⟩ := vio_found hr hB (b := (L r.ps).length) (fun j y hy _ => (List.getElem?_eq_some_iff.1 hy).1) ((L r.ps).length - 1) (by omega) (by omega)
  obtain ⟨m, hm, rfl⟩ := List.getElem_of_mem h1
  exact vio_last hr h2 (hB.noV m _ hm (List.getElem?_eq_getElem hm))
/-- None is shorter than the one that is found. -/
theorem viRes_least {p : List Int} (h : viRes c wa wg = some p) (r : Run) (hr : Vio c wa wg r) : (L (runV c p).ps).length ≤ (L r.ps).length := by
  have := bfs_BI hc ha hg 361 0 (initQ c) rfl (Nat.zero_le _) (iv0 hc ha hg) BI0
  rw [show bfsQ (visV c wa wg) 361 0 (initQ c) = some p from h] at this
  obtain ⟨q', i', x, hB, hI, hx, hv⟩ := this
  have hm1 := hr.m1
  obtain ⟨k, _, hk, hf, hgb, rfl⟩ := violF_some _ _ hv
  have hm := List.mem_of_getElem? hx
  obtain ⟨s, r', hp, hr2, _⟩ := (hI.pp x hm).ex
  have hlen : (L (runV c (x.p ++ [(mvD c k).t, (mvD c k).a])).ps).length = lev x + 1 := by
    have : runV c (x.p ++ [(mvD c k).t, (mvD c k).a]) = runV c (s :: (r' ++ [(mvD c k).t, (mvD c k).a])) := by rw [hp]; rfl
    rw [this]
    show (prsOf c s (r' ++ [(mvD c k).t, (mvD c k).a])).length = _
    rw [prsOf_len c s _ (by simp; omega)]
    simp only [lev, hp, List.length_cons, List.length_append, List.length_nil]
    omega
  rw [hlen]
  by_cases hle : lev x + 1 ≤ (L r.ps).length
  · exact hle
  · exfalso
    obtain ⟨y, h1, h2, h3⟩ := vio_found hr hB (b := lev x) (fun j y hy hl => by
      by_cases hj : j < i'
      · exact hj
      · have := hB.srt i' j x y (by omega) hx hy; omega) ((L r.ps).length - 1) (by omega) (by omega)
    obtain ⟨m, hm', rfl⟩ := List.getElem_of_mem h1
    have hmi : m < i' := by
      by_cases hj : m < i'
      · exact hj
      · have := hB.srt i' m x _ (by omega) hx (List.getElem?_eq_getElem hm'); omega
    exact vio_last hr h2 (hB.noV m _ hmi (List.getElem?_eq_getElem hm'))
/-- What is found violates. -/
theorem viRes_vio {p : List Int} (h : viRes c wa wg = some p) (h60 : (L (runV c p).ps).length ≤ 60) : Vio c wa wg (runV c p) := by
  have := bfs_BI hc ha hg 361 0 (initQ c) rfl (Nat.zero_le _) (iv0 hc ha hg) BI0
  rw [show bfsQ (visV c wa wg) 361 0 (initQ c) = some p from h] at this
  obtain ⟨q', i', x, hB, hI, hx, hv⟩ := this
  obtain ⟨k, _, hk, hf, hgb, rfl⟩ := violF_some _ _ hv
  have hm := List.mem_of_getElem? hx
  exact (hB.ps x hm).vio hc (hI.ok x hm) (hI.pp x hm) (by omega) hf hgb h60
end
end Go.D
end
/- OpenViolates: the law answers true. -/
section
set_option linter.unusedVariables false
set_option linter.unusedSimpArgs false
namespace Go.D
def eW2 (a b : OW) : List DV := [.p (eWt a), .p (eWt b)]
theorem idx81_0 (r : Nat) : indexAddr PP 81 (.ptr r 0) (.p (pI 0)) = some (.ptr r 0) := Eq.trans (by kernel_rfl) rfl
theorem idx81_1 (r : Nat) : indexAddr PP 81 (.ptr r 0) (.p (pI 1)) = some (.ptr r 1) := Eq.trans (by kernel_rfl) rfl
theorem load81 (x : DV) (σ : Store) : load PP 81 x σ = (loadN σ 2 x).map .agg := Eq.trans (by kernel_rfl) rfl
theorem box_w2 (a b : OW) : boxV (.agg (eW2 a b)) = some (eW2 a b) := rfl
theorem w2_view (a b : OW) : view (.agg (eW2 a b)) = .agg (eW2 a b) := by simp [view, viewCell, eW2, loosen_wt]
theorem load27w (x : DV) (σ : Store) : load PP 27 x σ = load1 x σ := Eq.trans (by kernel_rfl) rfl
theorem prs_take (l : List Pr) (k : Nat) : (ePrs l).take (k * 2) = ePrs (l.take k) := by
  induction l generalizing k with
  | nil => simp [ePrs]
  | cons x l ih =>
    cases k with
    | zero => simp [ePrs]
    | succ k =>
      have := ih k
      rw [show (k + 1) * 2 = k * 2 + 1 + 1 by omega]
      simp only [ePrs, List.take_succ_cons, this]
theorem slice31 {o : OP} (h : 1 ≤ (L o).length) : sliceOp PP 31 (.p (ePs o)) none (some (.p (pI ((L o).length - 1 : Nat)))) none = some (.p (ePs (some ((L o).take ((L o).length - 1))))) := by
  cases o with
  | none => simp at h
  | some l =>
    have h : 1 ≤ l.length := h
    have e1 : (((L (some l) : List Pr).length - 1 : Nat) : Int) = ((l.length - 1 : Nat) : Int) := rfl
    have e2 : ((l.length - 1 : Nat) : Int) ≤ (l.length : Nat) := by omega
    have e3 := prs_take l (l.length - 1)
    have hb : bound (some (.p (pI ((l.length - 1 : Nat))))) l.length l.length = some (l.length - 1) := by
      have : (0 : Int) ≤ ((l.length - 1 : Nat) : Int) ∧ ((l.length - 1 : Nat) : Int) ≤ (l.length : Nat) := by omega
      simp only [bound, this, and_self, if_true, Int.toNat_natCast]
    show sliceOp PP 31 (.p (.sl false l.length (ePrs l))) none (some (.p (pI ((l.length - 1 : Nat))))) none = some (.p (.sl false (l.take (l.length - 1)).length (ePrs (l.take (l.length - 1)))))
    have hne : (l.length - 1 == l.length) = false := by simp; omega
    simp only [sliceOp, u31, s98, hb, Option.isSome_none, Bool.false_and, Bool.false_eq_true, if_false]
    simp [bound, e3]
theorem S42 {c : Cmp} {wa wg : OW} {r : Run} {σ : Store} (hc : CSm c) (ha : WSm wa) (hg : WSm wg) (hr : RSm r) : pureV CC 42 [.agg (eCmp c), .agg (eW2 wa wg), .agg (eRun r)] σ = some (.p (.bool (violB c (wl wa) (wl wg) r))) := by
  have hF : ∃ σ', F42 guardT 0 (.agg (eCmp c)) (.agg (eW2 wa wg)) (.agg (eRun r)) [] = some (.p (.bool (violB c (wl wa) (wl wg) r)), σ') := by
    rw [F42_eq]
    simp only [box_cmp, box_w2, box_run, guard_tt, guard_ff, guard_tf, guard_ft, guard_sk, obind, omap, pickV_true, pickV_false, condK_true, condK_false, decide_true, decide_false, Bool.not_true, Bool.not_false, not_bool, List.length_nil, List.nil_append, List.cons_append, List.length_cons, Nat.zero_add, Nat.reduceAdd]
    have t0 : ([.mix (eCmp c), .mix (eW2 wa wg), .mix (eRun r)] : Store)[0]? = some (.mix (eCmp c)) := rfl
    have t1 : ([.mix (eCmp c), .mix (eW2 wa wg), .mix (eRun r)] : Store)[1]? = some (.mix (eW2 wa wg)) := rfl
    have t2 : ([.mix (eCmp c), .mix (eW2 wa wg), .mix (eRun r)] : Store)[2]? = some (.mix (eRun r)) := rfl
    generalize ([.mix (eCmp c), .mix (eW2 wa wg), .mix (eRun r)] : Store) = τ at *
    have l33 : loadN τ 2 (.ptr 2 0) = some (eRun r) := loadN_ptr t2 rfl (by simp [eRun])
    have hcr : chkRun (ownC c) (ownR r) = chkRun c r := by unfold chkRun; rw [cmpE_own, runRes_own]
    simp only [fa33_1, shift_ptr, shift_pptr, Nat.zero_add, Nat.add_zero, pureFn_fn, List.append_nil, List.singleton_append, List.cons_append, List.nil_append, load31, load1_ptr (off := 1) t2 rfl, len31, guard_tt, guard_ff, guard_tf, guard_ft, guard_sk, obind, omap, pickV_true, pickV_false, condK_true, condK_false, decide_true, decide_false, Bool.not_true, Bool.not_false, not_bool, b_sub, load25, cm_all t0, S14 hc, load33, l33, S31 hr, S30 (csm_own hc) (rsm_own hr), hcr, tup2, ex0, ex1, b_lss, b_eql, b_neq, b_leq, b_geq, b_gtr]
    unfold violB
    by_cases h1 : (chkRun c r).2 = 0
    · have d1 : decide ((chkRun c r).2 = 0) = true := decide_eq_true h1
      rw [if_pos h1]
      by_cases h2 : (L r.ps).length = 0
      · rw [if_pos h2]
        have hw : IntKind.wrap .i64 (((L r.ps).length : Nat) - 1) = -1 := by rw [h2]; exact wrap_ok (by decide) (by decide)
        exact ⟨_, by simp only [d1, guard_tt, guard_ff, guard_tf, guard_ft, guard_sk, obind, omap, pickV_true, pickV_false, condK_true, condK_false, decide_true, decide_false, Bool.not_true, Bool.not_false, not_bool, hw, b_lss, b_eql, b_neq, b_leq, b_geq, b_gtr, show ((-1 : Int) < 0) by decide]; rfl⟩
      · rw [if_neg h2]
        have hl := hr.p
        have hw : IntKind.wrap .i64 (((L r.ps).length : Nat) - 1) = (((L r.ps).length - 1 : Nat) : Int) := wrap_sub1 (by omega) (by omega)
        have hn : ¬ (((L r.ps).length - 1 : Nat) : Int) < 0 := by omega
        have hl2 : (L (some ((L r.ps).take ((L r.ps).length - 1))) : List Pr).length ≤ 1000 := by
          show ((L r.ps).take ((L r.ps).length - 1)).length ≤ 1000
          rw [List.length_take]; omega
        have b1 := S34 (σ := τ) (wsm_own ha) (o := some (L (some ((L r.ps).take ((L r.ps).length - 1))))) hl2
        have b2 := S34 (σ := τ) (wsm_own hg) (o := some (L r.ps)) hl
        rw [wl_own] at b1 b2
        have e1 : L (some (L (some ((L r.ps).take ((L r.ps).length - 1))))) = (L r.ps).take ((L r.ps).length - 1) := rfl
        have e2 : L (some (L r.ps)) = L r.ps := rfl
        rw [e1] at b1
        rw [e2] at b2
        simp only [d1, guard_tt, guard_ff, guard_tf, guard_ft, guard_sk, obind, omap, pickV_true, pickV_false, condK_true, condK_false, decide_true, decide_false, Bool.not_true, Bool.not_false, not_bool, hw, b_lss, b_eql, b_neq, b_leq, b_geq, b_gtr, hn, idx81_0, idx81_1, load27w, load1_ptr (off := 0) t1 rfl, load1_ptr (off := 1) t1 rfl, fa33_1, load31, load1_ptr (off := 1) t2 rfl, shift_ptr, shift_pptr, Nat.zero_add, Nat.add_zero, pureFn_fn, List.append_nil, List.singleton_append, List.cons_append, List.nil_append, S15 ha, S15 hg, slice31 (show 1 ≤ (L r.ps).length by omega), S35 hl2, S35 hl, b1, b2, tup2, ex0, ex1]
        cases k1 : decide ((brkRes (wl wa) ((L r.ps).take ((L r.ps).length - 1))).2 = 25) with
        | false => exact ⟨_, by simp only [guard_tt, guard_ff, guard_tf, guard_ft, guard_sk, obind, omap, pickV_true, pickV_false, condK_true, condK_false, decide_true, decide_false, Bool.not_true, Bool.not_false, not_bool, Bool.false_and]; rfl⟩
        | true =>
          cases k2 : decide ((brkRes (wl wg) (L r.ps)).2 = 0) with
          | false => exact ⟨_, by simp only [guard_tt, guard_ff, guard_tf, guard_ft, guard_sk, obind, omap, pickV_true, pickV_false, condK_true, condK_false, decide_true, decide_false, Bool.not_true, Bool.not_false, not_bool, b_lss, b_eql, b_neq, b_leq, b_geq, b_gtr, k2, Bool.true_and, Bool.false_and]; rfl⟩
          | true => exact ⟨_, by simp only [guard_tt, guard_ff, guard_tf, guard_ft, guard_sk, obind, omap, pickV_true, pickV_false, condK_true, condK_false, decide_true, decide_false, Bool.not_true, Bool.not_false, not_bool, b_lss, b_eql, b_neq, b_leq, b_geq, b_gtr, k2, Bool.true_and]; rfl⟩
    · have d1 : decide ((chkRun c r).2 = 0) = false := decide_eq_false h1
      rw [if_neg h1]
      exact ⟨_, by simp only [d1, guard_tt, guard_ff, guard_tf, guard_ft, guard_sk, obind, omap, pickV_true, pickV_false, condK_true, condK_false, decide_true, decide_false, Bool.not_true, Bool.not_false, not_bool]; rfl⟩
  obtain ⟨σ', h⟩ := hF
  exact pureV_free (by simp [cmp_view, w2_view, run_view]) rfl (F42_call h) rfl
theorem law8 (hawake : ∀ σ, pureV CC 10 [] σ = some (.p (.bool true))) (c : Cmp) (wa wg : OW) (r : Run) : ∃ σ', F8 guardT 0 (.agg (eCmp c)) (.agg (eW2 wa wg)) (.agg (eRun r)) [] = some (.p (.bool true), σ') := by
  rw [F8_eq]
  simp only [box_cmp, box_w2, box_run, guard_tt, guard_ff, guard_tf, guard_ft, guard_sk, obind, omap, pickV_true, pickV_false, condK_true, condK_false, decide_true, decide_false, Bool.not_true, Bool.not_false, not_bool, List.length_nil, List.nil_append, List.cons_append, List.length_cons, Nat.zero_add, Nat.reduceAdd]
  have t0 : ([.mix (eCmp c), .mix (eW2 wa wg), .mix (eRun r)] : Store)[0]? = some (.mix (eCmp c)) := rfl
  have t1 : ([.mix (eCmp c), .mix (eW2 wa wg), .mix (eRun r)] : Store)[1]? = some (.mix (eW2 wa wg)) := rfl
  have t2 : ([.mix (eCmp c), .mix (eW2 wa wg), .mix (eRun r)] : Store)[2]? = some (.mix (eRun r)) := rfl
  generalize ([.mix (eCmp c), .mix (eW2 wa wg), .mix (eRun r)] : Store) = τ at *
  have l33 : loadN τ 2 (.ptr 2 0) = some (eRun r) := loadN_ptr t2 rfl (by simp [eRun])
  have l81 : loadN τ 2 (.ptr 1 0) = some (eW2 wa wg) := loadN_ptr t1 rfl (by simp [eW2])
  simp only [shift_ptr, shift_pptr, Nat.zero_add, Nat.add_zero, pureFn_fn, List.append_nil, List.singleton_append, List.cons_append, List.nil_append, hawake, guard_tt, guard_ff, guard_tf, guard_ft, guard_sk, obind, omap, pickV_true, pickV_false, condK_true, condK_false, decide_true, decide_false, Bool.not_true, Bool.not_false, not_bool, load25, cm_all t0, S11]
  cases hfew : fewC c with
  | false => exact ⟨_, by simp only [guard_tt, guard_ff, guard_tf, guard_ft, guard_sk, obind, omap, pickV_true, pickV_false, condK_true, condK_false, decide_true, decide_false, Bool.not_true, Bool.not_false, not_bool]; rfl⟩
  | true =>
    have hc := csm_of hfew
    simp only [guard_tt, guard_ff, guard_tf, guard_ft, guard_sk, obind, omap, pickV_true, pickV_false, condK_true, condK_false, decide_true, decide_false, Bool.not_true, Bool.not_false, not_bool, idx81_0, idx81_1, load27w, load1_ptr (off := 0) t1 rfl, load1_ptr (off := 1) t1 rfl, shift_ptr, shift_pptr, Nat.zero_add, Nat.add_zero, pureFn_fn, List.append_nil, List.singleton_append, List.cons_append, List.nil_append, S12]
    cases hsa : smallW wa with
    | false => exact ⟨_, by simp only [guard_tt, guard_ff, guard_tf, guard_ft, guard_sk, obind, omap, pickV_true, pickV_false, condK_true, condK_false, decide_true, decide_false, Bool.not_true, Bool.not_false, not_bool]; rfl⟩
    | true =>
      have ha := wsm_of hsa
      cases hsg : smallW wg with
      | false => exact ⟨_, by simp only [guard_tt, guard_ff, guard_tf, guard_ft, guard_sk, obind, omap, pickV_true, pickV_false, condK_true, condK_false, decide_true, decide_false, Bool.not_true, Bool.not_false, not_bool, S12, hsg, shift_ptr, shift_pptr, Nat.zero_add, Nat.add_zero, pureFn_fn, List.append_nil, List.singleton_append, List.cons_append, List.nil_append, load27w, load1_ptr (off := 1) t1 rfl]; rfl⟩
      | true =>
        have hg := wsm_of hsg
        simp only [guard_tt, guard_ff, guard_tf, guard_ft, guard_sk, obind, omap, pickV_true, pickV_false, condK_true, condK_false, decide_true, decide_false, Bool.not_true, Bool.not_false, not_bool, load27w, load1_ptr (off := 1) t1 rfl, shift_ptr, shift_pptr, Nat.zero_add, Nat.add_zero, pureFn_fn, List.append_nil, List.singleton_append, List.cons_append, List.nil_append, S12, hsg, fa33_0, fa33_1, load31, load22, load1_ptr (off := 1) t2 rfl, load1_ptr (off := 0) t2 rfl, len31, len22, b_lss, b_eql, b_neq, b_leq, b_geq, b_gtr]
        by_cases h20 : ((L r.ps).length : Int) > 20
        · exact ⟨_, by simp only [h20, guard_tt, guard_ff, guard_tf, guard_ft, guard_sk, obind, omap, pickV_true, pickV_false, condK_true, condK_false, decide_true, decide_false, Bool.not_true, Bool.not_false, not_bool]; rfl⟩
        · by_cases h22 : ((L r.st).length : Int) > 22
          · exact ⟨_, by simp only [h20, h22, guard_tt, guard_ff, guard_tf, guard_ft, guard_sk, obind, omap, pickV_true, pickV_false, condK_true, condK_false, decide_true, decide_false, Bool.not_true, Bool.not_false, not_bool, load22, load1_ptr (off := 0) t2 rfl, len22, b_lss, b_eql, b_neq, b_leq, b_geq, b_gtr]; rfl⟩
          · have hr : RSm r := ⟨by omega, by omega⟩
            simp only [h20, h22, guard_tt, guard_ff, guard_tf, guard_ft, guard_sk, obind, omap, pickV_true, pickV_false, condK_true, condK_false, decide_true, decide_false, Bool.not_true, Bool.not_false, not_bool, load22, load1_ptr (off := 0) t2 rfl, len22, b_lss, b_eql, b_neq, b_leq, b_geq, b_gtr, load25, cm_all t0, shift_ptr, shift_pptr, Nat.zero_add, Nat.add_zero, pureFn_fn, List.append_nil, List.singleton_append, List.cons_append, List.nil_append, S16 hc]
            by_cases z1 : cmpE c = 0
            · by_cases z2 : wchE (wl wa) = 0
              · by_cases z3 : wchE (wl wg) = 0
                · have hck := cok_of hc z1
                  have hz : orL [cmpE c, wchE (wl wa), wchE (wl wg)] = 0 := by rw [z1, z2, z3]; rfl
                  have h13 := fun σ => S13 (σ := σ) (csm_own hc) (wsm_own ha) (wsm_own hg)
                  simp only [wl_own, vio_own] at h13
                  have h42 := fun σ => S42 (σ := σ) hc ha hg hr
                  simp only [z1, z2, z3, guard_tt, guard_ff, guard_tf, guard_ft, guard_sk, obind, omap, pickV_true, pickV_false, condK_true, condK_false, decide_true, decide_false, Bool.not_true, Bool.not_false, not_bool, b_lss, b_eql, b_neq, b_leq, b_geq, b_gtr, load27w, load1_ptr (off := 0) t1 rfl, load1_ptr (off := 1) t1 rfl, shift_ptr, shift_pptr, Nat.zero_add, Nat.add_zero, pureFn_fn, List.append_nil, List.singleton_append, List.cons_append, List.nil_append, S17 ha, S17 hg, load25, cm_all t0, S14 hc, S15 ha, S15 hg, h13, ex0, ex1, zero33]
                  have n1 := RnV.storeNew (lo := 0) (cs := eRun (vioRes c (wl wa) (wl wg)).1) (z := [.p .nilsl, .p .nilsl]) s33 τ rfl rfl rfl (Nat.zero_le _)
                  have g0 := get_old (r := .mix (eRun (vioRes c (wl wa) (wl wg)).1)) t0
                  have m81 : loadN (τ ++ [Row.mix (eRun (vioRes c (wl wa) (wl wg)).1)]) 2 (.ptr 1 0) = some (eW2 wa wg) := loadN_ptr (get_old t1) rfl (by simp [eW2])
                  have m33 : loadN (τ ++ [Row.mix (eRun (vioRes c (wl wa) (wl wg)).1)]) 2 (.ptr 2 0) = some (eRun r) := loadN_ptr (get_old t2) rfl (by simp [eRun])
                  have mR : loadN (τ ++ [Row.mix (eRun (vioRes c (wl wa) (wl wg)).1)]) 2 (.ptr τ.length 0) = some (eRun (vioRes c (wl wa) (wl wg)).1) := loadN_ptr get_snoc rfl (by simp [eRun])
                  have hvr : vioRes c (wl wa) (wl wg) = match viRes c (wl wa) (wl wg) with | none => (run0, 25) | some p => if (L (runV c p).ps).length > 60 then (run0, 2) else (runV c p, 0) := by
                    unfold vioRes
                    refine (if_pos hz).trans ?_
                    cases viRes c (wl wa) (wl wg) <;> rfl
                  have ho := wok_of z2
                  have hg2 := wok_of z3
                  cases hv : viRes c (wl wa) (wl wg) with
                  | none =>
                    have hvr : vioRes c (wl wa) (wl wg) = (run0, 25) := by rw [hvr, hv]
                    have hnv : violB c (wl wa) (wl wg) r = false := by
                      cases hb : violB c (wl wa) (wl wg) r with
                      | false => rfl
                      | true => exact absurd ((viol_iff z1 z2 z3).1 hb) (viRes_none hck ho hg2 hv r)
                    rw [hnv] at h42
                    rw [hvr] at n1 m33 m81 g0
                    rw [hvr]
                    exact ⟨_, by simp only [n1, guard_tt, guard_ff, guard_tf, guard_ft, guard_sk, obind, omap, pickV_true, pickV_false, condK_true, condK_false, decide_true, decide_false, Bool.not_true, Bool.not_false, not_bool, b_lss, b_eql, b_neq, b_leq, b_geq, b_gtr, Int.reduceEq, cm_all g0, load81, m81, load33, m33, h42]; rfl⟩
                  | some p =>
                    rw [hv] at hvr
                    by_cases h60 : (L (runV c p).ps).length > 60
                    · have hvr : vioRes c (wl wa) (wl wg) = (run0, 2) := by rw [hvr]; exact if_pos h60
                      have hnv : violB c (wl wa) (wl wg) r = false := by
                        cases hb : violB c (wl wa) (wl wg) r with
                        | false => rfl
                        | true =>
                          have := viRes_least hck ho hg2 hv r ((viol_iff z1 z2 z3).1 hb)
                          omega
                      rw [hnv] at h42
                      rw [hvr] at n1 m33 m81 g0
                      rw [hvr]
                      exact ⟨_, by simp only [n1, guard_tt, guard_ff, guard_tf, guard_ft, guard_sk, obind, omap, pickV_true, pickV_false, condK_true, condK_false, decide_true, decide_false, Bool.not_true, Bool.not_false, not_bool, b_lss, b_eql, b_neq, b_leq, b_geq, b_gtr, Int.reduceEq, cm_all g0, load81, m81, load33, m33, h42]; rfl⟩
                    · have hvr : vioRes c (wl wa) (wl wg) = (runV c p, 0) := by rw [hvr]; exact if_neg h60
                      have hsm := runV_sm (c := c) (bfsV_ok hck ho hg2 _ _ _ (iv0 hck ho hg2) hv)
                      have h42v := fun σ => S42 (σ := σ) hc ha hg (r := runV c p) ⟨hsm.1, hsm.2.1⟩
                      have hyes : violB c (wl wa) (wl wg) (runV c p) = true := (viol_iff z1 z2 z3).2 (viRes_vio hck ho hg2 hv (by omega))
                      rw [hyes] at h42v
                      rw [hvr] at n1 mR m81 g0
                      rw [hvr]
                      exact ⟨_, by simp only [n1, guard_tt, guard_ff, guard_tf, guard_ft, guard_sk, obind, omap, pickV_true, pickV_false, condK_true, condK_false, decide_true, decide_false, Bool.not_true, Bool.not_false, not_bool, b_lss, b_eql, b_neq, b_leq, b_geq, b_gtr, cm_all g0, load81, m81, load33, mR, h42v]; rfl⟩
                · exact ⟨_, by simp only [z1, z2, z3, guard_tt, guard_ff, guard_tf, guard_ft, guard_sk, obind, omap, pickV_true, pickV_false, condK_true, condK_false, decide_true, decide_false, Bool.not_true, Bool.not_false, not_bool, b_lss, b_eql, b_neq, b_leq, b_geq, b_gtr, load27w, load1_ptr (off := 0) t1 rfl, load1_ptr (off := 1) t1 rfl, shift_ptr, shift_pptr, Nat.zero_add, Nat.add_zero, pureFn_fn, List.append_nil, List.singleton_append, List.cons_append, List.nil_append, S17 ha, S17 hg]; rfl⟩
              · exact ⟨_, by simp only [z1, z2, guard_tt, guard_ff, guard_tf, guard_ft, guard_sk, obind, omap, pickV_true, pickV_false, condK_true, condK_false, decide_true, decide_false, Bool.not_true, Bool.not_false, not_bool, b_lss, b_eql, b_neq, b_leq, b_geq, b_gtr, load27w, load1_ptr (off := 0) t1 rfl, load1_ptr (off := 1) t1 rfl, shift_ptr, shift_pptr, Nat.zero_add, Nat.add_zero, pureFn_fn, List.append_nil, List.singleton_append, List.cons_append, List.nil_append, S17 ha, S17 hg]; rfl⟩
            · exact ⟨_, by simp only [z1, guard_tt, guard_ff, guard_tf, guard_ft, guard_sk, obind, omap, pickV_true, pickV_false, condK_true, condK_false, decide_true, decide_false, Bool.not_true, Bool.not_false, not_bool]; rfl⟩
theorem call8 (hawake : ∀ σ, pureV CC 10 [] σ = some (.p (.bool true))) (c : Cmp) (w : OW × OW) (r : Run) : ∃ σ', CC 0 8 [.agg (eCmp c), .agg (eW2 w.1 w.2), .agg (eRun r)] [] = some (.p (.bool true), σ') := by
  obtain ⟨σ', h⟩ := law8 hawake c w.1 w.2 r
  exact ⟨σ', F8_call h⟩
end Go.D
end
/- What a call's arguments are, as values of D: two watches. -/
section
set_option linter.unusedVariables false
set_option linter.unusedSimpArgs false
set_option maxRecDepth 100000
namespace Go.D
open Go.ChangeShapes Go.WideShapes Go.ChangeAt Go.RowKit
theorem u81 : PP.underlying 81 = some (.array 2 27) := Eq.trans (by kernel_rfl) rfl
theorem read_w2 {H : Type} {enc : TypeId × Value → H} {W : World} {hd : Bool} {r : Reach} {b0 : Nat} {v : Value} {d : DataW H} {ps : List MemPlace} (hok : Value.okWide PP W r b0 81 v) (h : DataW.Trod enc PP W 0 (fun _ => true) hd 81 v d ps) : ∃ p : OW × OW, VRel (fun _ _ => none) (memOf W) (.agg (eW2 p.1 p.2)) v := by
  obtain ⟨c, h1, h2⟩ := read_array 8 u81 (by kernel_rfl) hok h
  have h3 := h1.inv_array u81
  obtain ⟨a1, b1, h4, h5, rfl⟩ := PlainL.inv_cons h3
  obtain ⟨a2, b2, h6, h7, rfl⟩ := PlainL.inv_cons h5
  obtain ⟨x, rfl⟩ := dec27 h4
  obtain ⟨y, rfl⟩ := dec27 h6
  obtain rfl := PlainL.inv_nil h7
  exact ⟨(x, y), h2⟩
end Go.D
end
/- OpenViolates: for every component, all two watches and every run the law answers true and leaves its arguments as they were: the given statement, without conditions. -/
section
set_option linter.unusedVariables false
set_option linter.unusedSimpArgs false
set_option maxRecDepth 100000
namespace Go.D
open Go.ChangeShapes Go.WideShapes Go.ChangeAt Go.RowKit

theorem openViolates_calls (hawake : Awake) {H : Type} {enc : TypeId × Value → H} {W : World} {base : Nat} {args : Array Value} {ds : List (DataW H)} {ps : List MemPlace}
    (hval : ∀ (j : Nat) t v, ([25, 81, 33] : List TypeId).toArray[j]? = some t → args[j]? = some v → Value.okWide PP W .any base t v)
    (hA : DataW.TrodAll enc PP W 0 (fun _ => true) true [25, 81, 33] args.toList ds ps) :
    Calls PP 8 args W fun e W' => e = .returned (.bool true) ∧ Below W.heap.size W W' := by
  obtain ⟨v0, v1, v2, d0, d1, d2, p0, p1, p2, rfl, rfl, rfl, h0, h1, h2⟩ := trodAll_three hA
  obtain ⟨o0, ho0⟩ := read_cmp (hval 0 25 v0 rfl rfl) h0
  obtain ⟨o1, ho1⟩ := read_w2 (hval 1 81 v1 rfl rfl) h1
  obtain ⟨o2, ho2⟩ := read_run (hval 2 33 v2 rfl rfl) h2
  obtain ⟨σ', hc⟩ := call8 hawake o0 o1 o2
  refine calls_of hc ⟨rfl, fun j h1 h2 => ?_⟩
  match j, h1 with
  | 0, _ => exact ho0
  | 1, _ => exact ho1
  | 2, _ => exact ho2

end Go.D
namespace Go.Proofs.Ythddgnfaaccgjaa
open Go.D Go.ChangeShapes Go.WideShapes Go.ChangeAt Go.RowKit

set_option maxRecDepth 100000 in
theorem openViolates_lifted (hawake : Awake) (os : Os) (started : os.Started) (H : Type) (enc : TypeId × Value → H) :
    ReturnsInHanded {} Try.checked os 8 .any (Rows.openViolatesSpec.pre6 enc Try.prog Try.f8 Rows.openViolatesRow.domain false) (Rows.openViolatesSpec.post enc Try.prog Try.f8 false true false false) := by
  refine returnsInHanded_of_change_sized (C := Try.checked) own_ok started (by kernel_rfl) Try.func8
    (ChangeSpec.witness6 (enc := enc) (C := Try.checked) false ⟨#[], #[.agg #[.int .i64 0, .slice none 0 0, .slice none 0 0, .slice none 0 0], .agg #[.slice none 0 0, .slice none 0 0], .agg #[.slice none 0 0, .slice none 0 0]], []⟩ 8 (by kernel_rfl) (by kernel_rfl) (by kernel_rfl) (by kernel_rfl)) ?_
  intro W base args ds gs before hval0 hW _ hsz0 _
  have hval : ∀ (j : Nat) t v, Try.f8.params[j]? = some t → args[j]? = some v → Value.okWide Try.prog W .any base t v := hval0
  have hW' := hW
  obtain ⟨p, q, hA0, hV, rfl, _, _⟩ := hW
  have hA : DataW.TrodAll enc Try.prog W 0 (fun _ => true) true Try.f8.params.toList args.toList ds p := hA0
  rw [Try.params8] at hA hval
  have hA2 := hA
  obtain ⟨v0, v1, v2, d0, d1, d2, p0, p1, p2, rfl, rfl, rfl, h0, h1, h2⟩ := trodAll_three hA
  obtain ⟨rfl, rfl⟩ := trodVars_none hV
  have hlt : ∀ x ∈ p0 ++ p1 ++ p2, x.block < W.heap.size := fun x hx => by
    have := hW'.lt x (by simpa using hx)
    exact this
  have e0 : ∀ x ∈ p0, x.block < W.heap.size := fun x hx => hlt x (List.mem_append_left _ (List.mem_append_left _ hx))
  have e1 : ∀ x ∈ p1, x.block < W.heap.size := fun x hx => hlt x (List.mem_append_left _ (List.mem_append_right _ hx))
  have e2 : ∀ x ∈ p2, x.block < W.heap.size := fun x hx => hlt x (List.mem_append_right _ hx)
  refine (openViolates_calls hawake (base := base) hval hA2).mono ?_
  rintro e W2 ⟨rfl, hnx⟩
  refine ⟨_, rfl, _, _, _, [], p0 ++ (p1 ++ p2), [], hW', ?_, ?_, rfl, hnx.frame _, fun h => by cases h⟩
  · exact trodAll_mk1 (shut_bool ul4 true)
  · exact trodAll_mk3 (Below.trod laidOut_ok (by kernel_rfl) (of_decide_eq_true (by kernel_rfl)) h0 hnx e0) (Below.trod laidOut_ok (by kernel_rfl) (of_decide_eq_true (by kernel_rfl)) h1 hnx e1) (Below.trod laidOut_ok (by kernel_rfl) (of_decide_eq_true (by kernel_rfl)) h2 hnx e2)

theorem openViolates_holds : Rows.OpenViolatesSaid :=
  OpenClaim.holds_of_wide 8 Try.f8 rfl rfl rfl rfl rfl rfl rfl ⟨rfl, rfl, rfl, rfl, rfl⟩ rfl rfl rfl rfl rfl (by kernel_rfl) Try.func8 (by kernel_rfl)
    (of_decide_eq_true (by kernel_rfl)) (by unfold Func.isWrapper; first | (rw [if_pos (by decide +kernel)]; kernel_rfl) | (rw [if_neg (by decide +kernel)]; exact ⟨rfl, rfl⟩))
    (fun os started H enc _ => openViolates_lifted awake_true os started H enc)

end Go.Proofs.Ythddgnfaaccgjaa
end
