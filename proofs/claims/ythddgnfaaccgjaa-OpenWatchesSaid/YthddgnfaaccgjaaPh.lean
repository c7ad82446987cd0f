/- OpenWatches: for every watch and every list of pairs the law answers true and leaves its arguments as they were: the given statement, without conditions. -/
import Derived.Test.YthddgnfaaccgjaaPg
import Derived.Test.YthddgnfaaccgjaaPa
import Derived.ProofKit
import Derived.OpenShut
import Derived.WideShapes
/- The turned watch: what the program makes of it. -/
section
set_option linter.unusedVariables false
set_option linter.unusedSimpArgs false
namespace Go.D

/-- Rows that are there stay as they are. -/
def Ext (σ σ' : Store) : Prop := ∀ (j : Nat) (row : Row), σ[j]? = some row → σ'[j]? = some row
theorem Ext.refl (σ : Store) : Ext σ σ := fun _ _ h => h
theorem Ext.trans {a b c : Store} (h : Ext a b) (h2 : Ext b c) : Ext a c := fun j r e => h2 j r (h j r e)
theorem Ext.snoc (σ : Store) (r : Row) : Ext σ (σ ++ [r]) := fun j row h => get_old h

/-- A list of any cells that is appended to. -/
def OutM (σ : Store) (n : Nat) (cs : List DV) (x : DV) : Prop := (n = 0 ∧ cs = [] ∧ x = .p .nilsl) ∨ (∃ q, x = .rsl q 1 0 n ∧ σ[q]? = some (.mix cs) ∧ cs.length = n ∧ n ≠ 0)
theorem OutM.ext {σ σ' : Store} {n : Nat} {cs : List DV} {x : DV} (h : OutM σ n cs x) (he : Ext σ σ') : OutM σ' n cs x := by
  rcases h with h | ⟨q, h1, h2, h3, h4⟩
  · exact .inl h
  · exact .inr ⟨q, h1, he _ _ h2, h3, h4⟩
theorem OutM.pushR {σ : Store} {t e b n : Nat} {cs : List DV} {x v : DV} {z : List DV} (hs : srcType PP t = true) (hu : PP.underlying t = some (.slice e)) (h1 : size? PP e = some 1) (h2 : bytes? PP e = some b) (h3 : zeroOf PP e = some z)
    (h4 : z.length = 1) (hb : 0 < b) (hb2 : b ≤ 1000) (ho : OutM σ n cs x) (hv : v.one = true) (hn : n ≤ 1000000) :
    ∃ x' σ', append PP 0 true t t x (.rsl σ.length 1 0 1) (σ ++ [.mix [v]]) = some (x', σ') ∧ OutM σ' (n + 1) (cs ++ [v]) x' ∧ ∀ j row, σ[j]? = some row → (∀ q, x = .rsl q 1 0 n → j ≠ q) → σ'[j]? = some row := by
  have hsrc : source (σ ++ [.mix [v]]) 1 (.rsl σ.length 1 0 1) = some (1, [v]) := by
    simp [source, loadN]
  have hz0 : ¬ (z.length ≠ 1 ∨ 1 = 0) := by omega
  have e1 : (n + 1) * b ≤ 140737488355328 := Nat.le_trans (Nat.mul_le_mul (show n + 1 ≤ 1000001 by omega) hb2) (by decide)
  have e2 : n + 1 ≤ 140737488355328 := by omega
  rcases ho with ⟨rfl, rfl, rfl⟩ | ⟨q, rfl, hq, hc, hn0⟩
  · refine ⟨.rsl (σ.length + 1) 1 0 1, σ ++ [.mix [v]] ++ [.mix [v]], ?_, .inr ⟨σ.length + 1, rfl, ?_, rfl, by decide⟩, fun j row h _ => get_old (get_old h)⟩
    · have : b ≤ 140737488355328 := by omega
      simp only [append, hs, hu, h1, h2, h3, hz0, hsrc, appNil]
      simp [this, hb]
    · simp
  · have hq' : (σ ++ [Row.mix [v]])[q]? = some (.mix cs) := get_old hq
    refine ⟨.rsl (σ.length + 1) 1 0 (n + 1), (σ ++ [Row.mix [v]]).set q .dead ++ [.mix (cs ++ [v])], ?_, .inr ⟨σ.length + 1, rfl, ?_, by simp [hc], by omega⟩, fun j row h hj => get_old (get_set_ne (get_old h) (hj q rfl))⟩
    · have n1 : ¬ (n + 1 ≤ cs.length) := by omega
      simp only [append, hs, hu, h1, h2, h3, hz0, hsrc, appRow]
      simp only [hq', Nat.zero_add, Nat.mul_one, n1, hc, hv]
      simp [e1, e2, hb, hc, hv]
      exact fun h => absurd h (by omega)
    · simp
theorem bs27_r (R : Nat) (σ : Store) : buildSlice PP (some true) 27 1 [(0, .rsl R 1 0 3)] σ = some (.rsl σ.length 1 0 1, σ ++ [.mix [.rsl R 1 0 3]]) := Eq.trans (by kernel_rfl) rfl

/-- One number put behind a row. -/
theorem ap48 {ρ : Store} {R q v n i : Nat} {M : List DV} {l : List Int} (x : Int) (h : ρ[R]? = some (.mix (M.set i (.osl q v 1 n (eInts l))))) (hq : ρ[q]? = some (.tok v)) (hne : q ≠ R) (hi : i < M.length) (hn : l.length = n) (hn2 : n ≤ 1000) :
    ∃ ρ1 ρ2, load1 (.ptr R i) ρ = some (.osl q v 1 n (eInts l)) ∧ append PP 0 false 22 22 (.osl q v 1 n (eInts l)) (.p (.sl true 1 [pI x])) ρ = some (.osl q (v + 1) 1 (n + 1) (eInts (l ++ [x])), ρ1) ∧
      store PP 0 22 (.ptr R i) (.osl q (v + 1) 1 (n + 1) (eInts (l ++ [x]))) ρ1 = some ρ2 ∧ ρ2[R]? = some (.mix (M.set i (.osl q (v + 1) 1 (n + 1) (eInts (l ++ [x]))))) ∧ ρ2[q]? = some (.tok (v + 1)) ∧ ∀ j row, ρ[j]? = some row → j ≠ q → j ≠ R → ρ2[j]? = some row := by
  have h1 : (ρ.set q (.tok (v + 1)))[R]? = some (.mix (M.set i (.osl q v 1 n (eInts l)))) := get_set_ne h (fun e => hne e.symm)
  refine ⟨ρ.set q (.tok (v + 1)), (ρ.set q (.tok (v + 1))).set R (.mix (M.set i (.osl q (v + 1) 1 (n + 1) (eInts (l ++ [x]))))), load1_ptr h (by simp [hi]), app22_t x hq (Nat.zero_le _) hn hn2, ?_, ?_, ?_, ?_⟩
  · rw [st22m h1 (by simpa using hi) rfl rfl, List.set_set]
  · rw [List.getElem?_set_self (get_lt h1)]
  · exact get_set_ne (by rw [List.getElem?_set_self (get_lt hq)]) hne
  · intro j row hj a b
    exact get_set_ne (get_set_ne hj a) b

section
variable {w : OW} (hw : WOk (wl w) (wl w).length) {s : Nat} (hs : s < (wl w).length)
include hw hs
theorem L95_2 {i R : Nat} {M : List DV} {ρ : Store} (hi : i < 3) (hM : M.length = 3) (hR : ρ[R]? = some (.mix M)) (h0 : M[i]? = some (.p .nilsl)) (x3 x10 x11 : DV) :
    ∃ ρ', f95_L2 guardT 0 x3 (.p (eLs (rowsA w s))) (.rsl R 1 0 3) (.p (pI (i : Nat))) x10 x11 (.p (pI (s : Nat))) (.p (pI (3 : Nat))) (.p (pI (i : Nat))) (.p (eLs (rowsA w s))) (.p (pI (3 : Nat))) (.p (pI (0 : Nat))) ρ =
      f95_L1 guardT 0 x3 (.p (eLs (rowsA w s))) (.rsl R 1 0 3) x10 x11 (.p (pI (s : Nat))) (.p (pI (3 : Nat))) (.p (pI (i + 1 : Nat))) ρ' ∧
      (∃ v, ρ'[R]? = some (.mix (M.set i (.osl ρ.length v 1 3 (eInts (tRow (wl w) s i)))))) ∧ ∀ j row, ρ[j]? = some row → j ≠ R → ρ'[j]? = some row := by
  have c : ∀ k, (L (rowsA w s)).getD k none = rowA w s k := fun k => rfl
  have hRl := get_lt hR
  have hiM : i < M.length := by omega
  -- the first number
  have g0 : (ρ ++ [Row.tok 0])[R]? = some (.mix M) := get_old hR
  have l0 : load1 (.ptr R i) ρ = some (.p .nilsl) := load1_ptr hR h0
  have s0 := st22m g0 (v := .osl ρ.length 0 1 1 (eInts [cell3 (wl w) s 0 i])) hiM rfl rfl
  have a1 : ((ρ ++ [Row.tok 0]).set R (.mix (M.set i (.osl ρ.length 0 1 1 (eInts [cell3 (wl w) s 0 i])))))[R]? = some (.mix (M.set i (.osl ρ.length 0 1 1 (eInts [cell3 (wl w) s 0 i])))) := by rw [List.getElem?_set_self (get_lt g0)]
  have b1 : ((ρ ++ [Row.tok 0]).set R (.mix (M.set i (.osl ρ.length 0 1 1 (eInts [cell3 (wl w) s 0 i])))))[ρ.length]? = some (.tok 0) := get_set_ne get_snoc (by omega)
  have k1 : ∀ j row, ρ[j]? = some row → j ≠ R → ((ρ ++ [Row.tok 0]).set R (.mix (M.set i (.osl ρ.length 0 1 1 (eInts [cell3 (wl w) s 0 i])))))[j]? = some row := fun j row h hj => get_set_ne (get_old h) hj
  generalize (ρ ++ [Row.tok 0]).set R (.mix (M.set i (.osl ρ.length 0 1 1 (eInts [cell3 (wl w) s 0 i])))) = ρa at *
  obtain ⟨ρb, ρc, m1, m2, m3, m4, m5, m6⟩ := ap48 (cell3 (wl w) s 1 i) a1 b1 (by omega) hiM rfl (by decide)
  obtain ⟨ρd, ρe, n1, n2, n3, n4, n5, n6⟩ := ap48 (cell3 (wl w) s 2 i) m4 m5 (by omega) hiM rfl (by decide)
  refine ⟨ρe, ?_, ⟨_, n4⟩, fun j row h hj => ?_⟩
  · rw [f95_L2_eq guardT rfl]
    simp only [b_lss, b_eql, b_neq, b_leq, b_geq, b_gtr, show ((0 : Nat) : Int) < (3 : Nat) by decide, guard_tt, guard_ff, guard_tf, guard_ft, guard_sk, obind, omap, pickV_true, pickV_false, condK_true, condK_false, decide_true, decide_false, Bool.not_true, Bool.not_false, not_bool, idx48 (w_i hw hs (show 0 < 3 by decide)), len27, load48, load22, load3, len48, len22, load1_ls (w_i hw hs (show 0 < 3 by decide)), c, idx48_r hi, Nat.zero_add, l0, idx22 (w_o hw hs (show 0 < 3 by decide) hi), load1_getD (w_o hw hs (show 0 < 3 by decide) hi), ← wl_cell, bs22_1, app22_0, s0, b_add, wrap_succ (show 0 ≤ 1000000 by decide)]
    rw [f95_L2_eq guardT rfl]
    simp only [b_lss, b_eql, b_neq, b_leq, b_geq, b_gtr, show ((1 : Nat) : Int) < (3 : Nat) by decide, guard_tt, guard_ff, guard_tf, guard_ft, guard_sk, obind, omap, pickV_true, pickV_false, condK_true, condK_false, decide_true, decide_false, Bool.not_true, Bool.not_false, not_bool, idx48 (w_i hw hs (show 1 < 3 by decide)), len27, load48, load22, load3, len48, len22, load1_ls (w_i hw hs (show 1 < 3 by decide)), c, idx48_r hi, Nat.zero_add, m1, idx22 (w_o hw hs (show 1 < 3 by decide) hi), load1_getD (w_o hw hs (show 1 < 3 by decide) hi), ← wl_cell, bs22_1, m2, m3, b_add, wrap_succ (show 1 ≤ 1000000 by decide)]
    rw [f95_L2_eq guardT rfl]
    simp only [b_lss, b_eql, b_neq, b_leq, b_geq, b_gtr, show ((1 + 1 : Nat) : Int) < (3 : Nat) by decide, guard_tt, guard_ff, guard_tf, guard_ft, guard_sk, obind, omap, pickV_true, pickV_false, condK_true, condK_false, decide_true, decide_false, Bool.not_true, Bool.not_false, not_bool, idx48 (w_i hw hs (show 1 + 1 < 3 by decide)), len27, load48, load22, load3, len48, len22, load1_ls (w_i hw hs (show 1 + 1 < 3 by decide)), c, idx48_r hi, Nat.zero_add, n1, idx22 (w_o hw hs (show 1 + 1 < 3 by decide) hi), load1_getD (w_o hw hs (show 1 + 1 < 3 by decide) hi), ← wl_cell, bs22_1, Nat.reduceAdd, n2, n3, b_add, wrap_succ (show 2 ≤ 1000000 by decide)]
    rw [f95_L2_eq guardT rfl]
    simp only [b_lss, b_eql, b_neq, b_leq, b_geq, b_gtr, show ¬ ((3 : Nat) : Int) < (3 : Nat) by decide, guard_tt, guard_ff, guard_tf, guard_ft, guard_sk, obind, omap, pickV_true, pickV_false, condK_true, condK_false, decide_true, decide_false, Bool.not_true, Bool.not_false, not_bool, b_add, wrap_succ (show i ≤ 1000000 by omega)]
  · have hj2 : j ≠ ρ.length := by have := get_lt h; omega
    exact n6 j row (m6 j row (k1 j row h hj) hj2 hj) hj2 hj

/-- What a finished state is. -/
def Ent (l : W3) (s : Nat) (σ : Store) (v : DV) : Prop :=
  ∃ R a b c va vb vc, v = .rsl R 1 0 3 ∧ σ[R]? = some (.mix [.osl a va 1 3 (eInts (tRow l s 0)), .osl b vb 1 3 (eInts (tRow l s 1)), .osl c vc 1 3 (eInts (tRow l s 2))])
omit hw hs in
theorem Ent.ext {l : W3} {s : Nat} {σ σ' : Store} {v : DV} (h : Ent l s σ v) (he : Ext σ σ') : Ent l s σ' v := by
  obtain ⟨R, a, b, c, va, vb, vc, h1, h2⟩ := h
  exact ⟨R, a, b, c, va, vb, vc, h1, he _ _ h2⟩
omit hw hs in
theorem mk48_3 (σ : Store) : makeSlice PP true 48 (.p (pI 3)) (.p (pI 3)) σ = some (.rsl σ.length 1 0 3, σ ++ [.mix [.p .nilsl, .p .nilsl, .p .nilsl]]) := mk51 (n := 3) (by decide) σ
omit hw hs in
theorem len48_r (R n : Nat) (σ : Store) : len PP 48 (.rsl R 1 0 n) σ = some (.p (pI (n : Nat))) := by simp [len, u48]
theorem L95_1 (x3 x10 x11 : DV) (σ : Store) :
    ∃ σ' v, f95_L1 guardT 0 x3 (.p (eLs (rowsA w s))) (.rsl σ.length 1 0 3) x10 x11 (.p (pI (s : Nat))) (.p (pI (3 : Nat))) (.p (pI (0 : Nat))) (σ ++ [.mix [.p .nilsl, .p .nilsl, .p .nilsl]]) =
      (append PP 0 true 27 27 x3 (.rsl σ'.length 1 0 1) (σ' ++ [.mix [v]])).bind (fun r => f95_L0 guardT 0 r.1 x10 x11 (.p (pI (s + 1 : Nat))) r.2) ∧ Ext σ σ' ∧ Ent (wl w) s σ' v ∧ v.one = true := by
  have h6 := hw.n6
  have hl : (L (rowsA w s)).length = 3 := by have := hw.rows s hs; rwa [wl_rows, List.length_map] at this
  have hlen : ∀ σ, len PP 48 (.p (eLs (rowsA w s))) σ = some (.p (pI (3 : Nat))) := fun σ => by rw [len48, hl]
  have g0 : (σ ++ [Row.mix [.p .nilsl, .p .nilsl, .p .nilsl]])[σ.length]? = some (.mix [.p .nilsl, .p .nilsl, .p .nilsl]) := get_snoc
  obtain ⟨σ1, e1, ⟨v1, g1⟩, k1⟩ := L95_2 hw hs (i := 0) (by decide) rfl g0 rfl x3 x10 x11
  simp only [List.set_cons_zero] at g1
  obtain ⟨σ2, e2, ⟨v2, g2⟩, k2⟩ := L95_2 hw hs (i := 1) (by decide) rfl g1 rfl x3 x10 x11
  simp only [List.set_cons_zero, List.set_cons_succ] at g2
  obtain ⟨σ3, e3, ⟨v3, g3⟩, k3⟩ := L95_2 hw hs (i := 2) (by decide) rfl g2 rfl x3 x10 x11
  simp only [List.set_cons_zero, List.set_cons_succ] at g3
  refine ⟨σ3, .rsl σ.length 1 0 3, ?_, fun j row h => ?_, ⟨_, _, _, _, _, _, _, rfl, g3⟩, rfl⟩
  · rw [f95_L1_eq guardT rfl]
    simp only [b_lss, b_eql, b_neq, b_leq, b_geq, b_gtr, show ((0 : Nat) : Int) < (3 : Nat) by decide, guard_tt, guard_ff, guard_tf, guard_ft, guard_sk, obind, omap, pickV_true, pickV_false, condK_true, condK_false, decide_true, decide_false, Bool.not_true, Bool.not_false, not_bool, hlen]
    rw [show (DV.p (PV.int IntKind.i64 0)) = (.p (pI ((0 : Nat) : Int))) from rfl, e1, f95_L1_eq guardT rfl]
    simp only [b_lss, b_eql, b_neq, b_leq, b_geq, b_gtr, show ((0 + 1 : Nat) : Int) < (3 : Nat) by decide, guard_tt, guard_ff, guard_tf, guard_ft, guard_sk, obind, omap, pickV_true, pickV_false, condK_true, condK_false, decide_true, decide_false, Bool.not_true, Bool.not_false, not_bool, hlen]
    rw [show (DV.p (PV.int IntKind.i64 0)) = (.p (pI ((0 : Nat) : Int))) from rfl, Nat.zero_add, e2, f95_L1_eq guardT rfl]
    simp only [b_lss, b_eql, b_neq, b_leq, b_geq, b_gtr, show ((1 + 1 : Nat) : Int) < (3 : Nat) by decide, guard_tt, guard_ff, guard_tf, guard_ft, guard_sk, obind, omap, pickV_true, pickV_false, condK_true, condK_false, decide_true, decide_false, Bool.not_true, Bool.not_false, not_bool, hlen]
    rw [show (DV.p (PV.int IntKind.i64 0)) = (.p (pI ((0 : Nat) : Int))) from rfl, show 1 + 1 = 2 from rfl, e3, f95_L1_eq guardT rfl]
    simp only [b_lss, b_eql, b_neq, b_leq, b_geq, b_gtr, show ¬ ((2 + 1 : Nat) : Int) < (3 : Nat) by decide, guard_tt, guard_ff, guard_tf, guard_ft, guard_sk, obind, omap, pickV_true, pickV_false, condK_true, condK_false, decide_true, decide_false, Bool.not_true, Bool.not_false, not_bool, bs27_r, b_add, wrap_succ (show s ≤ 1000000 by omega)]
  · have hj : j ≠ σ.length := by have := get_lt h; omega
    exact k3 j row (k2 j row (k1 j row (get_old h) hj) hj) hj
end
theorem L95_0 {w : OW} (hw : WOk (wl w) (wl w).length) : ∀ (k s : Nat) (x : DV) (cs : List DV) (σ : Store), (wl w).length - s = k → s ≤ (wl w).length → OutM σ s cs x → (∀ i (h : i < cs.length), Ent (wl w) i σ cs[i]) → cs.length = s →
    ∃ x' cs' σ', f95_L0 guardT 0 x (.p (eWt w)) (.p (pI ((L w).length : Nat))) (.p (pI (s : Nat))) σ = some (x', σ') ∧ OutM σ' (wl w).length cs' x' ∧ cs'.length = (wl w).length ∧ ∀ i (h : i < cs'.length), Ent (wl w) i σ' cs'[i]
  | 0, s, x, cs, σ, hk, hs, ho, he, hl => by
    have : s = (wl w).length := by omega
    subst this
    have hn : ¬ (((wl w).length : Nat) : Int) < ((L w).length : Nat) := by rw [wl_len]; omega
    refine ⟨x, cs, σ, ?_, ho, hl, he⟩
    rw [f95_L0_eq guardT rfl]
    simp only [b_lss, b_eql, b_neq, b_leq, b_geq, b_gtr, guard_tt, guard_ff, guard_tf, guard_ft, guard_sk, obind, omap, pickV_true, pickV_false, condK_true, condK_false, decide_true, decide_false, Bool.not_true, Bool.not_false, not_bool, hn]
  | k + 1, s, x, cs, σ, hk, hs, ho, he, hl => by
    have h6 := hw.n6
    have h : s < (wl w).length := by omega
    have h2 : s < (L w).length := by rw [← wl_len]; exact h
    have h' : (s : Int) < ((L w).length : Nat) := by omega
    have e : (L w).getD s none = rowsA w s := rfl
    obtain ⟨σ1, v, e1, x1, en, hv⟩ := L95_1 hw h x (.p (eWt w)) (.p (pI ((L w).length : Nat))) σ
    obtain ⟨x', σ', e2, o2, k2⟩ := (ho.ext x1).pushR (t := 27) (v := v) src27 u27 s48 bytes48 zero48 rfl (by decide) (by decide) hv (by omega)
    have hkeep : ∀ i v, Ent (wl w) i σ1 v → Ent (wl w) i σ' v := by
      rintro i v ⟨R, a, b, c, va, vb, vc, q1, q2⟩
      refine ⟨R, a, b, c, va, vb, vc, q1, k2 _ _ q2 ?_⟩
      rintro q hq rfl
      rcases ho.ext x1 with ⟨_, _, h3⟩ | ⟨q', h3, h4, h5, h6⟩
      · rw [h3] at hq; exact absurd hq (by simp)
      · rw [h3] at hq
        have hqq : q' = R := by injection hq
        rw [hqq, q2] at h4
        injection h4 with h4
        injection h4 with hcs
        have := he 0 (by omega)
        obtain ⟨R', _, _, _, _, _, _, q3, _⟩ := this
        simp only [← hcs, List.getElem_cons_zero] at q3
        exact absurd q3 (by simp)
    have ih := L95_0 hw k (s + 1) x' (cs ++ [v]) σ' (by omega) (by omega) o2 (fun i hi => ?_) (by simp [hl])
    · obtain ⟨x'', cs', σ'', e3, o3⟩ := ih
      refine ⟨x'', cs', σ'', ?_, o3⟩
      rw [f95_L0_eq guardT rfl]
      simp only [b_lss, b_eql, b_neq, b_leq, b_geq, b_gtr, guard_tt, guard_ff, guard_tf, guard_ft, guard_sk, obind, omap, pickV_true, pickV_false, condK_true, condK_false, decide_true, decide_false, Bool.not_true, Bool.not_false, not_bool, h', idx27 h2, len27, load48, load22, load3, len48, len22, load1_wt h2, e, mk48_3, len48_r]
      rw [show (DV.p (PV.int IntKind.i64 0)) = (.p (pI ((0 : Nat) : Int))) from rfl, e1, e2]
      exact e3
    · by_cases hi2 : i < cs.length
      · rw [List.getElem_append_left hi2]
        exact hkeep _ _ ((he i hi2).ext x1)
      · have : i = s := by simp at hi; omega
        subst this
        rw [List.getElem_append_right (by omega)]
        simp only [hl, Nat.sub_self, List.getElem_cons_zero]
        exact hkeep _ _ en
theorem thaw_ent {l : W3} {s : Nat} {σ : Store} {v : DV} (h : Ent l s σ v) : thawP 0 σ 3 v = some (eLs (tRows l s)) := by
  obtain ⟨R, a, b, c, va, vb, vc, rfl, h2⟩ := h
  simp [thawP, h2, mapO, loosens_ints, eLs, tRows, eSl, tRow]
theorem mapO_of {α β : Type} {f : α → Option β} : ∀ {l : List α} {m : List β}, l.length = m.length → (∀ i (h : i < l.length) (h2 : i < m.length), f l[i] = some m[i]) → mapO f l = some m
  | [], [], _, _ => rfl
  | a :: l, b :: m, h, hf => by
    have e1 := hf 0 (by simp) (by simp)
    have e2 := mapO_of (l := l) (m := m) (by simpa using h) fun i h1 h2 => by
      have := hf (i + 1) (by simp; omega) (by simp; omega)
      simpa using this
    simp only [List.getElem_cons_zero] at e1
    simp only [mapO, e1, e2]
theorem S95 {w : OW} {σ : Store} (hw : WOk (wl w) (wl w).length) : pureV CC 95 [.p (eWt w)] σ = some (.p (eWt (turnW (wl w)))) := by
  obtain ⟨x', cs, σ', h1, h2, h3, h4⟩ := L95_0 hw _ 0 (.p .nilsl) [] [] (Nat.sub_zero _) (Nat.zero_le _) (.inl ⟨rfl, rfl, rfl⟩) (fun i h => absurd h (by simp)) rfl
  refine pureV_free (by simp [wt_view]) rfl (F95_call (r := (x', σ')) ?_) ?_
  · rw [F95_eq]
    simp only [len27, load48, load22, load3, len48, len22, guard_tt, guard_ff, guard_tf, guard_ft, guard_sk, obind, omap, pickV_true, pickV_false, condK_true, condK_false, decide_true, decide_false, Bool.not_true, Bool.not_false, not_bool]
    exact h1
  · have hn := hw.n1
    rcases h2 with ⟨h5, _⟩ | ⟨q, rfl, h5, h6, h7⟩
    · omega
    · have e : mapO (thawP 0 σ' 3) cs = some ((List.range (wl w).length).map fun s => eLs (tRows (wl w) s)) := by
        refine mapO_of (by simp [h6]) fun i hi hi2 => ?_
        rw [List.getElem_map, List.getElem_range]
        exact thaw_ent (h4 i hi)
      have ht : cs.take (wl w).length = cs := List.take_of_length_le (by omega)
      simp [thawAll, thawPart, thaw, thaw1, thawP, h5, h6, ht, e, turnW, eWt]
theorem S36 {w : OW} {σ : Store} (hw : WSm w) : pureV CC 36 [.p (eWt w)] σ = some (if wchE (wl w) = 0 then .tuple [.p (eWt (turnW (wl w))), .p (pI 0)] else .tuple [.p .nilsl, .p (pI (wchE (wl w)))]) := by
  by_cases h : wchE (wl w) = 0
  · refine pureV_free (by simp [wt_view]) rfl (F36_call (r := (.tuple [.p (eWt (turnW (wl w))), .p (pI 0)], [])) ?_) ?_
    · rw [F36_eq]
      simp only [shift_ptr, shift_pptr, Nat.zero_add, Nat.add_zero, pureFn_fn, List.append_nil, List.singleton_append, List.cons_append, List.nil_append, S33 hw, h, b_neq, guard_tt, guard_ff, guard_tf, guard_ft, guard_sk, obind, omap, pickV_true, pickV_false, condK_true, condK_false, decide_true, decide_false, Bool.not_true, Bool.not_false, not_bool, S95 (wok_of h)]
    · simp [h, thawAll, mapO, thawPart, thaw, thaw1, thawP, loosen_wt, loosen]
  · refine pureV_free (by simp [wt_view]) rfl (F36_call (r := (.tuple [.p .nilsl, .p (pI (wchE (wl w)))], [])) ?_) ?_
    · rw [F36_eq]
      simp only [shift_ptr, shift_pptr, Nat.zero_add, Nat.add_zero, pureFn_fn, List.append_nil, List.singleton_append, List.cons_append, List.nil_append, S33 hw, h, b_neq, guard_tt, guard_ff, guard_tf, guard_ft, guard_sk, obind, omap, pickV_true, pickV_false, condK_true, condK_false, decide_true, decide_false, Bool.not_true, Bool.not_false, not_bool]
    · simp [h, thawAll, mapO, thawPart, thaw, thaw1, thawP, loosen]
end Go.D
end
/- OpenWatches: the law answers true. -/
section
set_option linter.unusedVariables false
set_option linter.unusedSimpArgs false
namespace Go.D
theorem badP_swap (p : Pr) : badP (swapP p) = badP p := Bool.or_comm _ _
theorem any_swap (l : List Pr) : (l.map swapP).any badP = l.any badP := by
  rw [List.any_map]
  exact congrArg (l.any ·) (funext badP_swap)
theorem prsE_swap (l : List Pr) : prsE (l.map swapP) = prsE l := by
  unfold prsE
  rw [List.length_map, any_swap]
theorem next_turn {l : W3} {n : Nat} (h : WOk l n) {s : Int} {p : Pr} (hs : 0 ≤ s ∧ s < n) (hp : badP p = false) : nextW (turn3 l) s (swapP p) = nextW l s p := by
  have hb : (0 ≤ p.i ∧ p.i ≤ 2) ∧ (0 ≤ p.o ∧ p.o ≤ 2) := by
    simp only [badP, Bool.or_eq_false_iff, Bool.not_eq_false'] at hp
    exact ⟨ltr_iff.1 hp.1, ltr_iff.1 hp.2⟩
  have hl := h.len
  exact turn3_cell (by omega) (by simp only [swapP]; omega) (by simp only [swapP]; omega)
theorem brkFrom_turn {l : W3} {n : Nat} (h : WOk l n) {ps : List Pr} (hb : ps.any badP = false) : ∀ (k i : Nat) (a : Int), 0 ≤ a ∧ a < n → ps.length - i = k → i ≤ ps.length → brkFrom (turn3 l) (ps.map swapP) a i k = brkFrom l ps a i k
  | 0, i, a, ha, hk, hi => rfl
  | k + 1, i, a, ha, hk, hi => by
    have hi2 : i < ps.length := by omega
    have hp : badP (ps.getD i default) = false := by
      rw [getD_at default hi2]
      have := List.any_eq_false.1 hb _ (List.getElem_mem hi2)
      simpa using this
    have e : (ps.map swapP).getD i default = swapP (ps.getD i default) := by
      rw [getD_at default (by simpa using hi2), getD_at default hi2, List.getElem_map]
    rw [brkFrom, brkFrom, e, next_turn h ha hp]
    by_cases hn : nextW l a (ps.getD i default) = -1
    · rw [if_pos hn, if_pos hn]
    · rw [if_neg hn, if_neg hn]
      exact brkFrom_turn h hb k (i + 1) _ (next_rng h ha hp hn) (by omega) (by omega)
theorem brk_turn {l : W3} (h : WOk l l.length) {ps : List Pr} (hb : ps.any badP = false) : brk (turn3 l) (ps.map swapP) = brk l ps := by
  have := h.n1
  unfold brk
  rw [List.length_map]
  exact brkFrom_turn h hb _ 0 0 (by omega) (Nat.sub_zero _) (Nat.zero_le _)
theorem len27_nil (σ : Store) : len PP 27 (.p .nilsl) σ = some (.p (.int .i64 0)) := by simp [len, u27]
theorem law7 (hawake : ∀ σ, pureV CC 10 [] σ = some (.p (.bool true))) (w : OW) (o : OP) : ∃ σ', F7 guardT 0 (.p (eWt w)) (.p (ePs o)) [] = some (.p (.bool true), σ') := by
  rw [F7_eq]
  simp only [shift_ptr, shift_pptr, Nat.zero_add, Nat.add_zero, pureFn_fn, List.append_nil, List.singleton_append, List.cons_append, List.nil_append, hawake, guard_tt, guard_ff, guard_tf, guard_ft, guard_sk, obind, omap, pickV_true, pickV_false, condK_true, condK_false, decide_true, decide_false, Bool.not_true, Bool.not_false, not_bool, S12]
  cases hsm : smallW w with
  | false => exact ⟨_, by simp only [guard_tt, guard_ff, guard_tf, guard_ft, guard_sk, obind, omap, pickV_true, pickV_false, condK_true, condK_false, decide_true, decide_false, Bool.not_true, Bool.not_false, not_bool]; rfl⟩
  | true =>
    have hw := wsm_of hsm
    simp only [guard_tt, guard_ff, guard_tf, guard_ft, guard_sk, obind, omap, pickV_true, pickV_false, condK_true, condK_false, decide_true, decide_false, Bool.not_true, Bool.not_false, not_bool, shift_ptr, shift_pptr, Nat.zero_add, Nat.add_zero, pureFn_fn, List.append_nil, List.singleton_append, List.cons_append, List.nil_append, S28]
    by_cases h62 : (L o).length ≤ 62
    · have hl : (L o).length ≤ 1000 := by omega
      have hoL : L (some (L o) : OP) = L o := rfl
      simp only [h62, guard_tt, guard_ff, guard_tf, guard_ft, guard_sk, obind, omap, pickV_true, pickV_false, condK_true, condK_false, decide_true, decide_false, Bool.not_true, Bool.not_false, not_bool, shift_ptr, shift_pptr, Nat.zero_add, Nat.add_zero, pureFn_fn, List.append_nil, List.singleton_append, List.cons_append, List.nil_append, S17 hw, S15 hw, S33 (wsm_own hw), S35 hl, S34 (wsm_own hw) (o := some (L o)) hl, S36 (wsm_own hw), wl_own, hoL, b_neq]
      by_cases hc : wchE (wl w) = 0
      · have hok := wok_of hc
        have ht : WOk (wl (turnW (wl w))) (wl (turnW (wl w))).length := by rw [wl_turn, turn3_len]; exact turn3_ok hok
        have htw := wsm_ok ht
        have hc2 : wchE (wl (turnW (wl w))) = 0 := wch_of ht
        have hbk : WSm (turnW (wl (turnW (wl w)))) := by
          refine wsm_ok ?_
          rw [wl_turn, turn3_len]
          exact turn3_ok ht
        have e2 : wl (turnW (wl (turnW (wl w)))) = wl w := by rw [wl_turn, wl_turn, turn3_twice hok]
        simp only [hc, if_true, guard_tt, guard_ff, guard_tf, guard_ft, guard_sk, obind, omap, pickV_true, pickV_false, condK_true, condK_false, decide_true, decide_false, Bool.not_true, Bool.not_false, not_bool, ex0, ex1, shift_ptr, shift_pptr, Nat.zero_add, Nat.add_zero, pureFn_fn, List.append_nil, List.singleton_append, List.cons_append, List.nil_append, S38 hok, S37 rfl htw, S15 htw, S36 (wsm_own htw), wl_own, hc2, S37 e2 hbk, b_neq, S39 hl, brkRes]
        by_cases hd : prsE (L o) = 0
        · have hb := prsE_zero hd
          have hls : (L (swapO o)).length ≤ 1000 := by rw [L_swap, List.length_map]; exact hl
          have hbt : brk (wl (turnW (wl w))) ((L o).map swapP) = brk (wl w) (L o) := by rw [wl_turn]; exact brk_turn hok hb.1
          simp only [hd, if_true, guard_tt, guard_ff, guard_tf, guard_ft, guard_sk, obind, omap, pickV_true, pickV_false, condK_true, condK_false, decide_true, decide_false, Bool.not_true, Bool.not_false, not_bool, tup2, ex0, ex1, shift_ptr, shift_pptr, Nat.zero_add, Nat.add_zero, pureFn_fn, List.append_nil, List.singleton_append, List.cons_append, List.nil_append, S40 hl, S34 (wsm_own htw) hls, wl_own, L_swap, prsE_swap, hc2, hbt, brkRes, S41 hok hl hb.1, b_lss]
          rcases brk_ge (wl w) (L o) (L o).length 0 0 with hk | ⟨hk, _⟩
          · have hk : brk (wl w) (L o) = -1 := hk
            exact ⟨_, by simp only [hk, if_true, guard_tt, guard_ff, guard_tf, guard_ft, guard_sk, obind, omap, pickV_true, pickV_false, condK_true, condK_false, decide_true, decide_false, Bool.not_true, Bool.not_false, not_bool, show ((-1 : Int) < 0) by decide, b_eql, tup2, ex0, ex1]; rfl⟩
          · have hk : (0 : Int) ≤ brk (wl w) (L o) := hk
            have h1 : ¬ brk (wl w) (L o) = -1 := by omega
            have h2 : ¬ brk (wl w) (L o) < 0 := by omega
            exact ⟨_, by simp only [h1, h2, if_false, guard_tt, guard_ff, guard_tf, guard_ft, guard_sk, obind, omap, pickV_true, pickV_false, condK_true, condK_false, decide_true, decide_false, Bool.not_true, Bool.not_false, not_bool, b_eql, tup2, ex0, ex1]; rfl⟩
        · exact ⟨_, by simp only [hd, if_false, guard_tt, guard_ff, guard_tf, guard_ft, guard_sk, obind, omap, pickV_true, pickV_false, condK_true, condK_false, decide_true, decide_false, Bool.not_true, Bool.not_false, not_bool, tup2, ex0, ex1, b_eql]; rfl⟩
      · exact ⟨_, by simp only [hc, if_false, guard_tt, guard_ff, guard_tf, guard_ft, guard_sk, obind, omap, pickV_true, pickV_false, condK_true, condK_false, decide_true, decide_false, Bool.not_true, Bool.not_false, not_bool, brkRes, tup2, ex0, ex1, b_eql, len27_nil]; rfl⟩
    · exact ⟨_, by simp only [h62, guard_tt, guard_ff, guard_tf, guard_ft, guard_sk, obind, omap, pickV_true, pickV_false, condK_true, condK_false, decide_true, decide_false, Bool.not_true, Bool.not_false, not_bool]; rfl⟩
theorem call7 (hawake : ∀ σ, pureV CC 10 [] σ = some (.p (.bool true))) (w : OW) (o : OP) : ∃ σ', CC 0 7 [.p (eWt w), .p (ePs o)] [] = some (.p (.bool true), σ') := by
  obtain ⟨σ', h⟩ := law7 hawake w o
  exact ⟨σ', F7_call h⟩
end Go.D
end
/- What a call's arguments are: plain data of any type without pointers, as values of D. For any program. -/
section
set_option linter.unusedVariables false
set_option linter.unusedSimpArgs false
namespace Go.D

mutual
inductive Plain (P : Program) : TypeId → List PV → Prop where
  | bool {t : TypeId} (h : P.underlying t = some .bool) (b : Bool) : Plain P t [.bool b]
  | int {t : TypeId} {k : IntKind} (h : P.underlying t = some (.int k)) (n : Int) (hw : (Lit.int k n).wf = true) : Plain P t [.int k n]
  | str {t : TypeId} (h : P.underlying t = some .string) (s : ByteArray) (hs : s.size ≤ maxLen) : Plain P t [.str s]
  | nilsl {t e : TypeId} (h : P.underlying t = some (.slice e)) : Plain P t [.nilsl]
  | sl {t e : TypeId} (h : P.underlying t = some (.slice e)) (n : Nat) (cs : List PV) (hx : PlainL P (List.replicate n e) cs) : Plain P t [.sl false n cs]
  | struct {t : TypeId} {fs : Array Field} (h : P.underlying t = some (.struct fs)) (cs : List PV) (hx : PlainL P (fs.toList.map (·.type)) cs) : Plain P t cs
  | array {t e : TypeId} {n : Nat} (h : P.underlying t = some (.array n e)) (cs : List PV) (hx : PlainL P (List.replicate n e) cs) : Plain P t cs
inductive PlainL (P : Program) : List TypeId → List PV → Prop where
  | nil : PlainL P [] []
  | cons {t : TypeId} {ts : List TypeId} {a b : List PV} (h : Plain P t a) (hs : PlainL P ts b) : PlainL P (t :: ts) (a ++ b)
end

/-! ### Taking apart -/
section
variable {P : Program} {t e : TypeId} {k : IntKind} {cs : List PV}
theorem Plain.inv_int (hu : P.underlying t = some (.int k)) (h : Plain P t cs) : ∃ n, (Lit.int k n).wf = true ∧ cs = [.int k n] := by
  cases h with
  | int h n hw =>
    rw [hu] at h
    injection h with h
    injection h with h
    exact ⟨n, by rw [h]; exact hw, by rw [h]⟩
  | _ h => rw [hu] at h; injection h with h; exact absurd h (by simp)
theorem Plain.inv_bool (hu : P.underlying t = some .bool) (h : Plain P t cs) : ∃ b, cs = [.bool b] := by
  cases h with
  | bool h b => exact ⟨b, rfl⟩
  | _ h => rw [hu] at h; injection h with h; exact absurd h (by simp)
theorem Plain.inv_str (hu : P.underlying t = some .string) (h : Plain P t cs) : ∃ s, s.size ≤ maxLen ∧ cs = [.str s] := by
  cases h with
  | str h s hs => exact ⟨s, hs, rfl⟩
  | _ h => rw [hu] at h; injection h with h; exact absurd h (by simp)
theorem Plain.inv_slice (hu : P.underlying t = some (.slice e)) (h : Plain P t cs) : cs = [.nilsl] ∨ ∃ n xs, PlainL P (List.replicate n e) xs ∧ cs = [.sl false n xs] := by
  cases h with
  | nilsl h => exact .inl rfl
  | sl h n xs hx =>
    rw [hu] at h
    injection h with h
    injection h with h
    exact .inr ⟨n, xs, by rw [h]; exact hx, rfl⟩
  | _ h => rw [hu] at h; injection h with h; exact absurd h (by simp)
theorem Plain.inv_struct {fs : Array Field} (hu : P.underlying t = some (.struct fs)) (h : Plain P t cs) : PlainL P (fs.toList.map (·.type)) cs := by
  cases h with
  | struct h xs hx =>
    rw [hu] at h
    injection h with h
    injection h with h
    rw [h]; exact hx
  | _ h => rw [hu] at h; injection h with h; exact absurd h (by simp)
theorem Plain.inv_array {n : Nat} (hu : P.underlying t = some (.array n e)) (h : Plain P t cs) : PlainL P (List.replicate n e) cs := by
  cases h with
  | array h xs hx =>
    rw [hu] at h
    injection h with h
    injection h with h1 h2
    rw [h1, h2]; exact hx
  | _ h => rw [hu] at h; injection h with h; exact absurd h (by simp)
theorem PlainL.inv_nil (h : PlainL P [] cs) : cs = [] := by cases h; rfl
theorem PlainL.inv_cons {ts : List TypeId} (h : PlainL P (t :: ts) cs) : ∃ a b, Plain P t a ∧ PlainL P ts b ∧ cs = a ++ b := by
  cases h with
  | cons h hs => exact ⟨_, _, h, hs, rfl⟩
theorem PlainL.inv_rep {α : Type} {f : α → List PV} (hf : ∀ a, Plain P t a → ∃ x, a = f x) : ∀ {n : Nat} {cs : List PV}, PlainL P (List.replicate n t) cs → ∃ xs : List α, xs.length = n ∧ cs = xs.flatMap f
  | 0, cs, h => ⟨[], rfl, h.inv_nil⟩
  | n + 1, cs, h => by
    obtain ⟨a, b, h1, h2, rfl⟩ := PlainL.inv_cons (ts := List.replicate n t) h
    obtain ⟨x, rfl⟩ := hf a h1
    obtain ⟨xs, h3, rfl⟩ := PlainL.inv_rep hf h2
    exact ⟨x :: xs, by simp [h3], by simp⟩
end

/-! ### Types that are read -/
def layOk (P : Program) (ok : TypeId → Bool) (total : Nat) : Nat → List Field → Bool
  | off, [] => off == total
  | off, f :: fs => f.offset == off && ok f.type && layOk P ok total (off + P.cellsOf f.type) fs
def plainTy (P : Program) : Nat → TypeId → Bool
  | 0, _ => false
  | n + 1, t => match P.underlying t with
    | some .bool | some (.int _) | some .string => true
    | some (.slice e) => decide (0 < P.cellsOf e) && plainTy P n e
    | some (.struct fs) => layOk P (plainTy P n) (P.cellsOf t) 0 fs.toList
    | some (.array m e) => m * P.cellsOf e == P.cellsOf t && plainTy P n e
    | _ => false

section
variable {H : Type} {enc : TypeId × Value → H} {W : World} {P : Program} {hd : Bool}
abbrev memR (W : World) : Mem := fun b o => W.cell? ⟨b, o, none⟩

theorem spot_cell {a : Addr} {v : Value} (h : W.cell? a = some v) : a.spot = none := by
  unfold World.cell? at h
  split at h
  · split at h
    · exact absurd h (by simp)
    · rename_i hs
      cases e : a.spot with
      | none => rfl
      | some s => rw [e] at hs; exact absurd rfl hs
  · exact absurd h (by simp)
theorem addr_eq {a : Addr} {n : Nat} (h : a.spot = none) : a.add n = ⟨a.block, a.off + n, none⟩ := by
  cases a with
  | mk b o s => cases h; exact Addr.add_mid b o n

/-- Cells of pure values that stand for values. -/
def RelL (M : Mem) (ps : List PV) (vs : List Value) : Prop := ps.length = vs.length ∧ ∀ j (h1 : j < ps.length) (h2 : j < vs.length), PRel M ps[j] vs[j]

theorem RelL.append {M : Mem} {a c : List PV} {b d : List Value} (h : RelL M a b) (h2 : RelL M c d) : RelL M (a ++ c) (b ++ d) := by
  refine ⟨by simp [h.1, h2.1], fun j h3 h4 => ?_⟩
  by_cases hj : j < a.length
  · rw [List.getElem_append_left hj, List.getElem_append_left (by rw [← h.1]; exact hj)]
    exact h.2 j hj _
  · rw [List.getElem_append_right (by omega), List.getElem_append_right (by rw [← h.1]; omega)]
    have e : j - b.length = j - a.length := by rw [h.1]
    simp only [e]
    refine h2.2 _ (by simp at h3; omega) ?_
/-- Elements one after another. -/
theorem elems_read {e : TypeId} {sz : Nat} {b : Nat} : ∀ (n o : Nat),
    (∀ i, i < n → ∃ ps vs, Plain P e ps ∧ vs.length = sz ∧ RelL (memR W) ps vs ∧ ∀ j (h : j < vs.length), W.cell? ⟨b, o + i * sz + j, none⟩ = some vs[j]) →
    ∃ cs vs, PlainL P (List.replicate n e) cs ∧ vs.length = n * sz ∧ RelL (memR W) cs vs ∧ ∀ j (h : j < vs.length), W.cell? ⟨b, o + j, none⟩ = some vs[j]
  | 0, o, h => ⟨[], [], .nil, by simp, ⟨rfl, fun j h1 _ => absurd h1 (by simp)⟩, fun j h => absurd h (by simp)⟩
  | n + 1, o, h => by
    obtain ⟨ps, vs, h1, h2, h3, h4⟩ := h 0 (by omega)
    obtain ⟨cs, ws, g1, g2, g3, g4⟩ := elems_read n (o + sz) fun i hi => by
      obtain ⟨ps, vs, k1, k2, k3, k4⟩ := h (i + 1) (by omega)
      refine ⟨ps, vs, k1, k2, k3, fun j hj => ?_⟩
      have : o + sz + i * sz + j = o + (i + 1) * sz + j := by rw [Nat.add_mul]; omega
      rw [this]
      exact k4 j hj
    refine ⟨ps ++ cs, vs ++ ws, .cons h1 g1, by simp [h2, g2, Nat.add_mul]; omega, h3.append g3, fun j hj => ?_⟩
    by_cases hjv : j < vs.length
    · rw [List.getElem_append_left hjv]
      have := h4 j hjv
      simpa using this
    · rw [List.getElem_append_right (by omega)]
      have := g4 (j - vs.length) (by simp at hj; omega)
      have e2 : o + sz + (j - vs.length) = o + j := by omega
      rwa [e2] at this
theorem layOk_le {ok : TypeId → Bool} {total : Nat} : ∀ (fs : List Field) (off : Nat), layOk P ok total off fs = true → off ≤ total
  | [], off, h => by
    have : off = total := by simpa [layOk] using h
    omega
  | f :: fs, off, h => by
    simp only [layOk, Bool.and_eq_true] at h
    have := layOk_le fs _ h.2
    omega
theorem fields_read {ok : TypeId → Bool} {total : Nat} {cs : List Value} (hc : cs.length = total) : ∀ (fs : List Field) (off : Nat), layOk P ok total off fs = true →
    (∀ f ∈ fs, ok f.type = true → ∃ ps, Plain P f.type ps ∧ RelL (memR W) ps ((cs.drop f.offset).take (P.cellsOf f.type))) →
    ∃ ps, PlainL P (fs.map (·.type)) ps ∧ RelL (memR W) ps (cs.drop off)
  | [], off, h, hf => by
    have : off = total := by simpa [layOk] using h
    refine ⟨[], .nil, ?_⟩
    rw [List.drop_eq_nil_of_le (by omega)]
    exact ⟨rfl, fun j h1 _ => absurd h1 (by simp)⟩
  | f :: fs, off, h, hf => by
    simp only [layOk, Bool.and_eq_true, beq_iff_eq] at h
    obtain ⟨⟨h1, h2⟩, h3⟩ := h
    obtain ⟨ps, g1, g2⟩ := hf f (by simp) h2
    obtain ⟨qs, k1, k2⟩ := fields_read hc fs _ h3 fun g hg => hf g (by simp [hg])
    refine ⟨ps ++ qs, .cons g1 k1, ?_⟩
    have e : cs.drop off = (cs.drop off).take (P.cellsOf f.type) ++ cs.drop (off + P.cellsOf f.type) := by
      rw [← List.drop_drop, List.take_append_drop]
    rw [h1] at g2
    rw [e]
    exact g2.append k2
theorem parts_read {e : TypeId} {sz : Nat} {cs : List Value} : ∀ (n off : Nat), cs.length = off + n * sz →
    (∀ i, i < n → ∃ ps, Plain P e ps ∧ RelL (memR W) ps ((cs.drop (off + i * sz)).take sz)) → ∃ ps, PlainL P (List.replicate n e) ps ∧ RelL (memR W) ps (cs.drop off)
  | 0, off, hc, h => by
    refine ⟨[], .nil, ?_⟩
    rw [List.drop_eq_nil_of_le (by omega)]
    exact ⟨rfl, fun j h1 _ => absurd h1 (by simp)⟩
  | n + 1, off, hc, h => by
    obtain ⟨ps, g1, g2⟩ := h 0 (by omega)
    obtain ⟨qs, k1, k2⟩ := parts_read (sz := sz) n (off + sz) (by rw [hc, Nat.add_mul]; omega) fun i hi => by
      obtain ⟨ps, a1, a2⟩ := h (i + 1) (by omega)
      refine ⟨ps, a1, ?_⟩
      have : off + (i + 1) * sz = off + sz + i * sz := by rw [Nat.add_mul]; omega
      rwa [this] at a2
    refine ⟨ps ++ qs, .cons g1 k1, ?_⟩
    have e : cs.drop off = (cs.drop off).take sz ++ cs.drop (off + sz) := by
      rw [← List.drop_drop, List.take_append_drop]
    rw [Nat.zero_mul, Nat.add_zero] at g2
    rw [e]
    exact g2.append k2

theorem read_plain : ∀ (m fuel : Nat) (t : TypeId) (cs : List Value) (x : DataW H × List MemPlace), plainTy P m t = true → DataW.trod enc P W 0 (fun _ => true) hd fuel t cs = some x → ∃ ps, Plain P t ps ∧ RelL (memR W) ps cs
  | 0, _, _, _, _, hp, _ => by simp [plainTy] at hp
  | m + 1, fuel, t, cs, x, hp, h => by
    unfold plainTy at hp
    split at hp
    · rename_i hu
      obtain ⟨b, rfl, _⟩ := DataW.trod_bool hu h
      refine ⟨[.bool b], .bool hu b, rfl, fun j h1 h2 => ?_⟩
      match j, h1 with
      | 0, _ => exact .bool b
    · rename_i k hu
      obtain ⟨n, rfl, _, hw⟩ := DataW.trod_int hu h
      refine ⟨[.int k n], .int hu n hw, rfl, fun j h1 h2 => ?_⟩
      match j, h1 with
      | 0, _ => exact .int k n
    · rename_i hu
      obtain ⟨s, rfl, _, hs⟩ := DataW.trod_string hu h
      refine ⟨[.str s], .str hu s hs, rfl, fun j h1 h2 => ?_⟩
      match j, h1 with
      | 0, _ => exact .str s
    · rename_i e hu
      simp only [Bool.and_eq_true, decide_eq_true_eq] at hp
      obtain ⟨hsz, hpe⟩ := hp
      rcases DataW.trod_slice hu h with ⟨rfl, _⟩ | ⟨a, len, cap, elems, rest, n, _, rfl, _, _, hl, hm, hlen, hel, hrest, _⟩
      · refine ⟨[.nilsl], .nilsl hu, rfl, fun j h1 h2 => ?_⟩
        match j, h1 with
        | 0, _ => exact .nilsl
      · have hrest := hrest rfl
        have hspot : cap ≠ 0 → a.spot = none := by
          intro hc
          have key : ∃ cs, W.cells? 0 (a.add 0) (P.cellsOf e) = some cs := by
            by_cases h0 : 0 < len
            · have h1 := hel 0 h0
              rw [List.getElem?_eq_getElem (by omega)] at h1
              obtain ⟨cs, h2, _⟩ := Option.bind_eq_some_iff.1 h1
              exact ⟨cs, by simpa using h2⟩
            · have h1 := hrest.2 0 (by omega)
              rw [List.getElem?_eq_getElem (by omega)] at h1
              obtain ⟨cs, h2, _⟩ := Option.bind_eq_some_iff.1 h1
              have hl0 : len = 0 := by omega
              exact ⟨cs, by simpa [hl0] using h2⟩
          obtain ⟨cs, h2⟩ := key
          obtain ⟨_, h3, h4⟩ := World.cells?_some h2
          have h5 := h4 0 hsz
          rw [List.getElem?_eq_getElem (by omega)] at h5
          exact spot_cell (a := a) h5
        obtain ⟨ps, vs, g1, g2, g3, g4⟩ := elems_read (P := P) (W := W) (e := e) (sz := P.cellsOf e) (b := a.block) len a.off fun i hi => by
          have h1 := hel i hi
          rw [List.getElem?_eq_getElem (by omega)] at h1
          obtain ⟨vs, h2, h3⟩ := Option.bind_eq_some_iff.1 h1
          obtain ⟨ps, k1, k2⟩ := read_plain m n e vs _ hpe h3
          obtain ⟨_, h5, h4⟩ := World.cells?_some h2
          refine ⟨ps, vs, k1, h5, k2, fun j hj => ?_⟩
          have h6 := h4 j (by omega)
          have hs := hspot (by omega)
          rw [addr_eq hs, addr_eq rfl, List.getElem?_eq_getElem hj] at h6
          exact h6
        refine ⟨[.sl false len ps], .sl hu len ps g1, rfl, fun j h1 h2 => ?_⟩
        match j, h1 with
        | 0, _ =>
          refine .sl (fun j => vs.getD j Go.undef) hspot hl (by simp) (fun j hj => ?_) (fun j hj => ?_)
          · have hj2 : j < vs.length := by rw [← g3.1]; exact hj
            show W.cell? _ = _
            rw [List.getD_eq_getElem?_getD, List.getElem?_eq_getElem hj2]
            exact g4 j hj2
          · have hj2 : j < vs.length := by rw [← g3.1]; exact hj
            rw [List.getD_eq_getElem?_getD, List.getElem?_eq_getElem hj2]
            exact g3.2 j hj hj2
    · rename_i fs hu
      obtain ⟨xs, n, _, _, hl, hlen, hf⟩ := DataW.trod_struct hu h
      obtain ⟨ps, g1, g2⟩ := fields_read (P := P) (W := W) hl fs.toList 0 hp fun f hfm hok => by
        obtain ⟨i, hi, rfl⟩ := List.getElem_of_mem hfm
        have hi2 : i < fs.size := by simpa using hi
        have h1 := hf i fs[i] (by simp [hi2])
        rw [List.getElem?_eq_getElem (by omega)] at h1
        simp only [Array.getElem_toList] at hok ⊢
        obtain ⟨ps, k1, k2⟩ := read_plain m n _ _ _ hok h1
        exact ⟨ps, k1, k2⟩
      exact ⟨ps, .struct hu ps g1, g2⟩
    · rename_i k e hu
      simp only [Bool.and_eq_true, beq_iff_eq] at hp
      obtain ⟨xs, n, _, _, hl, hlen, hf⟩ := DataW.trod_array hu h
      obtain ⟨ps, g1, g2⟩ := parts_read (P := P) (W := W) (e := e) (sz := P.cellsOf e) (cs := cs) k 0 (by rw [hl, ← hp.1]; omega) fun i hi => by
        have h1 := hf i hi
        rw [List.getElem?_eq_getElem (by omega)] at h1
        obtain ⟨ps, k1, k2⟩ := read_plain m n _ _ _ hp.2 h1
        rw [Nat.zero_add]
        exact ⟨ps, k1, k2⟩
      exact ⟨ps, .array hu ps g1, g2⟩
    · exact absurd hp (by simp)

/-! ### Arguments -/
theorem relL_agg {ps : List PV} {vs : Array Value} (h : RelL (memR W) ps vs.toList) : VRel (fun _ _ => none) (memR W) (.agg (ps.map .p)) (.agg vs) := by
  refine .agg (by have := h.1; simp at this; simp [this]) fun j h1 h2 => ?_
  have := h.2 j (by simpa using h1) (by simpa using h2)
  simp only [List.getElem_map]
  exact .p (by simpa using this)
theorem relL_one {p : PV} {v : Value} (h : RelL (memR W) [p] [v]) : VRel (fun _ _ => none) (memR W) (.p p) v := .p (h.2 0 (by simp) (by simp))
variable {r : Reach} {b0 : Nat} {v : Value} {d : DataW H} {ps : List MemPlace} {t : TypeId}
theorem read_struct {fs : Array Field} (m : Nat) (hu : P.underlying t = some (.struct fs)) (hp : plainTy P m t = true) (hok : Value.okWide P W r b0 t v) (h : DataW.Trod enc P W 0 (fun _ => true) hd t v d ps) :
    ∃ cs, Plain P t cs ∧ VRel (fun _ _ => none) (memR W) (.agg (cs.map .p)) v := by
  simp only [Value.okWide, hu] at hok
  obtain ⟨vs, rfl, _⟩ := hok
  obtain ⟨fuel, h⟩ := h
  obtain ⟨cs, h1, h2⟩ := read_plain m fuel t _ _ hp h
  exact ⟨cs, h1, relL_agg h2⟩
theorem read_array {n : Nat} {e : TypeId} (m : Nat) (hu : P.underlying t = some (.array n e)) (hp : plainTy P m t = true) (hok : Value.okWide P W r b0 t v) (h : DataW.Trod enc P W 0 (fun _ => true) hd t v d ps) :
    ∃ cs, Plain P t cs ∧ VRel (fun _ _ => none) (memR W) (.agg (cs.map .p)) v := by
  simp only [Value.okWide, hu] at hok
  obtain ⟨vs, rfl, _⟩ := hok
  obtain ⟨fuel, h⟩ := h
  obtain ⟨cs, h1, h2⟩ := read_plain m fuel t _ _ hp h
  exact ⟨cs, h1, relL_agg h2⟩
theorem read_slice {e : TypeId} (m : Nat) (hu : P.underlying t = some (.slice e)) (hp : plainTy P m t = true) (hok : Value.okWide P W r b0 t v) (h : DataW.Trod enc P W 0 (fun _ => true) hd t v d ps) :
    ∃ c, Plain P t [c] ∧ VRel (fun _ _ => none) (memR W) (.p c) v := by
  obtain ⟨a0, len, cap, rfl⟩ := Go.WideShapes.okWide_slice hu hok
  obtain ⟨fuel, h⟩ := h
  obtain ⟨cs, h1, h2⟩ := read_plain m fuel t _ _ hp h
  rcases h1.inv_slice hu with rfl | ⟨n, xs, _, rfl⟩
  · exact ⟨_, h1, relL_one h2⟩
  · exact ⟨_, h1, relL_one h2⟩
theorem read_intA {k : IntKind} (hu : P.underlying t = some (.int k)) (hok : Value.okWide P W r b0 t v) (h : DataW.Trod enc P W 0 (fun _ => true) hd t v d ps) :
    ∃ n, (Lit.int k n).wf = true ∧ VRel (fun _ _ => none) (memR W) (.p (.int k n)) v := by
  obtain ⟨n, rfl⟩ := Go.WideShapes.okWide_int hu hok
  obtain ⟨fuel, h⟩ := h
  obtain ⟨n', h1, _, h2⟩ := DataW.trod_int hu h
  have : n = n' := by simpa [Value.cells] using h1
  subst this
  exact ⟨n, h2, .p (.int _ _)⟩
theorem read_strA (hu : P.underlying t = some .string) (hok : Value.okWide P W r b0 t v) (h : DataW.Trod enc P W 0 (fun _ => true) hd t v d ps) :
    ∃ s, s.size ≤ maxLen ∧ VRel (fun _ _ => none) (memR W) (.p (.str s)) v := by
  obtain ⟨s, rfl⟩ := Go.WideShapes.okWide_string hu hok
  obtain ⟨fuel, h⟩ := h
  obtain ⟨s', h1, _, h2⟩ := DataW.trod_string hu h
  have : s = s' := by simpa [Value.cells] using h1
  subst this
  exact ⟨s, h2, .p (.str _)⟩
end
end Go.D
end
/- What a call's arguments are, as values of D: watches, pairs, lists of watches, rules. -/
section
set_option linter.unusedVariables false
set_option linter.unusedSimpArgs false
set_option maxRecDepth 100000
namespace Go.D
open Go.ChangeShapes Go.WideShapes Go.ChangeAt Go.RowKit

theorem dec3 {a : List PV} (h : Plain PP 3 a) : ∃ n, a = [pI n] := by
  obtain ⟨n, _, rfl⟩ := h.inv_int ul3
  exact ⟨n, rfl⟩
theorem flat1 {α : Type} (f : α → PV) (l : List α) : l.flatMap (fun a => [f a]) = l.map f := by
  induction l with
  | nil => rfl
  | cons a l ih => simp [ih]
theorem dec22 {a : List PV} (h : Plain PP 22 a) : ∃ o, a = [eSl o] := by
  rcases h.inv_slice u22 with rfl | ⟨n, xs, hx, rfl⟩
  · exact ⟨none, rfl⟩
  · obtain ⟨l, rfl, rfl⟩ := hx.inv_rep (f := fun n => [pI n]) fun a ha => dec3 ha
    exact ⟨some l, by rw [flat1]; rfl⟩
theorem dec48 {a : List PV} (h : Plain PP 48 a) : ∃ o, a = [eLs o] := by
  rcases h.inv_slice u48 with rfl | ⟨n, xs, hx, rfl⟩
  · exact ⟨none, rfl⟩
  · obtain ⟨l, rfl, rfl⟩ := hx.inv_rep (f := fun n => [eSl n]) fun a ha => dec22 ha
    exact ⟨some l, by rw [flat1]; rfl⟩
theorem dec27 {a : List PV} (h : Plain PP 27 a) : ∃ o, a = [eWt o] := by
  rcases h.inv_slice u27 with rfl | ⟨n, xs, hx, rfl⟩
  · exact ⟨none, rfl⟩
  · obtain ⟨l, rfl, rfl⟩ := hx.inv_rep (f := fun n => [eLs n]) fun a ha => dec48 ha
    exact ⟨some l, by rw [flat1]; rfl⟩
theorem dec98 {a : List PV} (h : Plain PP 98 a) : ∃ p : Pr, a = [pI p.i, pI p.o] := by
  have h1 := h.inv_struct Go.Proofs.Try.underlying98
  obtain ⟨a1, b1, h2, h3, rfl⟩ := PlainL.inv_cons h1
  obtain ⟨a2, b2, h4, h5, rfl⟩ := PlainL.inv_cons h3
  obtain ⟨x, rfl⟩ := dec3 h2
  obtain ⟨y, rfl⟩ := dec3 h4
  obtain rfl := PlainL.inv_nil h5
  exact ⟨⟨x, y⟩, rfl⟩
theorem flat98 (l : List Pr) : l.flatMap (fun p => [pI p.i, pI p.o]) = ePrs l := by
  induction l with
  | nil => rfl
  | cons a l ih => simp [ih, ePrs]
theorem dec31 {a : List PV} (h : Plain PP 31 a) : ∃ o, a = [ePs o] := by
  rcases h.inv_slice u31 with rfl | ⟨n, xs, hx, rfl⟩
  · exact ⟨none, rfl⟩
  · obtain ⟨l, rfl, rfl⟩ := hx.inv_rep (f := fun p : Pr => [pI p.i, pI p.o]) fun a ha => dec98 ha
    exact ⟨some l, by rw [flat98]; rfl⟩
theorem u56 : PP.underlying 56 = some (.slice 27) := Eq.trans (by kernel_rfl) rfl
/-- Lists of watches. -/
def eWs : Option (List OW) → PV
  | none => .nilsl
  | some l => .sl false l.length (l.map eWt)
theorem dec56 {a : List PV} (h : Plain PP 56 a) : ∃ o, a = [eWs o] := by
  rcases h.inv_slice u56 with rfl | ⟨n, xs, hx, rfl⟩
  · exact ⟨none, rfl⟩
  · obtain ⟨l, rfl, rfl⟩ := hx.inv_rep (f := fun n => [eWt n]) fun a ha => dec27 ha
    exact ⟨some l, by rw [flat1]; rfl⟩

section
variable {H : Type} {enc : TypeId × Value → H} {W : World} {hd : Bool} {r : Reach} {b0 : Nat} {v : Value} {d : DataW H} {ps : List MemPlace}
theorem read_wt (hok : Value.okWide PP W r b0 27 v) (h : DataW.Trod enc PP W 0 (fun _ => true) hd 27 v d ps) : ∃ o, VRel (fun _ _ => none) (memOf W) (.p (eWt o)) v := by
  obtain ⟨c, h1, h2⟩ := read_slice 8 u27 (by kernel_rfl) hok h
  obtain ⟨o, ho⟩ := dec27 h1
  injection ho with ho
  exact ⟨o, by rw [← ho]; exact h2⟩
theorem read_ws (hok : Value.okWide PP W r b0 56 v) (h : DataW.Trod enc PP W 0 (fun _ => true) hd 56 v d ps) : ∃ o, VRel (fun _ _ => none) (memOf W) (.p (eWs o)) v := by
  obtain ⟨c, h1, h2⟩ := read_slice 8 u56 (by kernel_rfl) hok h
  obtain ⟨o, ho⟩ := dec56 h1
  injection ho with ho
  exact ⟨o, by rw [← ho]; exact h2⟩
theorem read_prs (hok : Value.okWide PP W r b0 31 v) (h : DataW.Trod enc PP W 0 (fun _ => true) hd 31 v d ps) : ∃ o, VRel (fun _ _ => none) (memOf W) (.p (ePs o)) v := by
  obtain ⟨c, h1, h2⟩ := read_slice 8 u31 (by kernel_rfl) hok h
  obtain ⟨o, ho⟩ := dec31 h1
  injection ho with ho
  exact ⟨o, by rw [← ho]; exact h2⟩
end
end Go.D
end
/- OpenWatches: for every watch and every list of pairs the law answers true and leaves its arguments as they were: the given statement, without conditions. -/
section
set_option linter.unusedVariables false
set_option linter.unusedSimpArgs false
set_option maxRecDepth 100000
namespace Go.D
open Go.ChangeShapes Go.WideShapes Go.ChangeAt Go.RowKit

theorem openWatches_calls (hawake : Awake) {H : Type} {enc : TypeId × Value → H} {W : World} {base : Nat} {args : Array Value} {ds : List (DataW H)} {ps : List MemPlace}
    (hval : ∀ (j : Nat) t v, ([27, 31] : List TypeId).toArray[j]? = some t → args[j]? = some v → Value.okWide PP W .any base t v)
    (hA : DataW.TrodAll enc PP W 0 (fun _ => true) true [27, 31] args.toList ds ps) :
    Calls PP 7 args W fun e W' => e = .returned (.bool true) ∧ Below W.heap.size W W' := by
  obtain ⟨v0, v1, d0, d1, p0, p1, rfl, rfl, rfl, h0, h1⟩ := trodAll_two hA
  obtain ⟨o0, ho0⟩ := read_wt (hval 0 27 v0 rfl rfl) h0
  obtain ⟨o1, ho1⟩ := read_prs (hval 1 31 v1 rfl rfl) h1
  obtain ⟨σ', hc⟩ := call7 hawake o0 o1
  refine calls_of hc ⟨rfl, fun j h1 h2 => ?_⟩
  match j, h1 with
  | 0, _ => exact ho0
  | 1, _ => exact ho1

end Go.D
namespace Go.Proofs.Ythddgnfaaccgjaa
open Go.D Go.ChangeShapes Go.WideShapes Go.ChangeAt Go.RowKit

set_option maxRecDepth 100000 in
theorem openWatches_lifted (hawake : Awake) (os : Os) (started : os.Started) (H : Type) (enc : TypeId × Value → H) :
    ReturnsInHanded {} Try.checked os 7 .any (Rows.openWatchesSpec.pre6 enc Try.prog Try.f7 Rows.openWatchesRow.domain false) (Rows.openWatchesSpec.post enc Try.prog Try.f7 false true false false) := by
  refine returnsInHanded_of_change_sized (C := Try.checked) own_ok started (by kernel_rfl) Try.func7
    (ChangeSpec.witness6 (enc := enc) (C := Try.checked) false ⟨#[], #[.slice none 0 0, .slice none 0 0], []⟩ 8 (by kernel_rfl) (by kernel_rfl) (by kernel_rfl) (by kernel_rfl)) ?_
  intro W base args ds gs before hval0 hW _ hsz0 _
  have hval : ∀ (j : Nat) t v, Try.f7.params[j]? = some t → args[j]? = some v → Value.okWide Try.prog W .any base t v := hval0
  have hW' := hW
  obtain ⟨p, q, hA0, hV, rfl, _, _⟩ := hW
  have hA : DataW.TrodAll enc Try.prog W 0 (fun _ => true) true Try.f7.params.toList args.toList ds p := hA0
  rw [Try.params7] at hA hval
  have hA2 := hA
  obtain ⟨v0, v1, d0, d1, p0, p1, rfl, rfl, rfl, h0, h1⟩ := trodAll_two hA
  obtain ⟨rfl, rfl⟩ := trodVars_none hV
  have hlt : ∀ x ∈ p0 ++ p1, x.block < W.heap.size := fun x hx => by
    have := hW'.lt x (by simpa using hx)
    exact this
  have e0 : ∀ x ∈ p0, x.block < W.heap.size := fun x hx => hlt x (List.mem_append_left _ hx)
  have e1 : ∀ x ∈ p1, x.block < W.heap.size := fun x hx => hlt x (List.mem_append_right _ hx)
  refine (openWatches_calls hawake (base := base) hval hA2).mono ?_
  rintro e W2 ⟨rfl, hnx⟩
  refine ⟨_, rfl, _, _, _, [], p0 ++ p1, [], hW', ?_, ?_, rfl, hnx.frame _, fun h => by cases h⟩
  · exact trodAll_mk1 (shut_bool ul4 true)
  · exact trodAll_mk2 (Below.trod laidOut_ok (by kernel_rfl) (of_decide_eq_true (by kernel_rfl)) h0 hnx e0) (Below.trod laidOut_ok (by kernel_rfl) (of_decide_eq_true (by kernel_rfl)) h1 hnx e1)

theorem openWatches_holds : Rows.OpenWatchesSaid :=
  OpenClaim.holds_of_wide 7 Try.f7 rfl rfl rfl rfl rfl rfl rfl ⟨rfl, rfl, rfl, rfl, rfl⟩ rfl rfl rfl rfl rfl (by kernel_rfl) Try.func7 (by kernel_rfl)
    (of_decide_eq_true (by kernel_rfl)) (by unfold Func.isWrapper; first | (rw [if_pos (by decide +kernel)]; kernel_rfl) | (rw [if_neg (by decide +kernel)]; exact ⟨rfl, rfl⟩))
    (fun os started H enc _ => openWatches_lifted awake_true os started H enc)

end Go.Proofs.Ythddgnfaaccgjaa
end
