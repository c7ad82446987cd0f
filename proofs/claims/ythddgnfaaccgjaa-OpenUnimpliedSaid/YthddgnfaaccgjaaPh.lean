/- The turned watch: what the program makes of it. -/
import Derived.Test.YthddgnfaaccgjaaPg
import Derived.Test.YthddgnfaaccgjaaPc
import Derived.Test.YthddgnfaaccgjaaPa
import Derived.ProofKit
import Derived.OpenShut
import Derived.WideShapes
section
set_option linter.unusedVariables false
set_option linter.unusedSimpArgs false
namespace Go.D

/-- Rows that are there stay as they are. -/
def Ext (σ σ' : Store) : Prop := ∀ (j : Nat) (row : Row), σ[j]? = some row → σ'[j]? = some row
theorem Ext.refl (σ : Store) : Ext σ σ := fun _ _ h => h
theorem Ext.trans {a b c : Store} (h : Ext a b) (h2 : Ext b c) : Ext a c := fun j r e => h2 j r (h j r e)
theorem Ext.snoc (σ : Store) (r : Row) : Ext σ (σ ++ [r]) := fun j row h => get_old h

/-- A list of any cells that is appended to. -/
def OutM (σ : Store) (n : Nat) (cs : List DV) (x : DV) : Prop := (n = 0 ∧ cs = [] ∧ x = .p .nilsl) ∨ (∃ q, x = .rsl q 1 0 n ∧ σ[q]? = some (.mix cs) ∧ cs.length = n ∧ n ≠ 0)
theorem OutM.ext {σ σ' : Store} {n : Nat} {cs : List DV} {x : DV} (h : OutM σ n cs x) (he : Ext σ σ') : OutM σ' n cs x := by
  rcases h with h | ⟨q, h1, h2, h3, h4⟩
  · exact .inl h
  · exact .inr ⟨q, h1, he _ _ h2, h3, h4⟩
theorem OutM.pushR {σ : Store} {t e b n : Nat} {cs : List DV} {x v : DV} {z : List DV} (hs : srcType PP t = true) (hu : PP.underlying t = some (.slice e)) (h1 : size? PP e = some 1) (h2 : bytes? PP e = some b) (h3 : zeroOf PP e = some z)
    (h4 : z.length = 1) (hb : 0 < b) (hb2 : b ≤ 1000) (ho : OutM σ n cs x) (hv : v.one = true) (hn : n ≤ 1000000) :
    ∃ x' σ', append PP 0 true t t x (.rsl σ.length 1 0 1) (σ ++ [.mix [v]]) = some (x', σ') ∧ OutM σ' (n + 1) (cs ++ [v]) x' ∧ ∀ j row, σ[j]? = some row → (∀ q, x = .rsl q 1 0 n → j ≠ q) → σ'[j]? = some row := by
  have hsrc : source (σ ++ [.mix [v]]) 1 (.rsl σ.length 1 0 1) = some (1, [v]) := by
    simp [source, loadN]
  have hz0 : ¬ (z.length ≠ 1 ∨ 1 = 0) := by omega
  have e1 : (n + 1) * b ≤ 140737488355328 := Nat.le_trans (Nat.mul_le_mul (show n + 1 ≤ 1000001 by omega) hb2) (by decide)
  have e2 : n + 1 ≤ 140737488355328 := by omega
  rcases ho with ⟨rfl, rfl, rfl⟩ | ⟨q, rfl, hq, hc, hn0⟩
  · refine ⟨.rsl (σ.length + 1) 1 0 1, σ ++ [.mix [v]] ++ [.mix [v]], ?_, .inr ⟨σ.length + 1, rfl, ?_, rfl, by decide⟩, fun j row h _ => get_old (get_old h)⟩
    · have : b ≤ 140737488355328 := by omega
      simp only [append, hs, hu, h1, h2, h3, hz0, hsrc, appNil]
      simp [this, hb]
    · simp
  · have hq' : (σ ++ [Row.mix [v]])[q]? = some (.mix cs) := get_old hq
    refine ⟨.rsl (σ.length + 1) 1 0 (n + 1), (σ ++ [Row.mix [v]]).set q .dead ++ [.mix (cs ++ [v])], ?_, .inr ⟨σ.length + 1, rfl, ?_, by simp [hc], by omega⟩, fun j row h hj => get_old (get_set_ne (get_old h) (hj q rfl))⟩
    · have n1 : ¬ (n + 1 ≤ cs.length) := by omega
      simp only [append, hs, hu, h1, h2, h3, hz0, hsrc, appRow]
      simp only [hq', Nat.zero_add, Nat.mul_one, n1, hc, hv]
      simp [e1, e2, hb, hc, hv]
      exact fun h => absurd h (by omega)
    · simp
theorem bs27_r (R : Nat) (σ : Store) : buildSlice PP (some true) 27 1 [(0, .rsl R 1 0 3)] σ = some (.rsl σ.length 1 0 1, σ ++ [.mix [.rsl R 1 0 3]]) := Eq.trans (by kernel_rfl) rfl

/-- One number put behind a row. -/
theorem ap48 {ρ : Store} {R q v n i : Nat} {M : List DV} {l : List Int} (x : Int) (h : ρ[R]? = some (.mix (M.set i (.osl q v 1 n (eInts l))))) (hq : ρ[q]? = some (.tok v)) (hne : q ≠ R) (hi : i < M.length) (hn : l.length = n) (hn2 : n ≤ 1000) :
    ∃ ρ1 ρ2, load1 (.ptr R i) ρ = some (.osl q v 1 n (eInts l)) ∧ append PP 0 false 22 22 (.osl q v 1 n (eInts l)) (.p (.sl true 1 [pI x])) ρ = some (.osl q (v + 1) 1 (n + 1) (eInts (l ++ [x])), ρ1) ∧
      store PP 0 22 (.ptr R i) (.osl q (v + 1) 1 (n + 1) (eInts (l ++ [x]))) ρ1 = some ρ2 ∧ ρ2[R]? = some (.mix (M.set i (.osl q (v + 1) 1 (n + 1) (eInts (l ++ [x]))))) ∧ ρ2[q]? = some (.tok (v + 1)) ∧ ∀ j row, ρ[j]? = some row → j ≠ q → j ≠ R → ρ2[j]? = some row := by
  have h1 : (ρ.set q (.tok (v + 1)))[R]? = some (.mix (M.set i (.osl q v 1 n (eInts l)))) := get_set_ne h (fun e => hne e.symm)
  refine ⟨ρ.set q (.tok (v + 1)), (ρ.set q (.tok (v + 1))).set R (.mix (M.set i (.osl q (v + 1) 1 (n + 1) (eInts (l ++ [x]))))), load1_ptr h (by simp [hi]), app22_t x hq (Nat.zero_le _) hn hn2, ?_, ?_, ?_, ?_⟩
  · rw [st22m h1 (by simpa using hi) rfl rfl, List.set_set]
  · rw [List.getElem?_set_self (get_lt h1)]
  · exact get_set_ne (by rw [List.getElem?_set_self (get_lt hq)]) hne
  · intro j row hj a b
    exact get_set_ne (get_set_ne hj a) b

section
variable {w : OW} (hw : WOk (wl w) (wl w).length) {s : Nat} (hs : s < (wl w).length)
include hw hs
theorem L95_2 {i R : Nat} {M : List DV} {ρ : Store} (hi : i < 3) (hM : M.length = 3) (hR : ρ[R]? = some (.mix M)) (h0 : M[i]? = some (.p .nilsl)) (x3 x10 x11 : DV) :
    ∃ ρ', f95_L2 guardT 0 x3 (.p (eLs (rowsA w s))) (.rsl R 1 0 3) (.p (pI (i : Nat))) x10 x11 (.p (pI (s : Nat))) (.p (pI (3 : Nat))) (.p (pI (i : Nat))) (.p (eLs (rowsA w s))) (.p (pI (3 : Nat))) (.p (pI (0 : Nat))) ρ =
      f95_L1 guardT 0 x3 (.p (eLs (rowsA w s))) (.rsl R 1 0 3) x10 x11 (.p (pI (s : Nat))) (.p (pI (3 : Nat))) (.p (pI (i + 1 : Nat))) ρ' ∧
      (∃ v, ρ'[R]? = some (.mix (M.set i (.osl ρ.length v 1 3 (eInts (tRow (wl w) s i)))))) ∧ ∀ j row, ρ[j]? = some row → j ≠ R → ρ'[j]? = some row := by
  have c : ∀ k, (L (rowsA w s)).getD k none = rowA w s k := fun k => rfl
  have hRl := get_lt hR
  have hiM : i < M.length := by omega
  -- the first number
  have g0 : (ρ ++ [Row.tok 0])[R]? = some (.mix M) := get_old hR
  have l0 : load1 (.ptr R i) ρ = some (.p .nilsl) := load1_ptr hR h0
  have s0 := st22m g0 (v := .osl ρ.length 0 1 1 (eInts [cell3 (wl w) s 0 i])) hiM rfl rfl
  have a1 : ((ρ ++ [Row.tok 0]).set R (.mix (M.set i (.osl ρ.length 0 1 1 (eInts [cell3 (wl w) s 0 i])))))[R]? = some (.mix (M.set i (.osl ρ.length 0 1 1 (eInts [cell3 (wl w) s 0 i])))) := by rw [List.getElem?_set_self (get_lt g0)]
  have b1 : ((ρ ++ [Row.tok 0]).set R (.mix (M.set i (.osl ρ.length 0 1 1 (eInts [cell3 (wl w) s 0 i])))))[ρ.length]? = some (.tok 0) := get_set_ne get_snoc (by omega)
  have k1 : ∀ j row, ρ[j]? = some row → j ≠ R → ((ρ ++ [Row.tok 0]).set R (.mix (M.set i (.osl ρ.length 0 1 1 (eInts [cell3 (wl w) s 0 i])))))[j]? = some row := fun j row h hj => get_set_ne (get_old h) hj
  generalize (ρ ++ [Row.tok 0]).set R (.mix (M.set i (.osl ρ.length 0 1 1 (eInts [cell3 (wl w) s 0 i])))) = ρa at *
  obtain ⟨ρb, ρc, m1, m2, m3, m4, m5, m6⟩ := ap48 (cell3 (wl w) s 1 i) a1 b1 (by omega) hiM rfl (by decide)
  obtain ⟨ρd, ρe, n1, n2, n3, n4, n5, n6⟩ := ap48 (cell3 (wl w) s 2 i) m4 m5 (by omega) hiM rfl (by decide)
  refine ⟨ρe, ?_, ⟨_, n4⟩, fun j row h hj => ?_⟩
  · rw [f95_L2_eq guardT rfl]
    simp only [b_lss, b_eql, b_neq, b_leq, b_geq, b_gtr, show ((0 : Nat) : Int) < (3 : Nat) by decide, guard_tt, guard_ff, guard_tf, guard_ft, guard_sk, obind, omap, pickV_true, pickV_false, condK_true, condK_false, decide_true, decide_false, Bool.not_true, Bool.not_false, not_bool, idx48 (w_i hw hs (show 0 < 3 by decide)), len27, load48, load22, load3, len48, len22, load1_ls (w_i hw hs (show 0 < 3 by decide)), c, idx48_r hi, Nat.zero_add, l0, idx22 (w_o hw hs (show 0 < 3 by decide) hi), load1_getD (w_o hw hs (show 0 < 3 by decide) hi), ← wl_cell, bs22_1, app22_0, s0, b_add, wrap_succ (show 0 ≤ 1000000 by decide)]
    rw [f95_L2_eq guardT rfl]
    simp only [b_lss, b_eql, b_neq, b_leq, b_geq, b_gtr, show ((1 : Nat) : Int) < (3 : Nat) by decide, guard_tt, guard_ff, guard_tf, guard_ft, guard_sk, obind, omap, pickV_true, pickV_false, condK_true, condK_false, decide_true, decide_false, Bool.not_true, Bool.not_false, not_bool, idx48 (w_i hw hs (show 1 < 3 by decide)), len27, load48, load22, load3, len48, len22, load1_ls (w_i hw hs (show 1 < 3 by decide)), c, idx48_r hi, Nat.zero_add, m1, idx22 (w_o hw hs (show 1 < 3 by decide) hi), load1_getD (w_o hw hs (show 1 < 3 by decide) hi), ← wl_cell, bs22_1, m2, m3, b_add, wrap_succ (show 1 ≤ 1000000 by decide)]
    rw [f95_L2_eq guardT rfl]
    simp only [b_lss, b_eql, b_neq, b_leq, b_geq, b_gtr, show ((1 + 1 : Nat) : Int) < (3 : Nat) by decide, guard_tt, guard_ff, guard_tf, guard_ft, guard_sk, obind, omap, pickV_true, pickV_false, condK_true, condK_false, decide_true, decide_false, Bool.not_true, Bool.not_false, not_bool, idx48 (w_i hw hs (show 1 + 1 < 3 by decide)), len27, load48, load22, load3, len48, len22, load1_ls (w_i hw hs (show 1 + 1 < 3 by decide)), c, idx48_r hi, Nat.zero_add, n1, idx22 (w_o hw hs (show 1 + 1 < 3 by decide) hi), load1_getD (w_o hw hs (show 1 + 1 < 3 by decide) hi), ← wl_cell, bs22_1, Nat.reduceAdd, n2, n3, b_add, wrap_succ (show 2 ≤ 1000000 by decide)]
    rw [f95_L2_eq guardT rfl]
    simp only [b_lss, b_eql, b_neq, b_leq, b_geq, b_gtr, show ¬ ((3 : Nat) : Int) < (3 : Nat) by decide, guard_tt, guard_ff, guard_tf, guard_ft, guard_sk, obind, omap, pickV_true, pickV_false, condK_true, condK_false, decide_true, decide_false, Bool.not_true, Bool.not_false, not_bool, b_add, wrap_succ (show i ≤ 1000000 by omega)]
  · have hj2 : j ≠ ρ.length := by have := get_lt h; omega
    exact n6 j row (m6 j row (k1 j row h hj) hj2 hj) hj2 hj

/-- What a finished state is. -/
def Ent (l : W3) (s : Nat) (σ : Store) (v : DV) : Prop :=
  ∃ R a b c va vb vc, v = .rsl R 1 0 3 ∧ σ[R]? = some (.mix [.osl a va 1 3 (eInts (tRow l s 0)), .osl b vb 1 3 (eInts (tRow l s 1)), .osl c vc 1 3 (eInts (tRow l s 2))])
omit hw hs in
theorem Ent.ext {l : W3} {s : Nat} {σ σ' : Store} {v : DV} (h : Ent l s σ v) (he : Ext σ σ') : Ent l s σ' v := by
  obtain ⟨R, a, b, c, va, vb, vc, h1, h2⟩ := h
  exact ⟨R, a, b, c, va, vb, vc, h1, he _ _ h2⟩
omit hw hs in
theorem mk48_3 (σ : Store) : makeSlice PP true 48 (.p (pI 3)) (.p (pI 3)) σ = some (.rsl σ.length 1 0 3, σ ++ [.mix [.p .nilsl, .p .nilsl, .p .nilsl]]) := mk51 (n := 3) (by decide) σ
omit hw hs in
theorem len48_r (R n : Nat) (σ : Store) : len PP 48 (.rsl R 1 0 n) σ = some (.p (pI (n : Nat))) := by simp [len, u48]
theorem L95_1 (x3 x10 x11 : DV) (σ : Store) :
    ∃ σ' v, f95_L1 guardT 0 x3 (.p (eLs (rowsA w s))) (.rsl σ.length 1 0 3) x10 x11 (.p (pI (s : Nat))) (.p (pI (3 : Nat))) (.p (pI (0 : Nat))) (σ ++ [.mix [.p .nilsl, .p .nilsl, .p .nilsl]]) =
      (append PP 0 true 27 27 x3 (.rsl σ'.length 1 0 1) (σ' ++ [.mix [v]])).bind (fun r => f95_L0 guardT 0 r.1 x10 x11 (.p (pI (s + 1 : Nat))) r.2) ∧ Ext σ σ' ∧ Ent (wl w) s σ' v ∧ v.one = true := by
  have h6 := hw.n6
  have hl : (L (rowsA w s)).length = 3 := by have := hw.rows s hs; rwa [wl_rows, List.length_map] at this
  have hlen : ∀ σ, len PP 48 (.p (eLs (rowsA w s))) σ = some (.p (pI (3 : Nat))) := fun σ => by rw [len48, hl]
  have g0 : (σ ++ [Row.mix [.p .nilsl, .p .nilsl, .p .nilsl]])[σ.length]? = some (.mix [.p .nilsl, .p .nilsl, .p .nilsl]) := get_snoc
  obtain ⟨σ1, e1, ⟨v1, g1⟩, k1⟩ := L95_2 hw hs (i := 0) (by decide) rfl g0 rfl x3 x10 x11
  simp only [List.set_cons_zero] at g1
  obtain ⟨σ2, e2, ⟨v2, g2⟩, k2⟩ := L95_2 hw hs (i := 1) (by decide) rfl g1 rfl x3 x10 x11
  simp only [List.set_cons_zero, List.set_cons_succ] at g2
  obtain ⟨σ3, e3, ⟨v3, g3⟩, k3⟩ := L95_2 hw hs (i := 2) (by decide) rfl g2 rfl x3 x10 x11
  simp only [List.set_cons_zero, List.set_cons_succ] at g3
  refine ⟨σ3, .rsl σ.length 1 0 3, ?_, fun j row h => ?_, ⟨_, _, _, _, _, _, _, rfl, g3⟩, rfl⟩
  · rw [f95_L1_eq guardT rfl]
    simp only [b_lss, b_eql, b_neq, b_leq, b_geq, b_gtr, show ((0 : Nat) : Int) < (3 : Nat) by decide, guard_tt, guard_ff, guard_tf, guard_ft, guard_sk, obind, omap, pickV_true, pickV_false, condK_true, condK_false, decide_true, decide_false, Bool.not_true, Bool.not_false, not_bool, hlen]
    rw [show (DV.p (PV.int IntKind.i64 0)) = (.p (pI ((0 : Nat) : Int))) from rfl, e1, f95_L1_eq guardT rfl]
    simp only [b_lss, b_eql, b_neq, b_leq, b_geq, b_gtr, show ((0 + 1 : Nat) : Int) < (3 : Nat) by decide, guard_tt, guard_ff, guard_tf, guard_ft, guard_sk, obind, omap, pickV_true, pickV_false, condK_true, condK_false, decide_true, decide_false, Bool.not_true, Bool.not_false, not_bool, hlen]
    rw [show (DV.p (PV.int IntKind.i64 0)) = (.p (pI ((0 : Nat) : Int))) from rfl, Nat.zero_add, e2, f95_L1_eq guardT rfl]
    simp only [b_lss, b_eql, b_neq, b_leq, b_geq, b_gtr, show ((1 + 1 : Nat) : Int) < (3 : Nat) by decide, guard_tt, guard_ff, guard_tf, guard_ft, guard_sk, obind, omap, pickV_true, pickV_false, condK_true, condK_false, decide_true, decide_false, Bool.not_true, Bool.not_false, not_bool, hlen]
    rw [show (DV.p (PV.int IntKind.i64 0)) = (.p (pI ((0 : Nat) : Int))) from rfl, show 1 + 1 = 2 from rfl, e3, f95_L1_eq guardT rfl]
    simp only [b_lss, b_eql, b_neq, b_leq, b_geq, b_gtr, show ¬ ((2 + 1 : Nat) : Int) < (3 : Nat) by decide, guard_tt, guard_ff, guard_tf, guard_ft, guard_sk, obind, omap, pickV_true, pickV_false, condK_true, condK_false, decide_true, decide_false, Bool.not_true, Bool.not_false, not_bool, bs27_r, b_add, wrap_succ (show s ≤ 1000000 by omega)]
  · have hj : j ≠ σ.length := by have := get_lt h; omega
    exact k3 j row (k2 j row (k1 j row (get_old h) hj) hj) hj
end
theorem L95_0 {w : OW} (hw : WOk (wl w) (wl w).length) : ∀ (k s : Nat) (x : DV) (cs : List DV) (σ : Store), (wl w).length - s = k → s ≤ (wl w).length → OutM σ s cs x → (∀ i (h : i < cs.length), Ent (wl w) i σ cs[i]) → cs.length = s →
    ∃ x' cs' σ', f95_L0 guardT 0 x (.p (eWt w)) (.p (pI ((L w).length : Nat))) (.p (pI (s : Nat))) σ = some (x', σ') ∧ OutM σ' (wl w).length cs' x' ∧ cs'.length = (wl w).length ∧ ∀ i (h : i < cs'.length), Ent (wl w) i σ' cs'[i]
  | 0, s, x, cs, σ, hk, hs, ho, he, hl => by
    have : s = (wl w).length := by omega
    subst this
    have hn : ¬ (((wl w).length : Nat) : Int) < ((L w).length : Nat) := by rw [wl_len]; omega
    refine ⟨x, cs, σ, ?_, ho, hl, he⟩
    rw [f95_L0_eq guardT rfl]
    simp only [b_lss, b_eql, b_neq, b_leq, b_geq, b_gtr, guard_tt, guard_ff, guard_tf, guard_ft, guard_sk, obind, omap, pickV_true, pickV_false, condK_true, condK_false, decide_true, decide_false, Bool.not_true, Bool.not_false, not_bool, hn]
  | k + 1, s, x, cs, σ, hk, hs, ho, he, hl => by
    have h6 := hw.n6
    have h : s < (wl w).length := by omega
    have h2 : s < (L w).length := by rw [← wl_len]; exact h
    have h' : (s : Int) < ((L w).length : Nat) := by omega
    have e : (L w).getD s none = rowsA w s := rfl
    obtain ⟨σ1, v, e1, x1, en, hv⟩ := L95_1 hw h x (.p (eWt w)) (.p (pI ((L w).length : Nat))) σ
    obtain ⟨x', σ', e2, o2, k2⟩ := (ho.ext x1).pushR (t := 27) (v := v) src27 u27 s48 bytes48 zero48 rfl (by decide) (by decide) hv (by omega)
    have hkeep : ∀ i v, Ent (wl w) i σ1 v → Ent (wl w) i σ' v := by
      rintro i v ⟨R, a, b, c, va, vb, vc, q1, q2⟩
      refine ⟨R, a, b, c, va, vb, vc, q1, k2 _ _ q2 ?_⟩
      rintro q hq rfl
      rcases ho.ext x1 with ⟨_, _, h3⟩ | ⟨q', h3, h4, h5, h6⟩
      · rw [h3] at hq; exact absurd hq (by simp)
      · rw [h3] at hq
        have hqq : q' = R := by injection hq
        rw [hqq, q2] at h4
        injection h4 with h4
        injection h4 with hcs
        have := he 0 (by omega)
        obtain ⟨R', _, _, _, _, _, _, q3, _⟩ := this
        simp only [← hcs, List.getElem_cons_zero] at q3
        exact absurd q3 (by simp)
    have ih := L95_0 hw k (s + 1) x' (cs ++ [v]) σ' (by omega) (by omega) o2 (fun i hi => ?_) (by simp [hl])
    · obtain ⟨x'', cs', σ'', e3, o3⟩ := ih
      refine ⟨x'', cs', σ'', ?_, o3⟩
      rw [f95_L0_eq guardT rfl]
      simp only [b_lss, b_eql, b_neq, b_leq, b_geq, b_gtr, guard_tt, guard_ff, guard_tf, guard_ft, guard_sk, obind, omap, pickV_true, pickV_false, condK_true, condK_false, decide_true, decide_false, Bool.not_true, Bool.not_false, not_bool, h', idx27 h2, len27, load48, load22, load3, len48, len22, load1_wt h2, e, mk48_3, len48_r]
      rw [show (DV.p (PV.int IntKind.i64 0)) = (.p (pI ((0 : Nat) : Int))) from rfl, e1, e2]
      exact e3
    · by_cases hi2 : i < cs.length
      · rw [List.getElem_append_left hi2]
        exact hkeep _ _ ((he i hi2).ext x1)
      · have : i = s := by simp at hi; omega
        subst this
        rw [List.getElem_append_right (by omega)]
        simp only [hl, Nat.sub_self, List.getElem_cons_zero]
        exact hkeep _ _ en
theorem thaw_ent {l : W3} {s : Nat} {σ : Store} {v : DV} (h : Ent l s σ v) : thawP 0 σ 3 v = some (eLs (tRows l s)) := by
  obtain ⟨R, a, b, c, va, vb, vc, rfl, h2⟩ := h
  simp [thawP, h2, mapO, loosens_ints, eLs, tRows, eSl, tRow]
theorem mapO_of {α β : Type} {f : α → Option β} : ∀ {l : List α} {m : List β}, l.length = m.length → (∀ i (h : i < l.length) (h2 : i < m.length), f l[i] = some m[i]) → mapO f l = some m
  | [], [], _, _ => rfl
  | a :: l, b :: m, h, hf => by
    have e1 := hf 0 (by simp) (by simp)
    have e2 := mapO_of (l := l) (m := m) (by simpa using h) fun i h1 h2 => by
      have := hf (i + 1) (by simp; omega) (by simp; omega)
      simpa using this
    simp only [List.getElem_cons_zero] at e1
    simp only [mapO, e1, e2]
theorem S95 {w : OW} {σ : Store} (hw : WOk (wl w) (wl w).length) : pureV CC 95 [.p (eWt w)] σ = some (.p (eWt (turnW (wl w)))) := by
  obtain ⟨x', cs, σ', h1, h2, h3, h4⟩ := L95_0 hw _ 0 (.p .nilsl) [] [] (Nat.sub_zero _) (Nat.zero_le _) (.inl ⟨rfl, rfl, rfl⟩) (fun i h => absurd h (by simp)) rfl
  refine pureV_free (by simp [wt_view]) rfl (F95_call (r := (x', σ')) ?_) ?_
  · rw [F95_eq]
    simp only [len27, load48, load22, load3, len48, len22, guard_tt, guard_ff, guard_tf, guard_ft, guard_sk, obind, omap, pickV_true, pickV_false, condK_true, condK_false, decide_true, decide_false, Bool.not_true, Bool.not_false, not_bool]
    exact h1
  · have hn := hw.n1
    rcases h2 with ⟨h5, _⟩ | ⟨q, rfl, h5, h6, h7⟩
    · omega
    · have e : mapO (thawP 0 σ' 3) cs = some ((List.range (wl w).length).map fun s => eLs (tRows (wl w) s)) := by
        refine mapO_of (by simp [h6]) fun i hi hi2 => ?_
        rw [List.getElem_map, List.getElem_range]
        exact thaw_ent (h4 i hi)
      have ht : cs.take (wl w).length = cs := List.take_of_length_le (by omega)
      simp [thawAll, thawPart, thaw, thaw1, thawP, h5, h6, ht, e, turnW, eWt]
theorem S36 {w : OW} {σ : Store} (hw : WSm w) : pureV CC 36 [.p (eWt w)] σ = some (if wchE (wl w) = 0 then .tuple [.p (eWt (turnW (wl w))), .p (pI 0)] else .tuple [.p .nilsl, .p (pI (wchE (wl w)))]) := by
  by_cases h : wchE (wl w) = 0
  · refine pureV_free (by simp [wt_view]) rfl (F36_call (r := (.tuple [.p (eWt (turnW (wl w))), .p (pI 0)], [])) ?_) ?_
    · rw [F36_eq]
      simp only [shift_ptr, shift_pptr, Nat.zero_add, Nat.add_zero, pureFn_fn, List.append_nil, List.singleton_append, List.cons_append, List.nil_append, S33 hw, h, b_neq, guard_tt, guard_ff, guard_tf, guard_ft, guard_sk, obind, omap, pickV_true, pickV_false, condK_true, condK_false, decide_true, decide_false, Bool.not_true, Bool.not_false, not_bool, S95 (wok_of h)]
    · simp [h, thawAll, mapO, thawPart, thaw, thaw1, thawP, loosen_wt, loosen]
  · refine pureV_free (by simp [wt_view]) rfl (F36_call (r := (.tuple [.p .nilsl, .p (pI (wchE (wl w)))], [])) ?_) ?_
    · rw [F36_eq]
      simp only [shift_ptr, shift_pptr, Nat.zero_add, Nat.add_zero, pureFn_fn, List.append_nil, List.singleton_append, List.cons_append, List.nil_append, S33 hw, h, b_neq, guard_tt, guard_ff, guard_tf, guard_ft, guard_sk, obind, omap, pickV_true, pickV_false, condK_true, condK_false, decide_true, decide_false, Bool.not_true, Bool.not_false, not_bool]
    · simp [h, thawAll, mapO, thawPart, thaw, thaw1, thawP, loosen]
end Go.D
end
/- OpenWatches: the law answers true. -/
section
set_option linter.unusedVariables false
set_option linter.unusedSimpArgs false
namespace Go.D
theorem badP_swap (p : Pr) : badP (swapP p) = badP p := Bool.or_comm _ _
theorem any_swap (l : List Pr) : (l.map swapP).any badP = l.any badP := by
  rw [List.any_map]
  exact congrArg (l.any ·) (funext badP_swap)
theorem prsE_swap (l : List Pr) : prsE (l.map swapP) = prsE l := by
  unfold prsE
  rw [List.length_map, any_swap]
theorem next_turn {l : W3} {n : Nat} (h : WOk l n) {s : Int} {p : Pr} (hs : 0 ≤ s ∧ s < n) (hp : badP p = false) : nextW (turn3 l) s (swapP p) = nextW l s p := by
  have hb : (0 ≤ p.i ∧ p.i ≤ 2) ∧ (0 ≤ p.o ∧ p.o ≤ 2) := by
    simp only [badP, Bool.or_eq_false_iff, Bool.not_eq_false'] at hp
    exact ⟨ltr_iff.1 hp.1, ltr_iff.1 hp.2⟩
  have hl := h.len
  exact turn3_cell (by omega) (by simp only [swapP]; omega) (by simp only [swapP]; omega)
theorem brkFrom_turn {l : W3} {n : Nat} (h : WOk l n) {ps : List Pr} (hb : ps.any badP = false) : ∀ (k i : Nat) (a : Int), 0 ≤ a ∧ a < n → ps.length - i = k → i ≤ ps.length → brkFrom (turn3 l) (ps.map swapP) a i k = brkFrom l ps a i k
  | 0, i, a, ha, hk, hi => rfl
  | k + 1, i, a, ha, hk, hi => by
    have hi2 : i < ps.length := by omega
    have hp : badP (ps.getD i default) = false := by
      rw [getD_at default hi2]
      have := List.any_eq_false.1 hb _ (List.getElem_mem hi2)
      simpa using this
    have e : (ps.map swapP).getD i default = swapP (ps.getD i default) := by
      rw [getD_at default (by simpa using hi2), getD_at default hi2, List.getElem_map]
    rw [brkFrom, brkFrom, e, next_turn h ha hp]
    by_cases hn : nextW l a (ps.getD i default) = -1
    · rw [if_pos hn, if_pos hn]
    · rw [if_neg hn, if_neg hn]
      exact brkFrom_turn h hb k (i + 1) _ (next_rng h ha hp hn) (by omega) (by omega)
theorem brk_turn {l : W3} (h : WOk l l.length) {ps : List Pr} (hb : ps.any badP = false) : brk (turn3 l) (ps.map swapP) = brk l ps := by
  have := h.n1
  unfold brk
  rw [List.length_map]
  exact brkFrom_turn h hb _ 0 0 (by omega) (Nat.sub_zero _) (Nat.zero_le _)
theorem len27_nil (σ : Store) : len PP 27 (.p .nilsl) σ = some (.p (.int .i64 0)) := by simp [len, u27]
theorem law7 (hawake : ∀ σ, pureV CC 10 [] σ = some (.p (.bool true))) (w : OW) (o : OP) : ∃ σ', F7 guardT 0 (.p (eWt w)) (.p (ePs o)) [] = some (.p (.bool true), σ') := by
  rw [F7_eq]
  simp only [shift_ptr, shift_pptr, Nat.zero_add, Nat.add_zero, pureFn_fn, List.append_nil, List.singleton_append, List.cons_append, List.nil_append, hawake, guard_tt, guard_ff, guard_tf, guard_ft, guard_sk, obind, omap, pickV_true, pickV_false, condK_true, condK_false, decide_true, decide_false, Bool.not_true, Bool.not_false, not_bool, S12]
  cases hsm : smallW w with
  | false => exact ⟨_, by simp only [guard_tt, guard_ff, guard_tf, guard_ft, guard_sk, obind, omap, pickV_true, pickV_false, condK_true, condK_false, decide_true, decide_false, Bool.not_true, Bool.not_false, not_bool]; rfl⟩
  | true =>
    have hw := wsm_of hsm
    simp only [guard_tt, guard_ff, guard_tf, guard_ft, guard_sk, obind, omap, pickV_true, pickV_false, condK_true, condK_false, decide_true, decide_false, Bool.not_true, Bool.not_false, not_bool, shift_ptr, shift_pptr, Nat.zero_add, Nat.add_zero, pureFn_fn, List.append_nil, List.singleton_append, List.cons_append, List.nil_append, S28]
    by_cases h62 : (L o).length ≤ 62
    · have hl : (L o).length ≤ 1000 := by omega
      have hoL : L (some (L o) : OP) = L o := rfl
      simp only [h62, guard_tt, guard_ff, guard_tf, guard_ft, guard_sk, obind, omap, pickV_true, pickV_false, condK_true, condK_false, decide_true, decide_false, Bool.not_true, Bool.not_false, not_bool, shift_ptr, shift_pptr, Nat.zero_add, Nat.add_zero, pureFn_fn, List.append_nil, List.singleton_append, List.cons_append, List.nil_append, S17 hw, S15 hw, S33 (wsm_own hw), S35 hl, S34 (wsm_own hw) (o := some (L o)) hl, S36 (wsm_own hw), wl_own, hoL, b_neq]
      by_cases hc : wchE (wl w) = 0
      · have hok := wok_of hc
        have ht : WOk (wl (turnW (wl w))) (wl (turnW (wl w))).length := by rw [wl_turn, turn3_len]; exact turn3_ok hok
        have htw := wsm_ok ht
        have hc2 : wchE (wl (turnW (wl w))) = 0 := wch_of ht
        have hbk : WSm (turnW (wl (turnW (wl w)))) := by
          refine wsm_ok ?_
          rw [wl_turn, turn3_len]
          exact turn3_ok ht
        have e2 : wl (turnW (wl (turnW (wl w)))) = wl w := by rw [wl_turn, wl_turn, turn3_twice hok]
        simp only [hc, if_true, guard_tt, guard_ff, guard_tf, guard_ft, guard_sk, obind, omap, pickV_true, pickV_false, condK_true, condK_false, decide_true, decide_false, Bool.not_true, Bool.not_false, not_bool, ex0, ex1, shift_ptr, shift_pptr, Nat.zero_add, Nat.add_zero, pureFn_fn, List.append_nil, List.singleton_append, List.cons_append, List.nil_append, S38 hok, S37 rfl htw, S15 htw, S36 (wsm_own htw), wl_own, hc2, S37 e2 hbk, b_neq, S39 hl, brkRes]
        by_cases hd : prsE (L o) = 0
        · have hb := prsE_zero hd
          have hls : (L (swapO o)).length ≤ 1000 := by rw [L_swap, List.length_map]; exact hl
          have hbt : brk (wl (turnW (wl w))) ((L o).map swapP) = brk (wl w) (L o) := by rw [wl_turn]; exact brk_turn hok hb.1
          simp only [hd, if_true, guard_tt, guard_ff, guard_tf, guard_ft, guard_sk, obind, omap, pickV_true, pickV_false, condK_true, condK_false, decide_true, decide_false, Bool.not_true, Bool.not_false, not_bool, tup2, ex0, ex1, shift_ptr, shift_pptr, Nat.zero_add, Nat.add_zero, pureFn_fn, List.append_nil, List.singleton_append, List.cons_append, List.nil_append, S40 hl, S34 (wsm_own htw) hls, wl_own, L_swap, prsE_swap, hc2, hbt, brkRes, S41 hok hl hb.1, b_lss]
          rcases brk_ge (wl w) (L o) (L o).length 0 0 with hk | ⟨hk, _⟩
          · have hk : brk (wl w) (L o) = -1 := hk
            exact ⟨_, by simp only [hk, if_true, guard_tt, guard_ff, guard_tf, guard_ft, guard_sk, obind, omap, pickV_true, pickV_false, condK_true, condK_false, decide_true, decide_false, Bool.not_true, Bool.not_false, not_bool, show ((-1 : Int) < 0) by decide, b_eql, tup2, ex0, ex1]; rfl⟩
          · have hk : (0 : Int) ≤ brk (wl w) (L o) := hk
            have h1 : ¬ brk (wl w) (L o) = -1 := by omega
            have h2 : ¬ brk (wl w) (L o) < 0 := by omega
            exact ⟨_, by simp only [h1, h2, if_false, guard_tt, guard_ff, guard_tf, guard_ft, guard_sk, obind, omap, pickV_true, pickV_false, condK_true, condK_false, decide_true, decide_false, Bool.not_true, Bool.not_false, not_bool, b_eql, tup2, ex0, ex1]; rfl⟩
        · exact ⟨_, by simp only [hd, if_false, guard_tt, guard_ff, guard_tf, guard_ft, guard_sk, obind, omap, pickV_true, pickV_false, condK_true, condK_false, decide_true, decide_false, Bool.not_true, Bool.not_false, not_bool, tup2, ex0, ex1, b_eql]; rfl⟩
      · exact ⟨_, by simp only [hc, if_false, guard_tt, guard_ff, guard_tf, guard_ft, guard_sk, obind, omap, pickV_true, pickV_false, condK_true, condK_false, decide_true, decide_false, Bool.not_true, Bool.not_false, not_bool, brkRes, tup2, ex0, ex1, b_eql, len27_nil]; rfl⟩
    · exact ⟨_, by simp only [h62, guard_tt, guard_ff, guard_tf, guard_ft, guard_sk, obind, omap, pickV_true, pickV_false, condK_true, condK_false, decide_true, decide_false, Bool.not_true, Bool.not_false, not_bool]; rfl⟩
theorem call7 (hawake : ∀ σ, pureV CC 10 [] σ = some (.p (.bool true))) (w : OW) (o : OP) : ∃ σ', CC 0 7 [.p (eWt w), .p (ePs o)] [] = some (.p (.bool true), σ') := by
  obtain ⟨σ', h⟩ := law7 hawake w o
  exact ⟨σ', F7_call h⟩
end Go.D
end
/- A search layer by layer, in plain terms: nodes with paths in the order in which they are found. -/
section
set_option linter.unusedVariables false
set_option linter.unusedSimpArgs false
namespace Go.D

structure QE where
  n : List Int
  p : List Int
deriving Inhabited
def ePth (p : List Int) : PV := if p = [] then .nilsl else .sl false p.length (eInts p)
def nodeD (l : List Int) : List DV := l.map fun n => .p (pI n)
def qeP (x : QE) : List PV := eInts x.n ++ [ePth x.p]
def qeD (x : QE) : List DV := nodeD x.n ++ [.p (ePth x.p)]
def qsP (q : List QE) : List PV := q.flatMap qeP
def hasN (q : List QE) (n : List Int) : Bool := q.any fun x => decide (x.n = n)
def addN (q : List QE) (n : List Int) (p : List Int) : List QE := if hasN q n = true then q else q ++ [⟨n, p⟩]
def entN (q : List QE) : List (DV × DV) := q.map fun x => (.agg (nodeD x.n), .p (.bool true))

/-- The search: what vis says of the element at i, with all that is found up to then. -/
def bfsQ (vis : QE → List QE → Sum (List Int) (List QE)) : Nat → Nat → List QE → Option (List Int)
  | 0, _, _ => none
  | k + 1, i, q => match q[i]? with
    | none => none
    | some x => match vis x q with
      | .inl p => some p
      | .inr q' => bfsQ vis k (i + 1) q'

def addE (q : List QE) (x : QE) : List QE := addN q x.n x.p
theorem hasN_app (q r : List QE) (n : List Int) : hasN (q ++ r) n = (hasN q n || hasN r n) := by simp [hasN]
theorem hasN_mem {q : List QE} {n : List Int} : hasN q n = true ↔ ∃ x ∈ q, x.n = n := by simp [hasN]
theorem addN_pre (q : List QE) (n p : List Int) : q <+: addN q n p := by
  unfold addN
  split
  · exact List.prefix_refl _
  · exact List.prefix_append _ _
theorem loosen_pth (p : List Int) : loosen (ePth p) = ePth p := by
  unfold ePth
  split
  · rfl
  · simp [loosen, loosens_ints]
theorem loosens_app (a b : List PV) : loosens (a ++ b) = loosens a ++ loosens b := by
  induction a with
  | nil => rfl
  | cons x a ih => simp only [List.cons_append, loosens, ih]
theorem loosens_qe (x : QE) : loosens (qeP x) = qeP x := by
  unfold qeP
  rw [loosens_app, loosens_ints]
  simp [loosens, loosen_pth]
theorem loosens_qs : ∀ q : List QE, loosens (qsP q) = qsP q
  | [] => rfl
  | x :: q => by
    show loosens (qeP x ++ qsP q) = qeP x ++ qsP q
    rw [loosens_app, loosens_qe, loosens_qs q]
theorem qeP_len (x : QE) : (qeP x).length = x.n.length + 1 := by simp [qeP, eInts]
theorem qsP_app (a b : List QE) : qsP (a ++ b) = qsP a ++ qsP b := by simp [qsP]
theorem qsP_len {K : Nat} : ∀ {q : List QE}, (∀ x ∈ q, x.n.length = K) → (qsP q).length = q.length * (K + 1)
  | [], _ => by simp [qsP]
  | x :: q, h => by
    have h1 := h x (by simp)
    have h2 := qsP_len (q := q) fun y hy => h y (by simp [hy])
    show (qeP x ++ qsP q).length = _
    rw [List.length_append, qeP_len, h1, h2, List.length_cons, Nat.add_mul]
    omega
theorem qeP_map (x : QE) : (qeP x).map DV.p = qeD x := by simp [qeP, qeD, nodeD, eInts]
/-- The cells of one element. -/
theorem qsP_at {K : Nat} : ∀ {q : List QE} {i : Nat} {x : QE}, (∀ x ∈ q, x.n.length = K) → q[i]? = some x → ((qsP q).drop (i * (K + 1))).take (K + 1) = qeP x
  | [], i, x, _, h => by simp at h
  | y :: q, 0, x, hk, h => by
    have e : y = x := by simpa using h
    subst e
    have h1 := hk y (by simp)
    show List.take (K + 1) (List.drop (0 * (K + 1)) (qeP y ++ qsP q)) = _
    rw [Nat.zero_mul, List.drop_zero, List.take_append_of_le_length (by rw [qeP_len, h1]; exact Nat.le_refl _), List.take_of_length_le (by rw [qeP_len, h1]; exact Nat.le_refl _)]
  | y :: q, i + 1, x, hk, h => by
    have h1 := hk y (by simp)
    have ih := qsP_at (q := q) (i := i) (x := x) (fun z hz => hk z (by simp [hz])) (by simpa using h)
    show List.take (K + 1) (List.drop ((i + 1) * (K + 1)) (qeP y ++ qsP q)) = _
    have e : (i + 1) * (K + 1) = (qeP y).length + i * (K + 1) := by rw [qeP_len, h1, Nat.add_mul]; omega
    rw [e, List.drop_append]
    have e2 : List.drop ((qeP y).length + i * (K + 1)) (qeP y) = [] := List.drop_eq_nil_of_le (by omega)
    rw [e2, List.nil_append, Nat.add_sub_cancel_left]
    exact ih

/-! ### Not more than there are -/
theorem nodup_le {α : Type} [DecidableEq α] : ∀ {l u : List α}, l.Nodup → (∀ x ∈ l, x ∈ u) → l.length ≤ u.length
  | [], u, _, _ => Nat.zero_le _
  | a :: l, u, hn, h => by
    have ha := h a (by simp)
    rw [List.nodup_cons] at hn
    have ih := nodup_le (l := l) (u := u.erase a) hn.2 fun x hx => by
      have hne : x ≠ a := fun e => hn.1 (e ▸ hx)
      exact (List.mem_erase_of_ne hne).2 (h x (by simp [hx]))
    have h1 := List.length_erase_of_mem ha
    have h2 : 0 < u.length := List.length_pos_of_mem ha
    simp only [List.length_cons]
    omega
/-- All lists of numbers below bounds. -/
def allTo : List Nat → List (List Int)
  | [] => [[]]
  | b :: bs => (List.range b).flatMap fun (v : Nat) => (allTo bs).map fun l => Int.ofNat v :: l
theorem allTo_len : ∀ bs : List Nat, (allTo bs).length = bs.foldr (· * ·) 1
  | [] => rfl
  | b :: bs => by
    have ih := allTo_len bs
    simp only [allTo, List.length_flatMap, List.length_map, ih, List.foldr_cons]
    induction b with
    | zero => simp
    | succ b ihb => rw [List.range_succ, List.map_append, List.sum_append, ihb, Nat.add_mul]; simp
theorem allTo_mem : ∀ {bs : List Nat} {l : List Int}, l.length = bs.length → (∀ i (h1 : i < l.length) (h2 : i < bs.length), 0 ≤ l[i] ∧ l[i] < (bs[i] : Nat)) → l ∈ allTo bs
  | [], [], _, _ => by simp [allTo]
  | b :: bs, v :: l, hl, h => by
    have h0 := h 0 (by simp) (by simp)
    have ih := allTo_mem (bs := bs) (l := l) (by simpa using hl) fun i h1 h2 => by
      have := h (i + 1) (by simp; omega) (by simp; omega)
      simpa using this
    simp only [List.getElem_cons_zero] at h0
    simp only [allTo, List.mem_flatMap, List.mem_range, List.mem_map]
    refine ⟨v.toNat, by omega, l, ih, ?_⟩
    show ((v.toNat : Nat) : Int) :: l = v :: l
    rw [Int.toNat_of_nonneg h0.1]
end Go.D
end
/- Equations of functions 24, 25, 26, 76, 77, 113, 114, 115, 5, printed by gen.py. -/
section
set_option linter.unusedVariables false
set_option maxRecDepth 10000
namespace Go.D
open _root_.Go.D.Code (fstC sndC)
open _root_.Go.D.Ann (left right)
noncomputable def c24_0 : Code := bodyOf Go.Proofs.Try.f24
noncomputable def a24_0 : Ann := (pol 24).ann
noncomputable def a24_13 : Ann := right (left (right (right a24_0)))
noncomputable def a24_14 : Ann := left a24_13
noncomputable def c24_15 : Code := fstC (fstC (sndC (fstC (sndC (sndC c24_0)))))
noncomputable def c24_35 : Code := sndC (sndC (sndC c24_0))
noncomputable def a24_35 : Ann := right (right (right a24_0))
noncomputable def f24_L0 (G : GuardT) (lo : Nat) (x0 x1 x15 x16 x17 : DV) (σ : Store) : Option (DV × Store) :=
 codeF G PP (pol 24) CC lo (.loop c24_15) a24_14 [x0, x1, ud, ud, ud, ud, ud, ud, ud, ud, ud, ud, ud, ud, ud, x15, x16, x17, ud, ud, ud, ud, ud, ud, ud, ud, ud, ud, ud, ud, ud, ud, ud, ud, ud, ud, ud, ud, ud, ud, ud] σ
 (blockC 0 a24_13 (seqC G PP (pol 24) CC lo c24_35 a24_35 (finR PP Go.Proofs.Try.f24.results.toList)))
noncomputable def F24 (G : GuardT) (lo : Nat) (x0 x1 : DV) (σ : Store) : Option (DV × Store) :=
 codeF G PP (pol 24) CC lo c24_0 a24_0 [x0, x1, ud, ud, ud, ud, ud, ud, ud, ud, ud, ud, ud, ud, ud, ud, ud, ud, ud, ud, ud, ud, ud, ud, ud, ud, ud, ud, ud, ud, ud, ud, ud, ud, ud, ud, ud, ud, ud, ud, ud] σ (finR PP Go.Proofs.Try.f24.results.toList)
theorem f24_L0_eq (G : GuardT) (hG : GuardOk G) (lo : Nat) (x0 x1 x15 x16 x17 : DV) (σ : Store) : f24_L0 G lo x0 x1 x15 x16 x17 σ =
 (binOp PP .lss 3 x17 x16).bind fun x18 =>
 condK x18
 (
 (indexAddr PP 56 x15 x17).bind fun x19 =>
 (load PP 27 x19 σ).bind fun x20 =>
 (pureFn CC (DV.fn 33 []) [x20] σ).bind fun x22 =>
 (binOp PP .neq 34 x22 (DV.p (PV.int IntKind.i64 (0)))).bind fun x24 =>
 condK x24
 (
 some ((DV.tuple [(DV.p PV.nilsl), x22]), σ)
 )
 (
 (binOp PP .add 3 x17 (DV.p (PV.int IntKind.i64 (1)))).bind fun x26 =>
 f24_L0 G lo x0 x1 x15 x16 x26 σ
 )
 )
 (
 (pureFn CC (DV.fn 33 []) [x1] σ).bind fun x28 =>
 (binOp PP .neq 34 x28 (DV.p (PV.int IntKind.i64 (0)))).bind fun x30 =>
 condK x30
 (
 some ((DV.tuple [(DV.p PV.nilsl), x28]), σ)
 )
 (
 (pureFn CC (DV.fn 76 []) [x0, x1] σ).bind fun x35 =>
 (extractV x35 0).bind fun x36 =>
 (extractV x35 1).bind fun x37 =>
 (pureFn CC (DV.fn 54 []) [x37, (DV.p (PV.int IntKind.i64 (25)))] σ).bind fun x40 =>
 some ((DV.tuple [x36, x40]), σ)
 )
 ) := (loopF_eq G hG).trans (by kernel_rfl)
theorem F24_eq (G : GuardT) (lo : Nat) (x0 x1 : DV) (σ : Store) : F24 G lo x0 x1 σ =
 (len PP 56 x0 σ).bind fun x13 =>
 (binOp PP .gtr 3 x13 (DV.p (PV.int IntKind.i64 (3)))).bind fun x14 =>
 condK x14
 (
 some ((DV.tuple [(DV.p PV.nilsl), (DV.p (PV.int IntKind.i64 (2)))]), σ)
 )
 (
 (len PP 56 x0 σ).bind fun x16 =>
 f24_L0 G lo x0 x1 x0 x16 (DV.p (PV.int IntKind.i64 (0))) σ
 ) := by kernel_rfl
theorem F24_call {lo : Nat} {x0 x1 : DV} {σ : Store} {r : DV × Store} (h : F24 guardT lo x0 x1 σ = some r) : CC lo 24 [x0, x1] σ = some r :=
 callL_run Go.Proofs.Try.func24 (by decide +kernel) rfl (by decide +kernel) h
noncomputable def c25_0 : Code := bodyOf Go.Proofs.Try.f25
noncomputable def a25_0 : Ann := (pol 25).ann
noncomputable def a25_7 : Ann := right (left (right (right a25_0)))
noncomputable def a25_8 : Ann := left a25_7
noncomputable def c25_9 : Code := fstC (fstC (sndC (fstC (sndC (sndC c25_0)))))
noncomputable def c25_19 : Code := sndC (sndC (sndC c25_0))
noncomputable def a25_19 : Ann := right (right (right a25_0))
noncomputable def f25_L0 (G : GuardT) (lo : Nat) (x0 x3 x4 : DV) (σ : Store) : Option (DV × Store) :=
 codeF G PP (pol 25) CC lo (.loop c25_9) a25_8 [x0, ud, ud, x3, x4, ud, ud, ud, ud, ud, ud, ud, ud, ud, ud, ud, ud, ud, ud, ud] σ
 (blockC 0 a25_7 (seqC G PP (pol 25) CC lo c25_19 a25_19 (finR PP Go.Proofs.Try.f25.results.toList)))
noncomputable def F25 (G : GuardT) (lo : Nat) (x0 : DV) (σ : Store) : Option (DV × Store) :=
 codeF G PP (pol 25) CC lo c25_0 a25_0 [x0, ud, ud, ud, ud, ud, ud, ud, ud, ud, ud, ud, ud, ud, ud, ud, ud, ud, ud, ud] σ (finR PP Go.Proofs.Try.f25.results.toList)
theorem f25_L0_eq (G : GuardT) (hG : GuardOk G) (lo : Nat) (x0 x3 x4 : DV) (σ : Store) : f25_L0 G lo x0 x3 x4 σ =
 (len PP 56 x0 σ).bind fun x7 =>
 (binOp PP .lss 3 x4 x7).bind fun x8 =>
 condK x8
 (
 (indexAddr PP 56 x0 x4).bind fun x14 =>
 (load PP 27 x14 σ).bind fun x15 =>
 (pureFn CC (DV.fn 15 []) [x15] σ).bind fun x16 =>
 (buildSlice PP none 56 1 [(0, x16)] σ).bind fun r17_1 =>
 (append PP lo false 56 56 x3 r17_1.1 r17_1.2).bind fun r18_2 =>
 (binOp PP .add 3 x4 (DV.p (PV.int IntKind.i64 (1)))).bind fun x10 =>
 f25_L0 G lo x0 r18_2.1 x10 r18_2.2
 )
 (
 some (x3, σ)
 ) := (loopF_eq G hG).trans (by kernel_rfl)
theorem F25_eq (G : GuardT) (lo : Nat) (x0 : DV) (σ : Store) : F25 G lo x0 σ =
 f25_L0 G lo x0 (DV.p PV.nilsl) (DV.p (PV.int IntKind.i64 (0))) σ := by kernel_rfl
theorem F25_call {lo : Nat} {x0 : DV} {σ : Store} {r : DV × Store} (h : F25 guardT lo x0 σ = some r) : CC lo 25 [x0] σ = some r :=
 callL_run Go.Proofs.Try.func25 (by decide +kernel) rfl (by decide +kernel) h
noncomputable def c26_0 : Code := bodyOf Go.Proofs.Try.f26
noncomputable def a26_0 : Ann := (pol 26).ann
noncomputable def a26_7 : Ann := right (left (right (right a26_0)))
noncomputable def a26_8 : Ann := left a26_7
noncomputable def c26_9 : Code := fstC (fstC (sndC (fstC (sndC (sndC c26_0)))))
noncomputable def c26_19 : Code := sndC (sndC (sndC c26_0))
noncomputable def a26_19 : Ann := right (right (right a26_0))
noncomputable def a26_24 : Ann := right (left (right a26_19))
noncomputable def a26_25 : Ann := left a26_24
noncomputable def c26_26 : Code := fstC (fstC (sndC (fstC (sndC c26_19))))
noncomputable def a26_33 : Ann := left (right (left a26_25))
noncomputable def a26_36 : Ann := right (left a26_33)
noncomputable def a26_37 : Ann := left a26_36
noncomputable def c26_38 : Code := fstC (fstC (sndC (fstC (fstC (sndC c26_26)))))
noncomputable def a26_45 : Ann := left (right (left a26_37))
noncomputable def a26_48 : Ann := right (left a26_45)
noncomputable def a26_49 : Ann := left a26_48
noncomputable def c26_50 : Code := fstC (fstC (sndC (fstC (fstC (sndC c26_38)))))
noncomputable def a26_57 : Ann := left (right (left a26_49))
noncomputable def a26_63 : Ann := right (left (right (left a26_57)))
noncomputable def a26_64 : Ann := left a26_63
noncomputable def c26_65 : Code := fstC (fstC (sndC (fstC (sndC (fstC (fstC (sndC c26_50)))))))
noncomputable def c26_79 : Code := sndC (sndC (fstC (fstC (sndC c26_50))))
noncomputable def a26_79 : Ann := right (right (left a26_57))
noncomputable def c26_100 : Code := sndC (sndC c26_50)
noncomputable def a26_100 : Ann := right (right (left a26_49))
noncomputable def c26_101 : Code := sndC (sndC c26_38)
noncomputable def a26_101 : Ann := right (right (left a26_37))
noncomputable def c26_102 : Code := sndC (sndC c26_26)
noncomputable def a26_102 : Ann := right (right (left a26_25))
noncomputable def c26_103 : Code := sndC (sndC c26_19)
noncomputable def a26_103 : Ann := right (right a26_19)
noncomputable def f26_L0 (G : GuardT) (lo : Nat) (x0 x1 x6 x7 : DV) (σ : Store) : Option (DV × Store) :=
 codeF G PP (pol 26) CC lo (.loop c26_9) a26_8 [x0, x1, ud, ud, ud, ud, x6, x7, ud, ud, ud, ud, ud, ud, ud, ud, ud, ud, ud, ud, ud, ud, ud, ud, ud, ud, ud, ud, ud, ud, ud, ud, ud, ud, ud, ud, ud, ud, ud, ud, ud, ud, ud, ud, ud, ud, ud, ud, ud, ud, ud, ud, ud, ud, ud, ud, ud, ud, ud, ud, ud, ud, ud, ud, ud, ud, ud, ud, ud, ud, ud, ud, ud, ud, ud, ud, ud, ud, ud, ud, ud, ud, ud, ud, ud, ud, ud, ud, ud, ud, ud, ud, ud, ud, ud, ud, ud, ud, ud, ud, ud, ud, ud, ud, ud, ud, ud, ud, ud, ud, ud, ud, ud, ud, ud, ud, ud, ud, ud, ud, ud, ud, ud, ud, ud] σ
 (blockC 0 a26_7 (seqC G PP (pol 26) CC lo c26_19 a26_19 (finR PP Go.Proofs.Try.f26.results.toList)))
noncomputable def f26_L1 (G : GuardT) (lo : Nat) (x0 x1 x8 x9 : DV) (σ : Store) : Option (DV × Store) :=
 codeF G PP (pol 26) CC lo (.loop c26_26) a26_25 [x0, x1, ud, ud, ud, ud, ud, ud, x8, x9, ud, ud, ud, ud, ud, ud, ud, ud, ud, ud, ud, ud, ud, ud, ud, ud, ud, ud, ud, ud, ud, ud, ud, ud, ud, ud, ud, ud, ud, ud, ud, ud, ud, ud, ud, ud, ud, ud, ud, ud, ud, ud, ud, ud, ud, ud, ud, ud, ud, ud, ud, ud, ud, ud, ud, ud, ud, ud, ud, ud, ud, ud, ud, ud, ud, ud, ud, ud, ud, ud, ud, ud, ud, ud, ud, ud, ud, ud, ud, ud, ud, ud, ud, ud, ud, ud, ud, ud, ud, ud, ud, ud, ud, ud, ud, ud, ud, ud, ud, ud, ud, ud, ud, ud, ud, ud, ud, ud, ud, ud, ud, ud, ud, ud, ud] σ
 (blockC 2 a26_24 (seqC G PP (pol 26) CC lo c26_103 a26_103 (finR PP Go.Proofs.Try.f26.results.toList)))
noncomputable def f26_L2 (G : GuardT) (lo : Nat) (x0 x1 x8 x9 x10 : DV) (σ : Store) : Option (DV × Store) :=
 codeF G PP (pol 26) CC lo (.loop c26_38) a26_37 [x0, x1, ud, ud, ud, ud, ud, ud, x8, x9, x10, ud, ud, ud, ud, ud, ud, ud, ud, ud, ud, ud, ud, ud, ud, ud, ud, ud, ud, ud, ud, ud, ud, ud, ud, ud, ud, ud, ud, ud, ud, ud, ud, ud, ud, ud, ud, ud, ud, ud, ud, ud, ud, ud, ud, ud, ud, ud, ud, ud, ud, ud, ud, ud, ud, ud, ud, ud, ud, ud, ud, ud, ud, ud, ud, ud, ud, ud, ud, ud, ud, ud, ud, ud, ud, ud, ud, ud, ud, ud, ud, ud, ud, ud, ud, ud, ud, ud, ud, ud, ud, ud, ud, ud, ud, ud, ud, ud, ud, ud, ud, ud, ud, ud, ud, ud, ud, ud, ud, ud, ud, ud, ud, ud, ud] σ
 (blockC 4 a26_36 (blockC 3 a26_33 (seqC G PP (pol 26) CC lo c26_102 a26_102 (loopC G PP (pol 26) CC lo c26_26 a26_25 (blockC 2 a26_24 (seqC G PP (pol 26) CC lo c26_103 a26_103 (finR PP Go.Proofs.Try.f26.results.toList)))))))
noncomputable def f26_L3 (G : GuardT) (lo : Nat) (x0 x1 x8 x9 x10 x11 : DV) (σ : Store) : Option (DV × Store) :=
 codeF G PP (pol 26) CC lo (.loop c26_50) a26_49 [x0, x1, ud, ud, ud, ud, ud, ud, x8, x9, x10, x11, ud, ud, ud, ud, ud, ud, ud, ud, ud, ud, ud, ud, ud, ud, ud, ud, ud, ud, ud, ud, ud, ud, ud, ud, ud, ud, ud, ud, ud, ud, ud, ud, ud, ud, ud, ud, ud, ud, ud, ud, ud, ud, ud, ud, ud, ud, ud, ud, ud, ud, ud, ud, ud, ud, ud, ud, ud, ud, ud, ud, ud, ud, ud, ud, ud, ud, ud, ud, ud, ud, ud, ud, ud, ud, ud, ud, ud, ud, ud, ud, ud, ud, ud, ud, ud, ud, ud, ud, ud, ud, ud, ud, ud, ud, ud, ud, ud, ud, ud, ud, ud, ud, ud, ud, ud, ud, ud, ud, ud, ud, ud, ud, ud] σ
 (blockC 6 a26_48 (blockC 5 a26_45 (seqC G PP (pol 26) CC lo c26_101 a26_101 (loopC G PP (pol 26) CC lo c26_38 a26_37 (blockC 4 a26_36 (blockC 3 a26_33 (seqC G PP (pol 26) CC lo c26_102 a26_102 (loopC G PP (pol 26) CC lo c26_26 a26_25 (blockC 2 a26_24 (seqC G PP (pol 26) CC lo c26_103 a26_103 (finR PP Go.Proofs.Try.f26.results.toList)))))))))))
noncomputable def f26_L4 (G : GuardT) (lo : Nat) (x0 x1 x8 x9 x10 x11 x12 x13 x14 : DV) (σ : Store) : Option (DV × Store) :=
 codeF G PP (pol 26) CC lo (.loop c26_65) a26_64 [x0, x1, ud, ud, ud, ud, ud, ud, x8, x9, x10, x11, x12, x13, x14, ud, ud, ud, ud, ud, ud, ud, ud, ud, ud, ud, ud, ud, ud, ud, ud, ud, ud, ud, ud, ud, ud, ud, ud, ud, ud, ud, ud, ud, ud, ud, ud, ud, ud, ud, ud, ud, ud, ud, ud, ud, ud, ud, ud, ud, ud, ud, ud, ud, ud, ud, ud, ud, ud, ud, ud, ud, ud, ud, ud, ud, ud, ud, ud, ud, ud, ud, ud, ud, ud, ud, ud, ud, ud, ud, ud, ud, ud, ud, ud, ud, ud, ud, ud, ud, ud, ud, ud, ud, ud, ud, ud, ud, ud, ud, ud, ud, ud, ud, ud, ud, ud, ud, ud, ud, ud, ud, ud, ud, ud] σ
 (blockC 8 a26_63 (seqC G PP (pol 26) CC lo c26_79 a26_79 (blockC 7 a26_57 (seqC G PP (pol 26) CC lo c26_100 a26_100 (loopC G PP (pol 26) CC lo c26_50 a26_49 (blockC 6 a26_48 (blockC 5 a26_45 (seqC G PP (pol 26) CC lo c26_101 a26_101 (loopC G PP (pol 26) CC lo c26_38 a26_37 (blockC 4 a26_36 (blockC 3 a26_33 (seqC G PP (pol 26) CC lo c26_102 a26_102 (loopC G PP (pol 26) CC lo c26_26 a26_25 (blockC 2 a26_24 (seqC G PP (pol 26) CC lo c26_103 a26_103 (finR PP Go.Proofs.Try.f26.results.toList))))))))))))))))
def f26_J0_fr (x0 x1 x8 x9 x10 x11 : DV) : Frame := [x0, x1, ud, ud, ud, ud, ud, ud, x8, x9, x10, x11, ud, ud, ud, ud, ud, ud, ud, ud, ud, ud, ud, ud, ud, ud, ud, ud, ud, ud, ud, ud, ud, ud, ud, ud, ud, ud, ud, ud, ud, ud, ud, ud, ud, ud, ud, ud, ud, ud, ud, ud, ud, ud, ud, ud, ud, ud, ud, ud, ud, ud, ud, ud, ud, ud, ud, ud, ud, ud, ud, ud, ud, ud, ud, ud, ud, ud, ud, ud, ud, ud, ud, ud, ud, ud, ud, ud, ud, ud, ud, ud, ud, ud, ud, ud, ud, ud, ud, ud, ud, ud, ud, ud, ud, ud, ud, ud, ud, ud, ud, ud, ud, ud, ud, ud, ud, ud, ud, ud, ud, ud, ud, ud, ud]
noncomputable def f26_J0 (G : GuardT) (lo : Nat) (x0 x1 x8 x9 x10 x11 : DV) (σ : Store) : Option (DV × Store) :=
 (seqC G PP (pol 26) CC lo c26_100 a26_100 (loopC G PP (pol 26) CC lo c26_50 a26_49 (blockC 6 a26_48 (blockC 5 a26_45 (seqC G PP (pol 26) CC lo c26_101 a26_101 (loopC G PP (pol 26) CC lo c26_38 a26_37 (blockC 4 a26_36 (blockC 3 a26_33 (seqC G PP (pol 26) CC lo c26_102 a26_102 (loopC G PP (pol 26) CC lo c26_26 a26_25 (blockC 2 a26_24 (seqC G PP (pol 26) CC lo c26_103 a26_103 (finR PP Go.Proofs.Try.f26.results.toList))))))))))))) .normal (f26_J0_fr x0 x1 x8 x9 x10 x11) σ
noncomputable def F26 (G : GuardT) (lo : Nat) (x0 x1 : DV) (σ : Store) : Option (DV × Store) :=
 codeF G PP (pol 26) CC lo c26_0 a26_0 [x0, x1, ud, ud, ud, ud, ud, ud, ud, ud, ud, ud, ud, ud, ud, ud, ud, ud, ud, ud, ud, ud, ud, ud, ud, ud, ud, ud, ud, ud, ud, ud, ud, ud, ud, ud, ud, ud, ud, ud, ud, ud, ud, ud, ud, ud, ud, ud, ud, ud, ud, ud, ud, ud, ud, ud, ud, ud, ud, ud, ud, ud, ud, ud, ud, ud, ud, ud, ud, ud, ud, ud, ud, ud, ud, ud, ud, ud, ud, ud, ud, ud, ud, ud, ud, ud, ud, ud, ud, ud, ud, ud, ud, ud, ud, ud, ud, ud, ud, ud, ud, ud, ud, ud, ud, ud, ud, ud, ud, ud, ud, ud, ud, ud, ud, ud, ud, ud, ud, ud, ud, ud, ud, ud, ud] σ (finR PP Go.Proofs.Try.f26.results.toList)
theorem f26_L0_eq (G : GuardT) (hG : GuardOk G) (lo : Nat) (x0 x1 x6 x7 : DV) (σ : Store) : f26_L0 G lo x0 x1 x6 x7 σ =
 (len PP 56 x0 σ).bind fun x20 =>
 (binOp PP .lss 3 x7 x20).bind fun x21 =>
 condK x21
 (
 (buildSlice PP none 22 1 [(0, (DV.p (PV.int IntKind.i64 (0))))] σ).bind fun r25_2 =>
 (append PP lo false 22 22 x6 r25_2.1 r25_2.2).bind fun r26_3 =>
 (binOp PP .add 3 x7 (DV.p (PV.int IntKind.i64 (1)))).bind fun x23 =>
 f26_L0 G lo x0 x1 r26_3.1 x23 r26_3.2
 )
 (
 (build PP 134 [(0, (DV.p PV.nilsl)), (1, x6)]).bind fun x28 =>
 (buildSlice PP none 135 1 [(0, x28)] σ).bind fun r29_4 =>
 f26_L1 G lo x0 x1 r29_4.1 (DV.p (PV.int IntKind.i64 (0))) r29_4.2
 ) := (loopF_eq G hG).trans (by kernel_rfl)
theorem f26_L1_eq (G : GuardT) (hG : GuardOk G) (lo : Nat) (x0 x1 x8 x9 : DV) (σ : Store) : f26_L1 G lo x0 x1 x8 x9 σ =
 (len PP 135 x8 σ).bind fun x32 =>
 (binOp PP .lss 3 x9 x32).bind fun x33 =>
 condK x33
 (
 f26_L2 G lo x0 x1 x8 x9 (DV.p (PV.int IntKind.i64 (0))) σ
 )
 (
 some ((DV.tuple [(DV.p PV.nilsl), (DV.p (PV.bool false))]), σ)
 ) := (loopF_eq G hG).trans (by kernel_rfl)
theorem f26_L2_eq (G : GuardT) (hG : GuardOk G) (lo : Nat) (x0 x1 x8 x9 x10 : DV) (σ : Store) : f26_L2 G lo x0 x1 x8 x9 x10 σ =
 (binOp PP .lss 3 x10 (DV.p (PV.int IntKind.i64 (3)))).bind fun x37 =>
 condK x37
 (
 f26_L3 G lo x0 x1 x8 x9 x10 (DV.p (PV.int IntKind.i64 (0))) σ
 )
 (
 (binOp PP .add 3 x9 (DV.p (PV.int IntKind.i64 (1)))).bind fun x35 =>
 f26_L1 G lo x0 x1 x8 x35 σ
 ) := (loopF_eq G hG).trans (by kernel_rfl)
theorem f26_L3_eq (G : GuardT) (hG : GuardOk G) (lo : Nat) (x0 x1 x8 x9 x10 x11 : DV) (σ : Store) : f26_L3 G lo x0 x1 x8 x9 x10 x11 σ =
 (binOp PP .lss 3 x11 (DV.p (PV.int IntKind.i64 (3)))).bind fun x41 =>
 condK x41
 (
 (indexAddr PP 135 x8 x9).bind fun x47 =>
 (fieldAddr PP 134 x47 1).bind fun x48 =>
 (load PP 22 x48 σ).bind fun x49 =>
 (indexAddr PP 22 x49 (DV.p (PV.int IntKind.i64 (0)))).bind fun x50 =>
 (load PP 3 x50 σ).bind fun x51 =>
 (indexAddr PP 27 x1 x51).bind fun x52 =>
 (load PP 48 x52 σ).bind fun x53 =>
 (indexAddr PP 48 x53 x10).bind fun x55 =>
 (load PP 22 x55 σ).bind fun x56 =>
 (indexAddr PP 22 x56 x11).bind fun x58 =>
 (load PP 3 x58 σ).bind fun x59 =>
 (buildSlice PP none 22 1 [(0, x59)] σ).bind fun r60_5 =>
 f26_L4 G lo x0 x1 x8 x9 x10 x11 r60_5.1 (DV.p (PV.bool true)) (DV.p (PV.int IntKind.i64 (0))) r60_5.2
 )
 (
 (binOp PP .add 3 x10 (DV.p (PV.int IntKind.i64 (1)))).bind fun x39 =>
 f26_L2 G lo x0 x1 x8 x9 x39 σ
 ) := (loopF_eq G hG).trans (by kernel_rfl)
theorem f26_L4_gen (G : GuardT) (hG : GuardOk G) (lo : Nat) (N0 : Frame → Store → Option (DV × Store)) (x0 x1 x8 x9 x10 x11 x12 x13 x14 : DV) (σ : Store) : codeF G PP (pol 26) CC lo (.loop c26_65) a26_64 [x0, x1, ud, ud, ud, ud, ud, ud, x8, x9, x10, x11, x12, x13, x14, ud, ud, ud, ud, ud, ud, ud, ud, ud, ud, ud, ud, ud, ud, ud, ud, ud, ud, ud, ud, ud, ud, ud, ud, ud, ud, ud, ud, ud, ud, ud, ud, ud, ud, ud, ud, ud, ud, ud, ud, ud, ud, ud, ud, ud, ud, ud, ud, ud, ud, ud, ud, ud, ud, ud, ud, ud, ud, ud, ud, ud, ud, ud, ud, ud, ud, ud, ud, ud, ud, ud, ud, ud, ud, ud, ud, ud, ud, ud, ud, ud, ud, ud, ud, ud, ud, ud, ud, ud, ud, ud, ud, ud, ud, ud, ud, ud, ud, ud, ud, ud, ud, ud, ud, ud, ud, ud, ud, ud, ud] σ
 (blockC 8 a26_63 (seqC G PP (pol 26) CC lo c26_79 a26_79 (blockC 7 a26_57 (splitC N0 (seqC G PP (pol 26) CC lo c26_100 a26_100 (loopC G PP (pol 26) CC lo c26_50 a26_49 (blockC 6 a26_48 (blockC 5 a26_45 (seqC G PP (pol 26) CC lo c26_101 a26_101 (loopC G PP (pol 26) CC lo c26_38 a26_37 (blockC 4 a26_36 (blockC 3 a26_33 (seqC G PP (pol 26) CC lo c26_102 a26_102 (loopC G PP (pol 26) CC lo c26_26 a26_25 (blockC 2 a26_24 (seqC G PP (pol 26) CC lo c26_103 a26_103 (finR PP Go.Proofs.Try.f26.results.toList))))))))))))))))) =
 (len PP 56 x0 σ).bind fun x63 =>
 (binOp PP .lss 3 x14 x63).bind fun x64 =>
 condK x64
 (
 (indexAddr PP 56 x0 x14).bind fun x69 =>
 (load PP 27 x69 σ).bind fun x70 =>
 (indexAddr PP 135 x8 x9).bind fun x73 =>
 (fieldAddr PP 134 x73 1).bind fun x74 =>
 (load PP 22 x74 σ).bind fun x75 =>
 (binOp PP .add 3 x14 (DV.p (PV.int IntKind.i64 (1)))).bind fun x77 =>
 (indexAddr PP 22 x75 x77).bind fun x78 =>
 (load PP 3 x78 σ).bind fun x79 =>
 (indexAddr PP 27 x70 x79).bind fun x80 =>
 (load PP 48 x80 σ).bind fun x81 =>
 (indexAddr PP 48 x81 x10).bind fun x83 =>
 (load PP 22 x83 σ).bind fun x84 =>
 (indexAddr PP 22 x84 x11).bind fun x86 =>
 (load PP 3 x86 σ).bind fun x87 =>
 G _ x13 true (some (x87, σ)) σ fun x90 σ6 =>
 G _ x13 true ((binOp PP .neq 3 x90 (DV.p (PV.int IntKind.i64 (-1)))).bind fun v => some (v, σ6)) σ6 fun x91 σ7 =>
 (pickV x13 x91 (DV.p (PV.bool false))).bind fun x92 =>
 (buildSlice PP none 22 1 [(0, x87)] σ7).bind fun r95_8 =>
 (append PP lo false 22 22 x12 r95_8.1 r95_8.2).bind fun r96_9 =>
 (binOp PP .add 3 x14 (DV.p (PV.int IntKind.i64 (1)))).bind fun x66 =>
 codeF G PP (pol 26) CC lo (.loop c26_65) a26_64 [x0, x1, ud, ud, ud, ud, ud, ud, x8, x9, x10, x11, r96_9.1, x92, x66, ud, ud, ud, ud, ud, ud, ud, ud, ud, ud, ud, ud, ud, ud, ud, ud, ud, ud, ud, ud, ud, ud, ud, ud, ud, ud, ud, ud, ud, ud, ud, ud, ud, ud, ud, ud, ud, ud, ud, ud, ud, ud, ud, ud, ud, ud, ud, ud, ud, ud, ud, ud, ud, ud, ud, ud, ud, ud, ud, ud, ud, ud, ud, ud, ud, ud, ud, ud, ud, ud, ud, ud, ud, ud, ud, ud, ud, ud, ud, ud, ud, ud, ud, ud, ud, ud, ud, ud, ud, ud, ud, ud, ud, ud, ud, ud, ud, ud, ud, ud, ud, ud, ud, ud, ud, ud, ud, ud, ud, ud] r96_9.2 (blockC 8 a26_63 (seqC G PP (pol 26) CC lo c26_79 a26_79 (blockC 7 a26_57 (splitC N0 (seqC G PP (pol 26) CC lo c26_100 a26_100 (loopC G PP (pol 26) CC lo c26_50 a26_49 (blockC 6 a26_48 (blockC 5 a26_45 (seqC G PP (pol 26) CC lo c26_101 a26_101 (loopC G PP (pol 26) CC lo c26_38 a26_37 (blockC 4 a26_36 (blockC 3 a26_33 (seqC G PP (pol 26) CC lo c26_102 a26_102 (loopC G PP (pol 26) CC lo c26_26 a26_25 (blockC 2 a26_24 (seqC G PP (pol 26) CC lo c26_103 a26_103 (finR PP Go.Proofs.Try.f26.results.toList)))))))))))))))))
 )
 (
 (unOp .not x13).bind fun x98 =>
 condK x98
 (
 N0 (f26_J0_fr x0 x1 x8 x9 x10 x11) σ
 )
 (
 (indexAddr PP 135 x8 x9).bind fun x101 =>
 (fieldAddr PP 134 x101 0).bind fun x102 =>
 (load PP 31 x102 σ).bind fun x103 =>
 (plainFn CC lo (DV.fn 35 []) [x103] σ).bind fun r104_10 =>
 (build PP 98 [(0, x10), (1, x11)]).bind fun x107 =>
 (buildSlice PP none 31 1 [(0, x107)] r104_10.2).bind fun r108_11 =>
 (append PP lo false 31 31 r104_10.1 r108_11.1 r108_11.2).bind fun r109_12 =>
 (indexAddr PP 22 x12 (DV.p (PV.int IntKind.i64 (0)))).bind fun x111 =>
 (load PP 3 x111 r109_12.2).bind fun x112 =>
 (binOp PP .eql 3 x112 (DV.p (PV.int IntKind.i64 (-1)))).bind fun x113 =>
 condK x113
 (
 some ((DV.tuple [r109_12.1, (DV.p (PV.bool true))]), r109_12.2)
 )
 (
 (pureFn CC (DV.fn 77 []) [x8, x12] r109_12.2).bind fun x117 =>
 (unOp .not x117).bind fun x118 =>
 condK x118
 (
 (build PP 134 [(0, r109_12.1), (1, x12)]).bind fun x122 =>
 (buildSlice PP none 135 1 [(0, x122)] r109_12.2).bind fun r123_13 =>
 (append PP lo false 135 135 x8 r123_13.1 r123_13.2).bind fun r124_14 =>
 N0 (f26_J0_fr x0 x1 r124_14.1 x9 x10 x11) r124_14.2
 )
 (
 N0 (f26_J0_fr x0 x1 x8 x9 x10 x11) r109_12.2
 )
 )
 )
 ) := (loopF_eq G hG).trans (by kernel_rfl)
theorem f26_L4_eq (G : GuardT) (hG : GuardOk G) (lo : Nat) (x0 x1 x8 x9 x10 x11 x12 x13 x14 : DV) (σ : Store) : f26_L4 G lo x0 x1 x8 x9 x10 x11 x12 x13 x14 σ =
 (len PP 56 x0 σ).bind fun x63 =>
 (binOp PP .lss 3 x14 x63).bind fun x64 =>
 condK x64
 (
 (indexAddr PP 56 x0 x14).bind fun x69 =>
 (load PP 27 x69 σ).bind fun x70 =>
 (indexAddr PP 135 x8 x9).bind fun x73 =>
 (fieldAddr PP 134 x73 1).bind fun x74 =>
 (load PP 22 x74 σ).bind fun x75 =>
 (binOp PP .add 3 x14 (DV.p (PV.int IntKind.i64 (1)))).bind fun x77 =>
 (indexAddr PP 22 x75 x77).bind fun x78 =>
 (load PP 3 x78 σ).bind fun x79 =>
 (indexAddr PP 27 x70 x79).bind fun x80 =>
 (load PP 48 x80 σ).bind fun x81 =>
 (indexAddr PP 48 x81 x10).bind fun x83 =>
 (load PP 22 x83 σ).bind fun x84 =>
 (indexAddr PP 22 x84 x11).bind fun x86 =>
 (load PP 3 x86 σ).bind fun x87 =>
 G _ x13 true (some (x87, σ)) σ fun x90 σ6 =>
 G _ x13 true ((binOp PP .neq 3 x90 (DV.p (PV.int IntKind.i64 (-1)))).bind fun v => some (v, σ6)) σ6 fun x91 σ7 =>
 (pickV x13 x91 (DV.p (PV.bool false))).bind fun x92 =>
 (buildSlice PP none 22 1 [(0, x87)] σ7).bind fun r95_8 =>
 (append PP lo false 22 22 x12 r95_8.1 r95_8.2).bind fun r96_9 =>
 (binOp PP .add 3 x14 (DV.p (PV.int IntKind.i64 (1)))).bind fun x66 =>
 f26_L4 G lo x0 x1 x8 x9 x10 x11 r96_9.1 x92 x66 r96_9.2
 )
 (
 (unOp .not x13).bind fun x98 =>
 condK x98
 (
 f26_J0 G lo x0 x1 x8 x9 x10 x11 σ
 )
 (
 (indexAddr PP 135 x8 x9).bind fun x101 =>
 (fieldAddr PP 134 x101 0).bind fun x102 =>
 (load PP 31 x102 σ).bind fun x103 =>
 (plainFn CC lo (DV.fn 35 []) [x103] σ).bind fun r104_10 =>
 (build PP 98 [(0, x10), (1, x11)]).bind fun x107 =>
 (buildSlice PP none 31 1 [(0, x107)] r104_10.2).bind fun r108_11 =>
 (append PP lo false 31 31 r104_10.1 r108_11.1 r108_11.2).bind fun r109_12 =>
 (indexAddr PP 22 x12 (DV.p (PV.int IntKind.i64 (0)))).bind fun x111 =>
 (load PP 3 x111 r109_12.2).bind fun x112 =>
 (binOp PP .eql 3 x112 (DV.p (PV.int IntKind.i64 (-1)))).bind fun x113 =>
 condK x113
 (
 some ((DV.tuple [r109_12.1, (DV.p (PV.bool true))]), r109_12.2)
 )
 (
 (pureFn CC (DV.fn 77 []) [x8, x12] r109_12.2).bind fun x117 =>
 (unOp .not x117).bind fun x118 =>
 condK x118
 (
 (build PP 134 [(0, r109_12.1), (1, x12)]).bind fun x122 =>
 (buildSlice PP none 135 1 [(0, x122)] r109_12.2).bind fun r123_13 =>
 (append PP lo false 135 135 x8 r123_13.1 r123_13.2).bind fun r124_14 =>
 f26_J0 G lo x0 x1 r124_14.1 x9 x10 x11 r124_14.2
 )
 (
 f26_J0 G lo x0 x1 x8 x9 x10 x11 r109_12.2
 )
 )
 )
 ) := by
 have h := f26_L4_gen (N0 := (seqC G PP (pol 26) CC lo c26_100 a26_100 (loopC G PP (pol 26) CC lo c26_50 a26_49 (blockC 6 a26_48 (blockC 5 a26_45 (seqC G PP (pol 26) CC lo c26_101 a26_101 (loopC G PP (pol 26) CC lo c26_38 a26_37 (blockC 4 a26_36 (blockC 3 a26_33 (seqC G PP (pol 26) CC lo c26_102 a26_102 (loopC G PP (pol 26) CC lo c26_26 a26_25 (blockC 2 a26_24 (seqC G PP (pol 26) CC lo c26_103 a26_103 (finR PP Go.Proofs.Try.f26.results.toList))))))))))))) .normal) G hG lo x0 x1 x8 x9 x10 x11 x12 x13 x14 σ
 simp only [splitC_eta] at h
 exact h
theorem f26_J0_eq (G : GuardT) (lo : Nat) (x0 x1 x8 x9 x10 x11 : DV) (σ : Store) : f26_J0 G lo x0 x1 x8 x9 x10 x11 σ =
 (binOp PP .add 3 x11 (DV.p (PV.int IntKind.i64 (1)))).bind fun x43 =>
 f26_L3 G lo x0 x1 x8 x9 x10 x43 σ := by kernel_rfl
theorem F26_eq (G : GuardT) (lo : Nat) (x0 x1 : DV) (σ : Store) : F26 G lo x0 x1 σ =
 (buildSlice PP none 22 1 [(0, (DV.p (PV.int IntKind.i64 (0))))] σ).bind fun r17_1 =>
 f26_L0 G lo x0 x1 r17_1.1 (DV.p (PV.int IntKind.i64 (0))) r17_1.2 := by kernel_rfl
theorem F26_call {lo : Nat} {x0 x1 : DV} {σ : Store} {r : DV × Store} (h : F26 guardT lo x0 x1 σ = some r) : CC lo 26 [x0, x1] σ = some r :=
 callL_run Go.Proofs.Try.func26 (by decide +kernel) rfl (by decide +kernel) h
noncomputable def c76_0 : Code := bodyOf Go.Proofs.Try.f76
noncomputable def a76_0 : Ann := (pol 76).ann
noncomputable def a76_9 : Ann := right (left (right (right (right a76_0))))
noncomputable def a76_10 : Ann := left a76_9
noncomputable def c76_11 : Code := fstC (fstC (sndC (fstC (sndC (sndC (sndC c76_0))))))
noncomputable def c76_23 : Code := sndC (sndC (sndC (sndC c76_0)))
noncomputable def a76_23 : Ann := right (right (right (right a76_0)))
noncomputable def f76_L0 (G : GuardT) (lo : Nat) (x6 x7 x14 x15 x16 : DV) (σ : Store) : Option (DV × Store) :=
 codeF G PP (pol 76) CC lo (.loop c76_11) a76_10 [ud, ud, ud, ud, ud, ud, x6, x7, ud, ud, ud, ud, ud, ud, x14, x15, x16, ud, ud, ud, ud, ud, ud, ud, ud, ud, ud, ud, ud, ud, ud, ud] σ
 (blockC 0 a76_9 (seqC G PP (pol 76) CC lo c76_23 a76_23 (finR PP Go.Proofs.Try.f76.results.toList)))
noncomputable def F76 (G : GuardT) (lo : Nat) (x0 x1 : DV) (σ : Store) : Option (DV × Store) :=
 codeF G PP (pol 76) CC lo c76_0 a76_0 [x0, x1, ud, ud, ud, ud, ud, ud, ud, ud, ud, ud, ud, ud, ud, ud, ud, ud, ud, ud, ud, ud, ud, ud, ud, ud, ud, ud, ud, ud, ud, ud] σ (finR PP Go.Proofs.Try.f76.results.toList)
theorem f76_L0_eq (G : GuardT) (hG : GuardOk G) (lo : Nat) (x6 x7 x14 x15 x16 : DV) (σ : Store) : f76_L0 G lo x6 x7 x14 x15 x16 σ =
 (binOp PP .lss 3 x16 x15).bind fun x17 =>
 condK x17
 (
 (indexAddr PP 22 x14 x16).bind fun x18 =>
 (load PP 3 x18 σ).bind fun x19 =>
 (binOp PP .quo 3 x19 (DV.p (PV.int IntKind.i64 (3)))).bind fun x22 =>
 (binOp PP .rem 3 x19 (DV.p (PV.int IntKind.i64 (3)))).bind fun x24 =>
 (build PP 98 [(0, x22), (1, x24)]).bind fun x25 =>
 (buildSlice PP none 31 1 [(0, x25)] σ).bind fun r26_2 =>
 (append PP lo false 31 31 x7 r26_2.1 r26_2.2).bind fun r27_3 =>
 (binOp PP .add 3 x16 (DV.p (PV.int IntKind.i64 (1)))).bind fun x28 =>
 f76_L0 G lo x6 r27_3.1 x14 x15 x28 r27_3.2
 )
 (
 (binOp PP .neq 22 x6 (DV.p PV.nilsl)).bind fun x31 =>
 some ((DV.tuple [x7, x31]), σ)
 ) := (loopF_eq G hG).trans (by kernel_rfl)
theorem F76_eq (G : GuardT) (lo : Nat) (x0 x1 : DV) (σ : Store) : F76 G lo x0 x1 σ =
 (boxV x0).bind fun z2 =>
 (boxV x1).bind fun z3 =>
 (build PP 182 []).bind fun x10 =>
 (buildSlice PP none 183 1 [(0, x10)] ((σ ++ [Row.mix z2]) ++ [Row.mix z3])).bind fun r11_1 =>
 (pureFn CC (DV.fn 113 []) [r11_1.1, (DV.fn 114 [(DV.ptr (List.length σ) 0), (DV.ptr (List.length (σ ++ [Row.mix z2])) 0)])] r11_1.2).bind fun x13 =>
 (len PP 22 x13 r11_1.2).bind fun x15 =>
 f76_L0 G lo x13 (DV.p PV.nilsl) x13 x15 (DV.p (PV.int IntKind.i64 (0))) r11_1.2 := by kernel_rfl
theorem F76_call {lo : Nat} {x0 x1 : DV} {σ : Store} {r : DV × Store} (h : F76 guardT lo x0 x1 σ = some r) : CC lo 76 [x0, x1] σ = some r :=
 callL_run Go.Proofs.Try.func76 (by decide +kernel) rfl (by decide +kernel) h
noncomputable def c77_0 : Code := bodyOf Go.Proofs.Try.f77
noncomputable def a77_0 : Ann := (pol 77).ann
noncomputable def a77_5 : Ann := right (left (right a77_0))
noncomputable def a77_6 : Ann := left a77_5
noncomputable def c77_7 : Code := fstC (fstC (sndC (fstC (sndC c77_0))))
noncomputable def c77_23 : Code := sndC (sndC c77_0)
noncomputable def a77_23 : Ann := right (right a77_0)
noncomputable def f77_L0 (G : GuardT) (lo : Nat) (x0 x1 x5 : DV) (σ : Store) : Option (DV × Store) :=
 codeF G PP (pol 77) CC lo (.loop c77_7) a77_6 [x0, x1, ud, ud, ud, x5, ud, ud, ud, ud, ud, ud, ud, ud, ud, ud, ud, ud, ud] σ
 (blockC 0 a77_5 (seqC G PP (pol 77) CC lo c77_23 a77_23 (finR PP Go.Proofs.Try.f77.results.toList)))
noncomputable def F77 (G : GuardT) (lo : Nat) (x0 x1 : DV) (σ : Store) : Option (DV × Store) :=
 codeF G PP (pol 77) CC lo c77_0 a77_0 [x0, x1, ud, ud, ud, ud, ud, ud, ud, ud, ud, ud, ud, ud, ud, ud, ud, ud, ud] σ (finR PP Go.Proofs.Try.f77.results.toList)
theorem f77_L0_eq (G : GuardT) (hG : GuardOk G) (lo : Nat) (x0 x1 x5 : DV) (σ : Store) : f77_L0 G lo x0 x1 x5 σ =
 (len PP 135 x0 σ).bind fun x8 =>
 (binOp PP .lss 3 x5 x8).bind fun x9 =>
 condK x9
 (
 (indexAddr PP 135 x0 x5).bind fun x14 =>
 (fieldAddr PP 134 x14 1).bind fun x15 =>
 (load PP 22 x15 σ).bind fun x16 =>
 (pureFn CC (DV.fn 61 []) [x16, x1] σ).bind fun x18 =>
 condK x18
 (
 some ((DV.p (PV.bool true)), σ)
 )
 (
 (binOp PP .add 3 x5 (DV.p (PV.int IntKind.i64 (1)))).bind fun x11 =>
 f77_L0 G lo x0 x1 x11 σ
 )
 )
 (
 some ((DV.p (PV.bool false)), σ)
 ) := (loopF_eq G hG).trans (by kernel_rfl)
theorem F77_eq (G : GuardT) (lo : Nat) (x0 x1 : DV) (σ : Store) : F77 G lo x0 x1 σ =
 f77_L0 G lo x0 x1 (DV.p (PV.int IntKind.i64 (0))) σ := by kernel_rfl
theorem F77_call {lo : Nat} {x0 x1 : DV} {σ : Store} {r : DV × Store} (h : F77 guardT lo x0 x1 σ = some r) : CC lo 77 [x0, x1] σ = some r :=
 callL_run Go.Proofs.Try.func77 (by decide +kernel) rfl (by decide +kernel) h
noncomputable def c113_0 : Code := bodyOf Go.Proofs.Try.f113
noncomputable def a113_0 : Ann := (pol 113).ann
noncomputable def a113_7 : Ann := right (left (right (right a113_0)))
noncomputable def a113_8 : Ann := left a113_7
noncomputable def c113_9 : Code := fstC (fstC (sndC (fstC (sndC (sndC c113_0)))))
noncomputable def c113_21 : Code := sndC (sndC (sndC c113_0))
noncomputable def a113_21 : Ann := right (right (right a113_0))
noncomputable def a113_22 : Ann := left a113_21
noncomputable def a113_23 : Ann := left a113_22
noncomputable def c113_24 : Code := fstC (fstC (fstC c113_21))
noncomputable def a113_30 : Ann := right (left a113_23)
noncomputable def a113_37 : Ann := right (right (right (left a113_30)))
noncomputable def a113_38 : Ann := left a113_37
noncomputable def c113_39 : Code := fstC (fstC (sndC (sndC (sndC (fstC (sndC c113_24))))))
noncomputable def c113_59 : Code := sndC c113_21
noncomputable def a113_59 : Ann := right a113_21
noncomputable def f113_L0 (G : GuardT) (lo : Nat) (x1 x5 x15 x16 x17 : DV) (σ : Store) : Option (DV × Store) :=
 codeF G PP (pol 113) CC lo (.loop c113_9) a113_8 [ud, x1, ud, ud, ud, x5, ud, ud, ud, ud, ud, ud, ud, ud, ud, x15, x16, x17, ud, ud, ud, ud, ud, ud, ud, ud, ud, ud, ud, ud, ud, ud, ud, ud, ud, ud, ud, ud, ud, ud, ud, ud, ud, ud, ud, ud, ud, ud, ud, ud, ud, ud, ud, ud, ud] σ
 (blockC 0 a113_7 (seqC G PP (pol 113) CC lo c113_21 a113_21 (finR PP Go.Proofs.Try.f113.results.toList)))
noncomputable def f113_L1 (G : GuardT) (lo : Nat) (x1 x5 : DV) (σ : Store) : Option (DV × Store) :=
 codeF G PP (pol 113) CC lo (.loop c113_24) a113_23 [ud, x1, ud, ud, ud, x5, ud, ud, ud, ud, ud, ud, ud, ud, ud, ud, ud, ud, ud, ud, ud, ud, ud, ud, ud, ud, ud, ud, ud, ud, ud, ud, ud, ud, ud, ud, ud, ud, ud, ud, ud, ud, ud, ud, ud, ud, ud, ud, ud, ud, ud, ud, ud, ud, ud] σ
 (blockC 2 a113_22 (seqC G PP (pol 113) CC lo c113_59 a113_59 (finR PP Go.Proofs.Try.f113.results.toList)))
noncomputable def f113_L2 (G : GuardT) (lo : Nat) (x1 x5 x41 x42 x43 : DV) (σ : Store) : Option (DV × Store) :=
 codeF G PP (pol 113) CC lo (.loop c113_39) a113_38 [ud, x1, ud, ud, ud, x5, ud, ud, ud, ud, ud, ud, ud, ud, ud, ud, ud, ud, ud, ud, ud, ud, ud, ud, ud, ud, ud, ud, ud, ud, ud, ud, ud, ud, ud, ud, ud, ud, ud, ud, ud, x41, x42, x43, ud, ud, ud, ud, ud, ud, ud, ud, ud, ud, ud] σ
 (blockC 4 a113_37 (blockC 3 a113_30 (loopC G PP (pol 113) CC lo c113_24 a113_23 (blockC 2 a113_22 (seqC G PP (pol 113) CC lo c113_59 a113_59 (finR PP Go.Proofs.Try.f113.results.toList))))))
noncomputable def F113 (G : GuardT) (lo : Nat) (x0 x1 : DV) (σ : Store) : Option (DV × Store) :=
 codeF G PP (pol 113) CC lo c113_0 a113_0 [x0, x1, ud, ud, ud, ud, ud, ud, ud, ud, ud, ud, ud, ud, ud, ud, ud, ud, ud, ud, ud, ud, ud, ud, ud, ud, ud, ud, ud, ud, ud, ud, ud, ud, ud, ud, ud, ud, ud, ud, ud, ud, ud, ud, ud, ud, ud, ud, ud, ud, ud, ud, ud, ud, ud] σ (finR PP Go.Proofs.Try.f113.results.toList)
theorem f113_L0_eq (G : GuardT) (hG : GuardOk G) (lo : Nat) (x1 x5 x15 x16 x17 : DV) (σ : Store) : f113_L0 G lo x1 x5 x15 x16 x17 σ =
 (binOp PP .lss 3 x17 x16).bind fun x18 =>
 condK x18
 (
 (indexAddr PP 183 x15 x17).bind fun x19 =>
 (load PP 182 x19 σ).bind fun x20 =>
 (zeroOf PP 182).bind fun z7 =>
 (store PP lo 182 (DV.ptr (List.length σ) 0) x20 (σ ++ [Row.mix z7])).bind fun σ1 =>
 (fieldAddr PP 182 (DV.ptr (List.length σ) 0) 0).bind fun x22 =>
 (load PP 180 x22 σ1).bind fun x23 =>
 (fieldAddr PP 182 (DV.ptr (List.length σ) 0) 1).bind fun x24 =>
 (load PP 22 x24 σ1).bind fun x25 =>
 (plainFn CC lo (DV.fn 115 []) [x5, x23, x25] σ1).bind fun r26_2 =>
 (binOp PP .add 3 x17 (DV.p (PV.int IntKind.i64 (1)))).bind fun x27 =>
 f113_L0 G lo x1 x5 x15 x16 x27 r26_2.2
 )
 (
 f113_L1 G lo x1 x5 σ
 ) := (loopF_eq G hG).trans (by kernel_rfl)
theorem f113_L1_eq (G : GuardT) (hG : GuardOk G) (lo : Nat) (x1 x5 : DV) (σ : Store) : f113_L1 G lo x1 x5 σ =
 (nilCheckV x5).bind fun x29 =>
 (fieldAddr PP 213 x29 1).bind fun x30 =>
 (load PP 183 x30 σ).bind fun x31 =>
 (len PP 183 x31 σ).bind fun x32 =>
 (binOp PP .gtr 3 x32 (DV.p (PV.int IntKind.i64 (0)))).bind fun x33 =>
 condK x33
 (
 (nilCheckV x5).bind fun x35 =>
 (fieldAddr PP 213 x35 1).bind fun x36 =>
 (load PP 183 x36 σ).bind fun x37 =>
 (nilCheckV x5).bind fun x39 =>
 (fieldAddr PP 213 x39 1).bind fun x40 =>
 (store PP lo 183 x40 (DV.p PV.nilsl) σ).bind fun σ3 =>
 (len PP 183 x37 σ3).bind fun x42 =>
 f113_L2 G lo x1 x5 x37 x42 (DV.p (PV.int IntKind.i64 (0))) σ3
 )
 (
 some ((DV.p PV.nilsl), σ)
 ) := (loopF_eq G hG).trans (by kernel_rfl)
theorem f113_L2_eq (G : GuardT) (hG : GuardOk G) (lo : Nat) (x1 x5 x41 x42 x43 : DV) (σ : Store) : f113_L2 G lo x1 x5 x41 x42 x43 σ =
 (binOp PP .lss 3 x43 x42).bind fun x44 =>
 condK x44
 (
 (indexAddr PP 183 x41 x43).bind fun x45 =>
 (load PP 182 x45 σ).bind fun x46 =>
 (zeroOf PP 182).bind fun z10 =>
 (store PP lo 182 (DV.ptr (List.length σ) 0) x46 (σ ++ [Row.mix z10])).bind fun σ4 =>
 (load PP 182 (DV.ptr (List.length σ) 0) σ4).bind fun x49 =>
 (plainFn CC lo x1 [x5, x49] σ4).bind fun r50_5 =>
 (binOp PP .neq 22 r50_5.1 (DV.p PV.nilsl)).bind fun x52 =>
 condK x52
 (
 some (r50_5.1, r50_5.2)
 )
 (
 (binOp PP .add 3 x43 (DV.p (PV.int IntKind.i64 (1)))).bind fun x54 =>
 f113_L2 G lo x1 x5 x41 x42 x54 r50_5.2
 )
 )
 (
 f113_L1 G lo x1 x5 σ
 ) := (loopF_eq G hG).trans (by kernel_rfl)
theorem F113_eq (G : GuardT) (lo : Nat) (x0 x1 : DV) (σ : Store) : F113 G lo x0 x1 σ =
 (build PP 213 [(0, (DV.map (List.length σ)))]).bind fun x13 =>
 (boxV x13).bind fun z14 =>
 (len PP 183 x0 ((σ ++ [Row.map []]) ++ [Row.mix z14])).bind fun x16 =>
 f113_L0 G lo x1 (DV.ptr (List.length (σ ++ [Row.map []])) 0) x0 x16 (DV.p (PV.int IntKind.i64 (0))) ((σ ++ [Row.map []]) ++ [Row.mix z14]) := by kernel_rfl
theorem F113_call {lo : Nat} {x0 x1 : DV} {σ : Store} {r : DV × Store} (h : F113 guardT lo x0 x1 σ = some r) : CC lo 113 [x0, x1] σ = some r :=
 callL_run Go.Proofs.Try.func113 (by decide +kernel) rfl (by decide +kernel) h
noncomputable def c114_0 : Code := bodyOf Go.Proofs.Try.f114
noncomputable def a114_0 : Ann := (pol 114).ann
noncomputable def a114_5 : Ann := right (left (right a114_0))
noncomputable def a114_6 : Ann := left a114_5
noncomputable def c114_7 : Code := fstC (fstC (sndC (fstC (sndC c114_0))))
noncomputable def a114_14 : Ann := left (right (right (left a114_6)))
noncomputable def a114_24 : Ann := right (left (right (right (right (left a114_14)))))
noncomputable def a114_25 : Ann := left a114_24
noncomputable def c114_26 : Code := fstC (fstC (sndC (fstC (sndC (sndC (sndC (fstC (fstC (sndC (sndC c114_7))))))))))
noncomputable def c114_40 : Code := sndC (sndC (sndC (sndC (fstC (fstC (sndC (sndC c114_7)))))))
noncomputable def a114_40 : Ann := right (right (right (right (left a114_14))))
noncomputable def c114_59 : Code := sndC (sndC (sndC c114_7))
noncomputable def a114_59 : Ann := right (right (right (left a114_6)))
noncomputable def c114_60 : Code := sndC (sndC c114_0)
noncomputable def a114_60 : Ann := right (right a114_0)
noncomputable def f114_L0 (G : GuardT) (lo : Nat) (x0 x2 x3 x5 x14 : DV) (σ : Store) : Option (DV × Store) :=
 codeF G PP (pol 114) CC lo (.loop c114_7) a114_6 [x0, ud, x2, x3, ud, x5, ud, ud, ud, ud, ud, ud, ud, ud, x14, ud, ud, ud, ud, ud, ud, ud, ud, ud, ud, ud, ud, ud, ud, ud, ud, ud, ud, ud, ud, ud, ud, ud, ud, ud, ud, ud, ud, ud, ud, ud, ud, ud, ud, ud, ud, ud, ud, ud, ud, ud, ud, ud, ud, ud, ud, ud, ud, ud, ud, ud, ud, ud, ud, ud, ud, ud, ud, ud, ud] σ
 (blockC 0 a114_5 (seqC G PP (pol 114) CC lo c114_60 a114_60 (finR PP Go.Proofs.Try.f114.results.toList)))
noncomputable def f114_L1 (G : GuardT) (lo : Nat) (x0 x2 x3 x5 x7 x8 x9 x10 x14 x24 x25 x26 : DV) (σ : Store) : Option (DV × Store) :=
 codeF G PP (pol 114) CC lo (.loop c114_26) a114_25 [x0, ud, x2, x3, ud, x5, ud, x7, x8, x9, x10, ud, ud, ud, x14, ud, ud, ud, ud, ud, ud, ud, ud, ud, x24, x25, x26, ud, ud, ud, ud, ud, ud, ud, ud, ud, ud, ud, ud, ud, ud, ud, ud, ud, ud, ud, ud, ud, ud, ud, ud, ud, ud, ud, ud, ud, ud, ud, ud, ud, ud, ud, ud, ud, ud, ud, ud, ud, ud, ud, ud, ud, ud, ud, ud] σ
 (blockC 2 a114_24 (seqC G PP (pol 114) CC lo c114_40 a114_40 (blockC 1 a114_14 (seqC G PP (pol 114) CC lo c114_59 a114_59 (loopC G PP (pol 114) CC lo c114_7 a114_6 (blockC 0 a114_5 (seqC G PP (pol 114) CC lo c114_60 a114_60 (finR PP Go.Proofs.Try.f114.results.toList))))))))
def f114_J0_fr (x0 x2 x3 x5 x14 : DV) : Frame := [x0, ud, x2, x3, ud, x5, ud, ud, ud, ud, ud, ud, ud, ud, x14, ud, ud, ud, ud, ud, ud, ud, ud, ud, ud, ud, ud, ud, ud, ud, ud, ud, ud, ud, ud, ud, ud, ud, ud, ud, ud, ud, ud, ud, ud, ud, ud, ud, ud, ud, ud, ud, ud, ud, ud, ud, ud, ud, ud, ud, ud, ud, ud, ud, ud, ud, ud, ud, ud, ud, ud, ud, ud, ud, ud]
noncomputable def f114_J0 (G : GuardT) (lo : Nat) (x0 x2 x3 x5 x14 : DV) (σ : Store) : Option (DV × Store) :=
 (seqC G PP (pol 114) CC lo c114_59 a114_59 (loopC G PP (pol 114) CC lo c114_7 a114_6 (blockC 0 a114_5 (seqC G PP (pol 114) CC lo c114_60 a114_60 (finR PP Go.Proofs.Try.f114.results.toList))))) .normal (f114_J0_fr x0 x2 x3 x5 x14) σ
noncomputable def F114 (G : GuardT) (lo : Nat) (x0 x1 x2 x3 : DV) (σ : Store) : Option (DV × Store) :=
 codeF G PP (pol 114) CC lo c114_0 a114_0 [x0, x1, x2, x3, ud, ud, ud, ud, ud, ud, ud, ud, ud, ud, ud, ud, ud, ud, ud, ud, ud, ud, ud, ud, ud, ud, ud, ud, ud, ud, ud, ud, ud, ud, ud, ud, ud, ud, ud, ud, ud, ud, ud, ud, ud, ud, ud, ud, ud, ud, ud, ud, ud, ud, ud, ud, ud, ud, ud, ud, ud, ud, ud, ud, ud, ud, ud, ud, ud, ud, ud, ud, ud, ud, ud] σ (finR PP Go.Proofs.Try.f114.results.toList)
theorem f114_L0_eq (G : GuardT) (hG : GuardOk G) (lo : Nat) (x0 x2 x3 x5 x14 : DV) (σ : Store) : f114_L0 G lo x0 x2 x3 x5 x14 σ =
 (binOp PP .lss 3 x14 (DV.p (PV.int IntKind.i64 (9)))).bind fun x15 =>
 condK x15
 (
 (binOp PP .quo 3 x14 (DV.p (PV.int IntKind.i64 (3)))).bind fun x18 =>
 (binOp PP .rem 3 x14 (DV.p (PV.int IntKind.i64 (3)))).bind fun x20 =>
 (build PP 98 [(0, x18), (1, x20)]).bind fun x21 =>
 (zeroOf PP 98).bind fun z8 =>
 (store PP lo 98 (DV.ptr (List.length σ) 0) x21 (σ ++ [Row.mix z8])).bind fun σ1 =>
 (fieldAddr PP 182 x5 0).bind fun x22 =>
 (load PP 180 x22 σ1).bind fun x23 =>
 (zeroOf PP 180).bind fun z9 =>
 (store PP lo 180 (DV.ptr (List.length σ1) 0) x23 (σ1 ++ [Row.mix z9])).bind fun σ2 =>
 (load PP 56 x2 σ2).bind fun x24 =>
 (len PP 56 x24 σ2).bind fun x25 =>
 f114_L1 G lo x0 x2 x3 x5 x14 (DV.ptr (List.length σ) 0) (DV.ptr (List.length σ1) 0) (DV.p (PV.bool true)) x14 x24 x25 (DV.p (PV.int IntKind.i64 (0))) σ2
 )
 (
 some ((DV.p PV.nilsl), σ)
 ) := (loopF_eq G hG).trans (by kernel_rfl)
theorem f114_L1_gen (G : GuardT) (hG : GuardOk G) (lo : Nat) (N0 : Frame → Store → Option (DV × Store)) (x0 x2 x3 x5 x7 x8 x9 x10 x14 x24 x25 x26 : DV) (σ : Store) : codeF G PP (pol 114) CC lo (.loop c114_26) a114_25 [x0, ud, x2, x3, ud, x5, ud, x7, x8, x9, x10, ud, ud, ud, x14, ud, ud, ud, ud, ud, ud, ud, ud, ud, x24, x25, x26, ud, ud, ud, ud, ud, ud, ud, ud, ud, ud, ud, ud, ud, ud, ud, ud, ud, ud, ud, ud, ud, ud, ud, ud, ud, ud, ud, ud, ud, ud, ud, ud, ud, ud, ud, ud, ud, ud, ud, ud, ud, ud, ud, ud, ud, ud, ud, ud] σ
 (blockC 2 a114_24 (seqC G PP (pol 114) CC lo c114_40 a114_40 (blockC 1 a114_14 (splitC N0 (seqC G PP (pol 114) CC lo c114_59 a114_59 (loopC G PP (pol 114) CC lo c114_7 a114_6 (blockC 0 a114_5 (seqC G PP (pol 114) CC lo c114_60 a114_60 (finR PP Go.Proofs.Try.f114.results.toList))))))))) =
 (binOp PP .lss 3 x26 x25).bind fun x27 =>
 condK x27
 (
 (indexAddr PP 56 x24 x26).bind fun x29 =>
 (load PP 27 x29 σ).bind fun x30 =>
 (fieldAddr PP 182 x5 0).bind fun x34 =>
 (fieldAddr PP 180 x34 0).bind fun x35 =>
 (indexAddr PP 178 x35 x26).bind fun x36 =>
 (load PP 3 x36 σ).bind fun x37 =>
 (load PP 98 x8 σ).bind fun x38 =>
 (pureFn CC (DV.fn 94 []) [x30, x37, x38] σ).bind fun x39 =>
 (fieldAddr PP 180 x9 0).bind fun x40 =>
 (indexAddr PP 178 x40 x26).bind fun x41 =>
 (store PP lo 3 x41 x39 σ).bind fun σ3 =>
 G _ x10 true (some (x26, σ3)) σ3 fun x44 σ4 =>
 G _ x10 true ((fieldAddr PP 180 x9 0).bind fun v => some (v, σ4)) σ4 fun x45 σ5 =>
 G _ x10 true ((indexAddr PP 178 x45 x44).bind fun v => some (v, σ5)) σ5 fun x46 σ6 =>
 G _ x10 true ((load PP 3 x46 σ6).bind fun v => some (v, σ6)) σ6 fun x47 σ7 =>
 G _ x10 true ((binOp PP .neq 3 x47 (DV.p (PV.int IntKind.i64 (-1)))).bind fun v => some (v, σ7)) σ7 fun x48 σ8 =>
 (pickV x10 x48 (DV.p (PV.bool false))).bind fun x49 =>
 (binOp PP .add 3 x26 (DV.p (PV.int IntKind.i64 (1)))).bind fun x50 =>
 codeF G PP (pol 114) CC lo (.loop c114_26) a114_25 [x0, ud, x2, x3, ud, x5, ud, x7, x8, x9, x49, ud, ud, ud, x14, ud, ud, ud, ud, ud, ud, ud, ud, ud, x24, x25, x50, ud, ud, ud, ud, ud, ud, ud, ud, ud, ud, ud, ud, ud, ud, ud, ud, ud, ud, ud, ud, ud, ud, ud, ud, ud, ud, ud, ud, ud, ud, ud, ud, ud, ud, ud, ud, ud, ud, ud, ud, ud, ud, ud, ud, ud, ud, ud, ud] σ8 (blockC 2 a114_24 (seqC G PP (pol 114) CC lo c114_40 a114_40 (blockC 1 a114_14 (splitC N0 (seqC G PP (pol 114) CC lo c114_59 a114_59 (loopC G PP (pol 114) CC lo c114_7 a114_6 (blockC 0 a114_5 (seqC G PP (pol 114) CC lo c114_60 a114_60 (finR PP Go.Proofs.Try.f114.results.toList)))))))))
 )
 (
 (unOp .not x10).bind fun x52 =>
 condK x52
 (
 N0 (f114_J0_fr x0 x2 x3 x5 x14) σ
 )
 (
 (fieldAddr PP 182 x5 1).bind fun x53 =>
 (load PP 22 x53 σ).bind fun x54 =>
 (plainFn CC lo (DV.fn 99 []) [x54] σ).bind fun r55_9 =>
 (buildSlice PP none 22 1 [(0, x7)] r55_9.2).bind fun r57_10 =>
 (append PP lo false 22 22 r55_9.1 r57_10.1 r57_10.2).bind fun r58_11 =>
 (load PP 27 x3 r58_11.2).bind fun x59 =>
 (fieldAddr PP 182 x5 0).bind fun x60 =>
 (fieldAddr PP 180 x60 1).bind fun x61 =>
 (load PP 3 x61 r58_11.2).bind fun x62 =>
 (load PP 98 x8 r58_11.2).bind fun x63 =>
 (pureFn CC (DV.fn 94 []) [x59, x62, x63] r58_11.2).bind fun x64 =>
 (fieldAddr PP 180 x9 1).bind fun x65 =>
 (store PP lo 3 x65 x64 r58_11.2).bind fun σ12 =>
 (fieldAddr PP 180 x9 1).bind fun x66 =>
 (load PP 3 x66 σ12).bind fun x67 =>
 (binOp PP .eql 3 x67 (DV.p (PV.int IntKind.i64 (-1)))).bind fun x68 =>
 condK x68
 (
 some (r58_11.1, σ12)
 )
 (
 (load PP 180 x9 σ12).bind fun x71 =>
 (plainFn CC lo (DV.fn 115 []) [x0, x71, r58_11.1] σ12).bind fun r73_13 =>
 N0 (f114_J0_fr x0 x2 x3 x5 x14) r73_13.2
 )
 )
 ) := (loopF_eq G hG).trans (by kernel_rfl)
theorem f114_L1_eq (G : GuardT) (hG : GuardOk G) (lo : Nat) (x0 x2 x3 x5 x7 x8 x9 x10 x14 x24 x25 x26 : DV) (σ : Store) : f114_L1 G lo x0 x2 x3 x5 x7 x8 x9 x10 x14 x24 x25 x26 σ =
 (binOp PP .lss 3 x26 x25).bind fun x27 =>
 condK x27
 (
 (indexAddr PP 56 x24 x26).bind fun x29 =>
 (load PP 27 x29 σ).bind fun x30 =>
 (fieldAddr PP 182 x5 0).bind fun x34 =>
 (fieldAddr PP 180 x34 0).bind fun x35 =>
 (indexAddr PP 178 x35 x26).bind fun x36 =>
 (load PP 3 x36 σ).bind fun x37 =>
 (load PP 98 x8 σ).bind fun x38 =>
 (pureFn CC (DV.fn 94 []) [x30, x37, x38] σ).bind fun x39 =>
 (fieldAddr PP 180 x9 0).bind fun x40 =>
 (indexAddr PP 178 x40 x26).bind fun x41 =>
 (store PP lo 3 x41 x39 σ).bind fun σ3 =>
 G _ x10 true (some (x26, σ3)) σ3 fun x44 σ4 =>
 G _ x10 true ((fieldAddr PP 180 x9 0).bind fun v => some (v, σ4)) σ4 fun x45 σ5 =>
 G _ x10 true ((indexAddr PP 178 x45 x44).bind fun v => some (v, σ5)) σ5 fun x46 σ6 =>
 G _ x10 true ((load PP 3 x46 σ6).bind fun v => some (v, σ6)) σ6 fun x47 σ7 =>
 G _ x10 true ((binOp PP .neq 3 x47 (DV.p (PV.int IntKind.i64 (-1)))).bind fun v => some (v, σ7)) σ7 fun x48 σ8 =>
 (pickV x10 x48 (DV.p (PV.bool false))).bind fun x49 =>
 (binOp PP .add 3 x26 (DV.p (PV.int IntKind.i64 (1)))).bind fun x50 =>
 f114_L1 G lo x0 x2 x3 x5 x7 x8 x9 x49 x14 x24 x25 x50 σ8
 )
 (
 (unOp .not x10).bind fun x52 =>
 condK x52
 (
 f114_J0 G lo x0 x2 x3 x5 x14 σ
 )
 (
 (fieldAddr PP 182 x5 1).bind fun x53 =>
 (load PP 22 x53 σ).bind fun x54 =>
 (plainFn CC lo (DV.fn 99 []) [x54] σ).bind fun r55_9 =>
 (buildSlice PP none 22 1 [(0, x7)] r55_9.2).bind fun r57_10 =>
 (append PP lo false 22 22 r55_9.1 r57_10.1 r57_10.2).bind fun r58_11 =>
 (load PP 27 x3 r58_11.2).bind fun x59 =>
 (fieldAddr PP 182 x5 0).bind fun x60 =>
 (fieldAddr PP 180 x60 1).bind fun x61 =>
 (load PP 3 x61 r58_11.2).bind fun x62 =>
 (load PP 98 x8 r58_11.2).bind fun x63 =>
 (pureFn CC (DV.fn 94 []) [x59, x62, x63] r58_11.2).bind fun x64 =>
 (fieldAddr PP 180 x9 1).bind fun x65 =>
 (store PP lo 3 x65 x64 r58_11.2).bind fun σ12 =>
 (fieldAddr PP 180 x9 1).bind fun x66 =>
 (load PP 3 x66 σ12).bind fun x67 =>
 (binOp PP .eql 3 x67 (DV.p (PV.int IntKind.i64 (-1)))).bind fun x68 =>
 condK x68
 (
 some (r58_11.1, σ12)
 )
 (
 (load PP 180 x9 σ12).bind fun x71 =>
 (plainFn CC lo (DV.fn 115 []) [x0, x71, r58_11.1] σ12).bind fun r73_13 =>
 f114_J0 G lo x0 x2 x3 x5 x14 r73_13.2
 )
 )
 ) := by
 have h := f114_L1_gen (N0 := (seqC G PP (pol 114) CC lo c114_59 a114_59 (loopC G PP (pol 114) CC lo c114_7 a114_6 (blockC 0 a114_5 (seqC G PP (pol 114) CC lo c114_60 a114_60 (finR PP Go.Proofs.Try.f114.results.toList))))) .normal) G hG lo x0 x2 x3 x5 x7 x8 x9 x10 x14 x24 x25 x26 σ
 simp only [splitC_eta] at h
 exact h
theorem f114_J0_eq (G : GuardT) (lo : Nat) (x0 x2 x3 x5 x14 : DV) (σ : Store) : f114_J0 G lo x0 x2 x3 x5 x14 σ =
 (binOp PP .add 3 x14 (DV.p (PV.int IntKind.i64 (1)))).bind fun x74 =>
 f114_L0 G lo x0 x2 x3 x5 x74 σ := by kernel_rfl
theorem F114_eq (G : GuardT) (lo : Nat) (x0 x1 x2 x3 : DV) (σ : Store) : F114 G lo x0 x1 x2 x3 σ =
 (boxV x1).bind fun z5 =>
 f114_L0 G lo x0 x2 x3 (DV.ptr (List.length σ) 0) (DV.p (PV.int IntKind.i64 (0))) (σ ++ [Row.mix z5]) := by kernel_rfl
theorem F114_call {lo : Nat} {x0 x1 x2 x3 : DV} {σ : Store} {r : DV × Store} (h : F114 guardT lo x0 x1 x2 x3 σ = some r) : CC lo 114 [x0, x1, x2, x3] σ = some r :=
 callL_run Go.Proofs.Try.func114 (by decide +kernel) rfl (by decide +kernel) h
noncomputable def c115_0 : Code := bodyOf Go.Proofs.Try.f115
noncomputable def a115_0 : Ann := (pol 115).ann
noncomputable def F115 (G : GuardT) (lo : Nat) (x0 x1 x2 : DV) (σ : Store) : Option (DV × Store) :=
 codeF G PP (pol 115) CC lo c115_0 a115_0 [x0, x1, x2, ud, ud, ud, ud, ud, ud, ud, ud, ud, ud, ud, ud, ud, ud, ud, ud, ud, ud, ud, ud, ud, ud, ud, ud, ud, ud, ud] σ (finR PP Go.Proofs.Try.f115.results.toList)
theorem F115_eq (G : GuardT) (lo : Nat) (x0 x1 x2 : DV) (σ : Store) : F115 G lo x0 x1 x2 σ =
 (boxV x1).bind fun z4 =>
 (nilCheckV x0).bind fun x7 =>
 (fieldAddr PP 213 x7 0).bind fun x8 =>
 (load PP 211 x8 (σ ++ [Row.mix z4])).bind fun x9 =>
 (load PP 180 (DV.ptr (List.length σ) 0) (σ ++ [Row.mix z4])).bind fun x10 =>
 (lookup PP 211 x9 x10 false (σ ++ [Row.mix z4])).bind fun x11 =>
 (unOp .not x11).bind fun x12 =>
 condK x12
 (
 (nilCheckV x0).bind fun x14 =>
 (fieldAddr PP 213 x14 0).bind fun x15 =>
 (load PP 211 x15 (σ ++ [Row.mix z4])).bind fun x16 =>
 (load PP 180 (DV.ptr (List.length σ) 0) (σ ++ [Row.mix z4])).bind fun x17 =>
 (mapUpdate PP lo 211 x16 x17 (DV.p (PV.bool true)) (σ ++ [Row.mix z4])).bind fun σ1 =>
 (nilCheckV x0).bind fun x20 =>
 (fieldAddr PP 213 x20 1).bind fun x21 =>
 (load PP 183 x21 σ1).bind fun x22 =>
 (load PP 180 (DV.ptr (List.length σ) 0) σ1).bind fun x23 =>
 (build PP 182 [(0, x23), (1, x2)]).bind fun x25 =>
 (buildSlice PP none 183 1 [(0, x25)] σ1).bind fun r26_2 =>
 (append PP lo false 183 183 x22 r26_2.1 r26_2.2).bind fun r27_3 =>
 (nilCheckV x0).bind fun x28 =>
 (fieldAddr PP 213 x28 1).bind fun x29 =>
 (store PP lo 183 x29 r27_3.1 r27_3.2).bind fun σ4 =>
 some ((DV.tuple []), σ4)
 )
 (
 some ((DV.tuple []), (σ ++ [Row.mix z4]))
 ) := by kernel_rfl
theorem F115_call {lo : Nat} {x0 x1 x2 : DV} {σ : Store} {r : DV × Store} (h : F115 guardT lo x0 x1 x2 σ = some r) : CC lo 115 [x0, x1, x2] σ = some r :=
 callL_run Go.Proofs.Try.func115 (by decide +kernel) rfl (by decide +kernel) h
noncomputable def c5_0 : Code := bodyOf Go.Proofs.Try.f5
noncomputable def a5_0 : Ann := (pol 5).ann
noncomputable def c5_26 : Code := sndC (sndC (sndC (sndC (sndC c5_0))))
noncomputable def a5_26 : Ann := right (right (right (right (right a5_0))))
noncomputable def a5_29 : Ann := right (left a5_26)
noncomputable def a5_30 : Ann := left a5_29
noncomputable def c5_31 : Code := fstC (fstC (sndC (fstC c5_26)))
noncomputable def a5_38 : Ann := left (right (left a5_30))
noncomputable def c5_52 : Code := sndC (sndC c5_31)
noncomputable def a5_52 : Ann := right (right (left a5_30))
noncomputable def c5_53 : Code := sndC c5_26
noncomputable def a5_53 : Ann := right a5_26
noncomputable def c5_59 : Code := sndC c5_53
noncomputable def a5_59 : Ann := right a5_53
def f5_J0_fr (x0 x1 x4 x5 x11 x12 x13 x14 x15 x16 x17 x18 x19 x20 x21 x22 x23 : DV) : Frame := [x0, x1, ud, ud, x4, x5, ud, ud, ud, ud, ud, x11, x12, x13, x14, x15, x16, x17, x18, x19, x20, x21, x22, x23, ud, ud, ud, ud, ud, ud, ud, ud, ud, ud, ud, ud, ud, ud, ud, ud, ud, ud, ud, ud, ud, ud, ud, ud, ud, ud, ud, ud, ud, ud, ud, ud, ud, ud, ud, ud, ud, ud, ud, ud, ud, ud, ud, ud, ud, ud, ud, ud, ud, ud, ud, ud, ud, ud, ud, ud, ud, ud, ud, ud, ud, ud, ud]
noncomputable def f5_J0 (G : GuardT) (lo : Nat) (x0 x1 x4 x5 x11 x12 x13 x14 x15 x16 x17 x18 x19 x20 x21 x22 x23 : DV) (σ : Store) : Option (DV × Store) :=
 (seqC G PP (pol 5) CC lo c5_26 a5_26 (finR PP Go.Proofs.Try.f5.results.toList)) .normal (f5_J0_fr x0 x1 x4 x5 x11 x12 x13 x14 x15 x16 x17 x18 x19 x20 x21 x22 x23) σ
noncomputable def f5_L0 (G : GuardT) (lo : Nat) (x0 x1 x5 x6 : DV) (σ : Store) : Option (DV × Store) :=
 codeF G PP (pol 5) CC lo (.loop c5_31) a5_30 [x0, x1, ud, ud, ud, x5, x6, ud, ud, ud, ud, ud, ud, ud, ud, ud, ud, ud, ud, ud, ud, ud, ud, ud, ud, ud, ud, ud, ud, ud, ud, ud, ud, ud, ud, ud, ud, ud, ud, ud, ud, ud, ud, ud, ud, ud, ud, ud, ud, ud, ud, ud, ud, ud, ud, ud, ud, ud, ud, ud, ud, ud, ud, ud, ud, ud, ud, ud, ud, ud, ud, ud, ud, ud, ud, ud, ud, ud, ud, ud, ud, ud, ud, ud, ud, ud, ud] σ
 (blockC 0 a5_29 (seqC G PP (pol 5) CC lo c5_53 a5_53 (finR PP Go.Proofs.Try.f5.results.toList)))
def f5_J1_fr (x0 x1 x5 x6 x24 x25 x26 x27 x30 x31 x32 x33 x34 x35 x36 x37 x38 x39 x40 x41 x42 : DV) : Frame := [x0, x1, ud, ud, ud, x5, x6, ud, ud, ud, ud, ud, ud, ud, ud, ud, ud, ud, ud, ud, ud, ud, ud, ud, x24, x25, x26, x27, ud, ud, x30, x31, x32, x33, x34, x35, x36, x37, x38, x39, x40, x41, x42, ud, ud, ud, ud, ud, ud, ud, ud, ud, ud, ud, ud, ud, ud, ud, ud, ud, ud, ud, ud, ud, ud, ud, ud, ud, ud, ud, ud, ud, ud, ud, ud, ud, ud, ud, ud, ud, ud, ud, ud, ud, ud, ud, ud]
noncomputable def f5_J1 (G : GuardT) (lo : Nat) (x0 x1 x5 x6 x24 x25 x26 x27 x30 x31 x32 x33 x34 x35 x36 x37 x38 x39 x40 x41 x42 : DV) (σ : Store) : Option (DV × Store) :=
 (blockC 1 a5_38 (seqC G PP (pol 5) CC lo c5_52 a5_52 (loopC G PP (pol 5) CC lo c5_31 a5_30 (blockC 0 a5_29 (seqC G PP (pol 5) CC lo c5_53 a5_53 (finR PP Go.Proofs.Try.f5.results.toList)))))) .normal (f5_J1_fr x0 x1 x5 x6 x24 x25 x26 x27 x30 x31 x32 x33 x34 x35 x36 x37 x38 x39 x40 x41 x42) σ
def f5_J2_fr (x0 x1 x5 x43 x44 x45 x46 : DV) : Frame := [x0, x1, ud, ud, ud, x5, ud, ud, ud, ud, ud, ud, ud, ud, ud, ud, ud, ud, ud, ud, ud, ud, ud, ud, ud, ud, ud, ud, ud, ud, ud, ud, ud, ud, ud, ud, ud, ud, ud, ud, ud, ud, ud, x43, x44, x45, x46, ud, ud, ud, ud, ud, ud, ud, ud, ud, ud, ud, ud, ud, ud, ud, ud, ud, ud, ud, ud, ud, ud, ud, ud, ud, ud, ud, ud, ud, ud, ud, ud, ud, ud, ud, ud, ud, ud, ud, ud]
noncomputable def f5_J2 (G : GuardT) (lo : Nat) (x0 x1 x5 x43 x44 x45 x46 : DV) (σ : Store) : Option (DV × Store) :=
 (seqC G PP (pol 5) CC lo c5_59 a5_59 (finR PP Go.Proofs.Try.f5.results.toList)) .normal (f5_J2_fr x0 x1 x5 x43 x44 x45 x46) σ
noncomputable def F5 (G : GuardT) (lo : Nat) (x0 x1 : DV) (σ : Store) : Option (DV × Store) :=
 codeF G PP (pol 5) CC lo c5_0 a5_0 [x0, x1, ud, ud, ud, ud, ud, ud, ud, ud, ud, ud, ud, ud, ud, ud, ud, ud, ud, ud, ud, ud, ud, ud, ud, ud, ud, ud, ud, ud, ud, ud, ud, ud, ud, ud, ud, ud, ud, ud, ud, ud, ud, ud, ud, ud, ud, ud, ud, ud, ud, ud, ud, ud, ud, ud, ud, ud, ud, ud, ud, ud, ud, ud, ud, ud, ud, ud, ud, ud, ud, ud, ud, ud, ud, ud, ud, ud, ud, ud, ud, ud, ud, ud, ud, ud, ud] σ (finR PP Go.Proofs.Try.f5.results.toList)
theorem f5_J0_eq (G : GuardT) (lo : Nat) (x0 x1 x4 x5 x11 x12 x13 x14 x15 x16 x17 x18 x19 x20 x21 x22 x23 : DV) (σ : Store) : f5_J0 G lo x0 x1 x4 x5 x11 x12 x13 x14 x15 x16 x17 x18 x19 x20 x21 x22 x23 σ =
 f5_L0 G lo x0 x1 x5 (DV.p (PV.int IntKind.i64 (0))) σ := by kernel_rfl
theorem f5_L0_eq (G : GuardT) (hG : GuardOk G) (lo : Nat) (x0 x1 x5 x6 : DV) (σ : Store) : f5_L0 G lo x0 x1 x5 x6 σ =
 (len PP 56 x0 σ).bind fun x26 =>
 (binOp PP .lss 3 x6 x26).bind fun x27 =>
 condK x27
 (
 (indexAddr PP 56 x0 x6).bind fun x32 =>
 (load PP 27 x32 σ).bind fun x33 =>
 (pureFn CC (DV.fn 12 []) [x33] σ).bind fun x34 =>
 (unOp .not x34).bind fun x35 =>
 condK x35
 (
 some ((DV.p (PV.bool true)), σ)
 )
 (
 (binOp PP .eql 3 x5 (DV.p (PV.int IntKind.i64 (0)))).bind fun x37 =>
 condK x37
 (
 (indexAddr PP 56 x0 x6).bind fun x40 =>
 (load PP 27 x40 σ).bind fun x41 =>
 (pureFn CC (DV.fn 17 []) [x41] σ).bind fun x42 =>
 f5_J1 G lo x0 x1 x42 x6 x6 x0 x26 x27 x0 x6 x32 x33 x34 x35 x5 x37 x0 x6 x40 x41 x42 σ
 )
 (
 f5_J1 G lo x0 x1 x5 x6 x6 x0 x26 x27 x0 x6 x32 x33 x34 x35 x5 x37 ud ud ud ud ud σ
 )
 )
 )
 (
 (binOp PP .eql 3 x5 (DV.p (PV.int IntKind.i64 (0)))).bind fun x44 =>
 condK x44
 (
 (pureFn CC (DV.fn 17 []) [x1] σ).bind fun x46 =>
 f5_J2 G lo x0 x1 x46 x5 x44 x1 x46 σ
 )
 (
 f5_J2 G lo x0 x1 x5 x5 x44 ud ud σ
 )
 ) := (loopF_eq G hG).trans (by kernel_rfl)
theorem f5_J1_eq (G : GuardT) (lo : Nat) (x0 x1 x5 x6 x24 x25 x26 x27 x30 x31 x32 x33 x34 x35 x36 x37 x38 x39 x40 x41 x42 : DV) (σ : Store) : f5_J1 G lo x0 x1 x5 x6 x24 x25 x26 x27 x30 x31 x32 x33 x34 x35 x36 x37 x38 x39 x40 x41 x42 σ =
 (binOp PP .add 3 x6 (DV.p (PV.int IntKind.i64 (1)))).bind fun x29 =>
 f5_L0 G lo x0 x1 x5 x29 σ := by kernel_rfl
theorem f5_J2_eq (G : GuardT) (lo : Nat) (x0 x1 x5 x43 x44 x45 x46 : DV) (σ : Store) : f5_J2 G lo x0 x1 x5 x43 x44 x45 x46 σ =
 (pureFn CC (DV.fn 25 []) [x0] σ).bind fun x49 =>
 (pureFn CC (DV.fn 15 []) [x1] σ).bind fun x51 =>
 (pureFn CC (DV.fn 24 []) [x49, x51] σ).bind fun x52 =>
 (extractV x52 0).bind fun x53 =>
 (extractV x52 1).bind fun x54 =>
 (binOp PP .neq 3 x5 (DV.p (PV.int IntKind.i64 (0)))).bind fun x56 =>
 condK x56
 (
 (binOp PP .eql 3 x54 x5).bind fun x59 =>
 G _ x59 true (some (x53, σ)) σ fun x61 σ4 =>
 G _ x59 true ((len PP 31 x61 σ4).bind fun v => some (v, σ4)) σ4 fun x62 σ5 =>
 G _ x59 true ((binOp PP .eql 3 x62 (DV.p (PV.int IntKind.i64 (0)))).bind fun v => some (v, σ5)) σ5 fun x63 σ6 =>
 (pickV x59 x63 (DV.p (PV.bool false))).bind fun x64 =>
 some (x64, σ6)
 )
 (
 (pureFn CC (DV.fn 26 []) [x0, x1] σ).bind fun x68 =>
 (extractV x68 0).bind fun x69 =>
 (extractV x68 1).bind fun x70 =>
 (unOp .not x70).bind fun x72 =>
 condK x72
 (
 (binOp PP .eql 34 x54 (DV.p (PV.int IntKind.i64 (25)))).bind fun x74 =>
 G _ x74 true (some (x53, σ)) σ fun x76 σ7 =>
 G _ x74 true ((len PP 31 x76 σ7).bind fun v => some (v, σ7)) σ7 fun x77 σ8 =>
 G _ x74 true ((binOp PP .eql 3 x77 (DV.p (PV.int IntKind.i64 (0)))).bind fun v => some (v, σ8)) σ8 fun x78 σ9 =>
 (pickV x74 x78 (DV.p (PV.bool false))).bind fun x79 =>
 some (x79, σ9)
 )
 (
 (binOp PP .eql 34 x54 (DV.p (PV.int IntKind.i64 (0)))).bind fun x81 =>
 G _ x81 true (some (x53, σ)) σ fun x83 σ10 =>
 G _ x81 true (some (x69, σ10)) σ10 fun x84 σ11 =>
 G _ x81 true ((pureFn CC (DV.fn 27 []) [x83, x84] σ11).bind fun v => some (v, σ11)) σ11 fun x85 σ12 =>
 (pickV x81 x85 (DV.p (PV.bool false))).bind fun x86 =>
 some (x86, σ12)
 )
 ) := by kernel_rfl
theorem F5_eq (G : GuardT) (lo : Nat) (x0 x1 : DV) (σ : Store) : F5 G lo x0 x1 σ =
 (pureFn CC (DV.fn 10 []) [] σ).bind fun x11 =>
 (unOp .not x11).bind fun x12 =>
 condK x12
 (
 some ((DV.p (PV.bool false)), σ)
 )
 (
 (len PP 56 x0 σ).bind fun x14 =>
 (binOp PP .gtr 3 x14 (DV.p (PV.int IntKind.i64 (5)))).bind fun x15 =>
 G _ x15 false (some (x1, σ)) σ fun x17 σ1 =>
 G _ x15 false ((pureFn CC (DV.fn 12 []) [x17] σ1).bind fun v => some (v, σ1)) σ1 fun x18 σ2 =>
 G _ x15 false ((unOp .not x18).bind fun v => some (v, σ2)) σ2 fun x19 σ3 =>
 (pickV x15 (DV.p (PV.bool true)) x19).bind fun x20 =>
 condK x20
 (
 some ((DV.p (PV.bool true)), σ3)
 )
 (
 (len PP 56 x0 σ3).bind fun x22 =>
 (binOp PP .gtr 3 x22 (DV.p (PV.int IntKind.i64 (3)))).bind fun x23 =>
 condK x23
 (
 f5_J0 G lo x0 x1 (DV.p (PV.bool false)) (DV.p (PV.int IntKind.i64 (2))) x11 x12 x0 x14 x15 x15 x17 x18 x19 x20 x0 x22 x23 σ3
 )
 (
 f5_J0 G lo x0 x1 (DV.p (PV.bool false)) (DV.p (PV.int IntKind.i64 (0))) x11 x12 x0 x14 x15 x15 x17 x18 x19 x20 x0 x22 x23 σ3
 )
 )
 ) := by kernel_rfl
theorem F5_call {lo : Nat} {x0 x1 : DV} {σ : Store} {r : DV × Store} (h : F5 guardT lo x0 x1 σ = some r) : CC lo 5 [x0, x1] σ = some r :=
 callL_run Go.Proofs.Try.func5 (by decide +kernel) rfl (by decide +kernel) h
end Go.D
end
/- The search over watched: the program's add and run. -/
section
set_option linter.unusedVariables false
set_option linter.unusedSimpArgs false
namespace Go.D.RnW
theorem neq22_osl (r ver sz n : Nat) (cs : List PV) : binOp PP .neq 22 (.osl r ver sz n cs) (.p .nilsl) = some (.p (.bool true)) := Eq.trans (by kernel_rfl) rfl
theorem uM : PP.underlying 211 = some (.map 180 4) := Eq.trans (by kernel_rfl) rfl
theorem uS : PP.underlying 183 = some (.slice 182) := Eq.trans (by kernel_rfl) rfl
theorem sF : size? PP 182 = some 5 := Eq.trans (by kernel_rfl) rfl
theorem sS : size? PP 183 = some 1 := Eq.trans (by kernel_rfl) rfl
theorem bytesF : bytes? PP 182 = some 56 := Eq.trans (by kernel_rfl) rfl
theorem zeroF : zeroOf PP 182 = some (nodeD [0, 0, 0, 0] ++ [.p .nilsl]) := Eq.trans (by kernel_rfl) rfl
theorem srcS : srcType PP 183 = true := Eq.trans (by kernel_rfl) rfl
theorem zvB : zeroVal PP 4 = some (.p (.bool false)) := Eq.trans (by kernel_rfl) rfl
theorem loadM (x : DV) (σ : Store) : load PP 211 x σ = load1 x σ := Eq.trans (by kernel_rfl) rfl
theorem loadS (x : DV) (σ : Store) : load PP 183 x σ = load1 x σ := Eq.trans (by kernel_rfl) rfl
theorem loadN' (x : DV) (σ : Store) : load PP 180 x σ = (loadN σ 4 x).map .agg := Eq.trans (by kernel_rfl) rfl
theorem loadF (x : DV) (σ : Store) : load PP 182 x σ = (loadN σ 5 x).map .agg := Eq.trans (by kernel_rfl) rfl
theorem faS0 (x : DV) : fieldAddr PP 213 x 0 = shiftPtr x 0 := Eq.trans (by kernel_rfl) rfl
theorem faS1 (x : DV) : fieldAddr PP 213 x 1 = shiftPtr x 1 := Eq.trans (by kernel_rfl) rfl
theorem faF0 (x : DV) : fieldAddr PP 182 x 0 = shiftPtr x 0 := Eq.trans (by kernel_rfl) rfl
theorem faF1 (x : DV) : fieldAddr PP 182 x 1 = shiftPtr x 4 := Eq.trans (by kernel_rfl) rfl
theorem bldS (r : Nat) : build PP 213 [(0, .map r)] = some (.agg [.map r, .p .nilsl]) := Eq.trans (by kernel_rfl) rfl
theorem bldFp (a b c d : Int) (v : PV) : build PP 182 [(0, .agg (nodeD [a, b, c, d])), (1, .p v)] = some (.agg (nodeD [a, b, c, d] ++ [.p v])) := Eq.trans (by kernel_rfl) rfl
theorem bldFo (a b c d : Int) (r ver sz n : Nat) (cs : List PV) : build PP 182 [(0, .agg (nodeD [a, b, c, d])), (1, .osl r ver sz n cs)] = some (.agg (nodeD [a, b, c, d] ++ [.osl r ver sz n cs])) := Eq.trans (by kernel_rfl) rfl
theorem bsp (a b c d : Int) (v : PV) (σ : Store) : buildSlice PP none 183 1 [(0, .agg (nodeD [a, b, c, d] ++ [.p v]))] σ = some (.p (.sl true 1 (eInts [a, b, c, d] ++ [v])), σ) := Eq.trans (by kernel_rfl) rfl
theorem bso (a b c d : Int) (r ver sz n : Nat) (cs : List PV) (σ : Store) : buildSlice PP none 183 1 [(0, .agg (nodeD [a, b, c, d] ++ [.osl r ver sz n cs]))] σ = some (.p (.sl true 1 (eInts [a, b, c, d] ++ [.sl false n cs])), σ) := Eq.trans (by kernel_rfl) rfl
theorem keyOkE (a b c d : Int) : keyOk PP 40 180 (.agg (nodeD [a, b, c, d])) = true := Eq.trans (by kernel_rfl) rfl
theorem eqAtE (a b c d a' b' c' d' : Int) : eqAt PP 40 180 (.agg (nodeD [a, b, c, d])) (.agg (nodeD [a', b', c', d'])) = (match (match some (a == a') with | some true => (match some (b == b') with | some true => (match some (c == c') with | some true => some true | r => r) | r => r) | r => r) with | some true => (match some (d == d') with | some true => some true | r => r) | r => r) := by kernel_rfl
theorem len4 {n : List Int} (h : n.length = 4) : ∃ a b c d, n = [a, b, c, d] := by
  match n, h with
  | [a, b, c, d], _ => exact ⟨a, b, c, d, rfl⟩
theorem keyOkL {n : List Int} (h : n.length = 4) : keyOk PP 40 180 (.agg (nodeD n)) = true := by
  obtain ⟨a, b, c, d, rfl⟩ := len4 h
  exact keyOkE a b c d
theorem beqD (x y : Int) : (x == y) = decide (y = x) := by
  by_cases e : y = x
  · subst e; simp
  · have e' : ¬ x = y := fun h => e h.symm
    simp [e, e']
theorem eqAtL {n n' : List Int} (h : n.length = 4) (h' : n'.length = 4) : eqAt PP 40 180 (.agg (nodeD n)) (.agg (nodeD n')) = some (decide (n' = n)) := by
  obtain ⟨a, b, c, d, rfl⟩ := len4 h
  obtain ⟨a', b', c', d', rfl⟩ := len4 h'
  rw [eqAtE]
  simp only [beqD]
  by_cases ha : a' = a <;> by_cases hb : b' = b <;> by_cases hc : c' = c <;> by_cases hd : d' = d <;> simp [ha, hb, hc, hd]
theorem findKeyL {n : List Int} (h : n.length = 4) : ∀ q : List QE, (∀ x ∈ q, x.n.length = 4) → findKey PP 180 (.agg (nodeD n)) (entN q) = some (if hasN q n = true then some (.p (.bool true)) else none)
  | [], _ => rfl
  | x :: q, hq => by
    have ih := findKeyL h q fun y hy => hq y (by simp [hy])
    have e : entN (x :: q) = (.agg (nodeD x.n), .p (.bool true)) :: entN q := rfl
    have e2 : hasN (x :: q) n = (decide (x.n = n) || hasN q n) := rfl
    rw [e, findKey, eqAtL h (hq x (by simp)), e2]
    cases decide (x.n = n) with
    | true => rfl
    | false => simp only [Bool.false_or]; exact ih
theorem updKeyL {n : List Int} (p : List Int) (h : n.length = 4) : ∀ q : List QE, (∀ x ∈ q, x.n.length = 4) → hasN q n = false → updKey PP 180 (.agg (nodeD n)) (.p (.bool true)) (entN q) = some (entN (q ++ [⟨n, p⟩]))
  | [], _, _ => rfl
  | x :: q, hq, hn => by
    have e2 : hasN (x :: q) n = (decide (x.n = n) || hasN q n) := rfl
    rw [e2, Bool.or_eq_false_iff] at hn
    have ih := updKeyL p h q (fun y hy => hq y (by simp [hy])) hn.2
    have e : entN (x :: q) = (.agg (nodeD x.n), .p (.bool true)) :: entN q := rfl
    rw [e, updKey, eqAtL h (hq x (by simp)), hn.1, ih]
    rfl

/-! ### Where a search stands -/
structure SS (σ0 σ : Store) (m s : Nat) (q : List QE) (to : Nat) : Prop where
  mp : σ[m]? = some (.map (entN q))
  st : ∃ lay, σ[s]? = some (.mix [.map m, lay]) ∧ Out σ σ0.length 5 (q.length - to) (qsP (q.drop to)) lay
  le : to ≤ q.length
  ml : σ0.length ≤ m
  sl : σ0.length ≤ s
  ln : ∀ x ∈ q, x.n.length = 4
  low : Ext σ0 σ
theorem ext_len {σ σ' : Store} (h : Ext σ σ') : σ.length ≤ σ'.length := by
  cases hl : σ.length with
  | zero => exact Nat.zero_le _
  | succ n =>
    have h1 : n < σ.length := by omega
    exact get_lt (h n _ (List.getElem?_eq_getElem h1))
theorem SS.lle {σ0 σ : Store} {m s : Nat} {q : List QE} {to : Nat} (h : SS σ0 σ m s q to) : σ0.length ≤ σ.length := ext_len h.low
theorem SS.snoc {σ0 σ : Store} {m s : Nat} {q : List QE} {to : Nat} (h : SS σ0 σ m s q to) (r : Row) : SS σ0 (σ ++ [r]) m s q to := by
  obtain ⟨lay, h1, h2⟩ := h.st
  exact ⟨get_old h.mp, ⟨lay, get_old h1, h2.snoc⟩, h.le, h.ml, h.sl, h.ln, h.low.trans (Ext.snoc σ r)⟩
/-- Boxes that are kept. -/
def KeepB (σ σ' : Store) (s : Nat) : Prop := ∀ (j : Nat) (cs : List DV), j ≠ s → σ[j]? = some (.mix cs) → σ'[j]? = some (.mix cs)
theorem KeepB.trans {a b c : Store} {s : Nat} (h : KeepB a b s) (h2 : KeepB b c s) : KeepB a c s := fun j cs hj e => h2 j cs hj (h j cs hj e)
theorem keepB_snoc (σ : Store) (r : Row) (s : Nat) : KeepB σ (σ ++ [r]) s := fun j cs _ e => get_old e
theorem store1 {t lo : Nat} (hs : size? PP t = some 1) {σ : Store} {r off : Nat} {O : List DV} {v : DV} (h : σ[r]? = some (.mix O)) (ht : off < O.length) (hv : v.one = true) (hc : v.cells = [v]) (hlo : lo ≤ r) :
    store PP lo t (.ptr r off) v σ = some (σ.set r (.mix (O.set off v))) := by
  have h1 : off + 1 ≤ O.length := ht
  have h2 : splice O off [v] = O.set off v := by
    unfold splice
    rw [List.set_eq_take_append_cons_drop]
    simp [ht]
  simp [store, hs, hc, storeN, h, hv, h1, h2, hlo]
theorem storeNew {t n lo : Nat} (hs : size? PP t = some n) {cs z : List DV} (σ : Store) (hz : z.length = n) (hc : cs.length = n) (ho : cs.all DV.one = true) (hlo : lo ≤ σ.length) : store PP lo t (.ptr σ.length 0) (.agg cs) (σ ++ [.mix z]) = some (σ ++ [.mix cs]) := by
  have e : splice z 0 cs = cs := by simp [splice, hz, hc]
  simp [store, hs, DV.cells, storeN, hc, hz, ho, e, hlo]
theorem nodeD_len (n : List Int) : (nodeD n).length = n.length := by simp [nodeD]
theorem nodeD_one (n : List Int) : (nodeD n).all DV.one = true := by simp [nodeD, DV.one]
theorem box_agg {cs : List DV} (h : cs.all DV.one = true) : boxV (.agg cs) = some cs := by
  simp [boxV, DV.cells, h]
theorem out_one {σ : Store} {lo sz n : Nat} {cs : List PV} {x : DV} (ho : Out σ lo sz n cs x) : x.one = true ∧ x.cells = [x] := by
  rcases ho.2 with ⟨_, rfl⟩ | ⟨_, q, ver, rfl, _⟩ <;> exact ⟨rfl, rfl⟩
theorem lenS {σ σ' : Store} {lo sz n : Nat} {cs : List PV} {x : DV} (ho : Out σ lo sz n cs x) : len PP 183 x σ' = some (.p (pI (n : Nat))) := by
  rcases ho.2 with ⟨rfl, rfl⟩ | ⟨_, q, ver, rfl, _⟩ <;> simp [len, uS]
/-- Paths as they are handed to add. -/
def PthV (p : List Int) (x : DV) : Prop := x = .p (ePth p) ∨ (p ≠ [] ∧ ∃ r ver, x = .osl r ver 1 p.length (eInts p))
theorem bldF {n p : List Int} {x : DV} (hn : n.length = 4) (hx : PthV p x) (σ : Store) : ∃ y, build PP 182 [(0, .agg (nodeD n)), (1, x)] = some y ∧ buildSlice PP none 183 1 [(0, y)] σ = some (.p (.sl true 1 (qeP ⟨n, p⟩)), σ) := by
  obtain ⟨a, b, c, d, rfl⟩ := len4 hn
  rcases hx with rfl | ⟨h0, r, ver, rfl⟩
  · exact ⟨_, bldFp a b c d _, bsp a b c d _ _⟩
  · refine ⟨_, bldFo a b c d _ _ _ _ _, (bso a b c d _ _ _ _ _ _).trans ?_⟩
    simp [qeP, ePth, h0]

theorem add_ok {σ0 σ : Store} {m s to : Nat} {q : List QE} {n p : List Int} {x : DV} (h : SS σ0 σ m s q to) (hn : n.length = 4) (hx : PthV p x) (hq : q.length ≤ 100000) :
    ∃ σ', plainFn CC σ0.length (.fn 115 []) [.ptr s 0, .agg (nodeD n), x] σ = some (.tuple [], σ') ∧ SS σ0 σ' m s (addN q n p) to ∧ KeepB σ σ' s := by
  obtain ⟨lay, h1, h2⟩ := h.st
  have hB : (σ ++ [Row.mix (nodeD n)])[σ.length]? = some (.mix (nodeD n)) := get_snoc
  have hm : (σ ++ [Row.mix (nodeD n)])[m]? = some (.map (entN q)) := get_old h.mp
  have hs : (σ ++ [Row.mix (nodeD n)])[s]? = some (.mix [.map m, lay]) := get_old h1
  have hld : ∀ ρ : Store, ρ[σ.length]? = some (.mix (nodeD n)) → loadN ρ 4 (.ptr σ.length 0) = some (nodeD n) := fun ρ hρ =>
    loadN_ptr hρ (by rw [List.drop_zero, List.take_of_length_le (by rw [nodeD_len, hn]; exact Nat.le_refl _)]) (by rw [nodeD_len, hn]; exact Nat.le_refl _)
  have hlk : lookup PP 211 (.map m) (.agg (nodeD n)) false (σ ++ [.mix (nodeD n)]) = some (.p (.bool (hasN q n))) := by
    simp only [lookup, uM, keyOkL hn, if_true, hm, findKeyL hn q h.ln, zvB]
    cases hasN q n <;> rfl
  show ∃ σ', CC σ0.length 115 ([.ptr s 0, .agg (nodeD n), x] ++ []) σ = _ ∧ _
  rw [List.append_nil]
  unfold addN
  cases hh : hasN q n with
  | true =>
    rw [hh] at hlk
    refine ⟨σ ++ [.mix (nodeD n)], F115_call ?_, by simp only [if_true]; exact h.snoc _, keepB_snoc _ _ _⟩
    rw [F115_eq]
    have hbox : boxV (.agg (nodeD n)) = some (nodeD n) := box_agg (nodeD_one n)
    simp only [hbox, guard_tt, guard_ff, guard_tf, guard_ft, guard_sk, obind, omap, pickV_true, pickV_false, condK_true, condK_false, decide_true, decide_false, Bool.not_true, Bool.not_false, not_bool, nil_ptr, faS0, shift_ptr, shift_pptr, Nat.zero_add, Nat.add_zero, pureFn_fn, List.append_nil, List.singleton_append, List.cons_append, List.nil_append, loadM, load1_ptr (off := 0) hs rfl, loadN', hld _ hB, hlk]
  | false =>
    rw [hh] at hlk
    have hup : mapUpdate PP σ0.length 211 (.map m) (.agg (nodeD n)) (.p (.bool true)) (σ ++ [.mix (nodeD n)]) = some ((σ ++ [Row.mix (nodeD n)]).set m (.map (entN (q ++ [⟨n, p⟩])))) := by
      simp only [mapUpdate, uM, keyOkL hn, h.ml, DV.isUndef, and_self, if_true, hm, updKeyL p hn q h.ln hh, Option.map_some]
    have hmB : m ≠ σ.length := by have := get_lt h.mp; omega
    have hms : m ≠ s := by
      intro e
      have := h.mp
      rw [e, h1] at this
      exact absurd this (by simp)
    have hρB : ((σ ++ [Row.mix (nodeD n)]).set m (.map (entN (q ++ [⟨n, p⟩]))))[σ.length]? = some (.mix (nodeD n)) := get_set_ne hB (fun e => hmB e.symm)
    have hρs : ((σ ++ [Row.mix (nodeD n)]).set m (.map (entN (q ++ [⟨n, p⟩]))))[s]? = some (.mix [.map m, lay]) := get_set_ne hs (fun e => hms e.symm)
    have hρm : ((σ ++ [Row.mix (nodeD n)]).set m (.map (entN (q ++ [⟨n, p⟩]))))[m]? = some (.map (entN (q ++ [⟨n, p⟩]))) := by rw [List.getElem?_set_self (get_lt hm)]
    have hρo : Out ((σ ++ [Row.mix (nodeD n)]).set m (.map (entN (q ++ [⟨n, p⟩])))) σ0.length 5 (q.length - to) (qsP (q.drop to)) lay := by
      refine ⟨h2.1, ?_⟩
      rcases h2.2 with hz | ⟨hz, r, ver, e1, e2, e3⟩
      · exact .inl hz
      · refine .inr ⟨hz, r, ver, e1, get_set_ne (get_old e2) ?_, e3⟩
        intro e
        rw [e, h.mp] at e2
        exact absurd e2 (by simp)
    have hρlow : ∀ j row, j ≠ m → σ[j]? = some row → ((σ ++ [Row.mix (nodeD n)]).set m (.map (entN (q ++ [⟨n, p⟩]))))[j]? = some row := fun j row hj e => get_set_ne (get_old e) hj
    have hρlen : σ0.length ≤ ((σ ++ [Row.mix (nodeD n)]).set m (.map (entN (q ++ [⟨n, p⟩])))).length := by
      have := h.lle
      simp; omega
    generalize (σ ++ [Row.mix (nodeD n)]).set m (.map (entN (q ++ [⟨n, p⟩]))) = ρ at *
    obtain ⟨y, hy1, hy2⟩ := bldF hn hx ρ
    obtain ⟨x', σ', e1, o1, t1, f1⟩ := Out.pushF (vs := qeP ⟨n, p⟩) srcS uS sF bytesF zeroF (by simp [nodeD]) (by decide) (by decide) (by decide) (by rw [qeP_len, hn]) hρo (by omega) hρlen
    have gs : σ'[s]? = some (.mix [.map m, lay]) := t1 s _ hρs fun r ver sz n' cs e => by
      rintro rfl
      rcases hρo.2 with ⟨_, hz⟩ | ⟨_, r2, ver2, e3, e4, _⟩
      · rw [hz] at e; exact absurd e (by simp)
      · rw [e] at e3
        injection e3 with e5
        rw [← e5, hρs] at e4
        exact absurd e4 (by simp)
    have gm : σ'[m]? = some (.map (entN (q ++ [⟨n, p⟩]))) := t1 m _ hρm fun r ver sz n' cs e => by
      rintro rfl
      rcases hρo.2 with ⟨_, hz⟩ | ⟨_, r2, ver2, e3, e4, _⟩
      · rw [hz] at e; exact absurd e (by simp)
      · rw [e] at e3
        injection e3 with e5
        rw [← e5, hρm] at e4
        exact absurd e4 (by simp)
    have hone := out_one o1
    have hst := store1 (lo := σ0.length) sS gs (off := 1) (v := x') (by simp) hone.1 hone.2 h.sl
    have hmix : ∀ j cs, j ≠ s → ρ[j]? = some (.mix cs) → (σ'.set s (.mix [.map m, x']))[j]? = some (.mix cs) := by
      intro j cs hj e
      refine get_set_ne (t1 j _ e fun r ver sz n' cs' e2 => ?_) hj
      rintro rfl
      rcases hρo.2 with ⟨_, hz⟩ | ⟨_, r2, ver2, e3, e4, _⟩
      · rw [hz] at e2; exact absurd e2 (by simp)
      · rw [e2] at e3
        injection e3 with e5
        rw [← e5, e] at e4
        exact absurd e4 (by simp)
    have hql : q.length - to + 1 = (q ++ [(⟨n, p⟩ : QE)]).length - to := by have := h.le; simp; omega
    have hqd : qsP (q.drop to) ++ qeP ⟨n, p⟩ = qsP ((q ++ [(⟨n, p⟩ : QE)]).drop to) := by
      rw [List.drop_append_of_le_length h.le, qsP_app]
      simp [qsP]
    refine ⟨σ'.set s (.mix [.map m, x']), F115_call ?_, ?_, fun j cs hj e => hmix j cs hj (hρlow j _ ?_ e)⟩
    · rw [F115_eq]
      have hbox : boxV (.agg (nodeD n)) = some (nodeD n) := box_agg (nodeD_one n)
      simp only [hbox, guard_tt, guard_ff, guard_tf, guard_ft, guard_sk, obind, omap, pickV_true, pickV_false, condK_true, condK_false, decide_true, decide_false, Bool.not_true, Bool.not_false, not_bool, nil_ptr, faS0, faS1, shift_ptr, shift_pptr, Nat.zero_add, Nat.add_zero, pureFn_fn, List.append_nil, List.singleton_append, List.cons_append, List.nil_append, loadM, loadS, load1_ptr (off := 0) hs rfl, loadN', hld _ hB, hlk, hup, load1_ptr (off := 1) hρs rfl, hld _ hρB, hy1, hy2, e1, hst, List.set_cons_succ, List.set_cons_zero]
    · simp only [Bool.false_eq_true, if_false]
      refine ⟨get_set_ne gm hms, ⟨x', by rw [List.getElem?_set_self (get_lt gs)], ?_⟩, by have := h.le; simp; omega, h.ml, h.sl, ?_, ?_⟩
      · rw [← hql, ← hqd]
        refine ⟨o1.1, ?_⟩
        rcases o1.2 with hz | ⟨hz, r, ver, e3, e4, e5⟩
        · exact .inl hz
        · refine .inr ⟨hz, r, ver, e3, get_set_ne e4 ?_, e5⟩
          rintro rfl
          rw [gs] at e4
          exact absurd e4 (by simp)
      · intro y hy
        rcases List.mem_append.1 hy with hy | hy
        · exact h.ln y hy
        · rw [List.mem_singleton.1 hy]; exact hn
      · intro j row e
        have hj := get_lt e
        have hjm : j ≠ m := by have := h.ml; omega
        have hjs : j ≠ s := by have := h.sl; omega
        refine get_set_ne (t1 j row (hρlow j row hjm (h.low j row e)) fun r ver sz n' cs e2 => ?_) hjs
        rcases hρo.2 with ⟨_, hz⟩ | ⟨_, r2, ver2, e3, e4, e6⟩
        · rw [hz] at e2; exact absurd e2 (by simp)
        · rw [e2] at e3
          injection e3 with e5
          omega
    · intro e2
      rw [e2, h.mp] at e
      exact absurd e (by simp)

/-! ### The program's run -/
section
variable {σ0 : Store} {fv : FuncId} {caps : List DV} {vis : QE → List QE → Sum (List Int) (List QE)} {I : List QE → Prop} {B : Nat}
/-- What is asked of a visit. -/
def HV (σ0 : Store) (fv : FuncId) (caps : List DV) (vis : QE → List QE → Sum (List Int) (List QE)) (I : List QE → Prop) : Prop :=
  ∀ (σ : Store) (q : List QE) (i to : Nat) (x : QE) (m s : Nat), SS σ0 σ m s q to → I q → q[i]? = some x → i < to →
    ∃ r σ', plainFn CC σ0.length (.fn fv caps) [.ptr s 0, .agg (qeD x)] σ = some (r, σ') ∧
      ((∃ p, vis x q = .inl p ∧ p ≠ [] ∧ ∃ a v, r = .osl a v 1 p.length (eInts p)) ∨ (∃ q', vis x q = .inr q' ∧ r = .p .nilsl ∧ SS σ0 σ' m s q' to ∧ I q' ∧ q <+: q'))
def RR (r : DV) : Option (List Int) → Prop
  | none => r = .p .nilsl
  | some p => p ≠ [] ∧ ∃ a v, r = .osl a v 1 p.length (eInts p)
theorem idxS {a v n j : Nat} {cs : List PV} (h : j < n) : indexAddr PP 183 (.osl a v 5 n cs) (.p (pI (j : Nat))) = some (.pptr cs (j * 5)) := by
  have h2 : (0 : Int) ≤ (j : Int) ∧ (j : Int) < (n : Nat) := by omega
  simp [indexAddr, uS, sF, h2, h]
theorem qeD_len (x : QE) (h : x.n.length = 4) : (qeD x).length = 5 := by simp [qeD, nodeD, h]
theorem qeD_one (x : QE) : (qeD x).all DV.one = true := by simp [qeD, nodeD, DV.one]
theorem zlen : (nodeD [0, 0, 0, 0] ++ [.p .nilsl] : List DV).length = 5 := rfl
theorem part_at {q : List QE} {fr to i : Nat} {x : QE} (hl : ∀ y ∈ q, y.n.length = 4) (hf : fr ≤ i) (hi : i < to) (ht : to ≤ q.length) (hx : q[i]? = some x) (σ : Store) :
    loadN σ 5 (.pptr (qsP ((q.take to).drop fr)) ((i - fr) * 5)) = some (qeD x) := by
  have hl2 : ∀ y ∈ (q.take to).drop fr, y.n.length = 4 := fun y hy => hl y (List.mem_of_mem_take (List.mem_of_mem_drop hy))
  have e1 : ((q.take to).drop fr)[i - fr]? = some x := by
    rw [List.getElem?_drop, show fr + (i - fr) = i by omega, List.getElem?_take]
    simp [hi, hx]
  have e2 := qsP_at (K := 4) hl2 e1
  have e3 := qsP_len (K := 4) hl2
  have e4 : ((q.take to).drop fr).length = to - fr := by rw [List.length_drop, List.length_take]; omega
  have e5 : (i - fr) * 5 + 5 ≤ (qsP ((q.take to).drop fr)).length := by rw [e3, e4]; omega
  simp only [loadN, e5, if_true]
  rw [e2, qeP_map]
theorem L2_step (hv : HV σ0 fv caps vis I) {σ : Store} {m s fr to i a v : Nat} {q : List QE} {x : QE} (h : SS σ0 σ m s q to) (hI : I q) (hf : fr ≤ i) (hi : i < to) (hx : q[i]? = some x) (hq : q.length ≤ 100000) :
    ∃ r σ', (∃ p, vis x q = .inl p ∧ p ≠ [] ∧ (∃ a v, r = .osl a v 1 p.length (eInts p)) ∧ f113_L2 guardT σ0.length (.fn fv caps) (.ptr s 0) (.osl a v 5 (to - fr) (qsP ((q.take to).drop fr))) (.p (pI ((to - fr : Nat)))) (.p (pI ((i - fr : Nat)))) σ = some (r, σ')) ∨
      (∃ q', vis x q = .inr q' ∧ SS σ0 σ' m s q' to ∧ I q' ∧ q <+: q' ∧ f113_L2 guardT σ0.length (.fn fv caps) (.ptr s 0) (.osl a v 5 (to - fr) (qsP ((q.take to).drop fr))) (.p (pI ((to - fr : Nat)))) (.p (pI ((i - fr : Nat)))) σ =
        f113_L2 guardT σ0.length (.fn fv caps) (.ptr s 0) (.osl a v 5 (to - fr) (qsP ((q.take to).drop fr))) (.p (pI ((to - fr : Nat)))) (.p (pI ((i + 1 - fr : Nat)))) σ') := by
  have hto := h.le
  have hxl : x.n.length = 4 := h.ln x (List.mem_of_getElem? hx)
  have h1 : ((i - fr : Nat) : Int) < ((to - fr : Nat) : Int) := by omega
  have h2 : i - fr < to - fr := by omega
  have hld := part_at (σ := σ) h.ln hf hi hto hx
  have hsn := storeNew (lo := σ0.length) (z := nodeD [0, 0, 0, 0] ++ [.p .nilsl]) sF σ zlen (qeD_len x hxl) (qeD_one x) h.lle
  have hl2 : loadN (σ ++ [Row.mix (qeD x)]) 5 (.ptr σ.length 0) = some (qeD x) := loadN_ptr get_snoc (by rw [List.drop_zero, List.take_of_length_le (by rw [qeD_len x hxl]; exact Nat.le_refl _)]) (by rw [qeD_len x hxl]; exact Nat.le_refl _)
  obtain ⟨r, σ', e1, hr⟩ := hv _ q i to x m s (h.snoc (.mix (qeD x))) hI hx hi
  refine ⟨r, σ', ?_⟩
  rcases hr with ⟨p, hp, hp0, a', v', rfl⟩ | ⟨q', hq', rfl, k1, k2, k3⟩
  · refine .inl ⟨p, hp, hp0, ⟨a', v', rfl⟩, ?_⟩
    rw [f113_L2_eq guardT rfl]
    simp only [b_lss, b_eql, b_neq, b_leq, b_geq, b_gtr, h1, guard_tt, guard_ff, guard_tf, guard_ft, guard_sk, obind, omap, pickV_true, pickV_false, condK_true, condK_false, decide_true, decide_false, Bool.not_true, Bool.not_false, not_bool, idxS h2, loadF, hld, zeroF, hsn, hl2, e1, neq22_osl]
  · refine .inr ⟨q', hq', k1, k2, k3, ?_⟩
    rw [f113_L2_eq guardT rfl]
    simp only [b_lss, b_eql, b_neq, b_leq, b_geq, b_gtr, h1, guard_tt, guard_ff, guard_tf, guard_ft, guard_sk, obind, omap, pickV_true, pickV_false, condK_true, condK_false, decide_true, decide_false, Bool.not_true, Bool.not_false, not_bool, idxS h2, loadF, hld, zeroF, hsn, hl2, e1, neq22_nn, b_add, wrap_succ (show i - fr ≤ 1000000 by omega), show i - fr + 1 = i + 1 - fr by omega]
theorem L1_end {σ : Store} {m s to : Nat} {q : List QE} (h : SS σ0 σ m s q to) (hq : q.length = to) (x1 : DV) : f113_L1 guardT σ0.length x1 (.ptr s 0) σ = some (.p .nilsl, σ) := by
  obtain ⟨lay, h1, h2⟩ := h.st
  have hz : q.length - to = 0 := by omega
  have hl := lenS (σ' := σ) h2
  rw [hz] at hl
  rw [f113_L1_eq guardT rfl]
  simp only [nil_ptr, faS1, shift_ptr, shift_pptr, Nat.zero_add, Nat.add_zero, pureFn_fn, List.append_nil, List.singleton_append, List.cons_append, List.nil_append, loadS, load1_ptr (off := 1) h1 rfl, hl, b_lss, b_eql, b_neq, b_leq, b_geq, b_gtr, guard_tt, guard_ff, guard_tf, guard_ft, guard_sk, obind, omap, pickV_true, pickV_false, condK_true, condK_false, decide_true, decide_false, Bool.not_true, Bool.not_false, not_bool, show ¬ ((0 : Nat) : Int) > 0 by decide]
theorem L1_go {σ : Store} {m s to : Nat} {q : List QE} (h : SS σ0 σ m s q to) (hq : to < q.length) (x1 : DV) :
    ∃ a v σ', SS σ0 σ' m s q q.length ∧ f113_L1 guardT σ0.length x1 (.ptr s 0) σ = f113_L2 guardT σ0.length x1 (.ptr s 0) (.osl a v 5 (q.length - to) (qsP ((q.take q.length).drop to))) (.p (pI ((q.length - to : Nat)))) (.p (pI ((to - to : Nat)))) σ' := by
  obtain ⟨lay, h1, h2⟩ := h.st
  obtain ⟨a, v, rfl⟩ := h2.osl (by omega)
  have hl := fun σ' => lenS (σ' := σ') h2
  have hst := store1 (lo := σ0.length) sS h1 (off := 1) (v := .p .nilsl) (by simp) rfl rfl h.sl
  have hms : m ≠ s := by
    intro e
    have := h.mp
    rw [e, h1] at this
    exact absurd this (by simp)
  refine ⟨a, v, σ.set s (.mix [.map m, .p .nilsl]), ⟨get_set_ne h.mp hms, ⟨.p .nilsl, by rw [List.getElem?_set_self (get_lt h1)], ?_⟩, Nat.le_refl _, h.ml, h.sl, h.ln, fun j row e => ?_⟩, ?_⟩
  · rw [Nat.sub_self, List.drop_length]
    exact Out.zero
  · exact get_set_ne (h.low j row e) (by have := get_lt e; have := h.sl; omega)
  · rw [f113_L1_eq guardT rfl]
    have hp : ((q.length - to : Nat) : Int) > 0 := by omega
    simp only [nil_ptr, faS1, shift_ptr, shift_pptr, Nat.zero_add, Nat.add_zero, pureFn_fn, List.append_nil, List.singleton_append, List.cons_append, List.nil_append, loadS, load1_ptr (off := 1) h1 rfl, hl, b_lss, b_eql, b_neq, b_leq, b_geq, b_gtr, guard_tt, guard_ff, guard_tf, guard_ft, guard_sk, obind, omap, pickV_true, pickV_false, condK_true, condK_false, decide_true, decide_false, Bool.not_true, Bool.not_false, not_bool, hp, hst, List.set_cons_succ, List.set_cons_zero, List.take_length, Nat.sub_self]
    rfl
theorem bfsQ_none {k i : Nat} {q : List QE} (h : q[i]? = none) : bfsQ vis (k + 1) i q = none := by
  unfold bfsQ
  rw [h]
theorem run_L2 (hv : HV σ0 fv caps vis I) (hB : ∀ q, I q → q.length ≤ B) (hB2 : B ≤ 100000) : ∀ (k i fr to : Nat) (q : List QE) (σ : Store) (a v m s : Nat), B - i = k → fr ≤ i → i ≤ to → SS σ0 σ m s q to → I q →
    ∃ r σ', f113_L2 guardT σ0.length (.fn fv caps) (.ptr s 0) (.osl a v 5 (to - fr) (qsP ((q.take to).drop fr))) (.p (pI ((to - fr : Nat)))) (.p (pI ((i - fr : Nat)))) σ = some (r, σ') ∧ RR r (bfsQ vis (k + 1) i q) := by
  intro k
  induction k with
  | zero =>
    intro i fr to q σ a v m s hk hf hi h hI
    have hqB := hB q hI
    have hto := h.le
    have hit : i = to := by omega
    have hend : q.length = to := by omega
    refine ⟨.p .nilsl, σ, ?_, ?_⟩
    · rw [f113_L2_eq guardT rfl]
      have h1 : ¬ ((i - fr : Nat) : Int) < ((to - fr : Nat) : Int) := by omega
      simp only [b_lss, b_eql, b_neq, b_leq, b_geq, b_gtr, h1, guard_tt, guard_ff, guard_tf, guard_ft, guard_sk, obind, omap, pickV_true, pickV_false, condK_true, condK_false, decide_true, decide_false, Bool.not_true, Bool.not_false, not_bool, L1_end h hend]
    · rw [bfsQ_none (List.getElem?_eq_none (by omega))]
      rfl
  | succ k ih =>
    have main : ∀ (i fr to : Nat) (q : List QE) (σ : Store) (a v m s : Nat), B - i = k + 1 → fr ≤ i → i < to → SS σ0 σ m s q to → I q →
        ∃ r σ', f113_L2 guardT σ0.length (.fn fv caps) (.ptr s 0) (.osl a v 5 (to - fr) (qsP ((q.take to).drop fr))) (.p (pI ((to - fr : Nat)))) (.p (pI ((i - fr : Nat)))) σ = some (r, σ') ∧ RR r (bfsQ vis (k + 1 + 1) i q) := by
      intro i fr to q σ a v m s hk hf hi h hI
      have hqB := hB q hI
      have hto := h.le
      have hiq : i < q.length := by omega
      have hx : q[i]? = some q[i] := List.getElem?_eq_getElem hiq
      obtain ⟨r, σ', hr⟩ := L2_step hv (a := a) (v := v) h hI hf hi hx (by omega)
      rcases hr with ⟨p, hp, hp0, hp1, e⟩ | ⟨q', hq', k1, k2, k3, e⟩
      · refine ⟨r, σ', e, ?_⟩
        unfold bfsQ
        rw [hx]
        simp only [hp]
        exact ⟨hp0, hp1⟩
      · have ht : q'.take to = q.take to := by
          obtain ⟨t, rfl⟩ := k3
          rw [List.take_append_of_le_length hto]
        obtain ⟨r2, σ2, e2, hr2⟩ := ih (i + 1) fr to q' σ' a v m s (by omega) (by omega) (by omega) k1 k2
        rw [ht] at e2
        refine ⟨r2, σ2, e.trans e2, ?_⟩
        unfold bfsQ
        rw [hx]
        simp only [hq']
        exact hr2
    intro i fr to q σ a v m s hk hf hi h hI
    by_cases hlt : i < to
    · exact main i fr to q σ a v m s hk hf hlt h hI
    · have hit : i = to := by omega
      subst hit
      have hto := h.le
      have h1 : ¬ ((i - fr : Nat) : Int) < ((i - fr : Nat) : Int) := by omega
      have hL : f113_L2 guardT σ0.length (.fn fv caps) (.ptr s 0) (.osl a v 5 (i - fr) (qsP ((q.take i).drop fr))) (.p (pI ((i - fr : Nat)))) (.p (pI ((i - fr : Nat)))) σ = f113_L1 guardT σ0.length (.fn fv caps) (.ptr s 0) σ := by
        rw [f113_L2_eq guardT rfl]
        simp only [b_lss, b_eql, b_neq, b_leq, b_geq, b_gtr, h1, guard_tt, guard_ff, guard_tf, guard_ft, guard_sk, obind, omap, pickV_true, pickV_false, condK_true, condK_false, decide_true, decide_false, Bool.not_true, Bool.not_false, not_bool]
      rw [hL]
      by_cases hend : q.length = i
      · refine ⟨.p .nilsl, σ, L1_end h hend _, ?_⟩
        rw [bfsQ_none (List.getElem?_eq_none (by omega))]
        rfl
      · obtain ⟨a', v', σ', k1, e⟩ := L1_go h (by omega) (.fn fv caps)
        rw [e]
        exact main i i q.length q σ' a' v' m s hk (Nat.le_refl _) (by omega) k1 hI
theorem addE_len (q : List QE) (x : QE) : (addE q x).length ≤ q.length + 1 := by
  unfold addE addN
  split
  · omega
  · simp
theorem run_L0 {bq : List QE} (hb : ∀ x ∈ bq, x.n.length = 4) (hbn : bq.length ≤ 100000) (x1 : DV) : ∀ (k j : Nat) (σ : Store) (m s : Nat), bq.length - j = k → j ≤ bq.length → SS σ0 σ m s ((bq.take j).foldl addE []) 0 → ((bq.take j).foldl addE []).length ≤ j →
    ∃ σ', f113_L0 guardT σ0.length x1 (.ptr s 0) (.p (.sl false bq.length (qsP bq))) (.p (pI (bq.length : Nat))) (.p (pI (j : Nat))) σ = f113_L1 guardT σ0.length x1 (.ptr s 0) σ' ∧ SS σ0 σ' m s (bq.foldl addE []) 0
  | 0, j, σ, m, s, hk, hj, h, hl => by
    have : j = bq.length := by omega
    subst this
    rw [List.take_length] at h
    refine ⟨σ, ?_, h⟩
    rw [f113_L0_eq guardT rfl]
    have h1 : ¬ ((bq.length : Nat) : Int) < ((bq.length : Nat) : Int) := by omega
    simp only [b_lss, b_eql, b_neq, b_leq, b_geq, b_gtr, h1, guard_tt, guard_ff, guard_tf, guard_ft, guard_sk, obind, omap, pickV_true, pickV_false, condK_true, condK_false, decide_true, decide_false, Bool.not_true, Bool.not_false, not_bool]
  | k + 1, j, σ, m, s, hk, hj, h, hl => by
    have hjl : j < bq.length := by omega
    have hx : bq[j]? = some bq[j] := List.getElem?_eq_getElem hjl
    have hxl : (bq[j]).n.length = 4 := hb _ (List.getElem_mem hjl)
    have h1 : (j : Int) < ((bq.length : Nat) : Int) := by omega
    have hidx : indexAddr PP 183 (.p (.sl false bq.length (qsP bq))) (.p (pI (j : Nat))) = some (.pptr (qsP bq) (j * 5)) := by
      have h2 : (0 : Int) ≤ (j : Int) ∧ (j : Int) < (bq.length : Nat) := by omega
      simp [indexAddr, uS, sF, h2, hjl]
    have hld := part_at (σ := σ) (fr := 0) (to := bq.length) hb (Nat.zero_le _) hjl (Nat.le_refl _) hx
    rw [List.take_length, List.drop_zero, Nat.sub_zero] at hld
    have hsn := storeNew (lo := σ0.length) (z := nodeD [0, 0, 0, 0] ++ [.p .nilsl]) sF σ zlen (qeD_len bq[j] hxl) (qeD_one bq[j]) h.lle
    have hg : (σ ++ [Row.mix (qeD bq[j])])[σ.length]? = some (.mix (qeD bq[j])) := get_snoc
    have hl2 : loadN (σ ++ [Row.mix (qeD bq[j])]) 4 (.ptr σ.length 0) = some (nodeD bq[j].n) := loadN_ptr hg (by
      have e : (nodeD bq[j].n).length = 4 := by rw [nodeD_len, hxl]
      rw [List.drop_zero, qeD, List.take_append_of_le_length (by omega), List.take_of_length_le (by omega)]) (by rw [qeD_len _ hxl]; omega)
    have hl3 : load1 (.ptr σ.length 4) (σ ++ [Row.mix (qeD bq[j])]) = some (.p (ePth bq[j].p)) := load1_ptr hg (by
      have e : (nodeD bq[j].n).length = 4 := by rw [nodeD_len, hxl]
      rw [qeD, List.getElem?_append_right (by omega), e]; rfl)
    obtain ⟨σ', e1, k1, _⟩ := add_ok (h.snoc (.mix (qeD bq[j]))) hxl (x := .p (ePth bq[j].p)) (p := bq[j].p) (.inl rfl) (by omega)
    have hts : (bq.take (j + 1)).foldl addE [] = addN ((bq.take j).foldl addE []) bq[j].n bq[j].p := by
      rw [List.take_succ_eq_append_getElem hjl, List.foldl_append]; rfl
    rw [← hts] at k1
    obtain ⟨σ2, e2, k2⟩ := run_L0 hb hbn x1 k (j + 1) σ' m s (by omega) (by omega) k1 (by
      rw [hts]
      exact Nat.le_trans (addE_len ((bq.take j).foldl addE []) bq[j]) (by omega))
    refine ⟨σ2, ?_, k2⟩
    rw [f113_L0_eq guardT rfl]
    simp only [b_lss, b_eql, b_neq, b_leq, b_geq, b_gtr, h1, guard_tt, guard_ff, guard_tf, guard_ft, guard_sk, obind, omap, pickV_true, pickV_false, condK_true, condK_false, decide_true, decide_false, Bool.not_true, Bool.not_false, not_bool, hidx, loadF, hld, zeroF, hsn, faF0, faF1, shift_ptr, shift_pptr, Nat.zero_add, Nat.add_zero, pureFn_fn, List.append_nil, List.singleton_append, List.cons_append, List.nil_append, loadN', hl2, load22, hl3, e1, b_add, wrap_succ (show j ≤ 1000000 by omega)]
    exact e2
theorem run_ok (hv : HV σ0 fv caps vis I) (hB : ∀ q, I q → q.length ≤ B) (hB2 : B ≤ 100000) {bq : List QE} (hb : ∀ x ∈ bq, x.n.length = 4) (hbn : bq.length ≤ 100000) (hI : I (bq.foldl addE [])) (hc : caps.all rowFree1 = false) :
    pureV CC 113 [.p (.sl false bq.length (qsP bq)), .fn fv caps] σ0 = some (match bfsQ vis (B + 1) 0 (bq.foldl addE []) with | none => .p .nilsl | some p => .p (.sl false p.length (eInts p))) := by
  have hs0 : SS σ0 ((σ0 ++ [Row.map []]) ++ [Row.mix [.map σ0.length, .p .nilsl]]) σ0.length (σ0 ++ [Row.map []]).length [] 0 := by
    refine ⟨get_old get_snoc, ⟨.p .nilsl, get_snoc, ?_⟩, Nat.le_refl _, Nat.le_refl _, by simp, fun x hx => absurd hx (by simp), (Ext.snoc _ _).trans (Ext.snoc _ _)⟩
    exact Out.zero
  obtain ⟨σ1, e1, k1⟩ := run_L0 hb hbn (.fn fv caps) _ 0 _ _ _ (Nat.sub_zero _) (Nat.zero_le _) hs0 (Nat.le_refl _)
  have key : ∃ r σ', f113_L1 guardT σ0.length (.fn fv caps) (.ptr (σ0 ++ [Row.map []]).length 0) σ1 = some (r, σ') ∧ RR r (bfsQ vis (B + 1) 0 (bq.foldl addE [])) := by
    by_cases h0 : (bq.foldl addE []).length = 0
    · refine ⟨.p .nilsl, σ1, L1_end k1 h0 _, ?_⟩
      rw [bfsQ_none (List.getElem?_eq_none (by omega))]
      rfl
    · obtain ⟨a, v, σ2, k2, e2⟩ := L1_go k1 (by omega) (.fn fv caps)
      rw [e2]
      exact run_L2 hv hB hB2 B 0 0 _ _ σ2 a v _ _ (Nat.sub_zero _) (Nat.le_refl _) (Nat.zero_le _) k2 hI
  obtain ⟨r, σ', e3, hr⟩ := key
  have hv1 : view (.p (.sl false bq.length (qsP bq))) = .p (.sl false bq.length (qsP bq)) := by simp [view, viewCell, loosen, loosens_qs]
  refine pureV_rows (by simp [hv1, fn_view]) (by simp [rowFree, hc]) (F113_call (r := (r, σ')) ?_) ?_
  · have hln : ∀ σ, len PP 183 (.p (.sl false bq.length (qsP bq))) σ = some (.p (pI (bq.length : Nat))) := fun σ => by simp [len, uS]
    have hbox : boxV (.agg [.map σ0.length, .p .nilsl]) = some [.map σ0.length, .p .nilsl] := rfl
    rw [F113_eq]
    simp only [bldS, hbox, guard_tt, guard_ff, guard_tf, guard_ft, guard_sk, obind, omap, pickV_true, pickV_false, condK_true, condK_false, decide_true, decide_false, Bool.not_true, Bool.not_false, not_bool, hln]
    exact e1.trans e3
  · cases hbq : bfsQ vis (B + 1) 0 (bq.foldl addE []) with
    | none =>
      rw [hbq] at hr
      have hr : r = .p .nilsl := hr
      subst hr
      rfl
    | some p =>
      rw [hbq] at hr
      obtain ⟨_, a, v, rfl⟩ := hr
      simp [thawAll, thawPart, thaw, thaw1, thawP, loosens_ints]
end
end Go.D.RnW
end
/- A path cloned and made longer; small divisions. -/
section
set_option linter.unusedVariables false
set_option linter.unusedSimpArgs false
namespace Go.D
theorem app22_p {σ : Store} {lo n : Nat} {l p : List Int} (hp : p.length = n) (h0 : n ≠ 0) (hn : n ≤ 1000) (r ver m : Nat) (hl : l.length = m) (hm : m ≤ 1000000) (h : σ[r]? = some (.tok ver)) (hr : lo ≤ r) :
    append PP lo false 22 22 (.osl r ver 1 m (eInts l)) (.p (.sl true n (eInts p))) σ = some (.osl r (ver + 1) 1 (m + n) (eInts (l ++ p)), σ.set r (.tok (ver + 1))) := by
  have e1 : (m + n) * 8 ≤ 140737488355328 := by omega
  have e2 : m + n ≤ 140737488355328 := by omega
  have e3 : (eInts p).length = n := by rw [ints_length, hp]
  have e4 : (eInts l).length = m := by rw [ints_length, hl]
  simp only [append, src22, u22, s3, bytes3, zero3, source, e3, Nat.mul_one, if_true, appTok]
  have e5 : eInts (l ++ p) = eInts l ++ eInts p := by simp [eInts]
  simp [e1, e2, h, hr, e4, pures_map, e5]
theorem app22_n {σ : Store} {lo n : Nat} {p : List Int} (hp : p.length = n) (h0 : n ≠ 0) (hn : n ≤ 1000) :
    append PP lo false 22 22 (.p .nilsl) (.p (.sl true n (eInts p))) σ = some (.osl σ.length 0 1 n (eInts p), σ ++ [.tok 0]) := by
  have e1 : n * 8 ≤ 140737488355328 := by omega
  have e2 : n ≤ 140737488355328 := by omega
  have e3 : (eInts p).length = n := by rw [ints_length, hp]
  simp only [append, src22, u22, s3, bytes3, zero3, source, e3, Nat.mul_one, if_true, appNil]
  simp [e1, e2, h0, pures_map]
theorem pth_ne {p : List Int} (h : p ≠ []) : ePth p = .sl false p.length (eInts p) := if_neg h
/-- Clone, then append some numbers. -/
theorem clone_app {p l2 : List Int} {n lo : Nat} {σ : Store} (hp : p.length ≤ 1000000) (hl : l2.length = n) (h0 : n ≠ 0) (hn : n ≤ 1000) (hlo : lo ≤ σ.length) :
    ∃ v1 σ1 ver, plainFn CC lo (.fn 99 []) [.p (ePth p)] σ = some (v1, σ1) ∧ (∀ (r : Row), True) ∧
      append PP lo false 22 22 v1 (.p (.sl true n (eInts l2))) σ1 = some (.osl σ.length ver 1 (p ++ l2).length (eInts (p ++ l2)), σ ++ [.tok ver]) := by
  by_cases h : p = []
  · subst h
    refine ⟨.p .nilsl, σ, 0, ?_, fun _ => trivial, ?_⟩
    · show CC lo 99 ([.p (ePth [])] ++ []) σ = _
      rw [List.append_nil]
      refine F99_call ?_
      rw [F99_eq]
      simp only [ePth, if_true, eq22_nn, guard_tt, guard_ff, guard_tf, guard_ft, guard_sk, obind, omap, pickV_true, pickV_false, condK_true, condK_false, decide_true, decide_false, Bool.not_true, Bool.not_false, not_bool]
    · rw [app22_n hl h0 hn, List.nil_append, hl]
  · have hne : p.length ≠ 0 := fun e => h (List.length_eq_zero_iff.1 e)
    refine ⟨.osl σ.length 0 1 p.length (eInts p), σ ++ [.tok 0], 1, ?_, fun _ => trivial, ?_⟩
    · show CC lo 99 ([.p (ePth p)] ++ []) σ = _
      rw [List.append_nil, pth_ne h]
      refine F99_call ?_
      rw [F99_eq]
      have e3 : (eInts p).length = p.length := ints_length p
      have e1 : p.length * 8 ≤ 140737488355328 := by omega
      have e2 : p.length ≤ 140737488355328 := by omega
      have h1 : append PP lo false 22 22 (.p (.sl true 0 [])) (.p (.sl false p.length (eInts p))) σ = some (.osl σ.length 0 1 p.length (eInts p), σ ++ [.tok 0]) := by
        simp only [append, src22, u22, s3, bytes3, zero3, source, e3, Nat.mul_one, if_true, appLit]
        simp [h, hne, e1, e2, pures_map]
      simp only [eq22_sl, guard_tt, guard_ff, guard_tf, guard_ft, guard_sk, obind, omap, pickV_true, pickV_false, condK_true, condK_false, decide_true, decide_false, Bool.not_true, Bool.not_false, not_bool, bs22_0, h1]
    · rw [app22_p hl h0 hn σ.length 0 p.length rfl hp get_snoc hlo, List.length_append, hl, set_snoc]
theorem b_quo3 (c : Nat) (hc : c ≤ 1000000) : binOp PP .quo 3 (.p (pI (c : Nat))) (.p (pI 3)) = some (.p (pI ((c / 3 : Nat)))) := by
  have h : binOp PP .quo 3 (.p (pI (c : Nat))) (.p (pI 3)) = some (.p (pI (IntKind.wrap .i64 ((c : Int).tdiv 3)))) := Eq.trans rfl rfl
  have e : (c : Int).tdiv 3 = ((c / 3 : Nat) : Int) := by
    rw [Int.tdiv_eq_ediv_of_nonneg (by omega)]; omega
  rw [h, e, wrap_ok (by omega) (by omega)]
theorem b_rem3 (c : Nat) : binOp PP .rem 3 (.p (pI (c : Nat))) (.p (pI 3)) = some (.p (pI ((c % 3 : Nat)))) := by
  have h : binOp PP .rem 3 (.p (pI (c : Nat))) (.p (pI 3)) = some (.p (pI ((c : Int).tmod 3))) := Eq.trans rfl rfl
  have e : (c : Int).tmod 3 = ((c % 3 : Nat) : Int) := by
    rw [Int.tmod_eq_emod_of_nonneg (by omega)]; omega
  rw [h, e]
end Go.D
end
/- What the search for unimplied watches does at a node. -/
section
set_option linter.unusedVariables false
set_option linter.unusedSimpArgs false
namespace Go.D
/-- Lists of watches. -/
def eWs : Option (List OW) → PV
  | none => .nilsl
  | some l => .sl false l.length (l.map eWt)
theorem u56 : PP.underlying 56 = some (.slice 27) := Eq.trans (by kernel_rfl) rfl
theorem loosens_ws (l : List OW) : loosens (l.map eWt) = l.map eWt := by
  induction l with
  | nil => rfl
  | cons a l ih => simp only [List.map_cons, loosens, loosen_wt, ih]
theorem loosen_ws (o : Option (List OW)) : loosen (eWs o) = eWs o := by
  cases o <;> simp [eWs, loosen, loosens_ws]
theorem ws_view (o : Option (List OW)) : view (.p (eWs o)) = .p (eWs o) := by simp [view, viewCell, loosen_ws]
theorem box_ws (o : Option (List OW)) : boxV (.p (eWs o)) = some [.p (eWs o)] := rfl
theorem load56 (x : DV) (σ : Store) : load PP 56 x σ = load1 x σ := Eq.trans (by kernel_rfl) rfl
theorem load27' (x : DV) (σ : Store) : load PP 27 x σ = load1 x σ := Eq.trans (by kernel_rfl) rfl
theorem len56 (o : Option (List OW)) (σ : Store) : len PP 56 (.p (eWs o)) σ = some (.p (.int .i64 ((L o).length : Nat))) := by cases o <;> simp [len, u56, eWs]
theorem idx56 {o : Option (List OW)} {i : Nat} (h : i < (L o).length) : indexAddr PP 56 (.p (eWs o)) (.p (.int .i64 (i : Nat))) = some (.pptr ((L o).map eWt) i) := by
  cases o with
  | none => simp at h
  | some l =>
    have h2 : (0 : Int) ≤ (i : Int) ∧ (i : Int) < (l.length : Nat) := by simp at h; omega
    simp [indexAddr, u56, s27, eWs, h2]
theorem load1_ws {l : List OW} {i : Nat} (h : i < l.length) (σ : Store) : load1 (.pptr (l.map eWt) i) σ = some (.p (eWt (l.getD i none))) :=
  load1_pptr (by simp [h, List.getD_eq_getElem?_getD]) σ

/-! ### The visit, in plain terms -/
def prC (c : Nat) : Pr := ⟨(c / 3 : Nat), (c % 3 : Nat)⟩
def toK (ls : List W3) (n : List Int) (pr : Pr) : Nat → List Int
  | 0 => n
  | i + 1 => (toK ls n pr i).set i (nextW (ls.getD i []) (n.getD i 0) pr)
def keepK (ls : List W3) (n : List Int) (pr : Pr) : Nat → Bool
  | 0 => true
  | i + 1 => keepK ls n pr i && !decide (nextW (ls.getD i []) (n.getD i 0) pr = -1)
def toW (ls : List W3) (w : W3) (n : List Int) (pr : Pr) : List Int := (toK ls n pr ls.length).set 3 (nextW w (n.getD 3 0) pr)
def visWF (ls : List W3) (w : W3) (x : QE) : Nat → Nat → List QE → Sum (List Int) (List QE)
  | 0, _, q => .inr q
  | r + 1, c, q => if keepK ls x.n (prC c) ls.length = true then
      if nextW w (x.n.getD 3 0) (prC c) = -1 then .inl (x.p ++ [(c : Int)]) else visWF ls w x r (c + 1) (addN q (toW ls w x.n (prC c)) (x.p ++ [(c : Int)]))
    else visWF ls w x r (c + 1) q
def visW (ls : List W3) (w : W3) (x : QE) (q : List QE) : Sum (List Int) (List QE) := visWF ls w x 9 0 q
/-- Right nodes. -/
structure NOk (ls : List W3) (w : W3) (n : List Int) : Prop where
  len : n.length = 4
  own : ∀ i, i < ls.length → 0 ≤ n.getD i 0 ∧ n.getD i 0 < ((ls.getD i []).length : Nat)
  oth : 0 ≤ n.getD 3 0 ∧ n.getD 3 0 < (w.length : Nat)
  rest : ∀ i, ls.length ≤ i → i < 3 → n.getD i 0 = 0
structure WsOk (ls : List W3) (w : W3) : Prop where
  k : ls.length ≤ 3
  l : ∀ i, i < ls.length → WOk (ls.getD i []) (ls.getD i []).length
  w : WOk w w.length
theorem badC {c : Nat} (h : c < 9) : badP (prC c) = false := by
  have h1 : c / 3 ≤ 2 := by omega
  have h2 : c % 3 ≤ 2 := by omega
  have a1 : ltr ((c / 3 : Nat) : Int) = true := ltr_iff.2 (by omega)
  have a2 : ltr ((c % 3 : Nat) : Int) = true := ltr_iff.2 (by omega)
  simp only [badP, prC, a1, a2]; rfl
theorem toK_len (ls : List W3) (n : List Int) (pr : Pr) : ∀ i, (toK ls n pr i).length = n.length
  | 0 => rfl
  | i + 1 => by rw [toK, List.length_set, toK_len ls n pr i]
theorem getD_set_eq {α : Type} (d : α) {l : List α} {i : Nat} {v : α} (h : i < l.length) : (l.set i v).getD i d = v := by
  rw [List.getD_eq_getElem?_getD, List.getElem?_set_self h]; rfl
theorem getD_set_ne {α : Type} (d : α) {l : List α} {i j : Nat} {v : α} (h : i ≠ j) : (l.set i v).getD j d = l.getD j d := by
  rw [List.getD_eq_getElem?_getD, List.getElem?_set_ne h, List.getD_eq_getElem?_getD]
theorem toK_at {ls : List W3} {n : List Int} {pr : Pr} (hn : n.length = 4) : ∀ (k : Nat), k ≤ 4 → ∀ j, (toK ls n pr k).getD j 0 = if j < k then nextW (ls.getD j []) (n.getD j 0) pr else n.getD j 0
  | 0, _, j => by simp [toK]
  | k + 1, hk, j => by
    have ih := toK_at (ls := ls) (pr := pr) hn k (by omega) j
    rw [toK]
    by_cases e : k = j
    · subst e
      rw [getD_set_eq 0 (by rw [toK_len, hn]; omega), if_pos (by omega)]
    · rw [getD_set_ne 0 e, ih]
      by_cases h : j < k
      · rw [if_pos h, if_pos (by omega)]
      · rw [if_neg h, if_neg (by omega)]
theorem keepK_iff {ls : List W3} {n : List Int} {pr : Pr} : ∀ k, keepK ls n pr k = true ↔ ∀ i, i < k → nextW (ls.getD i []) (n.getD i 0) pr ≠ -1
  | 0 => by simp [keepK]
  | k + 1 => by
    rw [keepK, Bool.and_eq_true, keepK_iff k]
    constructor
    · rintro ⟨h1, h2⟩ i hi
      by_cases e : i = k
      · subst e; simpa using h2
      · exact h1 i (by omega)
    · intro h
      exact ⟨fun i hi => h i (by omega), by simpa using h k (by omega)⟩
theorem toW_ok {ls : List W3} {w : W3} {n : List Int} {c : Nat} (hw : WsOk ls w) (hn : NOk ls w n) (hc : c < 9) (hk : keepK ls n (prC c) ls.length = true) (hb : nextW w (n.getD 3 0) (prC c) ≠ -1) : NOk ls w (toW ls w n (prC c)) := by
  have h3 := hw.k
  have e : ∀ i, i < 3 → (toW ls w n (prC c)).getD i 0 = if i < ls.length then nextW (ls.getD i []) (n.getD i 0) (prC c) else n.getD i 0 := by
    intro i hi
    rw [toW, getD_set_ne 0 (by omega), toK_at hn.len _ (by omega)]
  refine ⟨by rw [toW, List.length_set, toK_len, hn.len], fun i hi => ?_, ?_, fun i h1 h2 => ?_⟩
  · rw [e i (by omega), if_pos hi]
    exact next_rng (hw.l i hi) (hn.own i hi) (badC hc) ((keepK_iff _).1 hk i hi)
  · rw [toW, getD_set_eq 0 (by rw [toK_len, hn.len]; decide)]
    exact next_rng hw.w hn.oth (badC hc) hb
  · rw [e i h2, if_neg (by omega)]
    exact hn.rest i h1 h2

/-! ### The visit, by the program -/
open RnW
theorem idx178 (b : Nat) {i : Nat} (h : i < 3) : indexAddr PP 178 (.ptr b 0) (.p (pI (i : Nat))) = some (.ptr b i) := by
  match i, h with
  | 0, _ => exact Eq.trans (by kernel_rfl) rfl
  | 1, _ => exact Eq.trans (by kernel_rfl) rfl
  | 2, _ => exact Eq.trans (by kernel_rfl) rfl
theorem fa180_0 (x : DV) : fieldAddr PP 180 x 0 = shiftPtr x 0 := Eq.trans (by kernel_rfl) rfl
theorem fa180_1 (x : DV) : fieldAddr PP 180 x 1 = shiftPtr x 3 := Eq.trans (by kernel_rfl) rfl
theorem s180 : size? PP 180 = some 4 := Eq.trans (by kernel_rfl) rfl
theorem zero180 : zeroOf PP 180 = some (nodeD [0, 0, 0, 0]) := Eq.trans (by kernel_rfl) rfl
theorem sz3 : size? PP 3 = some 1 := Eq.trans (by kernel_rfl) rfl
theorem SS.setMix {σ0 σ : Store} {m s to y : Nat} {q : List QE} {cs cs' : List DV} (h : RnW.SS σ0 σ m s q to) (hy : σ[y]? = some (.mix cs)) (hys : y ≠ s) (hlo : σ0.length ≤ y) : RnW.SS σ0 (σ.set y (.mix cs')) m s q to := by
  obtain ⟨lay, h1, h2⟩ := h.st
  have hmy : m ≠ y := by
    intro e
    have := h.mp
    rw [e, hy] at this
    exact absurd this (by simp)
  refine ⟨get_set_ne h.mp hmy, ⟨lay, get_set_ne h1 (fun e => hys e.symm), h2.1, ?_⟩, h.le, h.ml, h.sl, h.ln, fun j row e => get_set_ne (h.low j row e) (by have := get_lt e; omega)⟩
  rcases h2.2 with hz | ⟨hz, r, ver, e1, e2, e3⟩
  · exact .inl hz
  · refine .inr ⟨hz, r, ver, e1, get_set_ne e2 ?_, e3⟩
    intro e
    rw [e, hy] at e2
    exact absurd e2 (by simp)
theorem qeD_at {x : QE} (h : x.n.length = 4) {i : Nat} (hi : i < 4) : (qeD x)[i]? = some (.p (pI (x.n.getD i 0))) := by
  have e : (nodeD x.n).length = 4 := by rw [nodeD_len, h]
  rw [qeD, List.getElem?_append_left (by omega)]
  simp only [nodeD, List.getElem?_map]
  rw [List.getElem?_eq_getElem (by omega), getD_at 0 (by omega)]
  rfl
theorem nodeD_at {n : List Int} {i : Nat} (hi : i < n.length) : (nodeD n)[i]? = some (.p (pI (n.getD i 0))) := by
  simp only [nodeD, List.getElem?_map]
  rw [List.getElem?_eq_getElem hi, getD_at 0 hi]
  rfl
theorem nodeD_set (n : List Int) (i : Nat) (v : Int) : (nodeD n).set i (.p (pI v)) = nodeD (n.set i v) := by
  simp [nodeD, List.map_set]

section
variable {σ0 : Store} {r2 r3 : Nat} {ws : Option (List OW)} {w : OW} (h2 : σ0[r2]? = some (.mix [.p (eWs ws)])) (h3 : σ0[r3]? = some (.mix [.p (eWt w)])) (hw : WsOk ((L ws).map wl) (wl w))
include hw
omit hw in
theorem lsD {i : Nat} (hi : i < (L ws).length) : ((L ws).map wl).getD i [] = wl ((L ws).getD i none) := by
  rw [getD_at [] (by simpa using hi), getD_at none hi, List.getElem_map]
theorem L114_1 {x : QE} {m s to b z y : Nat} {q : List QE} {pr : Pr} (hx : NOk ((L ws).map wl) (wl w) x.n) (hp : badP pr = false) (hys : y ≠ s) (hyb : y ≠ b) (hyz : y ≠ z) (hlo : σ0.length ≤ y) (x2 x3 x14 : DV) :
    ∀ (k i : Nat) (σ : Store), (L ws).length - i = k → i ≤ (L ws).length → SS σ0 σ m s q to → σ[b]? = some (.mix (qeD x)) → σ[z]? = some (.mix (prD pr)) → σ[y]? = some (.mix (nodeD (toK ((L ws).map wl) x.n pr i))) →
    ∃ σ', f114_L1 guardT σ0.length (.ptr s 0) x2 x3 (.ptr b 0) x14 (.ptr z 0) (.ptr y 0) (.p (.bool (keepK ((L ws).map wl) x.n pr i))) x14 (.p (eWs ws)) (.p (pI ((L ws).length : Nat))) (.p (pI (i : Nat))) σ =
      f114_L1 guardT σ0.length (.ptr s 0) x2 x3 (.ptr b 0) x14 (.ptr z 0) (.ptr y 0) (.p (.bool (keepK ((L ws).map wl) x.n pr (L ws).length))) x14 (.p (eWs ws)) (.p (pI ((L ws).length : Nat))) (.p (pI ((L ws).length : Nat))) σ' ∧
      SS σ0 σ' m s q to ∧ σ'[b]? = some (.mix (qeD x)) ∧ σ'[z]? = some (.mix (prD pr)) ∧ σ'[y]? = some (.mix (nodeD (toK ((L ws).map wl) x.n pr (L ws).length))) ∧ σ'.length = σ.length
  | 0, i, σ, hk, hi, hS, hb, hz, hy => by
    have : i = (L ws).length := by omega
    subst this
    exact ⟨σ, rfl, hS, hb, hz, hy, rfl⟩
  | k + 1, i, σ, hk, hi, hS, hb, hz, hy => by
    have h : i < (L ws).length := by omega
    have h' : (i : Int) < ((L ws).length : Nat) := by omega
    have hk3 := hw.k
    rw [List.length_map] at hk3
    have e : (L ws).getD i none = (L ws).getD i none := rfl
    have hwi := hw.l i (by rw [List.length_map]; exact h)
    have hown := hx.own i (by rw [List.length_map]; exact h)
    rw [lsD h] at hwi hown
    have hS94 := S94 (σ := σ) hwi hown hp
    have hyl : (toK ((L ws).map wl) x.n pr i).length = 4 := by rw [toK_len, hx.len]
    have hst := store1 (lo := σ0.length) sz3 hy (off := i) (v := .p (pI (nextW (wl ((L ws).getD i none)) (x.n.getD i 0) pr))) (by rw [nodeD_len, hyl]; omega) rfl rfl hlo
    rw [nodeD_set] at hst
    have hto : toK ((L ws).map wl) x.n pr (i + 1) = (toK ((L ws).map wl) x.n pr i).set i (nextW (wl ((L ws).getD i none)) (x.n.getD i 0) pr) := by rw [toK, lsD h]
    have hkp : keepK ((L ws).map wl) x.n pr (i + 1) = (keepK ((L ws).map wl) x.n pr i && !decide (nextW (wl ((L ws).getD i none)) (x.n.getD i 0) pr = -1)) := by rw [keepK, lsD h]
    rw [← hto] at hst
    have gy : (σ.set y (.mix (nodeD (toK ((L ws).map wl) x.n pr (i + 1)))))[y]? = some (.mix (nodeD (toK ((L ws).map wl) x.n pr (i + 1)))) := by rw [List.getElem?_set_self (get_lt hy)]
    have hyl2 : (toK ((L ws).map wl) x.n pr (i + 1)).length = 4 := by rw [toK_len, hx.len]
    have gyi : load1 (.ptr y i) (σ.set y (.mix (nodeD (toK ((L ws).map wl) x.n pr (i + 1))))) = some (.p (pI (nextW (wl ((L ws).getD i none)) (x.n.getD i 0) pr))) := by
      refine load1_ptr gy ?_
      rw [nodeD_at (by omega), hto, getD_set_eq 0 (by omega)]
    obtain ⟨σ', e1, k1, k2, k3, k4, k5⟩ := L114_1 hx hp hys hyb hyz hlo x2 x3 x14 k (i + 1) (σ.set y (.mix (nodeD (toK ((L ws).map wl) x.n pr (i + 1))))) (by omega) (by omega) (SS.setMix hS hy hys hlo) (get_set_ne hb (fun e => hyb e.symm)) (get_set_ne hz (fun e => hyz e.symm)) gy
    refine ⟨σ', Eq.trans ?_ e1, k1, k2, k3, k4, by rw [k5, List.length_set]⟩
    have hpl : loadN σ 2 (.ptr z 0) = some (prD pr) := loadN_ptr hz rfl (by simp [prD])
    rw [f114_L1_eq guardT rfl, hkp]
    cases hkk : keepK ((L ws).map wl) x.n pr i <;>
      simp only [b_lss, b_eql, b_neq, b_leq, b_geq, b_gtr, h', guard_tt, guard_ff, guard_tf, guard_ft, guard_sk, obind, omap, pickV_true, pickV_false, condK_true, condK_false, decide_true, decide_false, Bool.not_true, Bool.not_false, not_bool, idx56 h, load27', load1_ws h, faF0, fa180_0, shift_ptr, shift_pptr, Nat.zero_add, Nat.add_zero, pureFn_fn, List.append_nil, List.singleton_append, List.cons_append, List.nil_append, idx178 _ (show i < 3 by omega), load3, load1_ptr (off := i) hb (qeD_at hx.len (by omega)), load98, hpl, hS94, hst, gyi, Bool.true_and, Bool.false_and, b_add, wrap_succ (show i ≤ 1000000 by omega)]
end
end Go.D
end
/- What a call's arguments are: plain data of any type without pointers, as values of D. For any program. -/
section
set_option linter.unusedVariables false
set_option linter.unusedSimpArgs false
namespace Go.D

mutual
inductive Plain (P : Program) : TypeId → List PV → Prop where
  | bool {t : TypeId} (h : P.underlying t = some .bool) (b : Bool) : Plain P t [.bool b]
  | int {t : TypeId} {k : IntKind} (h : P.underlying t = some (.int k)) (n : Int) (hw : (Lit.int k n).wf = true) : Plain P t [.int k n]
  | str {t : TypeId} (h : P.underlying t = some .string) (s : ByteArray) (hs : s.size ≤ maxLen) : Plain P t [.str s]
  | nilsl {t e : TypeId} (h : P.underlying t = some (.slice e)) : Plain P t [.nilsl]
  | sl {t e : TypeId} (h : P.underlying t = some (.slice e)) (n : Nat) (cs : List PV) (hx : PlainL P (List.replicate n e) cs) : Plain P t [.sl false n cs]
  | struct {t : TypeId} {fs : Array Field} (h : P.underlying t = some (.struct fs)) (cs : List PV) (hx : PlainL P (fs.toList.map (·.type)) cs) : Plain P t cs
  | array {t e : TypeId} {n : Nat} (h : P.underlying t = some (.array n e)) (cs : List PV) (hx : PlainL P (List.replicate n e) cs) : Plain P t cs
inductive PlainL (P : Program) : List TypeId → List PV → Prop where
  | nil : PlainL P [] []
  | cons {t : TypeId} {ts : List TypeId} {a b : List PV} (h : Plain P t a) (hs : PlainL P ts b) : PlainL P (t :: ts) (a ++ b)
end

/-! ### Taking apart -/
section
variable {P : Program} {t e : TypeId} {k : IntKind} {cs : List PV}
theorem Plain.inv_int (hu : P.underlying t = some (.int k)) (h : Plain P t cs) : ∃ n, (Lit.int k n).wf = true ∧ cs = [.int k n] := by
  cases h with
  | int h n hw =>
    rw [hu] at h
    injection h with h
    injection h with h
    exact ⟨n, by rw [h]; exact hw, by rw [h]⟩
  | _ h => rw [hu] at h; injection h with h; exact absurd h (by simp)
theorem Plain.inv_bool (hu : P.underlying t = some .bool) (h : Plain P t cs) : ∃ b, cs = [.bool b] := by
  cases h with
  | bool h b => exact ⟨b, rfl⟩
  | _ h => rw [hu] at h; injection h with h; exact absurd h (by simp)
theorem Plain.inv_str (hu : P.underlying t = some .string) (h : Plain P t cs) : ∃ s, s.size ≤ maxLen ∧ cs = [.str s] := by
  cases h with
  | str h s hs => exact ⟨s, hs, rfl⟩
  | _ h => rw [hu] at h; injection h with h; exact absurd h (by simp)
theorem Plain.inv_slice (hu : P.underlying t = some (.slice e)) (h : Plain P t cs) : cs = [.nilsl] ∨ ∃ n xs, PlainL P (List.replicate n e) xs ∧ cs = [.sl false n xs] := by
  cases h with
  | nilsl h => exact .inl rfl
  | sl h n xs hx =>
    rw [hu] at h
    injection h with h
    injection h with h
    exact .inr ⟨n, xs, by rw [h]; exact hx, rfl⟩
  | _ h => rw [hu] at h; injection h with h; exact absurd h (by simp)
theorem Plain.inv_struct {fs : Array Field} (hu : P.underlying t = some (.struct fs)) (h : Plain P t cs) : PlainL P (fs.toList.map (·.type)) cs := by
  cases h with
  | struct h xs hx =>
    rw [hu] at h
    injection h with h
    injection h with h
    rw [h]; exact hx
  | _ h => rw [hu] at h; injection h with h; exact absurd h (by simp)
theorem Plain.inv_array {n : Nat} (hu : P.underlying t = some (.array n e)) (h : Plain P t cs) : PlainL P (List.replicate n e) cs := by
  cases h with
  | array h xs hx =>
    rw [hu] at h
    injection h with h
    injection h with h1 h2
    rw [h1, h2]; exact hx
  | _ h => rw [hu] at h; injection h with h; exact absurd h (by simp)
theorem PlainL.inv_nil (h : PlainL P [] cs) : cs = [] := by cases h; rfl
theorem PlainL.inv_cons {ts : List TypeId} (h : PlainL P (t :: ts) cs) : ∃ a b, Plain P t a ∧ PlainL P ts b ∧ cs = a ++ b := by
  cases h with
  | cons h hs => exact ⟨_, _, h, hs, rfl⟩
theorem PlainL.inv_rep {α : Type} {f : α → List PV} (hf : ∀ a, Plain P t a → ∃ x, a = f x) : ∀ {n : Nat} {cs : List PV}, PlainL P (List.replicate n t) cs → ∃ xs : List α, xs.length = n ∧ cs = xs.flatMap f
  | 0, cs, h => ⟨[], rfl, h.inv_nil⟩
  | n + 1, cs, h => by
    obtain ⟨a, b, h1, h2, rfl⟩ := PlainL.inv_cons (ts := List.replicate n t) h
    obtain ⟨x, rfl⟩ := hf a h1
    obtain ⟨xs, h3, rfl⟩ := PlainL.inv_rep hf h2
    exact ⟨x :: xs, by simp [h3], by simp⟩
end

/-! ### Types that are read -/
def layOk (P : Program) (ok : TypeId → Bool) (total : Nat) : Nat → List Field → Bool
  | off, [] => off == total
  | off, f :: fs => f.offset == off && ok f.type && layOk P ok total (off + P.cellsOf f.type) fs
def plainTy (P : Program) : Nat → TypeId → Bool
  | 0, _ => false
  | n + 1, t => match P.underlying t with
    | some .bool | some (.int _) | some .string => true
    | some (.slice e) => decide (0 < P.cellsOf e) && plainTy P n e
    | some (.struct fs) => layOk P (plainTy P n) (P.cellsOf t) 0 fs.toList
    | some (.array m e) => m * P.cellsOf e == P.cellsOf t && plainTy P n e
    | _ => false

section
variable {H : Type} {enc : TypeId × Value → H} {W : World} {P : Program} {hd : Bool}
abbrev memR (W : World) : Mem := fun b o => W.cell? ⟨b, o, none⟩

theorem spot_cell {a : Addr} {v : Value} (h : W.cell? a = some v) : a.spot = none := by
  unfold World.cell? at h
  split at h
  · split at h
    · exact absurd h (by simp)
    · rename_i hs
      cases e : a.spot with
      | none => rfl
      | some s => rw [e] at hs; exact absurd rfl hs
  · exact absurd h (by simp)
theorem addr_eq {a : Addr} {n : Nat} (h : a.spot = none) : a.add n = ⟨a.block, a.off + n, none⟩ := by
  cases a with
  | mk b o s => cases h; exact Addr.add_mid b o n

/-- Cells of pure values that stand for values. -/
def RelL (M : Mem) (ps : List PV) (vs : List Value) : Prop := ps.length = vs.length ∧ ∀ j (h1 : j < ps.length) (h2 : j < vs.length), PRel M ps[j] vs[j]

theorem RelL.append {M : Mem} {a c : List PV} {b d : List Value} (h : RelL M a b) (h2 : RelL M c d) : RelL M (a ++ c) (b ++ d) := by
  refine ⟨by simp [h.1, h2.1], fun j h3 h4 => ?_⟩
  by_cases hj : j < a.length
  · rw [List.getElem_append_left hj, List.getElem_append_left (by rw [← h.1]; exact hj)]
    exact h.2 j hj _
  · rw [List.getElem_append_right (by omega), List.getElem_append_right (by rw [← h.1]; omega)]
    have e : j - b.length = j - a.length := by rw [h.1]
    simp only [e]
    refine h2.2 _ (by simp at h3; omega) ?_
/-- Elements one after another. -/
theorem elems_read {e : TypeId} {sz : Nat} {b : Nat} : ∀ (n o : Nat),
    (∀ i, i < n → ∃ ps vs, Plain P e ps ∧ vs.length = sz ∧ RelL (memR W) ps vs ∧ ∀ j (h : j < vs.length), W.cell? ⟨b, o + i * sz + j, none⟩ = some vs[j]) →
    ∃ cs vs, PlainL P (List.replicate n e) cs ∧ vs.length = n * sz ∧ RelL (memR W) cs vs ∧ ∀ j (h : j < vs.length), W.cell? ⟨b, o + j, none⟩ = some vs[j]
  | 0, o, h => ⟨[], [], .nil, by simp, ⟨rfl, fun j h1 _ => absurd h1 (by simp)⟩, fun j h => absurd h (by simp)⟩
  | n + 1, o, h => by
    obtain ⟨ps, vs, h1, h2, h3, h4⟩ := h 0 (by omega)
    obtain ⟨cs, ws, g1, g2, g3, g4⟩ := elems_read n (o + sz) fun i hi => by
      obtain ⟨ps, vs, k1, k2, k3, k4⟩ := h (i + 1) (by omega)
      refine ⟨ps, vs, k1, k2, k3, fun j hj => ?_⟩
      have : o + sz + i * sz + j = o + (i + 1) * sz + j := by rw [Nat.add_mul]; omega
      rw [this]
      exact k4 j hj
    refine ⟨ps ++ cs, vs ++ ws, .cons h1 g1, by simp [h2, g2, Nat.add_mul]; omega, h3.append g3, fun j hj => ?_⟩
    by_cases hjv : j < vs.length
    · rw [List.getElem_append_left hjv]
      have := h4 j hjv
      simpa using this
    · rw [List.getElem_append_right (by omega)]
      have := g4 (j - vs.length) (by simp at hj; omega)
      have e2 : o + sz + (j - vs.length) = o + j := by omega
      rwa [e2] at this
theorem layOk_le {ok : TypeId → Bool} {total : Nat} : ∀ (fs : List Field) (off : Nat), layOk P ok total off fs = true → off ≤ total
  | [], off, h => by
    have : off = total := by simpa [layOk] using h
    omega
  | f :: fs, off, h => by
    simp only [layOk, Bool.and_eq_true] at h
    have := layOk_le fs _ h.2
    omega
theorem fields_read {ok : TypeId → Bool} {total : Nat} {cs : List Value} (hc : cs.length = total) : ∀ (fs : List Field) (off : Nat), layOk P ok total off fs = true →
    (∀ f ∈ fs, ok f.type = true → ∃ ps, Plain P f.type ps ∧ RelL (memR W) ps ((cs.drop f.offset).take (P.cellsOf f.type))) →
    ∃ ps, PlainL P (fs.map (·.type)) ps ∧ RelL (memR W) ps (cs.drop off)
  | [], off, h, hf => by
    have : off = total := by simpa [layOk] using h
    refine ⟨[], .nil, ?_⟩
    rw [List.drop_eq_nil_of_le (by omega)]
    exact ⟨rfl, fun j h1 _ => absurd h1 (by simp)⟩
  | f :: fs, off, h, hf => by
    simp only [layOk, Bool.and_eq_true, beq_iff_eq] at h
    obtain ⟨⟨h1, h2⟩, h3⟩ := h
    obtain ⟨ps, g1, g2⟩ := hf f (by simp) h2
    obtain ⟨qs, k1, k2⟩ := fields_read hc fs _ h3 fun g hg => hf g (by simp [hg])
    refine ⟨ps ++ qs, .cons g1 k1, ?_⟩
    have e : cs.drop off = (cs.drop off).take (P.cellsOf f.type) ++ cs.drop (off + P.cellsOf f.type) := by
      rw [← List.drop_drop, List.take_append_drop]
    rw [h1] at g2
    rw [e]
    exact g2.append k2
theorem parts_read {e : TypeId} {sz : Nat} {cs : List Value} : ∀ (n off : Nat), cs.length = off + n * sz →
    (∀ i, i < n → ∃ ps, Plain P e ps ∧ RelL (memR W) ps ((cs.drop (off + i * sz)).take sz)) → ∃ ps, PlainL P (List.replicate n e) ps ∧ RelL (memR W) ps (cs.drop off)
  | 0, off, hc, h => by
    refine ⟨[], .nil, ?_⟩
    rw [List.drop_eq_nil_of_le (by omega)]
    exact ⟨rfl, fun j h1 _ => absurd h1 (by simp)⟩
  | n + 1, off, hc, h => by
    obtain ⟨ps, g1, g2⟩ := h 0 (by omega)
    obtain ⟨qs, k1, k2⟩ := parts_read (sz := sz) n (off + sz) (by rw [hc, Nat.add_mul]; omega) fun i hi => by
      obtain ⟨ps, a1, a2⟩ := h (i + 1) (by omega)
      refine ⟨ps, a1, ?_⟩
      have : off + (i + 1) * sz = off + sz + i * sz := by rw [Nat.add_mul]; omega
      rwa [this] at a2
    refine ⟨ps ++ qs, .cons g1 k1, ?_⟩
    have e : cs.drop off = (cs.drop off).take sz ++ cs.drop (off + sz) := by
      rw [← List.drop_drop, List.take_append_drop]
    rw [Nat.zero_mul, Nat.add_zero] at g2
    rw [e]
    exact g2.append k2

theorem read_plain : ∀ (m fuel : Nat) (t : TypeId) (cs : List Value) (x : DataW H × List MemPlace), plainTy P m t = true → DataW.trod enc P W 0 (fun _ => true) hd fuel t cs = some x → ∃ ps, Plain P t ps ∧ RelL (memR W) ps cs
  | 0, _, _, _, _, hp, _ => by simp [plainTy] at hp
  | m + 1, fuel, t, cs, x, hp, h => by
    unfold plainTy at hp
    split at hp
    · rename_i hu
      obtain ⟨b, rfl, _⟩ := DataW.trod_bool hu h
      refine ⟨[.bool b], .bool hu b, rfl, fun j h1 h2 => ?_⟩
      match j, h1 with
      | 0, _ => exact .bool b
    · rename_i k hu
      obtain ⟨n, rfl, _, hw⟩ := DataW.trod_int hu h
      refine ⟨[.int k n], .int hu n hw, rfl, fun j h1 h2 => ?_⟩
      match j, h1 with
      | 0, _ => exact .int k n
    · rename_i hu
      obtain ⟨s, rfl, _, hs⟩ := DataW.trod_string hu h
      refine ⟨[.str s], .str hu s hs, rfl, fun j h1 h2 => ?_⟩
      match j, h1 with
      | 0, _ => exact .str s
    · rename_i e hu
      simp only [Bool.and_eq_true, decide_eq_true_eq] at hp
      obtain ⟨hsz, hpe⟩ := hp
      rcases DataW.trod_slice hu h with ⟨rfl, _⟩ | ⟨a, len, cap, elems, rest, n, _, rfl, _, _, hl, hm, hlen, hel, hrest, _⟩
      · refine ⟨[.nilsl], .nilsl hu, rfl, fun j h1 h2 => ?_⟩
        match j, h1 with
        | 0, _ => exact .nilsl
      · have hrest := hrest rfl
        have hspot : cap ≠ 0 → a.spot = none := by
          intro hc
          have key : ∃ cs, W.cells? 0 (a.add 0) (P.cellsOf e) = some cs := by
            by_cases h0 : 0 < len
            · have h1 := hel 0 h0
              rw [List.getElem?_eq_getElem (by omega)] at h1
              obtain ⟨cs, h2, _⟩ := Option.bind_eq_some_iff.1 h1
              exact ⟨cs, by simpa using h2⟩
            · have h1 := hrest.2 0 (by omega)
              rw [List.getElem?_eq_getElem (by omega)] at h1
              obtain ⟨cs, h2, _⟩ := Option.bind_eq_some_iff.1 h1
              have hl0 : len = 0 := by omega
              exact ⟨cs, by simpa [hl0] using h2⟩
          obtain ⟨cs, h2⟩ := key
          obtain ⟨_, h3, h4⟩ := World.cells?_some h2
          have h5 := h4 0 hsz
          rw [List.getElem?_eq_getElem (by omega)] at h5
          exact spot_cell (a := a) h5
        obtain ⟨ps, vs, g1, g2, g3, g4⟩ := elems_read (P := P) (W := W) (e := e) (sz := P.cellsOf e) (b := a.block) len a.off fun i hi => by
          have h1 := hel i hi
          rw [List.getElem?_eq_getElem (by omega)] at h1
          obtain ⟨vs, h2, h3⟩ := Option.bind_eq_some_iff.1 h1
          obtain ⟨ps, k1, k2⟩ := read_plain m n e vs _ hpe h3
          obtain ⟨_, h5, h4⟩ := World.cells?_some h2
          refine ⟨ps, vs, k1, h5, k2, fun j hj => ?_⟩
          have h6 := h4 j (by omega)
          have hs := hspot (by omega)
          rw [addr_eq hs, addr_eq rfl, List.getElem?_eq_getElem hj] at h6
          exact h6
        refine ⟨[.sl false len ps], .sl hu len ps g1, rfl, fun j h1 h2 => ?_⟩
        match j, h1 with
        | 0, _ =>
          refine .sl (fun j => vs.getD j Go.undef) hspot hl (by simp) (fun j hj => ?_) (fun j hj => ?_)
          · have hj2 : j < vs.length := by rw [← g3.1]; exact hj
            show W.cell? _ = _
            rw [List.getD_eq_getElem?_getD, List.getElem?_eq_getElem hj2]
            exact g4 j hj2
          · have hj2 : j < vs.length := by rw [← g3.1]; exact hj
            rw [List.getD_eq_getElem?_getD, List.getElem?_eq_getElem hj2]
            exact g3.2 j hj hj2
    · rename_i fs hu
      obtain ⟨xs, n, _, _, hl, hlen, hf⟩ := DataW.trod_struct hu h
      obtain ⟨ps, g1, g2⟩ := fields_read (P := P) (W := W) hl fs.toList 0 hp fun f hfm hok => by
        obtain ⟨i, hi, rfl⟩ := List.getElem_of_mem hfm
        have hi2 : i < fs.size := by simpa using hi
        have h1 := hf i fs[i] (by simp [hi2])
        rw [List.getElem?_eq_getElem (by omega)] at h1
        simp only [Array.getElem_toList] at hok ⊢
        obtain ⟨ps, k1, k2⟩ := read_plain m n _ _ _ hok h1
        exact ⟨ps, k1, k2⟩
      exact ⟨ps, .struct hu ps g1, g2⟩
    · rename_i k e hu
      simp only [Bool.and_eq_true, beq_iff_eq] at hp
      obtain ⟨xs, n, _, _, hl, hlen, hf⟩ := DataW.trod_array hu h
      obtain ⟨ps, g1, g2⟩ := parts_read (P := P) (W := W) (e := e) (sz := P.cellsOf e) (cs := cs) k 0 (by rw [hl, ← hp.1]; omega) fun i hi => by
        have h1 := hf i hi
        rw [List.getElem?_eq_getElem (by omega)] at h1
        obtain ⟨ps, k1, k2⟩ := read_plain m n _ _ _ hp.2 h1
        rw [Nat.zero_add]
        exact ⟨ps, k1, k2⟩
      exact ⟨ps, .array hu ps g1, g2⟩
    · exact absurd hp (by simp)

/-! ### Arguments -/
theorem relL_agg {ps : List PV} {vs : Array Value} (h : RelL (memR W) ps vs.toList) : VRel (fun _ _ => none) (memR W) (.agg (ps.map .p)) (.agg vs) := by
  refine .agg (by have := h.1; simp at this; simp [this]) fun j h1 h2 => ?_
  have := h.2 j (by simpa using h1) (by simpa using h2)
  simp only [List.getElem_map]
  exact .p (by simpa using this)
theorem relL_one {p : PV} {v : Value} (h : RelL (memR W) [p] [v]) : VRel (fun _ _ => none) (memR W) (.p p) v := .p (h.2 0 (by simp) (by simp))
variable {r : Reach} {b0 : Nat} {v : Value} {d : DataW H} {ps : List MemPlace} {t : TypeId}
theorem read_struct {fs : Array Field} (m : Nat) (hu : P.underlying t = some (.struct fs)) (hp : plainTy P m t = true) (hok : Value.okWide P W r b0 t v) (h : DataW.Trod enc P W 0 (fun _ => true) hd t v d ps) :
    ∃ cs, Plain P t cs ∧ VRel (fun _ _ => none) (memR W) (.agg (cs.map .p)) v := by
  simp only [Value.okWide, hu] at hok
  obtain ⟨vs, rfl, _⟩ := hok
  obtain ⟨fuel, h⟩ := h
  obtain ⟨cs, h1, h2⟩ := read_plain m fuel t _ _ hp h
  exact ⟨cs, h1, relL_agg h2⟩
theorem read_array {n : Nat} {e : TypeId} (m : Nat) (hu : P.underlying t = some (.array n e)) (hp : plainTy P m t = true) (hok : Value.okWide P W r b0 t v) (h : DataW.Trod enc P W 0 (fun _ => true) hd t v d ps) :
    ∃ cs, Plain P t cs ∧ VRel (fun _ _ => none) (memR W) (.agg (cs.map .p)) v := by
  simp only [Value.okWide, hu] at hok
  obtain ⟨vs, rfl, _⟩ := hok
  obtain ⟨fuel, h⟩ := h
  obtain ⟨cs, h1, h2⟩ := read_plain m fuel t _ _ hp h
  exact ⟨cs, h1, relL_agg h2⟩
theorem read_slice {e : TypeId} (m : Nat) (hu : P.underlying t = some (.slice e)) (hp : plainTy P m t = true) (hok : Value.okWide P W r b0 t v) (h : DataW.Trod enc P W 0 (fun _ => true) hd t v d ps) :
    ∃ c, Plain P t [c] ∧ VRel (fun _ _ => none) (memR W) (.p c) v := by
  obtain ⟨a0, len, cap, rfl⟩ := Go.WideShapes.okWide_slice hu hok
  obtain ⟨fuel, h⟩ := h
  obtain ⟨cs, h1, h2⟩ := read_plain m fuel t _ _ hp h
  rcases h1.inv_slice hu with rfl | ⟨n, xs, _, rfl⟩
  · exact ⟨_, h1, relL_one h2⟩
  · exact ⟨_, h1, relL_one h2⟩
theorem read_intA {k : IntKind} (hu : P.underlying t = some (.int k)) (hok : Value.okWide P W r b0 t v) (h : DataW.Trod enc P W 0 (fun _ => true) hd t v d ps) :
    ∃ n, (Lit.int k n).wf = true ∧ VRel (fun _ _ => none) (memR W) (.p (.int k n)) v := by
  obtain ⟨n, rfl⟩ := Go.WideShapes.okWide_int hu hok
  obtain ⟨fuel, h⟩ := h
  obtain ⟨n', h1, _, h2⟩ := DataW.trod_int hu h
  have : n = n' := by simpa [Value.cells] using h1
  subst this
  exact ⟨n, h2, .p (.int _ _)⟩
theorem read_strA (hu : P.underlying t = some .string) (hok : Value.okWide P W r b0 t v) (h : DataW.Trod enc P W 0 (fun _ => true) hd t v d ps) :
    ∃ s, s.size ≤ maxLen ∧ VRel (fun _ _ => none) (memR W) (.p (.str s)) v := by
  obtain ⟨s, rfl⟩ := Go.WideShapes.okWide_string hu hok
  obtain ⟨fuel, h⟩ := h
  obtain ⟨s', h1, _, h2⟩ := DataW.trod_string hu h
  have : s = s' := by simpa [Value.cells] using h1
  subst this
  exact ⟨s, h2, .p (.str _)⟩
end
end Go.D
end
/- What a call's arguments are, as values of D: watches, pairs, lists of watches, rules. -/
section
set_option linter.unusedVariables false
set_option linter.unusedSimpArgs false
set_option maxRecDepth 100000
namespace Go.D
open Go.ChangeShapes Go.WideShapes Go.ChangeAt Go.RowKit

theorem dec3 {a : List PV} (h : Plain PP 3 a) : ∃ n, a = [pI n] := by
  obtain ⟨n, _, rfl⟩ := h.inv_int ul3
  exact ⟨n, rfl⟩
theorem flat1 {α : Type} (f : α → PV) (l : List α) : l.flatMap (fun a => [f a]) = l.map f := by
  induction l with
  | nil => rfl
  | cons a l ih => simp [ih]
theorem dec22 {a : List PV} (h : Plain PP 22 a) : ∃ o, a = [eSl o] := by
  rcases h.inv_slice u22 with rfl | ⟨n, xs, hx, rfl⟩
  · exact ⟨none, rfl⟩
  · obtain ⟨l, rfl, rfl⟩ := hx.inv_rep (f := fun n => [pI n]) fun a ha => dec3 ha
    exact ⟨some l, by rw [flat1]; rfl⟩
theorem dec48 {a : List PV} (h : Plain PP 48 a) : ∃ o, a = [eLs o] := by
  rcases h.inv_slice u48 with rfl | ⟨n, xs, hx, rfl⟩
  · exact ⟨none, rfl⟩
  · obtain ⟨l, rfl, rfl⟩ := hx.inv_rep (f := fun n => [eSl n]) fun a ha => dec22 ha
    exact ⟨some l, by rw [flat1]; rfl⟩
theorem dec27 {a : List PV} (h : Plain PP 27 a) : ∃ o, a = [eWt o] := by
  rcases h.inv_slice u27 with rfl | ⟨n, xs, hx, rfl⟩
  · exact ⟨none, rfl⟩
  · obtain ⟨l, rfl, rfl⟩ := hx.inv_rep (f := fun n => [eLs n]) fun a ha => dec48 ha
    exact ⟨some l, by rw [flat1]; rfl⟩
theorem dec98 {a : List PV} (h : Plain PP 98 a) : ∃ p : Pr, a = [pI p.i, pI p.o] := by
  have h1 := h.inv_struct Go.Proofs.Try.underlying98
  obtain ⟨a1, b1, h2, h3, rfl⟩ := PlainL.inv_cons h1
  obtain ⟨a2, b2, h4, h5, rfl⟩ := PlainL.inv_cons h3
  obtain ⟨x, rfl⟩ := dec3 h2
  obtain ⟨y, rfl⟩ := dec3 h4
  obtain rfl := PlainL.inv_nil h5
  exact ⟨⟨x, y⟩, rfl⟩
theorem flat98 (l : List Pr) : l.flatMap (fun p => [pI p.i, pI p.o]) = ePrs l := by
  induction l with
  | nil => rfl
  | cons a l ih => simp [ih, ePrs]
theorem dec31 {a : List PV} (h : Plain PP 31 a) : ∃ o, a = [ePs o] := by
  rcases h.inv_slice u31 with rfl | ⟨n, xs, hx, rfl⟩
  · exact ⟨none, rfl⟩
  · obtain ⟨l, rfl, rfl⟩ := hx.inv_rep (f := fun p : Pr => [pI p.i, pI p.o]) fun a ha => dec98 ha
    exact ⟨some l, by rw [flat98]; rfl⟩
theorem dec56 {a : List PV} (h : Plain PP 56 a) : ∃ o, a = [eWs o] := by
  rcases h.inv_slice u56 with rfl | ⟨n, xs, hx, rfl⟩
  · exact ⟨none, rfl⟩
  · obtain ⟨l, rfl, rfl⟩ := hx.inv_rep (f := fun n => [eWt n]) fun a ha => dec27 ha
    exact ⟨some l, by rw [flat1]; rfl⟩

section
variable {H : Type} {enc : TypeId × Value → H} {W : World} {hd : Bool} {r : Reach} {b0 : Nat} {v : Value} {d : DataW H} {ps : List MemPlace}
theorem read_wt (hok : Value.okWide PP W r b0 27 v) (h : DataW.Trod enc PP W 0 (fun _ => true) hd 27 v d ps) : ∃ o, VRel (fun _ _ => none) (memOf W) (.p (eWt o)) v := by
  obtain ⟨c, h1, h2⟩ := read_slice 8 u27 (by kernel_rfl) hok h
  obtain ⟨o, ho⟩ := dec27 h1
  injection ho with ho
  exact ⟨o, by rw [← ho]; exact h2⟩
theorem read_ws (hok : Value.okWide PP W r b0 56 v) (h : DataW.Trod enc PP W 0 (fun _ => true) hd 56 v d ps) : ∃ o, VRel (fun _ _ => none) (memOf W) (.p (eWs o)) v := by
  obtain ⟨c, h1, h2⟩ := read_slice 8 u56 (by kernel_rfl) hok h
  obtain ⟨o, ho⟩ := dec56 h1
  injection ho with ho
  exact ⟨o, by rw [← ho]; exact h2⟩
theorem read_prs (hok : Value.okWide PP W r b0 31 v) (h : DataW.Trod enc PP W 0 (fun _ => true) hd 31 v d ps) : ∃ o, VRel (fun _ _ => none) (memOf W) (.p (ePs o)) v := by
  obtain ⟨c, h1, h2⟩ := read_slice 8 u31 (by kernel_rfl) hok h
  obtain ⟨o, ho⟩ := dec31 h1
  injection ho with ho
  exact ⟨o, by rw [← ho]; exact h2⟩
end
end Go.D
end
/- Unimplied watches: the program's search. -/
section
set_option linter.unusedVariables false
set_option linter.unusedSimpArgs false
namespace Go.D
open RnW
/-- What holds of all that is found. -/
structure IW (ls : List W3) (w : W3) (q : List QE) : Prop where
  nd : (q.map (·.n)).Nodup
  ok : ∀ x ∈ q, NOk ls w x.n
  pl : ∀ x ∈ q, x.p.length < q.length
  pr : ∀ x ∈ q, ∀ v ∈ x.p, (0 : Int) ≤ v ∧ v < 9
theorem IW.add {ls : List W3} {w : W3} {q : List QE} {n p : List Int} (h : IW ls w q) (hn : NOk ls w n) (hp : p.length ≤ q.length) (hv : ∀ v ∈ p, (0 : Int) ≤ v ∧ v < 9) : IW ls w (addN q n p) := by
  unfold addN
  split
  · exact h
  · rename_i hh
    have hh : ¬ ∃ x ∈ q, x.n = n := fun e => hh (hasN_mem.2 e)
    have hm : ∀ y ∈ q ++ [(⟨n, p⟩ : QE)], y ∈ q ∨ y = ⟨n, p⟩ := fun y hy => by simpa using hy
    refine ⟨?_, fun y hy => ?_, fun y hy => ?_, fun y hy => ?_⟩
    · rw [List.map_append, List.nodup_append]
      refine ⟨h.nd, by simp, fun a ha b hb => ?_⟩
      obtain ⟨x, hx, rfl⟩ := List.mem_map.1 ha
      have : b = n := by simpa using hb
      subst this
      exact fun e => hh ⟨x, hx, e⟩
    · rcases hm y hy with h1 | rfl
      · exact h.ok y h1
      · exact hn
    · rw [List.length_append]
      rcases hm y hy with h1 | rfl
      · have := h.pl y h1; simp; omega
      · simp; omega
    · rcases hm y hy with h1 | rfl
      · exact h.pr y h1
      · exact hv
theorem IW.le {ls : List W3} {w : W3} {q : List QE} (hw : WsOk ls w) (h : IW ls w q) : q.length ≤ 1296 := by
  have h1 : (q.map (·.n)).length ≤ (allTo [6, 6, 6, 6]).length := by
    refine nodup_le h.nd fun n hn => ?_
    obtain ⟨x, hx, rfl⟩ := List.mem_map.1 hn
    have hk := h.ok x hx
    refine allTo_mem (by rw [hk.len]; rfl) fun i h1 h2 => ?_
    have hi : i < 4 := by rw [hk.len] at h1; exact h1
    have e6 : (([6, 6, 6, 6] : List Nat)[i] : Nat) = 6 := by
      match i, hi with
      | 0, _ => rfl
      | 1, _ => rfl
      | 2, _ => rfl
      | 3, _ => rfl
    rw [e6, ← getD_at 0 h1]
    by_cases h3 : i < 3
    · by_cases hl : i < ls.length
      · have a := hk.own i hl
        have b := (hw.l i hl).n6
        omega
      · rw [hk.rest i (by omega) h3]; omega
    · have : i = 3 := by omega
      subst this
      have a := hk.oth
      have b := hw.w.n6
      omega
  rw [allTo_len, List.length_map] at h1
  exact h1

section
variable {σ0 : Store} {r2 r3 : Nat} {ws : Option (List OW)} {w : OW} (h2 : σ0[r2]? = some (.mix [.p (eWs ws)])) (h3 : σ0[r3]? = some (.mix [.p (eWt w)])) (hw : WsOk ((L ws).map wl) (wl w))
include h2 h3 hw
theorem L114_0 {x : QE} {m s to b : Nat} {q0 : List QE} (hx : NOk ((L ws).map wl) (wl w) x.n) (hbs : b ≠ s) (hpx : ∀ v ∈ x.p, (0 : Int) ≤ v ∧ v < 9) (hpl : x.p.length < q0.length) :
    ∀ (k c : Nat) (σ : Store) (q : List QE), 9 - c = k → c ≤ 9 → SS σ0 σ m s q to → IW ((L ws).map wl) (wl w) q → q0 <+: q → σ[b]? = some (.mix (qeD x)) →
    ∃ r σ', f114_L0 guardT σ0.length (.ptr s 0) (.ptr r2 0) (.ptr r3 0) (.ptr b 0) (.p (pI (c : Nat))) σ = some (r, σ') ∧
      ((∃ p, visWF ((L ws).map wl) (wl w) x k c q = .inl p ∧ p ≠ [] ∧ ∃ a v, r = .osl a v 1 p.length (eInts p)) ∨ (∃ q', visWF ((L ws).map wl) (wl w) x k c q = .inr q' ∧ r = .p .nilsl ∧ SS σ0 σ' m s q' to ∧ IW ((L ws).map wl) (wl w) q' ∧ q0 <+: q'))
  | 0, c, σ, q, hk, hc, hS, hI, hpre, hb => by
    have hn : ¬ (c : Int) < 9 := by omega
    refine ⟨.p .nilsl, σ, ?_, .inr ⟨q, rfl, rfl, hS, hI, hpre⟩⟩
    rw [f114_L0_eq guardT rfl]
    simp only [b_lss, b_eql, b_neq, b_leq, b_geq, b_gtr, hn, guard_tt, guard_ff, guard_tf, guard_ft, guard_sk, obind, omap, pickV_true, pickV_false, condK_true, condK_false, decide_true, decide_false, Bool.not_true, Bool.not_false, not_bool]
  | k + 1, c, σ, q, hk, hc, hS, hI, hpre, hb => by
    have hc9 : c < 9 := by omega
    have h' : (c : Int) < 9 := by omega
    have hql := hI.le hw
    have hp := badC hc9
    have hlle := hS.lle
    have hbl := get_lt hb
    have hpq : x.p.length < q.length := Nat.lt_of_lt_of_le hpl hpre.length_le
    -- the boxes
    have n1 := storeNew (lo := σ0.length) (cs := prD (prC c)) (z := [.p (pI 0), .p (pI 0)]) s98 σ rfl rfl rfl hlle
    have n2 := storeNew (lo := σ0.length) (cs := nodeD x.n) (z := nodeD [0, 0, 0, 0]) s180 (σ ++ [Row.mix (prD (prC c))]) rfl (by rw [nodeD_len, hx.len]) (nodeD_one _) (by simp; omega)
    have hb1 : (σ ++ [Row.mix (prD (prC c))])[b]? = some (.mix (qeD x)) := get_old hb
    have ln4 : loadN (σ ++ [Row.mix (prD (prC c))]) 4 (.ptr b 0) = some (nodeD x.n) := loadN_ptr hb1 (by
      have e : (nodeD x.n).length = 4 := by rw [nodeD_len, hx.len]
      rw [List.drop_zero, qeD, List.take_append_of_le_length (by omega), List.take_of_length_le (by omega)]) (by simp [qeD, nodeD, hx.len])
    have gy : ((σ ++ [Row.mix (prD (prC c))]) ++ [Row.mix (nodeD x.n)])[(σ ++ [Row.mix (prD (prC c))]).length]? = some (.mix (nodeD x.n)) := get_snoc
    have gz : ((σ ++ [Row.mix (prD (prC c))]) ++ [Row.mix (nodeD x.n)])[σ.length]? = some (.mix (prD (prC c))) := get_old get_snoc
    have gb : ((σ ++ [Row.mix (prD (prC c))]) ++ [Row.mix (nodeD x.n)])[b]? = some (.mix (qeD x)) := get_old hb1
    have hS2 : SS σ0 ((σ ++ [Row.mix (prD (prC c))]) ++ [Row.mix (nodeD x.n)]) m s q to := (hS.snoc _).snoc _
    have hyl : (σ ++ [Row.mix (prD (prC c))]).length = σ.length + 1 := by simp
    have hsl : s < σ.length := by obtain ⟨lay, e, _⟩ := hS.st; exact get_lt e
    generalize hY : (σ ++ [Row.mix (prD (prC c))]).length = y at *
    generalize hR : (σ ++ [Row.mix (prD (prC c))]) ++ [Row.mix (nodeD x.n)] = ρ at *
    have hr2 : ρ[r2]? = some (.mix [.p (eWs ws)]) := hS2.low _ _ h2
    obtain ⟨σ', e1, k1, k2, k3, k4, k5⟩ := L114_1 hw hx hp (y := y) (z := σ.length) (b := b) (by omega) (by omega) (by omega) (by omega) (.ptr r2 0) (.ptr r3 0) (.p (pI (c : Nat))) _ 0 ρ (Nat.sub_zero _) (Nat.zero_le _) hS2 gb gz gy
    have hJ : ∀ σ'', f114_J0 guardT σ0.length (.ptr s 0) (.ptr r2 0) (.ptr r3 0) (.ptr b 0) (.p (pI (c : Nat))) σ'' = f114_L0 guardT σ0.length (.ptr s 0) (.ptr r2 0) (.ptr r3 0) (.ptr b 0) (.p (pI (c + 1 : Nat))) σ'' := by
      intro σ''
      rw [f114_J0_eq]
      simp only [b_add, wrap_succ (show c ≤ 1000000 by omega), guard_tt, guard_ff, guard_tf, guard_ft, guard_sk, obind, omap, pickV_true, pickV_false, condK_true, condK_false, decide_true, decide_false, Bool.not_true, Bool.not_false, not_bool]
    have hnl : ¬ (((L ws).length : Nat) : Int) < ((L ws).length : Nat) := by omega
    have head : ∀ R, f114_L1 guardT σ0.length (.ptr s 0) (.ptr r2 0) (.ptr r3 0) (.ptr b 0) (.p (pI (c : Nat))) (.ptr σ.length 0) (.ptr y 0) (.p (.bool (keepK ((L ws).map wl) x.n (prC c) (L ws).length))) (.p (pI (c : Nat))) (.p (eWs ws)) (.p (pI ((L ws).length : Nat))) (.p (pI ((L ws).length : Nat))) σ' = R →
        f114_L0 guardT σ0.length (.ptr s 0) (.ptr r2 0) (.ptr r3 0) (.ptr b 0) (.p (pI (c : Nat))) σ = R := by
      intro R hRR
      rw [f114_L0_eq guardT rfl]
      have hbld : build PP 98 [(0, .p (pI ((c / 3 : Nat)))), (1, .p (pI ((c % 3 : Nat))))] = some (.agg (prD (prC c))) := bld98 _ _
      simp only [b_lss, b_eql, b_neq, b_leq, b_geq, b_gtr, h', guard_tt, guard_ff, guard_tf, guard_ft, guard_sk, obind, omap, pickV_true, pickV_false, condK_true, condK_false, decide_true, decide_false, Bool.not_true, Bool.not_false, not_bool, b_quo3 c (by omega), b_rem3, hbld, zero98, n1, faF0, shift_ptr, shift_pptr, Nat.zero_add, Nat.add_zero, pureFn_fn, List.append_nil, List.singleton_append, List.cons_append, List.nil_append, loadN', ln4, zero180, hY, n2, hR, load56, load1_ptr (off := 0) hr2 rfl, len56]
      exact e1.trans hRR
    have hlen3 : ((L ws).map wl).length = (L ws).length := List.length_map _
    unfold visWF
    rw [hlen3]
    cases hkk : keepK ((L ws).map wl) x.n (prC c) (L ws).length with
    | false =>
      obtain ⟨r, σ'', f1, f2⟩ := L114_0 hx hbs hpx hpl k (c + 1) σ' q (by omega) (by omega) k1 hI hpre k2
      refine ⟨r, σ'', head _ ?_, ?_⟩
      · rw [f114_L1_eq guardT rfl, hkk]
        simp only [b_lss, b_eql, b_neq, b_leq, b_geq, b_gtr, hnl, guard_tt, guard_ff, guard_tf, guard_ft, guard_sk, obind, omap, pickV_true, pickV_false, condK_true, condK_false, decide_true, decide_false, Bool.not_true, Bool.not_false, not_bool, hJ]
        exact f1
      · simp only [Bool.false_eq_true, if_false]
        exact f2
    | true =>
      simp only [if_true]
      have hoth := hx.oth
      have hr3 : σ'[r3]? = some (.mix [.p (eWt w)]) := k1.low _ _ h3
      obtain ⟨v1, σ1, ver, c1, _, c2⟩ := clone_app (p := x.p) (l2 := [(c : Int)]) (n := 1) (lo := σ0.length) (σ := σ') (by omega) rfl (by decide) (by decide) k1.lle
      have c2 : append PP σ0.length false 22 22 v1 (.p (.sl true 1 [pI (c : Nat)])) σ1 = some (.osl σ'.length ver 1 (x.p ++ [(c : Int)]).length (eInts (x.p ++ [(c : Int)])), σ' ++ [.tok ver]) := c2
      have t3 : (σ' ++ [Row.tok ver])[r3]? = some (.mix [.p (eWt w)]) := get_old hr3
      have tb : (σ' ++ [Row.tok ver])[b]? = some (.mix (qeD x)) := get_old k2
      have tz : (σ' ++ [Row.tok ver])[σ.length]? = some (.mix (prD (prC c))) := get_old k3
      have ty : (σ' ++ [Row.tok ver])[y]? = some (.mix (nodeD (toK ((L ws).map wl) x.n (prC c) (L ws).length))) := get_old k4
      have tS := k1.snoc (.tok ver)
      have hpl2 : loadN (σ' ++ [Row.tok ver]) 2 (.ptr σ.length 0) = some (prD (prC c)) := loadN_ptr tz rfl (by simp [prD])
      have hS94 := S94 (σ := σ' ++ [Row.tok ver]) hw.w hoth hp
      have hyl2 : (toK ((L ws).map wl) x.n (prC c) (L ws).length).length = 4 := by rw [toK_len, hx.len]
      have hst := store1 (lo := σ0.length) sz3 ty (off := 3) (v := .p (pI (nextW (wl w) (x.n.getD 3 0) (prC c)))) (by rw [nodeD_len, hyl2]; omega) rfl rfl (by omega)
      rw [nodeD_set] at hst
      have hto : (toK ((L ws).map wl) x.n (prC c) (L ws).length).set 3 (nextW (wl w) (x.n.getD 3 0) (prC c)) = toW ((L ws).map wl) (wl w) x.n (prC c) := by rw [toW, hlen3]
      rw [hto] at hst
      have hyl3 : (toW ((L ws).map wl) (wl w) x.n (prC c)).length = 4 := by rw [← hto, List.length_set, hyl2]
      have uS := SS.setMix (cs' := nodeD (toW ((L ws).map wl) (wl w) x.n (prC c))) tS ty (by omega) (by omega)
      have uy : ((σ' ++ [Row.tok ver]).set y (.mix (nodeD (toW ((L ws).map wl) (wl w) x.n (prC c)))))[y]? = some (.mix (nodeD (toW ((L ws).map wl) (wl w) x.n (prC c)))) := by rw [List.getElem?_set_self (get_lt ty)]
      have ub : ((σ' ++ [Row.tok ver]).set y (.mix (nodeD (toW ((L ws).map wl) (wl w) x.n (prC c)))))[b]? = some (.mix (qeD x)) := get_set_ne tb (by omega)
      have uy3 : load1 (.ptr y 3) ((σ' ++ [Row.tok ver]).set y (.mix (nodeD (toW ((L ws).map wl) (wl w) x.n (prC c))))) = some (.p (pI (nextW (wl w) (x.n.getD 3 0) (prC c)))) := by
        refine load1_ptr uy ?_
        rw [nodeD_at (by omega), ← hto, getD_set_eq 0 (by omega)]
      have uy4 : loadN ((σ' ++ [Row.tok ver]).set y (.mix (nodeD (toW ((L ws).map wl) (wl w) x.n (prC c))))) 4 (.ptr y 0) = some (nodeD (toW ((L ws).map wl) (wl w) x.n (prC c))) :=
        loadN_ptr uy (by rw [List.drop_zero, List.take_of_length_le (by rw [nodeD_len, hyl3]; exact Nat.le_refl _)]) (by rw [nodeD_len, hyl3]; exact Nat.le_refl _)
      have lb4 : load1 (.ptr b 4) σ' = some (.p (ePth x.p)) := load1_ptr k2 (by
        have e : (nodeD x.n).length = 4 := by rw [nodeD_len, hx.len]
        rw [qeD, List.getElem?_append_right (by omega), e]; rfl)
      generalize (σ' ++ [Row.tok ver]).set y (.mix (nodeD (toW ((L ws).map wl) (wl w) x.n (prC c)))) = τ at *
      by_cases hbk : nextW (wl w) (x.n.getD 3 0) (prC c) = -1
      · rw [hbk] at hst uy3 hS94
        refine ⟨.osl σ'.length ver 1 (x.p ++ [(c : Int)]).length (eInts (x.p ++ [(c : Int)])), τ, head _ ?_, .inl ⟨x.p ++ [(c : Int)], by rw [if_pos hbk], by simp, _, _, rfl⟩⟩
        rw [f114_L1_eq guardT rfl, hkk]
        simp only [b_lss, b_eql, b_neq, b_leq, b_geq, b_gtr, hnl, guard_tt, guard_ff, guard_tf, guard_ft, guard_sk, obind, omap, pickV_true, pickV_false, condK_true, condK_false, decide_true, decide_false, Bool.not_true, Bool.not_false, not_bool, faF0, faF1, fa180_0, fa180_1, shift_ptr, shift_pptr, Nat.zero_add, Nat.add_zero, pureFn_fn, List.append_nil, List.singleton_append, List.cons_append, List.nil_append, load22, lb4, c1, bs22_1, c2, load27', load1_ptr (off := 0) t3 rfl, load3, load1_ptr (off := 3) tb (qeD_at hx.len (by decide)), load98, hpl2, hS94, hst, uy3]
      · rw [if_neg hbk]
        have hne : x.p ++ [(c : Int)] ≠ [] := by simp
        obtain ⟨υ, a1, a2, a3⟩ := add_ok uS hyl3 (p := x.p ++ [(c : Int)]) (x := .osl σ'.length ver 1 (x.p ++ [(c : Int)]).length (eInts (x.p ++ [(c : Int)]))) (.inr ⟨hne, _, _, rfl⟩) (by omega)
        have hI2 : IW ((L ws).map wl) (wl w) (addN q (toW ((L ws).map wl) (wl w) x.n (prC c)) (x.p ++ [(c : Int)])) := by
          refine hI.add (toW_ok hw hx hc9 (by rw [hlen3]; exact hkk) hbk) (by simp; omega) fun v hv => ?_
          rcases List.mem_append.1 hv with h | h
          · exact hpx v h
          · rw [List.mem_singleton.1 h]; omega
        obtain ⟨r, σ'', f1, f2⟩ := L114_0 hx hbs hpx hpl k (c + 1) υ _ (by omega) (by omega) a2 hI2 (hpre.trans (addN_pre _ _ _)) (a3 b _ hbs ub)
        refine ⟨r, σ'', head _ ?_, f2⟩
        rw [f114_L1_eq guardT rfl, hkk]
        simp only [b_lss, b_eql, b_neq, b_leq, b_geq, b_gtr, hnl, guard_tt, guard_ff, guard_tf, guard_ft, guard_sk, obind, omap, pickV_true, pickV_false, condK_true, condK_false, decide_true, decide_false, Bool.not_true, Bool.not_false, not_bool, faF0, faF1, fa180_0, fa180_1, shift_ptr, shift_pptr, Nat.zero_add, Nat.add_zero, pureFn_fn, List.append_nil, List.singleton_append, List.cons_append, List.nil_append, load22, lb4, c1, bs22_1, c2, load27', load1_ptr (off := 0) t3 rfl, load3, load1_ptr (off := 3) tb (qeD_at hx.len (by decide)), load98, hpl2, hS94, hst, uy3, hbk, loadN', uy4, a1, hJ]
        exact f1
theorem hv114 : HV σ0 114 [.ptr r2 0, .ptr r3 0] (visW ((L ws).map wl) (wl w)) (IW ((L ws).map wl) (wl w)) := by
  intro σ q i to x m s hS hI hx hi
  have hm := List.mem_of_getElem? hx
  have hxn := hI.ok x hm
  have hsl : s < σ.length := by obtain ⟨lay, e, _⟩ := hS.st; exact get_lt e
  obtain ⟨r, σ', e1, e2⟩ := L114_0 h2 h3 hw (q0 := q) hxn (b := σ.length) (s := s) (by omega) (hI.pr x hm) (hI.pl x hm) _ 0 (σ ++ [.mix (qeD x)]) q (Nat.sub_zero _) (Nat.zero_le _) (hS.snoc _) hI (List.prefix_refl _) get_snoc
  refine ⟨r, σ', ?_, e2⟩
  show CC σ0.length 114 ([.ptr s 0, .agg (qeD x)] ++ [.ptr r2 0, .ptr r3 0]) σ = _
  refine F114_call ?_
  rw [F114_eq]
  simp only [box_agg (qeD_one x), guard_tt, guard_ff, guard_tf, guard_ft, guard_sk, obind, omap, pickV_true, pickV_false, condK_true, condK_false, decide_true, decide_false, Bool.not_true, Bool.not_false, not_bool]
  exact e1
end
end Go.D
end
/- Lists that grow from a literal; equal lists; what unimplied answers. -/
section
set_option linter.unusedVariables false
set_option linter.unusedSimpArgs false
namespace Go.D
/-- A list that grows: nothing yet, a literal, or a row of its own from B on. -/
def Grow (σ : Store) (B sz n : Nat) (cs : List PV) (x : DV) : Prop :=
  cs.length = n * sz ∧ ((n = 0 ∧ x = .p .nilsl) ∨ x = .p (.sl true n cs) ∨ ∃ r ver, x = .osl r ver sz n cs ∧ σ[r]? = some (.tok ver) ∧ B ≤ r)
theorem Grow.push {σ : Store} {t e lo B sz b n m : Nat} {z : List DV} {cs vs : List PV} {x : DV} (hs : srcType PP t = true) (hu : PP.underlying t = some (.slice e)) (h1 : size? PP e = some sz) (h2 : bytes? PP e = some b) (h3 : zeroOf PP e = some z)
    (h4 : z.length = sz) (hz : 0 < sz) (hb : 0 < b) (hb2 : b ≤ 1000) (hv : vs.length = m * sz) (hm : m ≠ 0) (hm2 : m ≤ 1000) (ho : Grow σ B sz n cs x) (hn : n ≤ 1000000) (hlo : lo ≤ B) (hB : B ≤ σ.length) :
    ∃ r ver σ', append PP lo false t t x (.p (.sl true m vs)) σ = some (.osl r ver sz (n + m) (cs ++ vs), σ') ∧ Grow σ' B sz (n + m) (cs ++ vs) (.osl r ver sz (n + m) (cs ++ vs)) ∧ σ'[r]? = some (.tok ver) ∧ B ≤ r ∧ (∀ (j : Nat) (row : Row), j < B → σ[j]? = some row → σ'[j]? = some row) ∧ σ.length ≤ σ'.length ∧ (∀ (j : Nat) (row : Row), (∀ ver', row ≠ .tok ver') → σ[j]? = some row → σ'[j]? = some row) := by
  have hsrc : source σ sz (.p (.sl true m vs)) = some (m, vs.map DV.p) := by simp [source, hv]
  have hz0 : ¬ (z.length ≠ sz ∨ sz = 0) := by omega
  have e1 : (n + m) * b ≤ 140737488355328 := Nat.le_trans (Nat.mul_le_mul (show n + m ≤ 1001000 by omega) hb2) (by decide)
  have e2 : n + m ≤ 140737488355328 := by omega
  have hnm : n + m ≠ 0 := by omega
  obtain ⟨hc, ho⟩ := ho
  have hl : (cs ++ vs).length = (n + m) * sz := by rw [List.length_append, hc, hv, Nat.add_mul]
  rcases ho with ⟨rfl, rfl⟩ | rfl | ⟨r, ver, rfl, hr, hBr⟩
  · have hcs : cs = [] := List.length_eq_zero_iff.1 (by simpa using hc)
    subst hcs
    refine ⟨σ.length, 0, σ ++ [.tok 0], ?_, ⟨hl, .inr (.inr ⟨_, _, rfl, get_snoc, hB⟩)⟩, get_snoc, hB, fun j row _ h => get_old h, by simp, fun j row _ h => get_old h⟩
    simp only [append, hs, hu, h1, h2, h3, hz0, hsrc, appNil]
    simp only [Nat.zero_add] at e1 e2 ⊢
    simp [e1, e2, hb, hm, pures_map]
  · refine ⟨σ.length, 0, σ ++ [.tok 0], ?_, ⟨hl, .inr (.inr ⟨_, _, rfl, get_snoc, hB⟩)⟩, get_snoc, hB, fun j row _ h => get_old h, by simp, fun j row _ h => get_old h⟩
    simp only [append, hs, hu, h1, h2, h3, hz0, hsrc, appLit]
    simp [e1, e2, hb, hm, hc, pures_map]
  · refine ⟨r, ver + 1, σ.set r (.tok (ver + 1)), ?_, ⟨hl, .inr (.inr ⟨_, _, rfl, ?_, hBr⟩)⟩, ?_, hBr, fun j row hj h => get_set_ne h (by omega), by simp, fun j row hj h => get_set_ne h ?_⟩
    · have hlr : lo ≤ r := by omega
      simp only [append, hs, hu, h1, h2, h3, hz0, hsrc, appTok]
      simp [e1, e2, hb, hc, hlr, hr, pures_map]
    · rw [List.getElem?_set_self (get_lt hr)]
    · rw [List.getElem?_set_self (get_lt hr)]
    · rintro rfl
      rw [hr] at h
      injection h with h
      exact hj ver h.symm
theorem Grow.snoc {σ : Store} {B sz n : Nat} {cs : List PV} {x : DV} {r : Row} (h : Grow σ B sz n cs x) : Grow (σ ++ [r]) B sz n cs x := by
  refine ⟨h.1, ?_⟩
  rcases h.2 with h | h | ⟨q, ver, h1, h2, h3⟩
  · exact .inl h
  · exact .inr (.inl h)
  · exact .inr (.inr ⟨q, ver, h1, get_old h2, h3⟩)
theorem Grow.ext {σ σ' : Store} {B sz n : Nat} {cs : List PV} {x : DV} (h : Grow σ B sz n cs x) (he : Ext σ σ') : Grow σ' B sz n cs x := by
  refine ⟨h.1, ?_⟩
  rcases h.2 with h | h | ⟨q, ver, h1, h2, h3⟩
  · exact .inl h
  · exact .inr (.inl h)
  · exact .inr (.inr ⟨q, ver, h1, he _ _ h2, h3⟩)
/-- What is seen of it in a call. -/
theorem Grow.vw {σ : Store} {B sz n : Nat} {cs : List PV} {x : DV} (h : Grow σ B sz n cs x) (hn : n ≠ 0) : view x = .p (.sl false n (loosens cs)) := by
  rcases h.2 with h | rfl | ⟨q, ver, rfl, _⟩
  · exact absurd h.1 hn
  · simp [view, viewCell, loosen]
  · simp [view, viewCell]
theorem Grow.pur {σ : Store} {B sz n : Nat} {cs : List PV} {x : DV} (h : Grow σ B sz n cs x) (hn : n ≠ 0) : ∃ ex, x.pure? = some (.sl ex n cs) := by
  rcases h.2 with h | rfl | ⟨q, ver, rfl, _⟩
  · exact absurd h.1 hn
  · exact ⟨true, rfl⟩
  · exact ⟨false, rfl⟩

/-! ### Equal lists -/
theorem L61d {a b : OI} {σ : Store} {lo : Nat} (h0 : (L a).length = (L b).length) (hl : (L a).length ≤ 1000000) :
    ∀ (k i : Nat), (L a).length - i = k → i ≤ (L a).length → f61_L0 guardT lo (.p (eSl a)) (.p (eSl b)) (.p (pI (i : Nat))) σ = some (.p (.bool (decide ((L a).drop i = (L b).drop i))), σ)
  | 0, i, hk, hi => by
    have : ¬ (i : Int) < ((L a).length : Nat) := by omega
    rw [f61_L0_eq guardT rfl, List.drop_eq_nil_of_le (by omega), List.drop_eq_nil_of_le (by omega)]
    simp only [len22, b_lss, b_eql, b_neq, b_leq, b_geq, b_gtr, guard_tt, guard_ff, guard_tf, guard_ft, guard_sk, obind, omap, pickV_true, pickV_false, condK_true, condK_false, decide_true, decide_false, Bool.not_true, Bool.not_false, not_bool, this]
  | k + 1, i, hk, hi => by
    have h : i < (L a).length := by omega
    have hb : i < (L b).length := by omega
    have h' : (i : Int) < ((L a).length : Nat) := by omega
    have ih := L61d (σ := σ) (lo := lo) h0 hl k (i + 1) (by omega) (by omega)
    rw [f61_L0_eq guardT rfl, drop_cons h, drop_cons hb]
    by_cases e : (L a)[i] = (L b)[i]
    · simp only [len22, b_lss, b_eql, b_neq, b_leq, b_geq, b_gtr, guard_tt, guard_ff, guard_tf, guard_ft, guard_sk, obind, omap, pickV_true, pickV_false, condK_true, condK_false, decide_true, decide_false, Bool.not_true, Bool.not_false, not_bool, h', idx22 h, idx22 hb, load3, load1_ints h, load1_ints hb, e, b_add, wrap_succ (show i ≤ 1000000 by omega), ih, List.cons.injEq, true_and]
    · simp only [len22, b_lss, b_eql, b_neq, b_leq, b_geq, b_gtr, guard_tt, guard_ff, guard_tf, guard_ft, guard_sk, obind, omap, pickV_true, pickV_false, condK_true, condK_false, decide_true, decide_false, Bool.not_true, Bool.not_false, not_bool, h', idx22 h, idx22 hb, load3, load1_ints h, load1_ints hb, e, List.cons.injEq, false_and]
theorem S61d {a b : OI} {σ : Store} (hl : (L a).length ≤ 1000000) : pureV CC 61 [.p (eSl a), .p (eSl b)] σ = some (.p (.bool (decide (L a = L b)))) := by
  refine pureV_free (by simp [sl_view]) rfl (F61_call (r := (.p (.bool (decide (L a = L b))), [])) ?_) rfl
  rw [F61_eq]
  by_cases h : (L a).length = (L b).length
  · have := L61d (lo := 0) (σ := []) h hl _ 0 rfl (Nat.zero_le _)
    simp only [List.drop_zero] at this
    simp only [len22, b_lss, b_eql, b_neq, b_leq, b_geq, b_gtr, guard_tt, guard_ff, guard_tf, guard_ft, guard_sk, obind, omap, pickV_true, pickV_false, condK_true, condK_false, decide_true, decide_false, Bool.not_true, Bool.not_false, not_bool, h]
    exact this
  · have h2 : ¬ ((L a).length : Int) = ((L b).length : Nat) := by omega
    have h3 : ¬ L a = L b := fun e => h (by rw [e])
    simp only [len22, b_lss, b_eql, b_neq, b_leq, b_geq, b_gtr, guard_tt, guard_ff, guard_tf, guard_ft, guard_sk, obind, omap, pickV_true, pickV_false, condK_true, condK_false, decide_true, decide_false, Bool.not_true, Bool.not_false, not_bool, h2, h3]
theorem idx22x {ex : Bool} {n i : Nat} {cs : List PV} (h : i < n) : indexAddr PP 22 (.p (.sl ex n cs)) (.p (.int .i64 (i : Nat))) = some (.pptr cs i) := by
  have h2 : (0 : Int) ≤ (i : Int) ∧ (i : Int) < (n : Nat) := by omega
  simp [indexAddr, u22, s3, h2, h]

/-! ### What unimplied answers -/
def pathP (p : List Int) : List Pr := p.map fun c => prC c.toNat
def unRes (ls : List W3) (w : W3) : Option (List Int) := bfsQ (visW ls w) 1297 0 [⟨[0, 0, 0, 0], []⟩]
theorem nok0 {ls : List W3} {w : W3} (hw : WsOk ls w) : NOk ls w [0, 0, 0, 0] := by
  have h3 := hw.k
  refine ⟨rfl, fun i hi => ?_, ?_, fun i h1 h2 => ?_⟩
  · have := (hw.l i hi).n1
    have e : ([0, 0, 0, 0] : List Int).getD i 0 = 0 := by
      match i, (show i < 3 by omega) with
      | 0, _ => rfl
      | 1, _ => rfl
      | 2, _ => rfl
    rw [e]; omega
  · have := hw.w.n1
    show (0 : Int) ≤ 0 ∧ (0 : Int) < _
    omega
  · match i, h2 with
    | 0, _ => rfl
    | 1, _ => rfl
    | 2, _ => rfl
theorem iw0 {ls : List W3} {w : W3} (hw : WsOk ls w) : IW ls w [⟨[0, 0, 0, 0], []⟩] := by
  refine ⟨by simp, fun x hx => ?_, fun x hx => ?_, fun x hx v hv => ?_⟩
  · rw [List.mem_singleton.1 hx]; exact nok0 hw
  · rw [List.mem_singleton.1 hx]; simp
  · rw [List.mem_singleton.1 hx] at hv; exact absurd hv (by simp)
theorem visWF_ok {ls : List W3} {w : W3} (hw : WsOk ls w) {x : QE} (hx : NOk ls w x.n) (hpx : ∀ v ∈ x.p, (0 : Int) ≤ v ∧ v < 9) : ∀ (k c : Nat) (q : List QE), 9 - c = k → c ≤ 9 → IW ls w q → x.p.length < q.length →
    (∃ p, visWF ls w x k c q = .inl p ∧ (∀ v ∈ p, (0 : Int) ≤ v ∧ v < 9) ∧ p ≠ [] ∧ p.length ≤ 1300) ∨ (∃ q', visWF ls w x k c q = .inr q' ∧ IW ls w q' ∧ q <+: q')
  | 0, c, q, hk, hc, hI, hl => .inr ⟨q, rfl, hI, List.prefix_refl _⟩
  | k + 1, c, q, hk, hc, hI, hl => by
    have hc9 : c < 9 := by omega
    have hq := hI.le hw
    have hv : ∀ v ∈ x.p ++ [(c : Int)], (0 : Int) ≤ v ∧ v < 9 := by
      intro v hv
      rcases List.mem_append.1 hv with h | h
      · exact hpx v h
      · rw [List.mem_singleton.1 h]; omega
    unfold visWF
    split
    · rename_i h1
      split
      · exact .inl ⟨_, rfl, hv, by simp, by simp; omega⟩
      · rename_i h2
        have hI2 := hI.add (toW_ok hw hx hc9 h1 h2) (p := x.p ++ [(c : Int)]) (by simp; omega) hv
        have hpre := addN_pre q (toW ls w x.n (prC c)) (x.p ++ [(c : Int)])
        rcases visWF_ok hw hx hpx k (c + 1) _ (by omega) (by omega) hI2 (Nat.lt_of_lt_of_le hl hpre.length_le) with h | ⟨q', a1, a2, a3⟩
        · exact .inl h
        · exact .inr ⟨q', a1, a2, hpre.trans a3⟩
    · exact visWF_ok hw hx hpx k (c + 1) q (by omega) (by omega) hI hl
theorem bfsW_ok {ls : List W3} {w : W3} (hw : WsOk ls w) : ∀ (k i : Nat) (q : List QE) {p : List Int}, IW ls w q → bfsQ (visW ls w) k i q = some p → (∀ v ∈ p, (0 : Int) ≤ v ∧ v < 9) ∧ p ≠ [] ∧ p.length ≤ 1300
  | 0, i, q, p, hI, h => by simp [bfsQ] at h
  | k + 1, i, q, p, hI, h => by
    unfold bfsQ at h
    split at h
    · exact absurd h (by simp)
    · rename_i x hx
      have hm := List.mem_of_getElem? hx
      rcases visWF_ok hw (hI.ok x hm) (hI.pr x hm) 9 0 q rfl (by omega) hI (hI.pl x hm) with ⟨p', a1, a2, a3, a4⟩ | ⟨q', a1, a2, a3⟩
      · have a1 : visW ls w x q = .inl p' := a1
        rw [a1] at h
        have : p' = p := by simpa using h
        subst this
        exact ⟨a2, a3, a4⟩
      · have a1 : visW ls w x q = .inr q' := a1
        rw [a1] at h
        exact bfsW_ok hw k (i + 1) q' a2 h
theorem build182 : build PP 182 [] = some (.agg (nodeD [0, 0, 0, 0] ++ [.p .nilsl])) := Eq.trans (by kernel_rfl) rfl
theorem L76 {p : List Int} (hp : ∀ v ∈ p, (0 : Int) ≤ v ∧ v < 9) (hl : p.length ≤ 1300) (x6 : DV) : ∀ (k i : Nat) (x : DV) (σ : Store), p.length - i = k → i ≤ p.length → Out σ 0 2 i (ePrs ((pathP p).take i)) x →
    ∃ x' σ', f76_L0 guardT 0 x6 x (.p (.sl false p.length (eInts p))) (.p (pI (p.length : Nat))) (.p (pI (i : Nat))) σ = ((binOp PP .neq 22 x6 (.p .nilsl)).bind fun x31 => some (.tuple [x', x31], σ')) ∧ Out σ' 0 2 p.length (ePrs (pathP p)) x'
  | 0, i, x, σ, hk, hi, ho => by
    have : i = p.length := by omega
    subst this
    have hn : ¬ ((p.length : Nat) : Int) < (p.length : Nat) := by omega
    rw [List.take_of_length_le (by simp [pathP])] at ho
    refine ⟨x, σ, ?_, ho⟩
    rw [f76_L0_eq guardT rfl]
    simp only [b_lss, b_eql, b_neq, b_leq, b_geq, b_gtr, hn, guard_tt, guard_ff, guard_tf, guard_ft, guard_sk, obind, omap, pickV_true, pickV_false, condK_true, condK_false, decide_true, decide_false, Bool.not_true, Bool.not_false, not_bool]
  | k + 1, i, x, σ, hk, hi, ho => by
    have h : i < p.length := by omega
    have h' : (i : Int) < (p.length : Nat) := by omega
    have hv := hp _ (List.getElem_mem h)
    have hc : p[i] = ((p[i].toNat : Nat) : Int) := by omega
    obtain ⟨x', σ', e1, o1, _⟩ := ho.push31 (p := prC p[i].toNat) (by omega) (Nat.zero_le _)
    have hbld : build PP 98 [(0, .p (pI ((p[i].toNat / 3 : Nat)))), (1, .p (pI ((p[i].toNat % 3 : Nat))))] = some (.agg (prD (prC p[i].toNat))) := bld98 _ _
    have e3 : ePrs ((pathP p).take (i + 1)) = ePrs ((pathP p).take i) ++ ePrs [prC p[i].toNat] := by
      rw [List.take_succ_eq_append_getElem (by simpa [pathP] using h), prs_append]
      simp [pathP]
    rw [← e3] at o1
    obtain ⟨x'', σ'', f1, f2⟩ := L76 hp hl x6 k (i + 1) x' σ' (by omega) (by omega) o1
    refine ⟨x'', σ'', ?_, f2⟩
    rw [f76_L0_eq guardT rfl]
    simp only [b_lss, b_eql, b_neq, b_leq, b_geq, b_gtr, h', guard_tt, guard_ff, guard_tf, guard_ft, guard_sk, obind, omap, pickV_true, pickV_false, condK_true, condK_false, decide_true, decide_false, Bool.not_true, Bool.not_false, not_bool, idx22x h, load3, load1_ints h]
    rw [hc]
    simp only [b_quo3 _ (show p[i].toNat ≤ 1000000 by omega), b_rem3, guard_tt, guard_ff, guard_tf, guard_ft, guard_sk, obind, omap, pickV_true, pickV_false, condK_true, condK_false, decide_true, decide_false, Bool.not_true, Bool.not_false, not_bool, hbld, bs31_1, e1, b_add, wrap_succ (show i ≤ 1000000 by omega)]
    exact f1
theorem S76 {ws : Option (List OW)} {w : OW} {σ : Store} (hw : WsOk ((L ws).map wl) (wl w)) : pureV CC 76 [.p (eWs ws), .p (eWt w)] σ =
    some (match unRes ((L ws).map wl) (wl w) with | none => .tuple [.p .nilsl, .p (.bool false)] | some p => .tuple [.p (ePs (some (pathP p))), .p (.bool true)]) := by
  have hrun := RnW.run_ok (σ0 := ([Row.mix [.p (eWs ws)], Row.mix [.p (eWt w)]] : Store)) (hv114 (r2 := 0) (r3 := 1) rfl rfl hw) (fun q hq => hq.le hw) (by decide) (bq := [⟨[0, 0, 0, 0], []⟩]) (fun x hx => by rw [List.mem_singleton.1 hx]; rfl) (by simp) (iw0 hw) rfl
  have hrun2 : pureV CC 113 [.p (.sl true 1 (eInts [0, 0, 0, 0] ++ [.nilsl])), .fn 114 [.ptr 0 0, .ptr 1 0]] ([Row.mix [.p (eWs ws)], Row.mix [.p (eWt w)]] : Store) = some (match unRes ((L ws).map wl) (wl w) with | none => .p .nilsl | some p => .p (.sl false p.length (eInts p))) := by
    rw [pureV_view (args' := [.p (.sl false 1 (qsP [⟨[0, 0, 0, 0], []⟩])), .fn 114 [.ptr 0 0, .ptr 1 0]]) rfl rfl]
    exact hrun
  have hbs := RnW.bsp 0 0 0 0 .nilsl
  cases hu : unRes ((L ws).map wl) (wl w) with
  | none =>
    rw [hu] at hrun2
    obtain ⟨x', σ', f1, f2⟩ := L76 (p := []) (fun v hv => absurd hv (by simp)) (by decide) (.p .nilsl) _ 0 (.p .nilsl) ([Row.mix [.p (eWs ws)], Row.mix [.p (eWt w)]] : Store) rfl (Nat.le_refl _) Out.zero
    have hn : ¬ ((0 : Nat) : Int) < (0 : Nat) := by decide
    refine pureV_free (by simp [ws_view, wt_view]) rfl (F76_call (r := (.tuple [.p .nilsl, .p (.bool false)], ([Row.mix [.p (eWs ws)], Row.mix [.p (eWt w)]] : Store))) ?_) rfl
    rw [F76_eq]
    simp only [box_ws, box_wt, guard_tt, guard_ff, guard_tf, guard_ft, guard_sk, obind, omap, pickV_true, pickV_false, condK_true, condK_false, decide_true, decide_false, Bool.not_true, Bool.not_false, not_bool, build182, hbs, List.length_nil, List.length_cons, shift_ptr, shift_pptr, Nat.zero_add, Nat.add_zero, pureFn_fn, List.append_nil, List.singleton_append, List.cons_append, List.nil_append, hrun2, len22_nil]
    rw [f76_L0_eq guardT rfl]
    simp only [b_lss, b_eql, b_neq, b_leq, b_geq, b_gtr, Int.lt_irrefl, guard_tt, guard_ff, guard_tf, guard_ft, guard_sk, obind, omap, pickV_true, pickV_false, condK_true, condK_false, decide_true, decide_false, Bool.not_true, Bool.not_false, not_bool, neq22_nn]
  | some p =>
    rw [hu] at hrun2
    obtain ⟨hp, hp0, hpl⟩ := bfsW_ok hw _ _ _ (iw0 hw) hu
    obtain ⟨x', σ', f1, f2⟩ := L76 hp hpl (.p (.sl false p.length (eInts p))) _ 0 (.p .nilsl) ([Row.mix [.p (eWs ws)], Row.mix [.p (eWt w)]] : Store) rfl (Nat.zero_le _) Out.zero
    have hpn : ¬ p.length = 0 := fun e => hp0 (List.length_eq_zero_iff.1 e)
    refine pureV_free (by simp [ws_view, wt_view]) rfl (F76_call (r := (.tuple [x', .p (.bool true)], σ')) ?_) ?_
    · rw [F76_eq]
      have hln : ∀ σ, len PP 22 (.p (.sl false p.length (eInts p))) σ = some (.p (pI (p.length : Nat))) := fun σ => by simp [len, u22]
      simp only [box_ws, box_wt, guard_tt, guard_ff, guard_tf, guard_ft, guard_sk, obind, omap, pickV_true, pickV_false, condK_true, condK_false, decide_true, decide_false, Bool.not_true, Bool.not_false, not_bool, build182, hbs, List.length_nil, List.length_cons, shift_ptr, shift_pptr, Nat.zero_add, Nat.add_zero, pureFn_fn, List.append_nil, List.singleton_append, List.cons_append, List.nil_append, hrun2, hln]
      refine f1.trans ?_
      simp only [neq22_sl, guard_tt, guard_ff, guard_tf, guard_ft, guard_sk, obind, omap, pickV_true, pickV_false, condK_true, condK_false, decide_true, decide_false, Bool.not_true, Bool.not_false, not_bool]
    · obtain ⟨r, ver, rfl⟩ := f2.osl hpn
      simp [thawAll, mapO, thawPart, thaw, thaw1, thawP, loosen, loosens_prs, ePs, pathP]
end Go.D
end
/- Unimplied watches: the reference's search. -/
section
set_option linter.unusedVariables false
set_option linter.unusedSimpArgs false
namespace Go.D
theorem Grow.below {σ σ' : Store} {B sz n : Nat} {cs : List PV} {x : DV} (h : Grow σ B sz n cs x) (he : ∀ (j : Nat) (row : Row), j < σ.length → σ[j]? = some row → σ'[j]? = some row) : Grow σ' B sz n cs x :=
  h.ext fun j row e => he j row (get_lt e) e
/-! ### States of watches, as the reference keeps them -/
def stN (k : Nat) (n : List Int) : List Int := n.getD 3 0 :: n.take k
def prO (p : List Int) : OP := if p = [] then none else some (pathP p)
def wdP (ex : Bool) (k : Nat) (x : QE) : List PV := [ePs (prO x.p), .sl ex (k + 1) (eInts (stN k x.n))]
def wsP (ex : Bool) (k : Nat) (q : List QE) : List PV := q.flatMap (wdP ex k)
theorem wsP_app (ex : Bool) (k : Nat) (a b : List QE) : wsP ex k (a ++ b) = wsP ex k a ++ wsP ex k b := by simp [wsP]
theorem wsP_len (ex : Bool) (k : Nat) : ∀ q : List QE, (wsP ex k q).length = q.length * 2
  | [] => rfl
  | x :: q => by
    show (wdP ex k x ++ wsP ex k q).length = _
    rw [List.length_append, wsP_len ex k q, List.length_cons, Nat.add_mul]
    simp [wdP]; omega
theorem wsP_at (ex : Bool) (k : Nat) : ∀ {q : List QE} {i : Nat} {x : QE}, q[i]? = some x → (wsP ex k q)[i * 2]? = some (ePs (prO x.p)) ∧ (wsP ex k q)[i * 2 + 1]? = some (.sl ex (k + 1) (eInts (stN k x.n)))
  | [], i, x, h => by simp at h
  | y :: q, 0, x, h => by
    have e : y = x := by simpa using h
    subst e
    exact ⟨rfl, rfl⟩
  | y :: q, i + 1, x, h => by
    have ih := wsP_at ex k (q := q) (i := i) (x := x) (by simpa using h)
    have e : wsP ex k (y :: q) = ePs (prO y.p) :: .sl ex (k + 1) (eInts (stN k y.n)) :: wsP ex k q := rfl
    rw [e, show (i + 1) * 2 = i * 2 + 1 + 1 by omega]
    simpa using ih
theorem loosens_wsP (ex : Bool) (k : Nat) : ∀ q : List QE, loosens (wsP ex k q) = wsP false k q
  | [] => rfl
  | x :: q => by
    have e : wsP ex k (x :: q) = ePs (prO x.p) :: .sl ex (k + 1) (eInts (stN k x.n)) :: wsP ex k q := rfl
    have e2 : loosen (ePs (prO x.p)) = ePs (prO x.p) := by cases prO x.p <;> simp [ePs, loosen, loosens_prs]
    rw [e, loosens, loosens, loosens_wsP ex k q, e2]
    simp [loosen, loosens_ints]
    rfl
theorem stN_len {ls : List W3} {w : W3} {n : List Int} (h : NOk ls w n) (hk : ls.length ≤ 3) : (stN ls.length n).length = ls.length + 1 := by
  have := h.len
  simp [stN]; omega
theorem stN_inj {ls : List W3} {w : W3} {n n' : List Int} (h : NOk ls w n) (h' : NOk ls w n') (hk : ls.length ≤ 3) : stN ls.length n = stN ls.length n' ↔ n = n' := by
  constructor
  · intro e
    have l1 := h.len
    have l2 := h'.len
    have e1 : n.getD 3 0 = n'.getD 3 0 := by injection e
    have e2 : n.take ls.length = n'.take ls.length := by injection e
    refine List.ext_getElem (by omega) fun i h1 h2 => ?_
    rw [← getD_at 0 h1, ← getD_at 0 h2]
    by_cases hi : i < ls.length
    · have e3 : (n.take ls.length)[i]? = (n'.take ls.length)[i]? := by rw [e2]
      rw [List.getElem?_take, List.getElem?_take] at e3
      simp only [hi, if_true] at e3
      rw [List.getD_eq_getElem?_getD, List.getD_eq_getElem?_getD, e3]
    · by_cases h3 : i < 3
      · rw [h.rest i (by omega) h3, h'.rest i (by omega) h3]
      · have : i = 3 := by omega
        subst this
        exact e1
  · rintro rfl; rfl
theorem met_has {ls : List W3} {w : W3} {q : List QE} {n : List Int} (hk : ls.length ≤ 3) (hn : NOk ls w n) (hq : ∀ x ∈ q, NOk ls w x.n) : (q.any fun x => decide (stN ls.length x.n = stN ls.length n)) = hasN q n := by
  unfold hasN
  induction q with
  | nil => rfl
  | cons x q ih =>
    rw [List.any_cons, List.any_cons, ih fun y hy => hq y (by simp [hy])]
    have := stN_inj (hq x (by simp)) hn hk
    simp only [this]
/-- The next states, one by one. -/
def nxS (ls : List W3) (w : W3) (n : List Int) (pr : Pr) (k : Nat) : List Int := nextW w (n.getD 3 0) pr :: (List.range k).map fun j => nextW (ls.getD j []) (n.getD j 0) pr
theorem nxS_len (ls : List W3) (w : W3) (n : List Int) (pr : Pr) (k : Nat) : (nxS ls w n pr k).length = k + 1 := by simp [nxS]
theorem nxS_succ (ls : List W3) (w : W3) (n : List Int) (pr : Pr) (k : Nat) : eInts (nxS ls w n pr (k + 1)) = eInts (nxS ls w n pr k) ++ [pI (nextW (ls.getD k []) (n.getD k 0) pr)] := by
  simp [nxS, eInts, List.range_succ]
theorem nxS_st {ls : List W3} {w : W3} {n : List Int} {pr : Pr} (hn : n.length = 4) (hk : ls.length ≤ 3) : stN ls.length (toW ls w n pr) = nxS ls w n pr ls.length := by
  have hl : (toW ls w n pr).length = 4 := by rw [toW, List.length_set, toK_len, hn]
  unfold stN nxS
  have e1 : (toW ls w n pr).getD 3 0 = nextW w (n.getD 3 0) pr := by rw [toW, getD_set_eq 0 (by rw [toK_len, hn]; decide)]
  have e2 : (toW ls w n pr).take ls.length = (List.range ls.length).map fun j => nextW (ls.getD j []) (n.getD j 0) pr := by
    refine List.ext_getElem (by simp [hl]; omega) fun i h1 h2 => ?_
    have hi : i < ls.length := by simp at h2; exact h2
    rw [List.getElem_take, List.getElem_map, List.getElem_range, ← getD_at 0 (by omega), toW, getD_set_ne 0 (by omega), toK_at hn _ (by omega), if_pos hi]
  rw [e1, e2]

/-! ### The reference's met -/
theorem u135 : PP.underlying 135 = some (.slice 134) := Eq.trans (by kernel_rfl) rfl
theorem s134 : size? PP 134 = some 2 := Eq.trans (by kernel_rfl) rfl
theorem bytes134 : bytes? PP 134 = some 48 := Eq.trans (by kernel_rfl) rfl
theorem zero134 : zeroOf PP 134 = some [.p .nilsl, .p .nilsl] := Eq.trans (by kernel_rfl) rfl
theorem src135 : srcType PP 135 = true := Eq.trans (by kernel_rfl) rfl
theorem fa134_0 (x : DV) : fieldAddr PP 134 x 0 = shiftPtr x 0 := Eq.trans (by kernel_rfl) rfl
theorem fa134_1 (x : DV) : fieldAddr PP 134 x 1 = shiftPtr x 1 := Eq.trans (by kernel_rfl) rfl
theorem idx135 {σ : Store} {B n i : Nat} {cs : List PV} {x : DV} (h : Grow σ B 2 n cs x) (hi : i < n) : indexAddr PP 135 x (.p (pI (i : Nat))) = some (.pptr cs (i * 2)) := by
  have h2 : (0 : Int) ≤ (i : Int) ∧ (i : Int) < (n : Nat) := by omega
  rcases h.2 with h | rfl | ⟨q, ver, rfl, _⟩
  · omega
  · simp [indexAddr, u135, s134, h2, hi]
  · simp [indexAddr, u135, s134, h2, hi]
theorem len135 {σ : Store} {B n : Nat} {cs : List PV} {x : DV} (h : Grow σ B 2 n cs x) (σ' : Store) : len PP 135 x σ' = some (.p (pI (n : Nat))) := by
  rcases h.2 with ⟨rfl, rfl⟩ | rfl | ⟨q, ver, rfl, _⟩ <;> simp [len, u135]
theorem L77 {k : Nat} {q : List QE} {t : List Int} {σ : Store} {lo : Nat} (hk : k ≤ 3) (hst : ∀ x ∈ q, (stN k x.n).length = k + 1) (hl : q.length ≤ 100000) :
    ∀ (r i : Nat), q.length - i = r → i ≤ q.length → f77_L0 guardT lo (.p (.sl false q.length (wsP false k q))) (.p (eSl (some t))) (.p (pI (i : Nat))) σ = some (.p (.bool ((q.drop i).any fun x => decide (stN k x.n = t))), σ)
  | 0, i, hr, hi => by
    have : ¬ (i : Int) < (q.length : Nat) := by omega
    rw [f77_L0_eq guardT rfl, List.drop_eq_nil_of_le (by omega)]
    simp only [len, u135, b_lss, b_eql, b_neq, b_leq, b_geq, b_gtr, guard_tt, guard_ff, guard_tf, guard_ft, guard_sk, obind, omap, pickV_true, pickV_false, condK_true, condK_false, decide_true, decide_false, Bool.not_true, Bool.not_false, not_bool, this, List.any_nil]
  | r + 1, i, hr, hi => by
    have h : i < q.length := by omega
    have h' : (i : Int) < (q.length : Nat) := by omega
    have ih := L77 (σ := σ) (lo := lo) (t := t) hk hst hl r (i + 1) (by omega) (by omega)
    have hs := hst _ (List.getElem_mem h)
    have hat := wsP_at false k (List.getElem?_eq_getElem h)
    have hix : indexAddr PP 135 (.p (.sl false q.length (wsP false k q))) (.p (pI (i : Nat))) = some (.pptr (wsP false k q) (i * 2)) := by
      have h2 : (0 : Int) ≤ (i : Int) ∧ (i : Int) < (q.length : Nat) := by omega
      simp [indexAddr, u135, s134, h2, h]
    have hes : (.p (.sl false (k + 1) (eInts (stN k q[i].n))) : DV) = .p (eSl (some (stN k q[i].n))) := by simp [eSl, hs]
    have h61 : pureV CC 61 [.p (eSl (some (stN k q[i].n))), .p (eSl (some t))] σ = some (.p (.bool (decide (stN k q[i].n = t)))) := S61d (a := some _) (b := some _) (by show (stN k q[i].n).length ≤ 1000000; omega)
    rw [f77_L0_eq guardT rfl, drop_cons h, List.any_cons]
    simp only [len, u135, b_lss, b_eql, b_neq, b_leq, b_geq, b_gtr, guard_tt, guard_ff, guard_tf, guard_ft, guard_sk, obind, omap, pickV_true, pickV_false, condK_true, condK_false, decide_true, decide_false, Bool.not_true, Bool.not_false, not_bool, h', hix, fa134_1, shift_ptr, shift_pptr, Nat.zero_add, Nat.add_zero, pureFn_fn, List.append_nil, List.singleton_append, List.cons_append, List.nil_append, load22, load1_pptr hat.2, hes, h61]
    cases decide (stN k q[i].n = t) with
    | true => simp only [guard_tt, guard_ff, guard_tf, guard_ft, guard_sk, obind, omap, pickV_true, pickV_false, condK_true, condK_false, decide_true, decide_false, Bool.not_true, Bool.not_false, not_bool, Bool.true_or]
    | false => simp only [guard_tt, guard_ff, guard_tf, guard_ft, guard_sk, obind, omap, pickV_true, pickV_false, condK_true, condK_false, decide_true, decide_false, Bool.not_true, Bool.not_false, not_bool, Bool.false_or, b_add, wrap_succ (show i ≤ 1000000 by omega), ih]
theorem S77 {k : Nat} {q : List QE} {t : List Int} {σ : Store} (hk : k ≤ 3) (hst : ∀ x ∈ q, (stN k x.n).length = k + 1) (hl : q.length ≤ 100000) : pureV CC 77 [.p (.sl false q.length (wsP false k q)), .p (eSl (some t))] σ = some (.p (.bool (q.any fun x => decide (stN k x.n = t)))) := by
  have hv : view (.p (.sl false q.length (wsP false k q))) = .p (.sl false q.length (wsP false k q)) := by simp [view, viewCell, loosen, loosens_wsP]
  refine pureV_free (by simp [hv, sl_view]) rfl (F77_call (r := (.p (.bool (q.any fun x => decide (stN k x.n = t))), [])) ?_) rfl
  rw [F77_eq]
  have := L77 (lo := 0) (σ := []) (t := t) hk hst hl _ 0 rfl (Nat.zero_le _)
  rw [List.drop_zero] at this
  exact this

/-! ### One pair -/
theorem rdW {w : OW} (hw : WOk (wl w) (wl w).length) {s : Int} (hs : 0 ≤ s ∧ s < ((wl w).length : Nat)) : (indexAddr PP 27 (.p (eWt w)) (.p (pI s)) = some (.pptr ((L w).map eLs) s.toNat)) ∧ (∀ σ, load1 (.pptr ((L w).map eLs) s.toNat) σ = some (.p (eLs (rowsA w s.toNat)))) ∧
    (∀ a : Nat, a < 3 → indexAddr PP 48 (.p (eLs (rowsA w s.toNat))) (.p (pI (a : Nat))) = some (.pptr ((L (rowsA w s.toNat)).map eSl) a)) ∧ (∀ a : Nat, a < 3 → ∀ σ, load1 (.pptr ((L (rowsA w s.toNat)).map eSl) a) σ = some (.p (eSl (rowA w s.toNat a)))) ∧
    (∀ a b : Nat, a < 3 → b < 3 → indexAddr PP 22 (.p (eSl (rowA w s.toNat a))) (.p (pI (b : Nat))) = some (.pptr (eInts (L (rowA w s.toNat a))) b)) ∧ (∀ a b : Nat, a < 3 → b < 3 → ∀ σ, load1 (.pptr (eInts (L (rowA w s.toNat a))) b) σ = some (.p (pI (cell3 (wl w) s.toNat a b)))) := by
  have q0 : s.toNat < (wl w).length := by omega
  have w1 := w_s q0
  exact ⟨idx27i hs.1 w1, fun σ => load1_wt w1 σ, fun a ha => idx48 (w_i hw q0 ha), fun a ha σ => load1_ls (w_i hw q0 ha) σ, fun a b ha hb => idx22 (w_o hw q0 ha hb), fun a b ha hb σ => by rw [load1_getD (w_o hw q0 ha hb), ← wl_cell]⟩
section
variable {ws : Option (List OW)} {w : OW} (hw : WsOk ((L ws).map wl) (wl w)) {x : QE} {q : List QE} {i c : Nat} (hx : NOk ((L ws).map wl) (wl w) x.n) (hxi : q[i]? = some x) (hc : c < 9)
include hw hx hxi hc
theorem L26_4 {x8 : DV} {ex : Bool} (hpl : q.length ≤ 2000) : ∀ (r k : Nat) (σ : Store) (x12 : DV) (B : Nat), (L ws).length - k = r → k ≤ (L ws).length → B ≤ σ.length → Grow σ 0 2 q.length (wsP ex (L ws).length q) x8 → (∀ a v n cs, x8 = .osl a v 2 n cs → a < B) →
    Grow σ B 1 (k + 1) (eInts (nxS ((L ws).map wl) (wl w) x.n (prC c) k)) x12 → ((k = 0 ∧ x12 = .p (.sl true (k + 1) (eInts (nxS ((L ws).map wl) (wl w) x.n (prC c) k)))) ∨ (k ≠ 0 ∧ ∃ r ver, x12 = .osl r ver 1 (k + 1) (eInts (nxS ((L ws).map wl) (wl w) x.n (prC c) k)))) →
    ∃ x12' σ', f26_L4 guardT 0 (.p (eWs ws)) (.p (eWt w)) x8 (.p (pI (i : Nat))) (.p (pI ((c / 3 : Nat)))) (.p (pI ((c % 3 : Nat)))) x12 (.p (.bool (keepK ((L ws).map wl) x.n (prC c) k))) (.p (pI (k : Nat))) σ =
      f26_L4 guardT 0 (.p (eWs ws)) (.p (eWt w)) x8 (.p (pI (i : Nat))) (.p (pI ((c / 3 : Nat)))) (.p (pI ((c % 3 : Nat)))) x12' (.p (.bool (keepK ((L ws).map wl) x.n (prC c) (L ws).length))) (.p (pI ((L ws).length : Nat))) σ' ∧
      Grow σ' B 1 ((L ws).length + 1) (eInts (nxS ((L ws).map wl) (wl w) x.n (prC c) (L ws).length)) x12' ∧ Grow σ' 0 2 q.length (wsP ex (L ws).length q) x8 ∧ B ≤ σ'.length ∧ (((L ws).length = 0 ∧ x12' = .p (.sl true ((L ws).length + 1) (eInts (nxS ((L ws).map wl) (wl w) x.n (prC c) (L ws).length)))) ∨ ((L ws).length ≠ 0 ∧ ∃ r ver, x12' = .osl r ver 1 ((L ws).length + 1) (eInts (nxS ((L ws).map wl) (wl w) x.n (prC c) (L ws).length))))
  | 0, k, σ, x12, B, hr, hk, hB, h8, h8r, h12, hsh => by
    have : k = (L ws).length := by omega
    subst this
    exact ⟨x12, σ, rfl, h12, h8, hB, hsh⟩
  | r + 1, k, σ, x12, B, hr, hk, hB, h8, h8r, h12, hsh => by
    have h : k < (L ws).length := by omega
    have h' : (k : Int) < ((L ws).length : Nat) := by omega
    have hk3 := hw.k
    have hi := (List.getElem?_eq_some_iff.1 hxi).1
    rw [List.length_map] at hk3
    have hwi := hw.l k (by rw [List.length_map]; exact h)
    have hown := hx.own k (by rw [List.length_map]; exact h)
    rw [lsD h] at hwi hown
    obtain ⟨d1, d2, d3, d4, d5, d6⟩ := rdW hwi hown
    have c3 : c / 3 < 3 := by omega
    have m3 : c % 3 < 3 := by omega
    have hst := wsP_at ex (L ws).length hxi
    have hsk : (eInts (stN (L ws).length x.n))[k + 1]? = some (pI (x.n.getD k 0)) := by
      have hn := hx.len
      simp only [stN, eInts, List.map_cons, List.getElem?_cons_succ, List.map_take, List.getElem?_take, h, if_true, List.getElem?_map]
      rw [List.getElem?_eq_getElem (by omega), getD_at 0 (by omega)]; rfl
    have hcell : cell3 (wl ((L ws).getD k none)) (x.n.getD k 0).toNat (c / 3) (c % 3) = nextW (((L ws).map wl).getD k []) (x.n.getD k 0) (prC c) := by rw [lsD h]; rfl
    obtain ⟨a, v, σ', e1, g1, g2, g3, g4, g5, g6⟩ := h12.push (t := 22) (lo := 0) (m := 1) (vs := [pI (nextW (((L ws).map wl).getD k []) (x.n.getD k 0) (prC c))]) src22 u22 s3 bytes3 zero3 rfl (by decide) (by decide) (by decide) rfl (by decide) (by decide) (by omega) (Nat.zero_le _) hB
    rw [← nxS_succ] at g1 e1
    have h8' : Grow σ' 0 2 q.length (wsP ex (L ws).length q) x8 := by
      refine ⟨h8.1, ?_⟩
      rcases h8.2 with t | t | ⟨r', ver, t1, t2, t3⟩
      · exact .inl t
      · exact .inr (.inl t)
      · exact .inr (.inr ⟨r', ver, t1, g4 _ _ (h8r _ _ _ _ t1) t2, t3⟩)
    obtain ⟨x12', σ'', f1, f2, f3, f4⟩ := L26_4 (B := B) hpl r (k + 1) σ' _ (by omega) (by omega) (by omega) h8' h8r g1 (.inr ⟨by omega, a, v, rfl⟩)
    refine ⟨x12', σ'', Eq.trans ?_ f1, f2, f3, f4⟩
    rw [f26_L4_eq guardT rfl, keepK]
    cases hkk : keepK ((L ws).map wl) x.n (prC c) k <;>
      simp only [len56, b_lss, b_eql, b_neq, b_leq, b_geq, b_gtr, h', guard_tt, guard_ff, guard_tf, guard_ft, guard_sk, obind, omap, pickV_true, pickV_false, condK_true, condK_false, decide_true, decide_false, Bool.not_true, Bool.not_false, not_bool, idx56 h, load27', load1_ws h, idx135 h8 hi, fa134_1, shift_ptr, shift_pptr, Nat.zero_add, Nat.add_zero, pureFn_fn, List.append_nil, List.singleton_append, List.cons_append, List.nil_append, load22, load1_pptr hst.2, b_add, wrap_succ (show k ≤ 1000000 by omega), idx22x (show k + 1 < (L ws).length + 1 by omega), load3, load1_pptr hsk, d1, load48, d2, d3 _ c3, d4 _ c3, d5 _ _ c3 m3, d6 _ _ c3 m3, hcell, bs22_1, e1, Bool.true_and, Bool.false_and]
end
end Go.D
end
