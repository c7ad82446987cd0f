/- The turned watch: what the program makes of it. -/
import Derived.Test.YthddgnfaaccgjaaPg
import Derived.Test.YthddgnfaaccgjaaPa
import Derived.ProofKit
import Derived.OpenShut
import Derived.WideShapes
import Derived.Test.YthddgnfaaccgjaaPc
section
set_option linter.unusedVariables false
set_option linter.unusedSimpArgs false
namespace Go.D

/-- Rows that are there stay as they are. -/
def Ext (σ σ' : Store) : Prop := ∀ (j : Nat) (row : Row), σ[j]? = some row → σ'[j]? = some row
theorem Ext.refl (σ : Store) : Ext σ σ := fun _ _ h => h
theorem Ext.trans {a b c : Store} (h : Ext a b) (h2 : Ext b c) : Ext a c := fun j r e => h2 j r (h j r e)
theorem Ext.snoc (σ : Store) (r : Row) : Ext σ (σ ++ [r]) := fun j row h => get_old h

/-- A list of any cells that is appended to. -/
def OutM (σ : Store) (n : Nat) (cs : List DV) (x : DV) : Prop := (n = 0 ∧ cs = [] ∧ x = .p .nilsl) ∨ (∃ q, x = .rsl q 1 0 n ∧ σ[q]? = some (.mix cs) ∧ cs.length = n ∧ n ≠ 0)
theorem OutM.ext {σ σ' : Store} {n : Nat} {cs : List DV} {x : DV} (h : OutM σ n cs x) (he : Ext σ σ') : OutM σ' n cs x := by
  rcases h with h | ⟨q, h1, h2, h3, h4⟩
  · exact .inl h
  · exact .inr ⟨q, h1, he _ _ h2, h3, h4⟩
theorem OutM.pushR {σ : Store} {t e b n : Nat} {cs : List DV} {x v : DV} {z : List DV} (hs : srcType PP t = true) (hu : PP.underlying t = some (.slice e)) (h1 : size? PP e = some 1) (h2 : bytes? PP e = some b) (h3 : zeroOf PP e = some z)
    (h4 : z.length = 1) (hb : 0 < b) (hb2 : b ≤ 1000) (ho : OutM σ n cs x) (hv : v.one = true) (hn : n ≤ 1000000) :
    ∃ x' σ', append PP 0 true t t x (.rsl σ.length 1 0 1) (σ ++ [.mix [v]]) = some (x', σ') ∧ OutM σ' (n + 1) (cs ++ [v]) x' ∧ ∀ j row, σ[j]? = some row → (∀ q, x = .rsl q 1 0 n → j ≠ q) → σ'[j]? = some row := by
  have hsrc : source (σ ++ [.mix [v]]) 1 (.rsl σ.length 1 0 1) = some (1, [v]) := by
    simp [source, loadN]
  have hz0 : ¬ (z.length ≠ 1 ∨ 1 = 0) := by omega
  have e1 : (n + 1) * b ≤ 140737488355328 := Nat.le_trans (Nat.mul_le_mul (show n + 1 ≤ 1000001 by omega) hb2) (by decide)
  have e2 : n + 1 ≤ 140737488355328 := by omega
  rcases ho with ⟨rfl, rfl, rfl⟩ | ⟨q, rfl, hq, hc, hn0⟩
  · refine ⟨.rsl (σ.length + 1) 1 0 1, σ ++ [.mix [v]] ++ [.mix [v]], ?_, .inr ⟨σ.length + 1, rfl, ?_, rfl, by decide⟩, fun j row h _ => get_old (get_old h)⟩
    · have : b ≤ 140737488355328 := by omega
      simp only [append, hs, hu, h1, h2, h3, hz0, hsrc, appNil]
      simp [this, hb]
    · simp
  · have hq' : (σ ++ [Row.mix [v]])[q]? = some (.mix cs) := get_old hq
    refine ⟨.rsl (σ.length + 1) 1 0 (n + 1), (σ ++ [Row.mix [v]]).set q .dead ++ [.mix (cs ++ [v])], ?_, .inr ⟨σ.length + 1, rfl, ?_, by simp [hc], by omega⟩, fun j row h hj => get_old (get_set_ne (get_old h) (hj q rfl))⟩
    · have n1 : ¬ (n + 1 ≤ cs.length) := by omega
      simp only [append, hs, hu, h1, h2, h3, hz0, hsrc, appRow]
      simp only [hq', Nat.zero_add, Nat.mul_one, n1, hc, hv]
      simp [e1, e2, hb, hc, hv]
      exact fun h => absurd h (by omega)
    · simp
theorem bs27_r (R : Nat) (σ : Store) : buildSlice PP (some true) 27 1 [(0, .rsl R 1 0 3)] σ = some (.rsl σ.length 1 0 1, σ ++ [.mix [.rsl R 1 0 3]]) := Eq.trans (by kernel_rfl) rfl

/-- One number put behind a row. -/
theorem ap48 {ρ : Store} {R q v n i : Nat} {M : List DV} {l : List Int} (x : Int) (h : ρ[R]? = some (.mix (M.set i (.osl q v 1 n (eInts l))))) (hq : ρ[q]? = some (.tok v)) (hne : q ≠ R) (hi : i < M.length) (hn : l.length = n) (hn2 : n ≤ 1000) :
    ∃ ρ1 ρ2, load1 (.ptr R i) ρ = some (.osl q v 1 n (eInts l)) ∧ append PP 0 false 22 22 (.osl q v 1 n (eInts l)) (.p (.sl true 1 [pI x])) ρ = some (.osl q (v + 1) 1 (n + 1) (eInts (l ++ [x])), ρ1) ∧
      store PP 0 22 (.ptr R i) (.osl q (v + 1) 1 (n + 1) (eInts (l ++ [x]))) ρ1 = some ρ2 ∧ ρ2[R]? = some (.mix (M.set i (.osl q (v + 1) 1 (n + 1) (eInts (l ++ [x]))))) ∧ ρ2[q]? = some (.tok (v + 1)) ∧ ∀ j row, ρ[j]? = some row → j ≠ q → j ≠ R → ρ2[j]? = some row := by
  have h1 : (ρ.set q (.tok (v + 1)))[R]? = some (.mix (M.set i (.osl q v 1 n (eInts l)))) := get_set_ne h (fun e => hne e.symm)
  refine ⟨ρ.set q (.tok (v + 1)), (ρ.set q (.tok (v + 1))).set R (.mix (M.set i (.osl q (v + 1) 1 (n + 1) (eInts (l ++ [x]))))), load1_ptr h (by simp [hi]), app22_t x hq (Nat.zero_le _) hn hn2, ?_, ?_, ?_, ?_⟩
  · rw [st22m h1 (by simpa using hi) rfl rfl, List.set_set]
  · rw [List.getElem?_set_self (get_lt h1)]
  · exact get_set_ne (by rw [List.getElem?_set_self (get_lt hq)]) hne
  · intro j row hj a b
    exact get_set_ne (get_set_ne hj a) b

section
variable {w : OW} (hw : WOk (wl w) (wl w).length) {s : Nat} (hs : s < (wl w).length)
include hw hs
theorem L95_2 {i R : Nat} {M : List DV} {ρ : Store} (hi : i < 3) (hM : M.length = 3) (hR : ρ[R]? = some (.mix M)) (h0 : M[i]? = some (.p .nilsl)) (x3 x10 x11 : DV) :
    ∃ ρ', f95_L2 guardT 0 x3 (.p (eLs (rowsA w s))) (.rsl R 1 0 3) (.p (pI (i : Nat))) x10 x11 (.p (pI (s : Nat))) (.p (pI (3 : Nat))) (.p (pI (i : Nat))) (.p (eLs (rowsA w s))) (.p (pI (3 : Nat))) (.p (pI (0 : Nat))) ρ =
      f95_L1 guardT 0 x3 (.p (eLs (rowsA w s))) (.rsl R 1 0 3) x10 x11 (.p (pI (s : Nat))) (.p (pI (3 : Nat))) (.p (pI (i + 1 : Nat))) ρ' ∧
      (∃ v, ρ'[R]? = some (.mix (M.set i (.osl ρ.length v 1 3 (eInts (tRow (wl w) s i)))))) ∧ ∀ j row, ρ[j]? = some row → j ≠ R → ρ'[j]? = some row := by
  have c : ∀ k, (L (rowsA w s)).getD k none = rowA w s k := fun k => rfl
  have hRl := get_lt hR
  have hiM : i < M.length := by omega
  -- the first number
  have g0 : (ρ ++ [Row.tok 0])[R]? = some (.mix M) := get_old hR
  have l0 : load1 (.ptr R i) ρ = some (.p .nilsl) := load1_ptr hR h0
  have s0 := st22m g0 (v := .osl ρ.length 0 1 1 (eInts [cell3 (wl w) s 0 i])) hiM rfl rfl
  have a1 : ((ρ ++ [Row.tok 0]).set R (.mix (M.set i (.osl ρ.length 0 1 1 (eInts [cell3 (wl w) s 0 i])))))[R]? = some (.mix (M.set i (.osl ρ.length 0 1 1 (eInts [cell3 (wl w) s 0 i])))) := by rw [List.getElem?_set_self (get_lt g0)]
  have b1 : ((ρ ++ [Row.tok 0]).set R (.mix (M.set i (.osl ρ.length 0 1 1 (eInts [cell3 (wl w) s 0 i])))))[ρ.length]? = some (.tok 0) := get_set_ne get_snoc (by omega)
  have k1 : ∀ j row, ρ[j]? = some row → j ≠ R → ((ρ ++ [Row.tok 0]).set R (.mix (M.set i (.osl ρ.length 0 1 1 (eInts [cell3 (wl w) s 0 i])))))[j]? = some row := fun j row h hj => get_set_ne (get_old h) hj
  generalize (ρ ++ [Row.tok 0]).set R (.mix (M.set i (.osl ρ.length 0 1 1 (eInts [cell3 (wl w) s 0 i])))) = ρa at *
  obtain ⟨ρb, ρc, m1, m2, m3, m4, m5, m6⟩ := ap48 (cell3 (wl w) s 1 i) a1 b1 (by omega) hiM rfl (by decide)
  obtain ⟨ρd, ρe, n1, n2, n3, n4, n5, n6⟩ := ap48 (cell3 (wl w) s 2 i) m4 m5 (by omega) hiM rfl (by decide)
  refine ⟨ρe, ?_, ⟨_, n4⟩, fun j row h hj => ?_⟩
  · rw [f95_L2_eq guardT rfl]
    simp only [b_lss, b_eql, b_neq, b_leq, b_geq, b_gtr, show ((0 : Nat) : Int) < (3 : Nat) by decide, guard_tt, guard_ff, guard_tf, guard_ft, guard_sk, obind, omap, pickV_true, pickV_false, condK_true, condK_false, decide_true, decide_false, Bool.not_true, Bool.not_false, not_bool, idx48 (w_i hw hs (show 0 < 3 by decide)), len27, load48, load22, load3, len48, len22, load1_ls (w_i hw hs (show 0 < 3 by decide)), c, idx48_r hi, Nat.zero_add, l0, idx22 (w_o hw hs (show 0 < 3 by decide) hi), load1_getD (w_o hw hs (show 0 < 3 by decide) hi), ← wl_cell, bs22_1, app22_0, s0, b_add, wrap_succ (show 0 ≤ 1000000 by decide)]
    rw [f95_L2_eq guardT rfl]
    simp only [b_lss, b_eql, b_neq, b_leq, b_geq, b_gtr, show ((1 : Nat) : Int) < (3 : Nat) by decide, guard_tt, guard_ff, guard_tf, guard_ft, guard_sk, obind, omap, pickV_true, pickV_false, condK_true, condK_false, decide_true, decide_false, Bool.not_true, Bool.not_false, not_bool, idx48 (w_i hw hs (show 1 < 3 by decide)), len27, load48, load22, load3, len48, len22, load1_ls (w_i hw hs (show 1 < 3 by decide)), c, idx48_r hi, Nat.zero_add, m1, idx22 (w_o hw hs (show 1 < 3 by decide) hi), load1_getD (w_o hw hs (show 1 < 3 by decide) hi), ← wl_cell, bs22_1, m2, m3, b_add, wrap_succ (show 1 ≤ 1000000 by decide)]
    rw [f95_L2_eq guardT rfl]
    simp only [b_lss, b_eql, b_neq, b_leq, b_geq, b_gtr, show ((1 + 1 : Nat) : Int) < (3 : Nat) by decide, guard_tt, guard_ff, guard_tf, guard_ft, guard_sk, obind, omap, pickV_true, pickV_false, condK_true, condK_false, decide_true, decide_false, Bool.not_true, Bool.not_false, not_bool, idx48 (w_i hw hs (show 1 + 1 < 3 by decide)), len27, load48, load22, load3, len48, len22, load1_ls (w_i hw hs (show 1 + 1 < 3 by decide)), c, idx48_r hi, Nat.zero_add, n1, idx22 (w_o hw hs (show 1 + 1 < 3 by decide) hi), load1_getD (w_o hw hs (show 1 + 1 < 3 by decide) hi), ← wl_cell, bs22_1, Nat.reduceAdd, n2, n3, b_add, wrap_succ (show 2 ≤ 1000000 by decide)]
    rw [f95_L2_eq guardT rfl]
    simp only [b_lss, b_eql, b_neq, b_leq, b_geq, b_gtr, show ¬ ((3 : Nat) : Int) < (3 : Nat) by decide, guard_tt, guard_ff, guard_tf, guard_ft, guard_sk, obind, omap, pickV_true, pickV_false, condK_true, condK_false, decide_true, decide_false, Bool.not_true, Bool.not_false, not_bool, b_add, wrap_succ (show i ≤ 1000000 by omega)]
  · have hj2 : j ≠ ρ.length := by have := get_lt h; omega
    exact n6 j row (m6 j row (k1 j row h hj) hj2 hj) hj2 hj

/-- What a finished state is. -/
def Ent (l : W3) (s : Nat) (σ : Store) (v : DV) : Prop :=
  ∃ R a b c va vb vc, v = .rsl R 1 0 3 ∧ σ[R]? = some (.mix [.osl a va 1 3 (eInts (tRow l s 0)), .osl b vb 1 3 (eInts (tRow l s 1)), .osl c vc 1 3 (eInts (tRow l s 2))])
omit hw hs in
theorem Ent.ext {l : W3} {s : Nat} {σ σ' : Store} {v : DV} (h : Ent l s σ v) (he : Ext σ σ') : Ent l s σ' v := by
  obtain ⟨R, a, b, c, va, vb, vc, h1, h2⟩ := h
  exact ⟨R, a, b, c, va, vb, vc, h1, he _ _ h2⟩
omit hw hs in
theorem mk48_3 (σ : Store) : makeSlice PP true 48 (.p (pI 3)) (.p (pI 3)) σ = some (.rsl σ.length 1 0 3, σ ++ [.mix [.p .nilsl, .p .nilsl, .p .nilsl]]) := mk51 (n := 3) (by decide) σ
omit hw hs in
theorem len48_r (R n : Nat) (σ : Store) : len PP 48 (.rsl R 1 0 n) σ = some (.p (pI (n : Nat))) := by simp [len, u48]
theorem L95_1 (x3 x10 x11 : DV) (σ : Store) :
    ∃ σ' v, f95_L1 guardT 0 x3 (.p (eLs (rowsA w s))) (.rsl σ.length 1 0 3) x10 x11 (.p (pI (s : Nat))) (.p (pI (3 : Nat))) (.p (pI (0 : Nat))) (σ ++ [.mix [.p .nilsl, .p .nilsl, .p .nilsl]]) =
      (append PP 0 true 27 27 x3 (.rsl σ'.length 1 0 1) (σ' ++ [.mix [v]])).bind (fun r => f95_L0 guardT 0 r.1 x10 x11 (.p (pI (s + 1 : Nat))) r.2) ∧ Ext σ σ' ∧ Ent (wl w) s σ' v ∧ v.one = true := by
  have h6 := hw.n6
  have hl : (L (rowsA w s)).length = 3 := by have := hw.rows s hs; rwa [wl_rows, List.length_map] at this
  have hlen : ∀ σ, len PP 48 (.p (eLs (rowsA w s))) σ = some (.p (pI (3 : Nat))) := fun σ => by rw [len48, hl]
  have g0 : (σ ++ [Row.mix [.p .nilsl, .p .nilsl, .p .nilsl]])[σ.length]? = some (.mix [.p .nilsl, .p .nilsl, .p .nilsl]) := get_snoc
  obtain ⟨σ1, e1, ⟨v1, g1⟩, k1⟩ := L95_2 hw hs (i := 0) (by decide) rfl g0 rfl x3 x10 x11
  simp only [List.set_cons_zero] at g1
  obtain ⟨σ2, e2, ⟨v2, g2⟩, k2⟩ := L95_2 hw hs (i := 1) (by decide) rfl g1 rfl x3 x10 x11
  simp only [List.set_cons_zero, List.set_cons_succ] at g2
  obtain ⟨σ3, e3, ⟨v3, g3⟩, k3⟩ := L95_2 hw hs (i := 2) (by decide) rfl g2 rfl x3 x10 x11
  simp only [List.set_cons_zero, List.set_cons_succ] at g3
  refine ⟨σ3, .rsl σ.length 1 0 3, ?_, fun j row h => ?_, ⟨_, _, _, _, _, _, _, rfl, g3⟩, rfl⟩
  · rw [f95_L1_eq guardT rfl]
    simp only [b_lss, b_eql, b_neq, b_leq, b_geq, b_gtr, show ((0 : Nat) : Int) < (3 : Nat) by decide, guard_tt, guard_ff, guard_tf, guard_ft, guard_sk, obind, omap, pickV_true, pickV_false, condK_true, condK_false, decide_true, decide_false, Bool.not_true, Bool.not_false, not_bool, hlen]
    rw [show (DV.p (PV.int IntKind.i64 0)) = (.p (pI ((0 : Nat) : Int))) from rfl, e1, f95_L1_eq guardT rfl]
    simp only [b_lss, b_eql, b_neq, b_leq, b_geq, b_gtr, show ((0 + 1 : Nat) : Int) < (3 : Nat) by decide, guard_tt, guard_ff, guard_tf, guard_ft, guard_sk, obind, omap, pickV_true, pickV_false, condK_true, condK_false, decide_true, decide_false, Bool.not_true, Bool.not_false, not_bool, hlen]
    rw [show (DV.p (PV.int IntKind.i64 0)) = (.p (pI ((0 : Nat) : Int))) from rfl, Nat.zero_add, e2, f95_L1_eq guardT rfl]
    simp only [b_lss, b_eql, b_neq, b_leq, b_geq, b_gtr, show ((1 + 1 : Nat) : Int) < (3 : Nat) by decide, guard_tt, guard_ff, guard_tf, guard_ft, guard_sk, obind, omap, pickV_true, pickV_false, condK_true, condK_false, decide_true, decide_false, Bool.not_true, Bool.not_false, not_bool, hlen]
    rw [show (DV.p (PV.int IntKind.i64 0)) = (.p (pI ((0 : Nat) : Int))) from rfl, show 1 + 1 = 2 from rfl, e3, f95_L1_eq guardT rfl]
    simp only [b_lss, b_eql, b_neq, b_leq, b_geq, b_gtr, show ¬ ((2 + 1 : Nat) : Int) < (3 : Nat) by decide, guard_tt, guard_ff, guard_tf, guard_ft, guard_sk, obind, omap, pickV_true, pickV_false, condK_true, condK_false, decide_true, decide_false, Bool.not_true, Bool.not_false, not_bool, bs27_r, b_add, wrap_succ (show s ≤ 1000000 by omega)]
  · have hj : j ≠ σ.length := by have := get_lt h; omega
    exact k3 j row (k2 j row (k1 j row (get_old h) hj) hj) hj
end
theorem L95_0 {w : OW} (hw : WOk (wl w) (wl w).length) : ∀ (k s : Nat) (x : DV) (cs : List DV) (σ : Store), (wl w).length - s = k → s ≤ (wl w).length → OutM σ s cs x → (∀ i (h : i < cs.length), Ent (wl w) i σ cs[i]) → cs.length = s →
    ∃ x' cs' σ', f95_L0 guardT 0 x (.p (eWt w)) (.p (pI ((L w).length : Nat))) (.p (pI (s : Nat))) σ = some (x', σ') ∧ OutM σ' (wl w).length cs' x' ∧ cs'.length = (wl w).length ∧ ∀ i (h : i < cs'.length), Ent (wl w) i σ' cs'[i]
  | 0, s, x, cs, σ, hk, hs, ho, he, hl => by
    have : s = (wl w).length := by omega
    subst this
    have hn : ¬ (((wl w).length : Nat) : Int) < ((L w).length : Nat) := by rw [wl_len]; omega
    refine ⟨x, cs, σ, ?_, ho, hl, he⟩
    rw [f95_L0_eq guardT rfl]
    simp only [b_lss, b_eql, b_neq, b_leq, b_geq, b_gtr, guard_tt, guard_ff, guard_tf, guard_ft, guard_sk, obind, omap, pickV_true, pickV_false, condK_true, condK_false, decide_true, decide_false, Bool.not_true, Bool.not_false, not_bool, hn]
  | k + 1, s, x, cs, σ, hk, hs, ho, he, hl => by
    have h6 := hw.n6
    have h : s < (wl w).length := by omega
    have h2 : s < (L w).length := by rw [← wl_len]; exact h
    have h' : (s : Int) < ((L w).length : Nat) := by omega
    have e : (L w).getD s none = rowsA w s := rfl
    obtain ⟨σ1, v, e1, x1, en, hv⟩ := L95_1 hw h x (.p (eWt w)) (.p (pI ((L w).length : Nat))) σ
    obtain ⟨x', σ', e2, o2, k2⟩ := (ho.ext x1).pushR (t := 27) (v := v) src27 u27 s48 bytes48 zero48 rfl (by decide) (by decide) hv (by omega)
    have hkeep : ∀ i v, Ent (wl w) i σ1 v → Ent (wl w) i σ' v := by
      rintro i v ⟨R, a, b, c, va, vb, vc, q1, q2⟩
      refine ⟨R, a, b, c, va, vb, vc, q1, k2 _ _ q2 ?_⟩
      rintro q hq rfl
      rcases ho.ext x1 with ⟨_, _, h3⟩ | ⟨q', h3, h4, h5, h6⟩
      · rw [h3] at hq; exact absurd hq (by simp)
      · rw [h3] at hq
        have hqq : q' = R := by injection hq
        rw [hqq, q2] at h4
        injection h4 with h4
        injection h4 with hcs
        have := he 0 (by omega)
        obtain ⟨R', _, _, _, _, _, _, q3, _⟩ := this
        simp only [← hcs, List.getElem_cons_zero] at q3
        exact absurd q3 (by simp)
    have ih := L95_0 hw k (s + 1) x' (cs ++ [v]) σ' (by omega) (by omega) o2 (fun i hi => ?_) (by simp [hl])
    · obtain ⟨x'', cs', σ'', e3, o3⟩ := ih
      refine ⟨x'', cs', σ'', ?_, o3⟩
      rw [f95_L0_eq guardT rfl]
      simp only [b_lss, b_eql, b_neq, b_leq, b_geq, b_gtr, guard_tt, guard_ff, guard_tf, guard_ft, guard_sk, obind, omap, pickV_true, pickV_false, condK_true, condK_false, decide_true, decide_false, Bool.not_true, Bool.not_false, not_bool, h', idx27 h2, len27, load48, load22, load3, len48, len22, load1_wt h2, e, mk48_3, len48_r]
      rw [show (DV.p (PV.int IntKind.i64 0)) = (.p (pI ((0 : Nat) : Int))) from rfl, e1, e2]
      exact e3
    · by_cases hi2 : i < cs.length
      · rw [List.getElem_append_left hi2]
        exact hkeep _ _ ((he i hi2).ext x1)
      · have : i = s := by simp at hi; omega
        subst this
        rw [List.getElem_append_right (by omega)]
        simp only [hl, Nat.sub_self, List.getElem_cons_zero]
        exact hkeep _ _ en
theorem thaw_ent {l : W3} {s : Nat} {σ : Store} {v : DV} (h : Ent l s σ v) : thawP 0 σ 3 v = some (eLs (tRows l s)) := by
  obtain ⟨R, a, b, c, va, vb, vc, rfl, h2⟩ := h
  simp [thawP, h2, mapO, loosens_ints, eLs, tRows, eSl, tRow]
theorem mapO_of {α β : Type} {f : α → Option β} : ∀ {l : List α} {m : List β}, l.length = m.length → (∀ i (h : i < l.length) (h2 : i < m.length), f l[i] = some m[i]) → mapO f l = some m
  | [], [], _, _ => rfl
  | a :: l, b :: m, h, hf => by
    have e1 := hf 0 (by simp) (by simp)
    have e2 := mapO_of (l := l) (m := m) (by simpa using h) fun i h1 h2 => by
      have := hf (i + 1) (by simp; omega) (by simp; omega)
      simpa using this
    simp only [List.getElem_cons_zero] at e1
    simp only [mapO, e1, e2]
theorem S95 {w : OW} {σ : Store} (hw : WOk (wl w) (wl w).length) : pureV CC 95 [.p (eWt w)] σ = some (.p (eWt (turnW (wl w)))) := by
  obtain ⟨x', cs, σ', h1, h2, h3, h4⟩ := L95_0 hw _ 0 (.p .nilsl) [] [] (Nat.sub_zero _) (Nat.zero_le _) (.inl ⟨rfl, rfl, rfl⟩) (fun i h => absurd h (by simp)) rfl
  refine pureV_free (by simp [wt_view]) rfl (F95_call (r := (x', σ')) ?_) ?_
  · rw [F95_eq]
    simp only [len27, load48, load22, load3, len48, len22, guard_tt, guard_ff, guard_tf, guard_ft, guard_sk, obind, omap, pickV_true, pickV_false, condK_true, condK_false, decide_true, decide_false, Bool.not_true, Bool.not_false, not_bool]
    exact h1
  · have hn := hw.n1
    rcases h2 with ⟨h5, _⟩ | ⟨q, rfl, h5, h6, h7⟩
    · omega
    · have e : mapO (thawP 0 σ' 3) cs = some ((List.range (wl w).length).map fun s => eLs (tRows (wl w) s)) := by
        refine mapO_of (by simp [h6]) fun i hi hi2 => ?_
        rw [List.getElem_map, List.getElem_range]
        exact thaw_ent (h4 i hi)
      have ht : cs.take (wl w).length = cs := List.take_of_length_le (by omega)
      simp [thawAll, thawPart, thaw, thaw1, thawP, h5, h6, ht, e, turnW, eWt]
theorem S36 {w : OW} {σ : Store} (hw : WSm w) : pureV CC 36 [.p (eWt w)] σ = some (if wchE (wl w) = 0 then .tuple [.p (eWt (turnW (wl w))), .p (pI 0)] else .tuple [.p .nilsl, .p (pI (wchE (wl w)))]) := by
  by_cases h : wchE (wl w) = 0
  · refine pureV_free (by simp [wt_view]) rfl (F36_call (r := (.tuple [.p (eWt (turnW (wl w))), .p (pI 0)], [])) ?_) ?_
    · rw [F36_eq]
      simp only [shift_ptr, shift_pptr, Nat.zero_add, Nat.add_zero, pureFn_fn, List.append_nil, List.singleton_append, List.cons_append, List.nil_append, S33 hw, h, b_neq, guard_tt, guard_ff, guard_tf, guard_ft, guard_sk, obind, omap, pickV_true, pickV_false, condK_true, condK_false, decide_true, decide_false, Bool.not_true, Bool.not_false, not_bool, S95 (wok_of h)]
    · simp [h, thawAll, mapO, thawPart, thaw, thaw1, thawP, loosen_wt, loosen]
  · refine pureV_free (by simp [wt_view]) rfl (F36_call (r := (.tuple [.p .nilsl, .p (pI (wchE (wl w)))], [])) ?_) ?_
    · rw [F36_eq]
      simp only [shift_ptr, shift_pptr, Nat.zero_add, Nat.add_zero, pureFn_fn, List.append_nil, List.singleton_append, List.cons_append, List.nil_append, S33 hw, h, b_neq, guard_tt, guard_ff, guard_tf, guard_ft, guard_sk, obind, omap, pickV_true, pickV_false, condK_true, condK_false, decide_true, decide_false, Bool.not_true, Bool.not_false, not_bool]
    · simp [h, thawAll, mapO, thawPart, thaw, thaw1, thawP, loosen]
end Go.D
end
/- A search layer by layer, in plain terms: nodes with paths in the order in which they are found. -/
section
set_option linter.unusedVariables false
set_option linter.unusedSimpArgs false
namespace Go.D

structure QE where
  n : List Int
  p : List Int
deriving Inhabited
def ePth (p : List Int) : PV := if p = [] then .nilsl else .sl false p.length (eInts p)
def nodeD (l : List Int) : List DV := l.map fun n => .p (pI n)
def qeP (x : QE) : List PV := eInts x.n ++ [ePth x.p]
def qeD (x : QE) : List DV := nodeD x.n ++ [.p (ePth x.p)]
def qsP (q : List QE) : List PV := q.flatMap qeP
def hasN (q : List QE) (n : List Int) : Bool := q.any fun x => decide (x.n = n)
def addN (q : List QE) (n : List Int) (p : List Int) : List QE := if hasN q n = true then q else q ++ [⟨n, p⟩]
def entN (q : List QE) : List (DV × DV) := q.map fun x => (.agg (nodeD x.n), .p (.bool true))

/-- The search: what vis says of the element at i, with all that is found up to then. -/
def bfsQ (vis : QE → List QE → Sum (List Int) (List QE)) : Nat → Nat → List QE → Option (List Int)
  | 0, _, _ => none
  | k + 1, i, q => match q[i]? with
    | none => none
    | some x => match vis x q with
      | .inl p => some p
      | .inr q' => bfsQ vis k (i + 1) q'

def addE (q : List QE) (x : QE) : List QE := addN q x.n x.p
theorem hasN_app (q r : List QE) (n : List Int) : hasN (q ++ r) n = (hasN q n || hasN r n) := by simp [hasN]
theorem hasN_mem {q : List QE} {n : List Int} : hasN q n = true ↔ ∃ x ∈ q, x.n = n := by simp [hasN]
theorem addN_pre (q : List QE) (n p : List Int) : q <+: addN q n p := by
  unfold addN
  split
  · exact List.prefix_refl _
  · exact List.prefix_append _ _
theorem loosen_pth (p : List Int) : loosen (ePth p) = ePth p := by
  unfold ePth
  split
  · rfl
  · simp [loosen, loosens_ints]
theorem loosens_app (a b : List PV) : loosens (a ++ b) = loosens a ++ loosens b := by
  induction a with
  | nil => rfl
  | cons x a ih => simp only [List.cons_append, loosens, ih]
theorem loosens_qe (x : QE) : loosens (qeP x) = qeP x := by
  unfold qeP
  rw [loosens_app, loosens_ints]
  simp [loosens, loosen_pth]
theorem loosens_qs : ∀ q : List QE, loosens (qsP q) = qsP q
  | [] => rfl
  | x :: q => by
    show loosens (qeP x ++ qsP q) = qeP x ++ qsP q
    rw [loosens_app, loosens_qe, loosens_qs q]
theorem qeP_len (x : QE) : (qeP x).length = x.n.length + 1 := by simp [qeP, eInts]
theorem qsP_app (a b : List QE) : qsP (a ++ b) = qsP a ++ qsP b := by simp [qsP]
theorem qsP_len {K : Nat} : ∀ {q : List QE}, (∀ x ∈ q, x.n.length = K) → (qsP q).length = q.length * (K + 1)
  | [], _ => by simp [qsP]
  | x :: q, h => by
    have h1 := h x (by simp)
    have h2 := qsP_len (q := q) fun y hy => h y (by simp [hy])
    show (qeP x ++ qsP q).length = _
    rw [List.length_append, qeP_len, h1, h2, List.length_cons, Nat.add_mul]
    omega
theorem qeP_map (x : QE) : (qeP x).map DV.p = qeD x := by simp [qeP, qeD, nodeD, eInts]
/-- The cells of one element. -/
theorem qsP_at {K : Nat} : ∀ {q : List QE} {i : Nat} {x : QE}, (∀ x ∈ q, x.n.length = K) → q[i]? = some x → ((qsP q).drop (i * (K + 1))).take (K + 1) = qeP x
  | [], i, x, _, h => by simp at h
  | y :: q, 0, x, hk, h => by
    have e : y = x := by simpa using h
    subst e
    have h1 := hk y (by simp)
    show List.take (K + 1) (List.drop (0 * (K + 1)) (qeP y ++ qsP q)) = _
    rw [Nat.zero_mul, List.drop_zero, List.take_append_of_le_length (by rw [qeP_len, h1]; exact Nat.le_refl _), List.take_of_length_le (by rw [qeP_len, h1]; exact Nat.le_refl _)]
  | y :: q, i + 1, x, hk, h => by
    have h1 := hk y (by simp)
    have ih := qsP_at (q := q) (i := i) (x := x) (fun z hz => hk z (by simp [hz])) (by simpa using h)
    show List.take (K + 1) (List.drop ((i + 1) * (K + 1)) (qeP y ++ qsP q)) = _
    have e : (i + 1) * (K + 1) = (qeP y).length + i * (K + 1) := by rw [qeP_len, h1, Nat.add_mul]; omega
    rw [e, List.drop_append]
    have e2 : List.drop ((qeP y).length + i * (K + 1)) (qeP y) = [] := List.drop_eq_nil_of_le (by omega)
    rw [e2, List.nil_append, Nat.add_sub_cancel_left]
    exact ih

/-! ### Not more than there are -/
theorem nodup_le {α : Type} [DecidableEq α] : ∀ {l u : List α}, l.Nodup → (∀ x ∈ l, x ∈ u) → l.length ≤ u.length
  | [], u, _, _ => Nat.zero_le _
  | a :: l, u, hn, h => by
    have ha := h a (by simp)
    rw [List.nodup_cons] at hn
    have ih := nodup_le (l := l) (u := u.erase a) hn.2 fun x hx => by
      have hne : x ≠ a := fun e => hn.1 (e ▸ hx)
      exact (List.mem_erase_of_ne hne).2 (h x (by simp [hx]))
    have h1 := List.length_erase_of_mem ha
    have h2 : 0 < u.length := List.length_pos_of_mem ha
    simp only [List.length_cons]
    omega
/-- All lists of numbers below bounds. -/
def allTo : List Nat → List (List Int)
  | [] => [[]]
  | b :: bs => (List.range b).flatMap fun (v : Nat) => (allTo bs).map fun l => Int.ofNat v :: l
theorem allTo_len : ∀ bs : List Nat, (allTo bs).length = bs.foldr (· * ·) 1
  | [] => rfl
  | b :: bs => by
    have ih := allTo_len bs
    simp only [allTo, List.length_flatMap, List.length_map, ih, List.foldr_cons]
    induction b with
    | zero => simp
    | succ b ihb => rw [List.range_succ, List.map_append, List.sum_append, ihb, Nat.add_mul]; simp
theorem allTo_mem : ∀ {bs : List Nat} {l : List Int}, l.length = bs.length → (∀ i (h1 : i < l.length) (h2 : i < bs.length), 0 ≤ l[i] ∧ l[i] < (bs[i] : Nat)) → l ∈ allTo bs
  | [], [], _, _ => by simp [allTo]
  | b :: bs, v :: l, hl, h => by
    have h0 := h 0 (by simp) (by simp)
    have ih := allTo_mem (bs := bs) (l := l) (by simpa using hl) fun i h1 h2 => by
      have := h (i + 1) (by simp; omega) (by simp; omega)
      simpa using this
    simp only [List.getElem_cons_zero] at h0
    simp only [allTo, List.mem_flatMap, List.mem_range, List.mem_map]
    refine ⟨v.toNat, by omega, l, ih, ?_⟩
    show ((v.toNat : Nat) : Int) :: l = v :: l
    rw [Int.toNat_of_nonneg h0.1]
end Go.D
end
/- Lists of watches; lists that grow from a literal; equal lists. -/
section
set_option linter.unusedVariables false
set_option linter.unusedSimpArgs false
namespace Go.D
/-- Lists of watches. -/
def eWs : Option (List OW) → PV
  | none => .nilsl
  | some l => .sl false l.length (l.map eWt)
theorem u56 : PP.underlying 56 = some (.slice 27) := Eq.trans (by kernel_rfl) rfl
theorem loosens_ws (l : List OW) : loosens (l.map eWt) = l.map eWt := by
  induction l with
  | nil => rfl
  | cons a l ih => simp only [List.map_cons, loosens, loosen_wt, ih]
theorem loosen_ws (o : Option (List OW)) : loosen (eWs o) = eWs o := by
  cases o <;> simp [eWs, loosen, loosens_ws]
theorem ws_view (o : Option (List OW)) : view (.p (eWs o)) = .p (eWs o) := by simp [view, viewCell, loosen_ws]
theorem box_ws (o : Option (List OW)) : boxV (.p (eWs o)) = some [.p (eWs o)] := rfl
theorem load56 (x : DV) (σ : Store) : load PP 56 x σ = load1 x σ := Eq.trans (by kernel_rfl) rfl
theorem load27' (x : DV) (σ : Store) : load PP 27 x σ = load1 x σ := Eq.trans (by kernel_rfl) rfl
theorem len56 (o : Option (List OW)) (σ : Store) : len PP 56 (.p (eWs o)) σ = some (.p (.int .i64 ((L o).length : Nat))) := by cases o <;> simp [len, u56, eWs]
theorem idx56 {o : Option (List OW)} {i : Nat} (h : i < (L o).length) : indexAddr PP 56 (.p (eWs o)) (.p (.int .i64 (i : Nat))) = some (.pptr ((L o).map eWt) i) := by
  cases o with
  | none => simp at h
  | some l =>
    have h2 : (0 : Int) ≤ (i : Int) ∧ (i : Int) < (l.length : Nat) := by simp at h; omega
    simp [indexAddr, u56, s27, eWs, h2]
theorem load1_ws {l : List OW} {i : Nat} (h : i < l.length) (σ : Store) : load1 (.pptr (l.map eWt) i) σ = some (.p (eWt (l.getD i none))) :=
  load1_pptr (by simp [h, List.getD_eq_getElem?_getD]) σ

/-- A list that grows: nothing yet, a literal, or a row of its own from B on. -/
def Grow (σ : Store) (B sz n : Nat) (cs : List PV) (x : DV) : Prop :=
  cs.length = n * sz ∧ ((n = 0 ∧ x = .p .nilsl) ∨ x = .p (.sl true n cs) ∨ ∃ r ver, x = .osl r ver sz n cs ∧ σ[r]? = some (.tok ver) ∧ B ≤ r)
theorem Grow.push {σ : Store} {t e lo B sz b n m : Nat} {z : List DV} {cs vs : List PV} {x : DV} (hs : srcType PP t = true) (hu : PP.underlying t = some (.slice e)) (h1 : size? PP e = some sz) (h2 : bytes? PP e = some b) (h3 : zeroOf PP e = some z)
    (h4 : z.length = sz) (hz : 0 < sz) (hb : 0 < b) (hb2 : b ≤ 1000) (hv : vs.length = m * sz) (hm : m ≠ 0) (hm2 : m ≤ 1000) (ho : Grow σ B sz n cs x) (hn : n ≤ 1000000) (hlo : lo ≤ B) (hB : B ≤ σ.length) :
    ∃ r ver σ', append PP lo false t t x (.p (.sl true m vs)) σ = some (.osl r ver sz (n + m) (cs ++ vs), σ') ∧ Grow σ' B sz (n + m) (cs ++ vs) (.osl r ver sz (n + m) (cs ++ vs)) ∧ σ'[r]? = some (.tok ver) ∧ B ≤ r ∧ (∀ (j : Nat) (row : Row), j < B → σ[j]? = some row → σ'[j]? = some row) ∧ σ.length ≤ σ'.length ∧ (∀ (j : Nat) (row : Row), (∀ ver', row ≠ .tok ver') → σ[j]? = some row → σ'[j]? = some row) := by
  have hsrc : source σ sz (.p (.sl true m vs)) = some (m, vs.map DV.p) := by simp [source, hv]
  have hz0 : ¬ (z.length ≠ sz ∨ sz = 0) := by omega
  have e1 : (n + m) * b ≤ 140737488355328 := Nat.le_trans (Nat.mul_le_mul (show n + m ≤ 1001000 by omega) hb2) (by decide)
  have e2 : n + m ≤ 140737488355328 := by omega
  have hnm : n + m ≠ 0 := by omega
  obtain ⟨hc, ho⟩ := ho
  have hl : (cs ++ vs).length = (n + m) * sz := by rw [List.length_append, hc, hv, Nat.add_mul]
  rcases ho with ⟨rfl, rfl⟩ | rfl | ⟨r, ver, rfl, hr, hBr⟩
  · have hcs : cs = [] := List.length_eq_zero_iff.1 (by simpa using hc)
    subst hcs
    refine ⟨σ.length, 0, σ ++ [.tok 0], ?_, ⟨hl, .inr (.inr ⟨_, _, rfl, get_snoc, hB⟩)⟩, get_snoc, hB, fun j row _ h => get_old h, by simp, fun j row _ h => get_old h⟩
    simp only [append, hs, hu, h1, h2, h3, hz0, hsrc, appNil]
    simp only [Nat.zero_add] at e1 e2 ⊢
    simp [e1, e2, hb, hm, pures_map]
  · refine ⟨σ.length, 0, σ ++ [.tok 0], ?_, ⟨hl, .inr (.inr ⟨_, _, rfl, get_snoc, hB⟩)⟩, get_snoc, hB, fun j row _ h => get_old h, by simp, fun j row _ h => get_old h⟩
    simp only [append, hs, hu, h1, h2, h3, hz0, hsrc, appLit]
    simp [e1, e2, hb, hm, hc, pures_map]
  · refine ⟨r, ver + 1, σ.set r (.tok (ver + 1)), ?_, ⟨hl, .inr (.inr ⟨_, _, rfl, ?_, hBr⟩)⟩, ?_, hBr, fun j row hj h => get_set_ne h (by omega), by simp, fun j row hj h => get_set_ne h ?_⟩
    · have hlr : lo ≤ r := by omega
      simp only [append, hs, hu, h1, h2, h3, hz0, hsrc, appTok]
      simp [e1, e2, hb, hc, hlr, hr, pures_map]
    · rw [List.getElem?_set_self (get_lt hr)]
    · rw [List.getElem?_set_self (get_lt hr)]
    · rintro rfl
      rw [hr] at h
      injection h with h
      exact hj ver h.symm
theorem Grow.snoc {σ : Store} {B sz n : Nat} {cs : List PV} {x : DV} {r : Row} (h : Grow σ B sz n cs x) : Grow (σ ++ [r]) B sz n cs x := by
  refine ⟨h.1, ?_⟩
  rcases h.2 with h | h | ⟨q, ver, h1, h2, h3⟩
  · exact .inl h
  · exact .inr (.inl h)
  · exact .inr (.inr ⟨q, ver, h1, get_old h2, h3⟩)
theorem Grow.ext {σ σ' : Store} {B sz n : Nat} {cs : List PV} {x : DV} (h : Grow σ B sz n cs x) (he : Ext σ σ') : Grow σ' B sz n cs x := by
  refine ⟨h.1, ?_⟩
  rcases h.2 with h | h | ⟨q, ver, h1, h2, h3⟩
  · exact .inl h
  · exact .inr (.inl h)
  · exact .inr (.inr ⟨q, ver, h1, he _ _ h2, h3⟩)
/-- What is seen of it in a call. -/
theorem Grow.vw {σ : Store} {B sz n : Nat} {cs : List PV} {x : DV} (h : Grow σ B sz n cs x) (hn : n ≠ 0) : view x = .p (.sl false n (loosens cs)) := by
  rcases h.2 with h | rfl | ⟨q, ver, rfl, _⟩
  · exact absurd h.1 hn
  · simp [view, viewCell, loosen]
  · simp [view, viewCell]
theorem Grow.pur {σ : Store} {B sz n : Nat} {cs : List PV} {x : DV} (h : Grow σ B sz n cs x) (hn : n ≠ 0) : ∃ ex, x.pure? = some (.sl ex n cs) := by
  rcases h.2 with h | rfl | ⟨q, ver, rfl, _⟩
  · exact absurd h.1 hn
  · exact ⟨true, rfl⟩
  · exact ⟨false, rfl⟩

/-! ### Equal lists -/
theorem L61d {a b : OI} {σ : Store} {lo : Nat} (h0 : (L a).length = (L b).length) (hl : (L a).length ≤ 1000000) :
    ∀ (k i : Nat), (L a).length - i = k → i ≤ (L a).length → f61_L0 guardT lo (.p (eSl a)) (.p (eSl b)) (.p (pI (i : Nat))) σ = some (.p (.bool (decide ((L a).drop i = (L b).drop i))), σ)
  | 0, i, hk, hi => by
    have : ¬ (i : Int) < ((L a).length : Nat) := by omega
    rw [f61_L0_eq guardT rfl, List.drop_eq_nil_of_le (by omega), List.drop_eq_nil_of_le (by omega)]
    simp only [len22, b_lss, b_eql, b_neq, b_leq, b_geq, b_gtr, guard_tt, guard_ff, guard_tf, guard_ft, guard_sk, obind, omap, pickV_true, pickV_false, condK_true, condK_false, decide_true, decide_false, Bool.not_true, Bool.not_false, not_bool, this]
  | k + 1, i, hk, hi => by
    have h : i < (L a).length := by omega
    have hb : i < (L b).length := by omega
    have h' : (i : Int) < ((L a).length : Nat) := by omega
    have ih := L61d (σ := σ) (lo := lo) h0 hl k (i + 1) (by omega) (by omega)
    rw [f61_L0_eq guardT rfl, drop_cons h, drop_cons hb]
    by_cases e : (L a)[i] = (L b)[i]
    · simp only [len22, b_lss, b_eql, b_neq, b_leq, b_geq, b_gtr, guard_tt, guard_ff, guard_tf, guard_ft, guard_sk, obind, omap, pickV_true, pickV_false, condK_true, condK_false, decide_true, decide_false, Bool.not_true, Bool.not_false, not_bool, h', idx22 h, idx22 hb, load3, load1_ints h, load1_ints hb, e, b_add, wrap_succ (show i ≤ 1000000 by omega), ih, List.cons.injEq, true_and]
    · simp only [len22, b_lss, b_eql, b_neq, b_leq, b_geq, b_gtr, guard_tt, guard_ff, guard_tf, guard_ft, guard_sk, obind, omap, pickV_true, pickV_false, condK_true, condK_false, decide_true, decide_false, Bool.not_true, Bool.not_false, not_bool, h', idx22 h, idx22 hb, load3, load1_ints h, load1_ints hb, e, List.cons.injEq, false_and]
theorem S61d {a b : OI} {σ : Store} (hl : (L a).length ≤ 1000000) : pureV CC 61 [.p (eSl a), .p (eSl b)] σ = some (.p (.bool (decide (L a = L b)))) := by
  refine pureV_free (by simp [sl_view]) rfl (F61_call (r := (.p (.bool (decide (L a = L b))), [])) ?_) rfl
  rw [F61_eq]
  by_cases h : (L a).length = (L b).length
  · have := L61d (lo := 0) (σ := []) h hl _ 0 rfl (Nat.zero_le _)
    simp only [List.drop_zero] at this
    simp only [len22, b_lss, b_eql, b_neq, b_leq, b_geq, b_gtr, guard_tt, guard_ff, guard_tf, guard_ft, guard_sk, obind, omap, pickV_true, pickV_false, condK_true, condK_false, decide_true, decide_false, Bool.not_true, Bool.not_false, not_bool, h]
    exact this
  · have h2 : ¬ ((L a).length : Int) = ((L b).length : Nat) := by omega
    have h3 : ¬ L a = L b := fun e => h (by rw [e])
    simp only [len22, b_lss, b_eql, b_neq, b_leq, b_geq, b_gtr, guard_tt, guard_ff, guard_tf, guard_ft, guard_sk, obind, omap, pickV_true, pickV_false, condK_true, condK_false, decide_true, decide_false, Bool.not_true, Bool.not_false, not_bool, h2, h3]
theorem idx22x {ex : Bool} {n i : Nat} {cs : List PV} (h : i < n) : indexAddr PP 22 (.p (.sl ex n cs)) (.p (.int .i64 (i : Nat))) = some (.pptr cs i) := by
  have h2 : (0 : Int) ≤ (i : Int) ∧ (i : Int) < (n : Nat) := by omega
  simp [indexAddr, u22, s3, h2, h]

/-! ### Errors, equal pairs -/
theorem orL_cons (a : Int) (l : List Int) : orL (a :: l) = if a = 0 then orL l else a := rfl
theorem orL_app (a b : List Int) : orL (a ++ b) = if orL a = 0 then orL b else orL a := by
  induction a with
  | nil => rfl
  | cons x a ih =>
    rw [List.cons_append, orL_cons, orL_cons, ih]
    by_cases h : x = 0
    · simp only [h, if_true]
    · simp only [h, if_false]
theorem neq98 (a : Pr) : binOp PP .neq 98 (.agg (prD a)) (.agg (prD a)) = some (.p (.bool false)) := by
  have h : binOp PP .neq 98 (.agg (prD a)) (.agg (prD a)) = some (.p (.bool (!((a.i == a.i) && (a.o == a.o))))) := by
    have h1 : binOp PP .neq 98 (.agg (prD a)) (.agg (prD a)) = (match (match some (a.i == a.i) with | some true => (match some (a.o == a.o) with | some true => some true | r => r) | r => r) with | some b => some (.p (.bool !b)) | none => none) := by kernel_rfl
    rw [h1]
    simp
  rw [h]
  simp
theorem L27s {o : OP} {σ : Store} (hl : (L o).length ≤ 100000) : ∀ (k i : Nat), (L o).length - i = k → i ≤ (L o).length → f27_L0 guardT 0 (.p (ePs o)) (.p (ePs o)) (.p (pI (i : Nat))) σ = some (.p (.bool true), σ)
  | 0, i, hk, hi => by
    have : ¬ (i : Int) < ((L o).length : Nat) := by omega
    rw [f27_L0_eq guardT rfl]
    simp only [len31, b_lss, b_eql, b_neq, b_leq, b_geq, b_gtr, guard_tt, guard_ff, guard_tf, guard_ft, guard_sk, obind, omap, pickV_true, pickV_false, condK_true, condK_false, decide_true, decide_false, Bool.not_true, Bool.not_false, not_bool, this]
  | k + 1, i, hk, hi => by
    have h : i < (L o).length := by omega
    have h' : (i : Int) < ((L o).length : Nat) := by omega
    have ih := L27s (σ := σ) hl k (i + 1) (by omega) (by omega)
    rw [f27_L0_eq guardT rfl]
    simp only [len31, b_lss, b_eql, b_neq, b_leq, b_geq, b_gtr, guard_tt, guard_ff, guard_tf, guard_ft, guard_sk, obind, omap, pickV_true, pickV_false, condK_true, condK_false, decide_true, decide_false, Bool.not_true, Bool.not_false, not_bool, h', idx31 h, load98, load98_D h, neq98, b_add, wrap_succ (show i ≤ 1000000 by omega), ih]
theorem S27 {o : OP} {σ : Store} (hl : (L o).length ≤ 100000) : pureV CC 27 [.p (ePs o), .p (ePs o)] σ = some (.p (.bool true)) := by
  refine pureV_free (by simp [ps_view]) rfl (F27_call (r := (.p (.bool true), [])) ?_) rfl
  rw [F27_eq]
  simp only [len31, b_lss, b_eql, b_neq, b_leq, b_geq, b_gtr, guard_tt, guard_ff, guard_tf, guard_ft, guard_sk, obind, omap, pickV_true, pickV_false, condK_true, condK_false, decide_true, decide_false, Bool.not_true, Bool.not_false, not_bool]
  exact L27s hl _ 0 rfl (Nat.zero_le _)

end Go.D
end
/- What a call's arguments are: plain data of any type without pointers, as values of D. For any program. -/
section
set_option linter.unusedVariables false
set_option linter.unusedSimpArgs false
namespace Go.D

mutual
inductive Plain (P : Program) : TypeId → List PV → Prop where
  | bool {t : TypeId} (h : P.underlying t = some .bool) (b : Bool) : Plain P t [.bool b]
  | int {t : TypeId} {k : IntKind} (h : P.underlying t = some (.int k)) (n : Int) (hw : (Lit.int k n).wf = true) : Plain P t [.int k n]
  | str {t : TypeId} (h : P.underlying t = some .string) (s : ByteArray) (hs : s.size ≤ maxLen) : Plain P t [.str s]
  | nilsl {t e : TypeId} (h : P.underlying t = some (.slice e)) : Plain P t [.nilsl]
  | sl {t e : TypeId} (h : P.underlying t = some (.slice e)) (n : Nat) (cs : List PV) (hx : PlainL P (List.replicate n e) cs) : Plain P t [.sl false n cs]
  | struct {t : TypeId} {fs : Array Field} (h : P.underlying t = some (.struct fs)) (cs : List PV) (hx : PlainL P (fs.toList.map (·.type)) cs) : Plain P t cs
  | array {t e : TypeId} {n : Nat} (h : P.underlying t = some (.array n e)) (cs : List PV) (hx : PlainL P (List.replicate n e) cs) : Plain P t cs
inductive PlainL (P : Program) : List TypeId → List PV → Prop where
  | nil : PlainL P [] []
  | cons {t : TypeId} {ts : List TypeId} {a b : List PV} (h : Plain P t a) (hs : PlainL P ts b) : PlainL P (t :: ts) (a ++ b)
end

/-! ### Taking apart -/
section
variable {P : Program} {t e : TypeId} {k : IntKind} {cs : List PV}
theorem Plain.inv_int (hu : P.underlying t = some (.int k)) (h : Plain P t cs) : ∃ n, (Lit.int k n).wf = true ∧ cs = [.int k n] := by
  cases h with
  | int h n hw =>
    rw [hu] at h
    injection h with h
    injection h with h
    exact ⟨n, by rw [h]; exact hw, by rw [h]⟩
  | _ h => rw [hu] at h; injection h with h; exact absurd h (by simp)
theorem Plain.inv_bool (hu : P.underlying t = some .bool) (h : Plain P t cs) : ∃ b, cs = [.bool b] := by
  cases h with
  | bool h b => exact ⟨b, rfl⟩
  | _ h => rw [hu] at h; injection h with h; exact absurd h (by simp)
theorem Plain.inv_str (hu : P.underlying t = some .string) (h : Plain P t cs) : ∃ s, s.size ≤ maxLen ∧ cs = [.str s] := by
  cases h with
  | str h s hs => exact ⟨s, hs, rfl⟩
  | _ h => rw [hu] at h; injection h with h; exact absurd h (by simp)
theorem Plain.inv_slice (hu : P.underlying t = some (.slice e)) (h : Plain P t cs) : cs = [.nilsl] ∨ ∃ n xs, PlainL P (List.replicate n e) xs ∧ cs = [.sl false n xs] := by
  cases h with
  | nilsl h => exact .inl rfl
  | sl h n xs hx =>
    rw [hu] at h
    injection h with h
    injection h with h
    exact .inr ⟨n, xs, by rw [h]; exact hx, rfl⟩
  | _ h => rw [hu] at h; injection h with h; exact absurd h (by simp)
theorem Plain.inv_struct {fs : Array Field} (hu : P.underlying t = some (.struct fs)) (h : Plain P t cs) : PlainL P (fs.toList.map (·.type)) cs := by
  cases h with
  | struct h xs hx =>
    rw [hu] at h
    injection h with h
    injection h with h
    rw [h]; exact hx
  | _ h => rw [hu] at h; injection h with h; exact absurd h (by simp)
theorem Plain.inv_array {n : Nat} (hu : P.underlying t = some (.array n e)) (h : Plain P t cs) : PlainL P (List.replicate n e) cs := by
  cases h with
  | array h xs hx =>
    rw [hu] at h
    injection h with h
    injection h with h1 h2
    rw [h1, h2]; exact hx
  | _ h => rw [hu] at h; injection h with h; exact absurd h (by simp)
theorem PlainL.inv_nil (h : PlainL P [] cs) : cs = [] := by cases h; rfl
theorem PlainL.inv_cons {ts : List TypeId} (h : PlainL P (t :: ts) cs) : ∃ a b, Plain P t a ∧ PlainL P ts b ∧ cs = a ++ b := by
  cases h with
  | cons h hs => exact ⟨_, _, h, hs, rfl⟩
theorem PlainL.inv_rep {α : Type} {f : α → List PV} (hf : ∀ a, Plain P t a → ∃ x, a = f x) : ∀ {n : Nat} {cs : List PV}, PlainL P (List.replicate n t) cs → ∃ xs : List α, xs.length = n ∧ cs = xs.flatMap f
  | 0, cs, h => ⟨[], rfl, h.inv_nil⟩
  | n + 1, cs, h => by
    obtain ⟨a, b, h1, h2, rfl⟩ := PlainL.inv_cons (ts := List.replicate n t) h
    obtain ⟨x, rfl⟩ := hf a h1
    obtain ⟨xs, h3, rfl⟩ := PlainL.inv_rep hf h2
    exact ⟨x :: xs, by simp [h3], by simp⟩
end

/-! ### Types that are read -/
def layOk (P : Program) (ok : TypeId → Bool) (total : Nat) : Nat → List Field → Bool
  | off, [] => off == total
  | off, f :: fs => f.offset == off && ok f.type && layOk P ok total (off + P.cellsOf f.type) fs
def plainTy (P : Program) : Nat → TypeId → Bool
  | 0, _ => false
  | n + 1, t => match P.underlying t with
    | some .bool | some (.int _) | some .string => true
    | some (.slice e) => decide (0 < P.cellsOf e) && plainTy P n e
    | some (.struct fs) => layOk P (plainTy P n) (P.cellsOf t) 0 fs.toList
    | some (.array m e) => m * P.cellsOf e == P.cellsOf t && plainTy P n e
    | _ => false

section
variable {H : Type} {enc : TypeId × Value → H} {W : World} {P : Program} {hd : Bool}
abbrev memR (W : World) : Mem := fun b o => W.cell? ⟨b, o, none⟩

theorem spot_cell {a : Addr} {v : Value} (h : W.cell? a = some v) : a.spot = none := by
  unfold World.cell? at h
  split at h
  · split at h
    · exact absurd h (by simp)
    · rename_i hs
      cases e : a.spot with
      | none => rfl
      | some s => rw [e] at hs; exact absurd rfl hs
  · exact absurd h (by simp)
theorem addr_eq {a : Addr} {n : Nat} (h : a.spot = none) : a.add n = ⟨a.block, a.off + n, none⟩ := by
  cases a with
  | mk b o s => cases h; exact Addr.add_mid b o n

/-- Cells of pure values that stand for values. -/
def RelL (M : Mem) (ps : List PV) (vs : List Value) : Prop := ps.length = vs.length ∧ ∀ j (h1 : j < ps.length) (h2 : j < vs.length), PRel M ps[j] vs[j]

theorem RelL.append {M : Mem} {a c : List PV} {b d : List Value} (h : RelL M a b) (h2 : RelL M c d) : RelL M (a ++ c) (b ++ d) := by
  refine ⟨by simp [h.1, h2.1], fun j h3 h4 => ?_⟩
  by_cases hj : j < a.length
  · rw [List.getElem_append_left hj, List.getElem_append_left (by rw [← h.1]; exact hj)]
    exact h.2 j hj _
  · rw [List.getElem_append_right (by omega), List.getElem_append_right (by rw [← h.1]; omega)]
    have e : j - b.length = j - a.length := by rw [h.1]
    simp only [e]
    refine h2.2 _ (by simp at h3; omega) ?_
/-- Elements one after another. -/
theorem elems_read {e : TypeId} {sz : Nat} {b : Nat} : ∀ (n o : Nat),
    (∀ i, i < n → ∃ ps vs, Plain P e ps ∧ vs.length = sz ∧ RelL (memR W) ps vs ∧ ∀ j (h : j < vs.length), W.cell? ⟨b, o + i * sz + j, none⟩ = some vs[j]) →
    ∃ cs vs, PlainL P (List.replicate n e) cs ∧ vs.length = n * sz ∧ RelL (memR W) cs vs ∧ ∀ j (h : j < vs.length), W.cell? ⟨b, o + j, none⟩ = some vs[j]
  | 0, o, h => ⟨[], [], .nil, by simp, ⟨rfl, fun j h1 _ => absurd h1 (by simp)⟩, fun j h => absurd h (by simp)⟩
  | n + 1, o, h => by
    obtain ⟨ps, vs, h1, h2, h3, h4⟩ := h 0 (by omega)
    obtain ⟨cs, ws, g1, g2, g3, g4⟩ := elems_read n (o + sz) fun i hi => by
      obtain ⟨ps, vs, k1, k2, k3, k4⟩ := h (i + 1) (by omega)
      refine ⟨ps, vs, k1, k2, k3, fun j hj => ?_⟩
      have : o + sz + i * sz + j = o + (i + 1) * sz + j := by rw [Nat.add_mul]; omega
      rw [this]
      exact k4 j hj
    refine ⟨ps ++ cs, vs ++ ws, .cons h1 g1, by simp [h2, g2, Nat.add_mul]; omega, h3.append g3, fun j hj => ?_⟩
    by_cases hjv : j < vs.length
    · rw [List.getElem_append_left hjv]
      have := h4 j hjv
      simpa using this
    · rw [List.getElem_append_right (by omega)]
      have := g4 (j - vs.length) (by simp at hj; omega)
      have e2 : o + sz + (j - vs.length) = o + j := by omega
      rwa [e2] at this
theorem layOk_le {ok : TypeId → Bool} {total : Nat} : ∀ (fs : List Field) (off : Nat), layOk P ok total off fs = true → off ≤ total
  | [], off, h => by
    have : off = total := by simpa [layOk] using h
    omega
  | f :: fs, off, h => by
    simp only [layOk, Bool.and_eq_true] at h
    have := layOk_le fs _ h.2
    omega
theorem fields_read {ok : TypeId → Bool} {total : Nat} {cs : List Value} (hc : cs.length = total) : ∀ (fs : List Field) (off : Nat), layOk P ok total off fs = true →
    (∀ f ∈ fs, ok f.type = true → ∃ ps, Plain P f.type ps ∧ RelL (memR W) ps ((cs.drop f.offset).take (P.cellsOf f.type))) →
    ∃ ps, PlainL P (fs.map (·.type)) ps ∧ RelL (memR W) ps (cs.drop off)
  | [], off, h, hf => by
    have : off = total := by simpa [layOk] using h
    refine ⟨[], .nil, ?_⟩
    rw [List.drop_eq_nil_of_le (by omega)]
    exact ⟨rfl, fun j h1 _ => absurd h1 (by simp)⟩
  | f :: fs, off, h, hf => by
    simp only [layOk, Bool.and_eq_true, beq_iff_eq] at h
    obtain ⟨⟨h1, h2⟩, h3⟩ := h
    obtain ⟨ps, g1, g2⟩ := hf f (by simp) h2
    obtain ⟨qs, k1, k2⟩ := fields_read hc fs _ h3 fun g hg => hf g (by simp [hg])
    refine ⟨ps ++ qs, .cons g1 k1, ?_⟩
    have e : cs.drop off = (cs.drop off).take (P.cellsOf f.type) ++ cs.drop (off + P.cellsOf f.type) := by
      rw [← List.drop_drop, List.take_append_drop]
    rw [h1] at g2
    rw [e]
    exact g2.append k2
theorem parts_read {e : TypeId} {sz : Nat} {cs : List Value} : ∀ (n off : Nat), cs.length = off + n * sz →
    (∀ i, i < n → ∃ ps, Plain P e ps ∧ RelL (memR W) ps ((cs.drop (off + i * sz)).take sz)) → ∃ ps, PlainL P (List.replicate n e) ps ∧ RelL (memR W) ps (cs.drop off)
  | 0, off, hc, h => by
    refine ⟨[], .nil, ?_⟩
    rw [List.drop_eq_nil_of_le (by omega)]
    exact ⟨rfl, fun j h1 _ => absurd h1 (by simp)⟩
  | n + 1, off, hc, h => by
    obtain ⟨ps, g1, g2⟩ := h 0 (by omega)
    obtain ⟨qs, k1, k2⟩ := parts_read (sz := sz) n (off + sz) (by rw [hc, Nat.add_mul]; omega) fun i hi => by
      obtain ⟨ps, a1, a2⟩ := h (i + 1) (by omega)
      refine ⟨ps, a1, ?_⟩
      have : off + (i + 1) * sz = off + sz + i * sz := by rw [Nat.add_mul]; omega
      rwa [this] at a2
    refine ⟨ps ++ qs, .cons g1 k1, ?_⟩
    have e : cs.drop off = (cs.drop off).take sz ++ cs.drop (off + sz) := by
      rw [← List.drop_drop, List.take_append_drop]
    rw [Nat.zero_mul, Nat.add_zero] at g2
    rw [e]
    exact g2.append k2

theorem read_plain : ∀ (m fuel : Nat) (t : TypeId) (cs : List Value) (x : DataW H × List MemPlace), plainTy P m t = true → DataW.trod enc P W 0 (fun _ => true) hd fuel t cs = some x → ∃ ps, Plain P t ps ∧ RelL (memR W) ps cs
  | 0, _, _, _, _, hp, _ => by simp [plainTy] at hp
  | m + 1, fuel, t, cs, x, hp, h => by
    unfold plainTy at hp
    split at hp
    · rename_i hu
      obtain ⟨b, rfl, _⟩ := DataW.trod_bool hu h
      refine ⟨[.bool b], .bool hu b, rfl, fun j h1 h2 => ?_⟩
      match j, h1 with
      | 0, _ => exact .bool b
    · rename_i k hu
      obtain ⟨n, rfl, _, hw⟩ := DataW.trod_int hu h
      refine ⟨[.int k n], .int hu n hw, rfl, fun j h1 h2 => ?_⟩
      match j, h1 with
      | 0, _ => exact .int k n
    · rename_i hu
      obtain ⟨s, rfl, _, hs⟩ := DataW.trod_string hu h
      refine ⟨[.str s], .str hu s hs, rfl, fun j h1 h2 => ?_⟩
      match j, h1 with
      | 0, _ => exact .str s
    · rename_i e hu
      simp only [Bool.and_eq_true, decide_eq_true_eq] at hp
      obtain ⟨hsz, hpe⟩ := hp
      rcases DataW.trod_slice hu h with ⟨rfl, _⟩ | ⟨a, len, cap, elems, rest, n, _, rfl, _, _, hl, hm, hlen, hel, hrest, _⟩
      · refine ⟨[.nilsl], .nilsl hu, rfl, fun j h1 h2 => ?_⟩
        match j, h1 with
        | 0, _ => exact .nilsl
      · have hrest := hrest rfl
        have hspot : cap ≠ 0 → a.spot = none := by
          intro hc
          have key : ∃ cs, W.cells? 0 (a.add 0) (P.cellsOf e) = some cs := by
            by_cases h0 : 0 < len
            · have h1 := hel 0 h0
              rw [List.getElem?_eq_getElem (by omega)] at h1
              obtain ⟨cs, h2, _⟩ := Option.bind_eq_some_iff.1 h1
              exact ⟨cs, by simpa using h2⟩
            · have h1 := hrest.2 0 (by omega)
              rw [List.getElem?_eq_getElem (by omega)] at h1
              obtain ⟨cs, h2, _⟩ := Option.bind_eq_some_iff.1 h1
              have hl0 : len = 0 := by omega
              exact ⟨cs, by simpa [hl0] using h2⟩
          obtain ⟨cs, h2⟩ := key
          obtain ⟨_, h3, h4⟩ := World.cells?_some h2
          have h5 := h4 0 hsz
          rw [List.getElem?_eq_getElem (by omega)] at h5
          exact spot_cell (a := a) h5
        obtain ⟨ps, vs, g1, g2, g3, g4⟩ := elems_read (P := P) (W := W) (e := e) (sz := P.cellsOf e) (b := a.block) len a.off fun i hi => by
          have h1 := hel i hi
          rw [List.getElem?_eq_getElem (by omega)] at h1
          obtain ⟨vs, h2, h3⟩ := Option.bind_eq_some_iff.1 h1
          obtain ⟨ps, k1, k2⟩ := read_plain m n e vs _ hpe h3
          obtain ⟨_, h5, h4⟩ := World.cells?_some h2
          refine ⟨ps, vs, k1, h5, k2, fun j hj => ?_⟩
          have h6 := h4 j (by omega)
          have hs := hspot (by omega)
          rw [addr_eq hs, addr_eq rfl, List.getElem?_eq_getElem hj] at h6
          exact h6
        refine ⟨[.sl false len ps], .sl hu len ps g1, rfl, fun j h1 h2 => ?_⟩
        match j, h1 with
        | 0, _ =>
          refine .sl (fun j => vs.getD j Go.undef) hspot hl (by simp) (fun j hj => ?_) (fun j hj => ?_)
          · have hj2 : j < vs.length := by rw [← g3.1]; exact hj
            show W.cell? _ = _
            rw [List.getD_eq_getElem?_getD, List.getElem?_eq_getElem hj2]
            exact g4 j hj2
          · have hj2 : j < vs.length := by rw [← g3.1]; exact hj
            rw [List.getD_eq_getElem?_getD, List.getElem?_eq_getElem hj2]
            exact g3.2 j hj hj2
    · rename_i fs hu
      obtain ⟨xs, n, _, _, hl, hlen, hf⟩ := DataW.trod_struct hu h
      obtain ⟨ps, g1, g2⟩ := fields_read (P := P) (W := W) hl fs.toList 0 hp fun f hfm hok => by
        obtain ⟨i, hi, rfl⟩ := List.getElem_of_mem hfm
        have hi2 : i < fs.size := by simpa using hi
        have h1 := hf i fs[i] (by simp [hi2])
        rw [List.getElem?_eq_getElem (by omega)] at h1
        simp only [Array.getElem_toList] at hok ⊢
        obtain ⟨ps, k1, k2⟩ := read_plain m n _ _ _ hok h1
        exact ⟨ps, k1, k2⟩
      exact ⟨ps, .struct hu ps g1, g2⟩
    · rename_i k e hu
      simp only [Bool.and_eq_true, beq_iff_eq] at hp
      obtain ⟨xs, n, _, _, hl, hlen, hf⟩ := DataW.trod_array hu h
      obtain ⟨ps, g1, g2⟩ := parts_read (P := P) (W := W) (e := e) (sz := P.cellsOf e) (cs := cs) k 0 (by rw [hl, ← hp.1]; omega) fun i hi => by
        have h1 := hf i hi
        rw [List.getElem?_eq_getElem (by omega)] at h1
        obtain ⟨ps, k1, k2⟩ := read_plain m n _ _ _ hp.2 h1
        rw [Nat.zero_add]
        exact ⟨ps, k1, k2⟩
      exact ⟨ps, .array hu ps g1, g2⟩
    · exact absurd hp (by simp)

/-! ### Arguments -/
theorem relL_agg {ps : List PV} {vs : Array Value} (h : RelL (memR W) ps vs.toList) : VRel (fun _ _ => none) (memR W) (.agg (ps.map .p)) (.agg vs) := by
  refine .agg (by have := h.1; simp at this; simp [this]) fun j h1 h2 => ?_
  have := h.2 j (by simpa using h1) (by simpa using h2)
  simp only [List.getElem_map]
  exact .p (by simpa using this)
theorem relL_one {p : PV} {v : Value} (h : RelL (memR W) [p] [v]) : VRel (fun _ _ => none) (memR W) (.p p) v := .p (h.2 0 (by simp) (by simp))
variable {r : Reach} {b0 : Nat} {v : Value} {d : DataW H} {ps : List MemPlace} {t : TypeId}
theorem read_struct {fs : Array Field} (m : Nat) (hu : P.underlying t = some (.struct fs)) (hp : plainTy P m t = true) (hok : Value.okWide P W r b0 t v) (h : DataW.Trod enc P W 0 (fun _ => true) hd t v d ps) :
    ∃ cs, Plain P t cs ∧ VRel (fun _ _ => none) (memR W) (.agg (cs.map .p)) v := by
  simp only [Value.okWide, hu] at hok
  obtain ⟨vs, rfl, _⟩ := hok
  obtain ⟨fuel, h⟩ := h
  obtain ⟨cs, h1, h2⟩ := read_plain m fuel t _ _ hp h
  exact ⟨cs, h1, relL_agg h2⟩
theorem read_array {n : Nat} {e : TypeId} (m : Nat) (hu : P.underlying t = some (.array n e)) (hp : plainTy P m t = true) (hok : Value.okWide P W r b0 t v) (h : DataW.Trod enc P W 0 (fun _ => true) hd t v d ps) :
    ∃ cs, Plain P t cs ∧ VRel (fun _ _ => none) (memR W) (.agg (cs.map .p)) v := by
  simp only [Value.okWide, hu] at hok
  obtain ⟨vs, rfl, _⟩ := hok
  obtain ⟨fuel, h⟩ := h
  obtain ⟨cs, h1, h2⟩ := read_plain m fuel t _ _ hp h
  exact ⟨cs, h1, relL_agg h2⟩
theorem read_slice {e : TypeId} (m : Nat) (hu : P.underlying t = some (.slice e)) (hp : plainTy P m t = true) (hok : Value.okWide P W r b0 t v) (h : DataW.Trod enc P W 0 (fun _ => true) hd t v d ps) :
    ∃ c, Plain P t [c] ∧ VRel (fun _ _ => none) (memR W) (.p c) v := by
  obtain ⟨a0, len, cap, rfl⟩ := Go.WideShapes.okWide_slice hu hok
  obtain ⟨fuel, h⟩ := h
  obtain ⟨cs, h1, h2⟩ := read_plain m fuel t _ _ hp h
  rcases h1.inv_slice hu with rfl | ⟨n, xs, _, rfl⟩
  · exact ⟨_, h1, relL_one h2⟩
  · exact ⟨_, h1, relL_one h2⟩
theorem read_intA {k : IntKind} (hu : P.underlying t = some (.int k)) (hok : Value.okWide P W r b0 t v) (h : DataW.Trod enc P W 0 (fun _ => true) hd t v d ps) :
    ∃ n, (Lit.int k n).wf = true ∧ VRel (fun _ _ => none) (memR W) (.p (.int k n)) v := by
  obtain ⟨n, rfl⟩ := Go.WideShapes.okWide_int hu hok
  obtain ⟨fuel, h⟩ := h
  obtain ⟨n', h1, _, h2⟩ := DataW.trod_int hu h
  have : n = n' := by simpa [Value.cells] using h1
  subst this
  exact ⟨n, h2, .p (.int _ _)⟩
theorem read_strA (hu : P.underlying t = some .string) (hok : Value.okWide P W r b0 t v) (h : DataW.Trod enc P W 0 (fun _ => true) hd t v d ps) :
    ∃ s, s.size ≤ maxLen ∧ VRel (fun _ _ => none) (memR W) (.p (.str s)) v := by
  obtain ⟨s, rfl⟩ := Go.WideShapes.okWide_string hu hok
  obtain ⟨fuel, h⟩ := h
  obtain ⟨s', h1, _, h2⟩ := DataW.trod_string hu h
  have : s = s' := by simpa [Value.cells] using h1
  subst this
  exact ⟨s, h2, .p (.str _)⟩
end
end Go.D
end
/- What a call's arguments are, as values of D: watches, pairs, lists of watches, rules. -/
section
set_option linter.unusedVariables false
set_option linter.unusedSimpArgs false
set_option maxRecDepth 100000
namespace Go.D
open Go.ChangeShapes Go.WideShapes Go.ChangeAt Go.RowKit

theorem dec3 {a : List PV} (h : Plain PP 3 a) : ∃ n, a = [pI n] := by
  obtain ⟨n, _, rfl⟩ := h.inv_int ul3
  exact ⟨n, rfl⟩
theorem flat1 {α : Type} (f : α → PV) (l : List α) : l.flatMap (fun a => [f a]) = l.map f := by
  induction l with
  | nil => rfl
  | cons a l ih => simp [ih]
theorem dec22 {a : List PV} (h : Plain PP 22 a) : ∃ o, a = [eSl o] := by
  rcases h.inv_slice u22 with rfl | ⟨n, xs, hx, rfl⟩
  · exact ⟨none, rfl⟩
  · obtain ⟨l, rfl, rfl⟩ := hx.inv_rep (f := fun n => [pI n]) fun a ha => dec3 ha
    exact ⟨some l, by rw [flat1]; rfl⟩
theorem dec48 {a : List PV} (h : Plain PP 48 a) : ∃ o, a = [eLs o] := by
  rcases h.inv_slice u48 with rfl | ⟨n, xs, hx, rfl⟩
  · exact ⟨none, rfl⟩
  · obtain ⟨l, rfl, rfl⟩ := hx.inv_rep (f := fun n => [eSl n]) fun a ha => dec22 ha
    exact ⟨some l, by rw [flat1]; rfl⟩
theorem dec27 {a : List PV} (h : Plain PP 27 a) : ∃ o, a = [eWt o] := by
  rcases h.inv_slice u27 with rfl | ⟨n, xs, hx, rfl⟩
  · exact ⟨none, rfl⟩
  · obtain ⟨l, rfl, rfl⟩ := hx.inv_rep (f := fun n => [eLs n]) fun a ha => dec48 ha
    exact ⟨some l, by rw [flat1]; rfl⟩
theorem dec98 {a : List PV} (h : Plain PP 98 a) : ∃ p : Pr, a = [pI p.i, pI p.o] := by
  have h1 := h.inv_struct Go.Proofs.Try.underlying98
  obtain ⟨a1, b1, h2, h3, rfl⟩ := PlainL.inv_cons h1
  obtain ⟨a2, b2, h4, h5, rfl⟩ := PlainL.inv_cons h3
  obtain ⟨x, rfl⟩ := dec3 h2
  obtain ⟨y, rfl⟩ := dec3 h4
  obtain rfl := PlainL.inv_nil h5
  exact ⟨⟨x, y⟩, rfl⟩
theorem flat98 (l : List Pr) : l.flatMap (fun p => [pI p.i, pI p.o]) = ePrs l := by
  induction l with
  | nil => rfl
  | cons a l ih => simp [ih, ePrs]
theorem dec31 {a : List PV} (h : Plain PP 31 a) : ∃ o, a = [ePs o] := by
  rcases h.inv_slice u31 with rfl | ⟨n, xs, hx, rfl⟩
  · exact ⟨none, rfl⟩
  · obtain ⟨l, rfl, rfl⟩ := hx.inv_rep (f := fun p : Pr => [pI p.i, pI p.o]) fun a ha => dec98 ha
    exact ⟨some l, by rw [flat98]; rfl⟩
theorem dec56 {a : List PV} (h : Plain PP 56 a) : ∃ o, a = [eWs o] := by
  rcases h.inv_slice u56 with rfl | ⟨n, xs, hx, rfl⟩
  · exact ⟨none, rfl⟩
  · obtain ⟨l, rfl, rfl⟩ := hx.inv_rep (f := fun n => [eWt n]) fun a ha => dec27 ha
    exact ⟨some l, by rw [flat1]; rfl⟩

section
variable {H : Type} {enc : TypeId × Value → H} {W : World} {hd : Bool} {r : Reach} {b0 : Nat} {v : Value} {d : DataW H} {ps : List MemPlace}
theorem read_wt (hok : Value.okWide PP W r b0 27 v) (h : DataW.Trod enc PP W 0 (fun _ => true) hd 27 v d ps) : ∃ o, VRel (fun _ _ => none) (memOf W) (.p (eWt o)) v := by
  obtain ⟨c, h1, h2⟩ := read_slice 8 u27 (by kernel_rfl) hok h
  obtain ⟨o, ho⟩ := dec27 h1
  injection ho with ho
  exact ⟨o, by rw [← ho]; exact h2⟩
theorem read_ws (hok : Value.okWide PP W r b0 56 v) (h : DataW.Trod enc PP W 0 (fun _ => true) hd 56 v d ps) : ∃ o, VRel (fun _ _ => none) (memOf W) (.p (eWs o)) v := by
  obtain ⟨c, h1, h2⟩ := read_slice 8 u56 (by kernel_rfl) hok h
  obtain ⟨o, ho⟩ := dec56 h1
  injection ho with ho
  exact ⟨o, by rw [← ho]; exact h2⟩
theorem read_prs (hok : Value.okWide PP W r b0 31 v) (h : DataW.Trod enc PP W 0 (fun _ => true) hd 31 v d ps) : ∃ o, VRel (fun _ _ => none) (memOf W) (.p (ePs o)) v := by
  obtain ⟨c, h1, h2⟩ := read_slice 8 u31 (by kernel_rfl) hok h
  obtain ⟨o, ho⟩ := dec31 h1
  injection ho with ho
  exact ⟨o, by rw [← ho]; exact h2⟩
end
end Go.D
end
/- A path cloned and made longer; small divisions. -/
section
set_option linter.unusedVariables false
set_option linter.unusedSimpArgs false
namespace Go.D
theorem app22_p {σ : Store} {lo n : Nat} {l p : List Int} (hp : p.length = n) (h0 : n ≠ 0) (hn : n ≤ 1000) (r ver m : Nat) (hl : l.length = m) (hm : m ≤ 1000000) (h : σ[r]? = some (.tok ver)) (hr : lo ≤ r) :
    append PP lo false 22 22 (.osl r ver 1 m (eInts l)) (.p (.sl true n (eInts p))) σ = some (.osl r (ver + 1) 1 (m + n) (eInts (l ++ p)), σ.set r (.tok (ver + 1))) := by
  have e1 : (m + n) * 8 ≤ 140737488355328 := by omega
  have e2 : m + n ≤ 140737488355328 := by omega
  have e3 : (eInts p).length = n := by rw [ints_length, hp]
  have e4 : (eInts l).length = m := by rw [ints_length, hl]
  simp only [append, src22, u22, s3, bytes3, zero3, source, e3, Nat.mul_one, if_true, appTok]
  have e5 : eInts (l ++ p) = eInts l ++ eInts p := by simp [eInts]
  simp [e1, e2, h, hr, e4, pures_map, e5]
theorem app22_n {σ : Store} {lo n : Nat} {p : List Int} (hp : p.length = n) (h0 : n ≠ 0) (hn : n ≤ 1000) :
    append PP lo false 22 22 (.p .nilsl) (.p (.sl true n (eInts p))) σ = some (.osl σ.length 0 1 n (eInts p), σ ++ [.tok 0]) := by
  have e1 : n * 8 ≤ 140737488355328 := by omega
  have e2 : n ≤ 140737488355328 := by omega
  have e3 : (eInts p).length = n := by rw [ints_length, hp]
  simp only [append, src22, u22, s3, bytes3, zero3, source, e3, Nat.mul_one, if_true, appNil]
  simp [e1, e2, h0, pures_map]
theorem pth_ne {p : List Int} (h : p ≠ []) : ePth p = .sl false p.length (eInts p) := if_neg h
/-- Clone, then append some numbers. -/
theorem clone_app {p l2 : List Int} {n lo lo1 : Nat} {σ : Store} (hp : p.length ≤ 1000000) (hl : l2.length = n) (h0 : n ≠ 0) (hn : n ≤ 1000) (hlo : lo ≤ σ.length) :
    ∃ v1 σ1 ver, plainFn CC lo1 (.fn 99 []) [.p (ePth p)] σ = some (v1, σ1) ∧ Ext σ σ1 ∧
      append PP lo false 22 22 v1 (.p (.sl true n (eInts l2))) σ1 = some (.osl σ.length ver 1 (p ++ l2).length (eInts (p ++ l2)), σ ++ [.tok ver]) := by
  by_cases h : p = []
  · subst h
    refine ⟨.p .nilsl, σ, 0, ?_, Ext.refl _, ?_⟩
    · show CC lo1 99 ([.p (ePth [])] ++ []) σ = _
      rw [List.append_nil]
      refine F99_call ?_
      rw [F99_eq]
      simp only [ePth, if_true, eq22_nn, guard_tt, guard_ff, guard_tf, guard_ft, guard_sk, obind, omap, pickV_true, pickV_false, condK_true, condK_false, decide_true, decide_false, Bool.not_true, Bool.not_false, not_bool]
    · rw [app22_n hl h0 hn, List.nil_append, hl]
  · have hne : p.length ≠ 0 := fun e => h (List.length_eq_zero_iff.1 e)
    refine ⟨.osl σ.length 0 1 p.length (eInts p), σ ++ [.tok 0], 1, ?_, Ext.snoc _ _, ?_⟩
    · show CC lo1 99 ([.p (ePth p)] ++ []) σ = _
      rw [List.append_nil, pth_ne h]
      refine F99_call ?_
      rw [F99_eq]
      have e3 : (eInts p).length = p.length := ints_length p
      have e1 : p.length * 8 ≤ 140737488355328 := by omega
      have e2 : p.length ≤ 140737488355328 := by omega
      have h1 : append PP lo1 false 22 22 (.p (.sl true 0 [])) (.p (.sl false p.length (eInts p))) σ = some (.osl σ.length 0 1 p.length (eInts p), σ ++ [.tok 0]) := by
        simp only [append, src22, u22, s3, bytes3, zero3, source, e3, Nat.mul_one, if_true, appLit]
        simp [h, hne, e1, e2, pures_map]
      simp only [eq22_sl, guard_tt, guard_ff, guard_tf, guard_ft, guard_sk, obind, omap, pickV_true, pickV_false, condK_true, condK_false, decide_true, decide_false, Bool.not_true, Bool.not_false, not_bool, bs22_0, h1]
    · rw [app22_p hl h0 hn σ.length 0 p.length rfl hp get_snoc hlo, List.length_append, hl, set_snoc]
theorem b_quo3 (c : Nat) (hc : c ≤ 1000000) : binOp PP .quo 3 (.p (pI (c : Nat))) (.p (pI 3)) = some (.p (pI ((c / 3 : Nat)))) := by
  have h : binOp PP .quo 3 (.p (pI (c : Nat))) (.p (pI 3)) = some (.p (pI (IntKind.wrap .i64 ((c : Int).tdiv 3)))) := Eq.trans rfl rfl
  have e : (c : Int).tdiv 3 = ((c / 3 : Nat) : Int) := by
    rw [Int.tdiv_eq_ediv_of_nonneg (by omega)]; omega
  rw [h, e, wrap_ok (by omega) (by omega)]
theorem b_rem3 (c : Nat) : binOp PP .rem 3 (.p (pI (c : Nat))) (.p (pI 3)) = some (.p (pI ((c % 3 : Nat)))) := by
  have h : binOp PP .rem 3 (.p (pI (c : Nat))) (.p (pI 3)) = some (.p (pI ((c : Int).tmod 3))) := Eq.trans rfl rfl
  have e : (c : Int).tmod 3 = ((c % 3 : Nat) : Int) := by
    rw [Int.tmod_eq_emod_of_nonneg (by omega)]; omega
  rw [h, e]
end Go.D
end
/- The search over walked: the program's add and run. -/
section
set_option linter.unusedVariables false
set_option linter.unusedSimpArgs false
namespace Go.D.RnV
theorem neq22_osl (r ver sz n : Nat) (cs : List PV) : binOp PP .neq 22 (.osl r ver sz n cs) (.p .nilsl) = some (.p (.bool true)) := Eq.trans (by kernel_rfl) rfl
theorem uM : PP.underlying 197 = some (.map 163 4) := Eq.trans (by kernel_rfl) rfl
theorem uS : PP.underlying 161 = some (.slice 165) := Eq.trans (by kernel_rfl) rfl
theorem sF : size? PP 165 = some 4 := Eq.trans (by kernel_rfl) rfl
theorem sS : size? PP 161 = some 1 := Eq.trans (by kernel_rfl) rfl
theorem bytesF : bytes? PP 165 = some 48 := Eq.trans (by kernel_rfl) rfl
theorem zeroF : zeroOf PP 165 = some (nodeD [0, 0, 0] ++ [.p .nilsl]) := Eq.trans (by kernel_rfl) rfl
theorem srcS : srcType PP 161 = true := Eq.trans (by kernel_rfl) rfl
theorem zvB : zeroVal PP 4 = some (.p (.bool false)) := Eq.trans (by kernel_rfl) rfl
theorem loadM (x : DV) (σ : Store) : load PP 197 x σ = load1 x σ := Eq.trans (by kernel_rfl) rfl
theorem loadS (x : DV) (σ : Store) : load PP 161 x σ = load1 x σ := Eq.trans (by kernel_rfl) rfl
theorem loadN' (x : DV) (σ : Store) : load PP 163 x σ = (loadN σ 3 x).map .agg := Eq.trans (by kernel_rfl) rfl
theorem loadF (x : DV) (σ : Store) : load PP 165 x σ = (loadN σ 4 x).map .agg := Eq.trans (by kernel_rfl) rfl
theorem faS0 (x : DV) : fieldAddr PP 199 x 0 = shiftPtr x 0 := Eq.trans (by kernel_rfl) rfl
theorem faS1 (x : DV) : fieldAddr PP 199 x 1 = shiftPtr x 1 := Eq.trans (by kernel_rfl) rfl
theorem faF0 (x : DV) : fieldAddr PP 165 x 0 = shiftPtr x 0 := Eq.trans (by kernel_rfl) rfl
theorem faF1 (x : DV) : fieldAddr PP 165 x 1 = shiftPtr x 3 := Eq.trans (by kernel_rfl) rfl
theorem bldS (r : Nat) : build PP 199 [(0, .map r)] = some (.agg [.map r, .p .nilsl]) := Eq.trans (by kernel_rfl) rfl
theorem bldFp (a b c : Int) (v : PV) : build PP 165 [(0, .agg (nodeD [a, b, c])), (1, .p v)] = some (.agg (nodeD [a, b, c] ++ [.p v])) := Eq.trans (by kernel_rfl) rfl
theorem bldFo (a b c : Int) (r ver sz n : Nat) (cs : List PV) : build PP 165 [(0, .agg (nodeD [a, b, c])), (1, .osl r ver sz n cs)] = some (.agg (nodeD [a, b, c] ++ [.osl r ver sz n cs])) := Eq.trans (by kernel_rfl) rfl
theorem bsp (a b c : Int) (v : PV) (σ : Store) : buildSlice PP none 161 1 [(0, .agg (nodeD [a, b, c] ++ [.p v]))] σ = some (.p (.sl true 1 (eInts [a, b, c] ++ [v])), σ) := Eq.trans (by kernel_rfl) rfl
theorem bso (a b c : Int) (r ver sz n : Nat) (cs : List PV) (σ : Store) : buildSlice PP none 161 1 [(0, .agg (nodeD [a, b, c] ++ [.osl r ver sz n cs]))] σ = some (.p (.sl true 1 (eInts [a, b, c] ++ [.sl false n cs])), σ) := Eq.trans (by kernel_rfl) rfl
theorem keyOkE (a b c : Int) : keyOk PP 40 163 (.agg (nodeD [a, b, c])) = true := Eq.trans (by kernel_rfl) rfl
theorem eqAtE (a b c a' b' c' : Int) : eqAt PP 40 163 (.agg (nodeD [a, b, c])) (.agg (nodeD [a', b', c'])) = (match some (a == a') with | some true => (match some (b == b') with | some true => (match some (c == c') with | some true => some true | r => r) | r => r) | r => r) := by kernel_rfl
theorem len3 {n : List Int} (h : n.length = 3) : ∃ a b c, n = [a, b, c] := by
  match n, h with
  | [a, b, c], _ => exact ⟨a, b, c, rfl⟩
theorem keyOkL {n : List Int} (h : n.length = 3) : keyOk PP 40 163 (.agg (nodeD n)) = true := by
  obtain ⟨a, b, c, rfl⟩ := len3 h
  exact keyOkE a b c
theorem beqD (x y : Int) : (x == y) = decide (y = x) := by
  by_cases e : y = x
  · subst e; simp
  · have e' : ¬ x = y := fun h => e h.symm
    simp [e, e']
theorem eqAtL {n n' : List Int} (h : n.length = 3) (h' : n'.length = 3) : eqAt PP 40 163 (.agg (nodeD n)) (.agg (nodeD n')) = some (decide (n' = n)) := by
  obtain ⟨a, b, c, rfl⟩ := len3 h
  obtain ⟨a', b', c', rfl⟩ := len3 h'
  rw [eqAtE]
  simp only [beqD]
  by_cases ha : a' = a <;> by_cases hb : b' = b <;> by_cases hc : c' = c <;> simp [ha, hb, hc]
theorem findKeyL {n : List Int} (h : n.length = 3) : ∀ q : List QE, (∀ x ∈ q, x.n.length = 3) → findKey PP 163 (.agg (nodeD n)) (entN q) = some (if hasN q n = true then some (.p (.bool true)) else none)
  | [], _ => rfl
  | x :: q, hq => by
    have ih := findKeyL h q fun y hy => hq y (by simp [hy])
    have e : entN (x :: q) = (.agg (nodeD x.n), .p (.bool true)) :: entN q := rfl
    have e2 : hasN (x :: q) n = (decide (x.n = n) || hasN q n) := rfl
    rw [e, findKey, eqAtL h (hq x (by simp)), e2]
    cases decide (x.n = n) with
    | true => rfl
    | false => simp only [Bool.false_or]; exact ih
theorem updKeyL {n : List Int} (p : List Int) (h : n.length = 3) : ∀ q : List QE, (∀ x ∈ q, x.n.length = 3) → hasN q n = false → updKey PP 163 (.agg (nodeD n)) (.p (.bool true)) (entN q) = some (entN (q ++ [⟨n, p⟩]))
  | [], _, _ => rfl
  | x :: q, hq, hn => by
    have e2 : hasN (x :: q) n = (decide (x.n = n) || hasN q n) := rfl
    rw [e2, Bool.or_eq_false_iff] at hn
    have ih := updKeyL p h q (fun y hy => hq y (by simp [hy])) hn.2
    have e : entN (x :: q) = (.agg (nodeD x.n), .p (.bool true)) :: entN q := rfl
    rw [e, updKey, eqAtL h (hq x (by simp)), hn.1, ih]
    rfl

/-! ### Where a search stands -/
structure SS (σ0 σ : Store) (m s : Nat) (q : List QE) (to : Nat) : Prop where
  mp : σ[m]? = some (.map (entN q))
  st : ∃ lay, σ[s]? = some (.mix [.map m, lay]) ∧ Out σ σ0.length 4 (q.length - to) (qsP (q.drop to)) lay
  le : to ≤ q.length
  ml : σ0.length ≤ m
  sl : σ0.length ≤ s
  ln : ∀ x ∈ q, x.n.length = 3
  low : Ext σ0 σ
theorem ext_len {σ σ' : Store} (h : Ext σ σ') : σ.length ≤ σ'.length := by
  cases hl : σ.length with
  | zero => exact Nat.zero_le _
  | succ n =>
    have h1 : n < σ.length := by omega
    exact get_lt (h n _ (List.getElem?_eq_getElem h1))
theorem SS.lle {σ0 σ : Store} {m s : Nat} {q : List QE} {to : Nat} (h : SS σ0 σ m s q to) : σ0.length ≤ σ.length := ext_len h.low
theorem SS.snoc {σ0 σ : Store} {m s : Nat} {q : List QE} {to : Nat} (h : SS σ0 σ m s q to) (r : Row) : SS σ0 (σ ++ [r]) m s q to := by
  obtain ⟨lay, h1, h2⟩ := h.st
  exact ⟨get_old h.mp, ⟨lay, get_old h1, h2.snoc⟩, h.le, h.ml, h.sl, h.ln, h.low.trans (Ext.snoc σ r)⟩
/-- Boxes that are kept. -/
def KeepB (σ σ' : Store) (s : Nat) : Prop := ∀ (j : Nat) (cs : List DV), j ≠ s → σ[j]? = some (.mix cs) → σ'[j]? = some (.mix cs)
theorem KeepB.trans {a b c : Store} {s : Nat} (h : KeepB a b s) (h2 : KeepB b c s) : KeepB a c s := fun j cs hj e => h2 j cs hj (h j cs hj e)
theorem keepB_snoc (σ : Store) (r : Row) (s : Nat) : KeepB σ (σ ++ [r]) s := fun j cs _ e => get_old e
theorem store1 {t lo : Nat} (hs : size? PP t = some 1) {σ : Store} {r off : Nat} {O : List DV} {v : DV} (h : σ[r]? = some (.mix O)) (ht : off < O.length) (hv : v.one = true) (hc : v.cells = [v]) (hlo : lo ≤ r) :
    store PP lo t (.ptr r off) v σ = some (σ.set r (.mix (O.set off v))) := by
  have h1 : off + 1 ≤ O.length := ht
  have h2 : splice O off [v] = O.set off v := by
    unfold splice
    rw [List.set_eq_take_append_cons_drop]
    simp [ht]
  simp [store, hs, hc, storeN, h, hv, h1, h2, hlo]
theorem storeNew {t n lo : Nat} (hs : size? PP t = some n) {cs z : List DV} (σ : Store) (hz : z.length = n) (hc : cs.length = n) (ho : cs.all DV.one = true) (hlo : lo ≤ σ.length) : store PP lo t (.ptr σ.length 0) (.agg cs) (σ ++ [.mix z]) = some (σ ++ [.mix cs]) := by
  have e : splice z 0 cs = cs := by simp [splice, hz, hc]
  simp [store, hs, DV.cells, storeN, hc, hz, ho, e, hlo]
theorem nodeD_len (n : List Int) : (nodeD n).length = n.length := by simp [nodeD]
theorem nodeD_one (n : List Int) : (nodeD n).all DV.one = true := by simp [nodeD, DV.one]
theorem box_agg {cs : List DV} (h : cs.all DV.one = true) : boxV (.agg cs) = some cs := by
  simp [boxV, DV.cells, h]
theorem out_one {σ : Store} {lo sz n : Nat} {cs : List PV} {x : DV} (ho : Out σ lo sz n cs x) : x.one = true ∧ x.cells = [x] := by
  rcases ho.2 with ⟨_, rfl⟩ | ⟨_, q, ver, rfl, _⟩ <;> exact ⟨rfl, rfl⟩
theorem lenS {σ σ' : Store} {lo sz n : Nat} {cs : List PV} {x : DV} (ho : Out σ lo sz n cs x) : len PP 161 x σ' = some (.p (pI (n : Nat))) := by
  rcases ho.2 with ⟨rfl, rfl⟩ | ⟨_, q, ver, rfl, _⟩ <;> simp [len, uS]
/-- Paths as they are handed to add. -/
def PthV (p : List Int) (x : DV) : Prop := x = .p (ePth p) ∨ (p ≠ [] ∧ ∃ r ver, x = .osl r ver 1 p.length (eInts p))
theorem bldF {n p : List Int} {x : DV} (hn : n.length = 3) (hx : PthV p x) (σ : Store) : ∃ y, build PP 165 [(0, .agg (nodeD n)), (1, x)] = some y ∧ buildSlice PP none 161 1 [(0, y)] σ = some (.p (.sl true 1 (qeP ⟨n, p⟩)), σ) := by
  obtain ⟨a, b, c, rfl⟩ := len3 hn
  rcases hx with rfl | ⟨h0, r, ver, rfl⟩
  · exact ⟨_, bldFp a b c _, bsp a b c _ _⟩
  · refine ⟨_, bldFo a b c _ _ _ _ _, (bso a b c _ _ _ _ _ _).trans ?_⟩
    simp [qeP, ePth, h0]

theorem add_ok {σ0 σ : Store} {m s to : Nat} {q : List QE} {n p : List Int} {x : DV} (h : SS σ0 σ m s q to) (hn : n.length = 3) (hx : PthV p x) (hq : q.length ≤ 100000) :
    ∃ σ', plainFn CC σ0.length (.fn 105 []) [.ptr s 0, .agg (nodeD n), x] σ = some (.tuple [], σ') ∧ SS σ0 σ' m s (addN q n p) to ∧ KeepB σ σ' s := by
  obtain ⟨lay, h1, h2⟩ := h.st
  have hB : (σ ++ [Row.mix (nodeD n)])[σ.length]? = some (.mix (nodeD n)) := get_snoc
  have hm : (σ ++ [Row.mix (nodeD n)])[m]? = some (.map (entN q)) := get_old h.mp
  have hs : (σ ++ [Row.mix (nodeD n)])[s]? = some (.mix [.map m, lay]) := get_old h1
  have hld : ∀ ρ : Store, ρ[σ.length]? = some (.mix (nodeD n)) → loadN ρ 3 (.ptr σ.length 0) = some (nodeD n) := fun ρ hρ =>
    loadN_ptr hρ (by rw [List.drop_zero, List.take_of_length_le (by rw [nodeD_len, hn]; exact Nat.le_refl _)]) (by rw [nodeD_len, hn]; exact Nat.le_refl _)
  have hlk : lookup PP 197 (.map m) (.agg (nodeD n)) false (σ ++ [.mix (nodeD n)]) = some (.p (.bool (hasN q n))) := by
    simp only [lookup, uM, keyOkL hn, if_true, hm, findKeyL hn q h.ln, zvB]
    cases hasN q n <;> rfl
  show ∃ σ', CC σ0.length 105 ([.ptr s 0, .agg (nodeD n), x] ++ []) σ = _ ∧ _
  rw [List.append_nil]
  unfold addN
  cases hh : hasN q n with
  | true =>
    rw [hh] at hlk
    refine ⟨σ ++ [.mix (nodeD n)], F105_call ?_, by simp only [if_true]; exact h.snoc _, keepB_snoc _ _ _⟩
    rw [F105_eq]
    have hbox : boxV (.agg (nodeD n)) = some (nodeD n) := box_agg (nodeD_one n)
    simp only [hbox, guard_tt, guard_ff, guard_tf, guard_ft, guard_sk, obind, omap, pickV_true, pickV_false, condK_true, condK_false, decide_true, decide_false, Bool.not_true, Bool.not_false, not_bool, nil_ptr, faS0, shift_ptr, shift_pptr, Nat.zero_add, Nat.add_zero, pureFn_fn, List.append_nil, List.singleton_append, List.cons_append, List.nil_append, loadM, load1_ptr (off := 0) hs rfl, loadN', hld _ hB, hlk]
  | false =>
    rw [hh] at hlk
    have hup : mapUpdate PP σ0.length 197 (.map m) (.agg (nodeD n)) (.p (.bool true)) (σ ++ [.mix (nodeD n)]) = some ((σ ++ [Row.mix (nodeD n)]).set m (.map (entN (q ++ [⟨n, p⟩])))) := by
      simp only [mapUpdate, uM, keyOkL hn, h.ml, DV.isUndef, and_self, if_true, hm, updKeyL p hn q h.ln hh, Option.map_some]
    have hmB : m ≠ σ.length := by have := get_lt h.mp; omega
    have hms : m ≠ s := by
      intro e
      have := h.mp
      rw [e, h1] at this
      exact absurd this (by simp)
    have hρB : ((σ ++ [Row.mix (nodeD n)]).set m (.map (entN (q ++ [⟨n, p⟩]))))[σ.length]? = some (.mix (nodeD n)) := get_set_ne hB (fun e => hmB e.symm)
    have hρs : ((σ ++ [Row.mix (nodeD n)]).set m (.map (entN (q ++ [⟨n, p⟩]))))[s]? = some (.mix [.map m, lay]) := get_set_ne hs (fun e => hms e.symm)
    have hρm : ((σ ++ [Row.mix (nodeD n)]).set m (.map (entN (q ++ [⟨n, p⟩]))))[m]? = some (.map (entN (q ++ [⟨n, p⟩]))) := by rw [List.getElem?_set_self (get_lt hm)]
    have hρo : Out ((σ ++ [Row.mix (nodeD n)]).set m (.map (entN (q ++ [⟨n, p⟩])))) σ0.length 4 (q.length - to) (qsP (q.drop to)) lay := by
      refine ⟨h2.1, ?_⟩
      rcases h2.2 with hz | ⟨hz, r, ver, e1, e2, e3⟩
      · exact .inl hz
      · refine .inr ⟨hz, r, ver, e1, get_set_ne (get_old e2) ?_, e3⟩
        intro e
        rw [e, h.mp] at e2
        exact absurd e2 (by simp)
    have hρlow : ∀ j row, j ≠ m → σ[j]? = some row → ((σ ++ [Row.mix (nodeD n)]).set m (.map (entN (q ++ [⟨n, p⟩]))))[j]? = some row := fun j row hj e => get_set_ne (get_old e) hj
    have hρlen : σ0.length ≤ ((σ ++ [Row.mix (nodeD n)]).set m (.map (entN (q ++ [⟨n, p⟩])))).length := by
      have := h.lle
      simp; omega
    generalize (σ ++ [Row.mix (nodeD n)]).set m (.map (entN (q ++ [⟨n, p⟩]))) = ρ at *
    obtain ⟨y, hy1, hy2⟩ := bldF hn hx ρ
    obtain ⟨x', σ', e1, o1, t1, f1⟩ := Out.pushF (vs := qeP ⟨n, p⟩) srcS uS sF bytesF zeroF (by simp [nodeD]) (by decide) (by decide) (by decide) (by rw [qeP_len, hn]) hρo (by omega) hρlen
    have gs : σ'[s]? = some (.mix [.map m, lay]) := t1 s _ hρs fun r ver sz n' cs e => by
      rintro rfl
      rcases hρo.2 with ⟨_, hz⟩ | ⟨_, r2, ver2, e3, e4, _⟩
      · rw [hz] at e; exact absurd e (by simp)
      · rw [e] at e3
        injection e3 with e5
        rw [← e5, hρs] at e4
        exact absurd e4 (by simp)
    have gm : σ'[m]? = some (.map (entN (q ++ [⟨n, p⟩]))) := t1 m _ hρm fun r ver sz n' cs e => by
      rintro rfl
      rcases hρo.2 with ⟨_, hz⟩ | ⟨_, r2, ver2, e3, e4, _⟩
      · rw [hz] at e; exact absurd e (by simp)
      · rw [e] at e3
        injection e3 with e5
        rw [← e5, hρm] at e4
        exact absurd e4 (by simp)
    have hone := out_one o1
    have hst := store1 (lo := σ0.length) sS gs (off := 1) (v := x') (by simp) hone.1 hone.2 h.sl
    have hmix : ∀ j cs, j ≠ s → ρ[j]? = some (.mix cs) → (σ'.set s (.mix [.map m, x']))[j]? = some (.mix cs) := by
      intro j cs hj e
      refine get_set_ne (t1 j _ e fun r ver sz n' cs' e2 => ?_) hj
      rintro rfl
      rcases hρo.2 with ⟨_, hz⟩ | ⟨_, r2, ver2, e3, e4, _⟩
      · rw [hz] at e2; exact absurd e2 (by simp)
      · rw [e2] at e3
        injection e3 with e5
        rw [← e5, e] at e4
        exact absurd e4 (by simp)
    have hql : q.length - to + 1 = (q ++ [(⟨n, p⟩ : QE)]).length - to := by have := h.le; simp; omega
    have hqd : qsP (q.drop to) ++ qeP ⟨n, p⟩ = qsP ((q ++ [(⟨n, p⟩ : QE)]).drop to) := by
      rw [List.drop_append_of_le_length h.le, qsP_app]
      simp [qsP]
    refine ⟨σ'.set s (.mix [.map m, x']), F105_call ?_, ?_, fun j cs hj e => hmix j cs hj (hρlow j _ ?_ e)⟩
    · rw [F105_eq]
      have hbox : boxV (.agg (nodeD n)) = some (nodeD n) := box_agg (nodeD_one n)
      simp only [hbox, guard_tt, guard_ff, guard_tf, guard_ft, guard_sk, obind, omap, pickV_true, pickV_false, condK_true, condK_false, decide_true, decide_false, Bool.not_true, Bool.not_false, not_bool, nil_ptr, faS0, faS1, shift_ptr, shift_pptr, Nat.zero_add, Nat.add_zero, pureFn_fn, List.append_nil, List.singleton_append, List.cons_append, List.nil_append, loadM, loadS, load1_ptr (off := 0) hs rfl, loadN', hld _ hB, hlk, hup, load1_ptr (off := 1) hρs rfl, hld _ hρB, hy1, hy2, e1, hst, List.set_cons_succ, List.set_cons_zero]
    · simp only [Bool.false_eq_true, if_false]
      refine ⟨get_set_ne gm hms, ⟨x', by rw [List.getElem?_set_self (get_lt gs)], ?_⟩, by have := h.le; simp; omega, h.ml, h.sl, ?_, ?_⟩
      · rw [← hql, ← hqd]
        refine ⟨o1.1, ?_⟩
        rcases o1.2 with hz | ⟨hz, r, ver, e3, e4, e5⟩
        · exact .inl hz
        · refine .inr ⟨hz, r, ver, e3, get_set_ne e4 ?_, e5⟩
          rintro rfl
          rw [gs] at e4
          exact absurd e4 (by simp)
      · intro y hy
        rcases List.mem_append.1 hy with hy | hy
        · exact h.ln y hy
        · rw [List.mem_singleton.1 hy]; exact hn
      · intro j row e
        have hj := get_lt e
        have hjm : j ≠ m := by have := h.ml; omega
        have hjs : j ≠ s := by have := h.sl; omega
        refine get_set_ne (t1 j row (hρlow j row hjm (h.low j row e)) fun r ver sz n' cs e2 => ?_) hjs
        rcases hρo.2 with ⟨_, hz⟩ | ⟨_, r2, ver2, e3, e4, e6⟩
        · rw [hz] at e2; exact absurd e2 (by simp)
        · rw [e2] at e3
          injection e3 with e5
          omega
    · intro e2
      rw [e2, h.mp] at e
      exact absurd e (by simp)

/-! ### The program's run -/
section
variable {σ0 : Store} {fv : FuncId} {caps : List DV} {vis : QE → List QE → Sum (List Int) (List QE)} {I : List QE → Prop} {B : Nat}
/-- What is asked of a visit. -/
def HV (σ0 : Store) (fv : FuncId) (caps : List DV) (vis : QE → List QE → Sum (List Int) (List QE)) (I : List QE → Prop) : Prop :=
  ∀ (σ : Store) (q : List QE) (i to : Nat) (x : QE) (m s : Nat), SS σ0 σ m s q to → I q → q[i]? = some x → i < to →
    ∃ r σ', plainFn CC σ0.length (.fn fv caps) [.ptr s 0, .agg (qeD x)] σ = some (r, σ') ∧
      ((∃ p, vis x q = .inl p ∧ p ≠ [] ∧ ∃ a v, r = .osl a v 1 p.length (eInts p)) ∨ (∃ q', vis x q = .inr q' ∧ r = .p .nilsl ∧ SS σ0 σ' m s q' to ∧ I q' ∧ q <+: q'))
def RR (r : DV) : Option (List Int) → Prop
  | none => r = .p .nilsl
  | some p => p ≠ [] ∧ ∃ a v, r = .osl a v 1 p.length (eInts p)
theorem idxS {a v n j : Nat} {cs : List PV} (h : j < n) : indexAddr PP 161 (.osl a v 4 n cs) (.p (pI (j : Nat))) = some (.pptr cs (j * 4)) := by
  have h2 : (0 : Int) ≤ (j : Int) ∧ (j : Int) < (n : Nat) := by omega
  simp [indexAddr, uS, sF, h2, h]
theorem qeD_len (x : QE) (h : x.n.length = 3) : (qeD x).length = 4 := by simp [qeD, nodeD, h]
theorem qeD_one (x : QE) : (qeD x).all DV.one = true := by simp [qeD, nodeD, DV.one]
theorem zlen : (nodeD [0, 0, 0] ++ [.p .nilsl] : List DV).length = 4 := rfl
theorem part_at {q : List QE} {fr to i : Nat} {x : QE} (hl : ∀ y ∈ q, y.n.length = 3) (hf : fr ≤ i) (hi : i < to) (ht : to ≤ q.length) (hx : q[i]? = some x) (σ : Store) :
    loadN σ 4 (.pptr (qsP ((q.take to).drop fr)) ((i - fr) * 4)) = some (qeD x) := by
  have hl2 : ∀ y ∈ (q.take to).drop fr, y.n.length = 3 := fun y hy => hl y (List.mem_of_mem_take (List.mem_of_mem_drop hy))
  have e1 : ((q.take to).drop fr)[i - fr]? = some x := by
    rw [List.getElem?_drop, show fr + (i - fr) = i by omega, List.getElem?_take]
    simp [hi, hx]
  have e2 := qsP_at (K := 3) hl2 e1
  have e3 := qsP_len (K := 3) hl2
  have e4 : ((q.take to).drop fr).length = to - fr := by rw [List.length_drop, List.length_take]; omega
  have e5 : (i - fr) * 4 + 4 ≤ (qsP ((q.take to).drop fr)).length := by rw [e3, e4]; omega
  simp only [loadN, e5, if_true]
  rw [e2, qeP_map]
theorem L2_step (hv : HV σ0 fv caps vis I) {σ : Store} {m s fr to i a v : Nat} {q : List QE} {x : QE} (h : SS σ0 σ m s q to) (hI : I q) (hf : fr ≤ i) (hi : i < to) (hx : q[i]? = some x) (hq : q.length ≤ 100000) :
    ∃ r σ', (∃ p, vis x q = .inl p ∧ p ≠ [] ∧ (∃ a v, r = .osl a v 1 p.length (eInts p)) ∧ f103_L2 guardT σ0.length (.fn fv caps) (.ptr s 0) (.osl a v 4 (to - fr) (qsP ((q.take to).drop fr))) (.p (pI ((to - fr : Nat)))) (.p (pI ((i - fr : Nat)))) σ = some (r, σ')) ∨
      (∃ q', vis x q = .inr q' ∧ SS σ0 σ' m s q' to ∧ I q' ∧ q <+: q' ∧ f103_L2 guardT σ0.length (.fn fv caps) (.ptr s 0) (.osl a v 4 (to - fr) (qsP ((q.take to).drop fr))) (.p (pI ((to - fr : Nat)))) (.p (pI ((i - fr : Nat)))) σ =
        f103_L2 guardT σ0.length (.fn fv caps) (.ptr s 0) (.osl a v 4 (to - fr) (qsP ((q.take to).drop fr))) (.p (pI ((to - fr : Nat)))) (.p (pI ((i + 1 - fr : Nat)))) σ') := by
  have hto := h.le
  have hxl : x.n.length = 3 := h.ln x (List.mem_of_getElem? hx)
  have h1 : ((i - fr : Nat) : Int) < ((to - fr : Nat) : Int) := by omega
  have h2 : i - fr < to - fr := by omega
  have hld := part_at (σ := σ) h.ln hf hi hto hx
  have hsn := storeNew (lo := σ0.length) (z := nodeD [0, 0, 0] ++ [.p .nilsl]) sF σ zlen (qeD_len x hxl) (qeD_one x) h.lle
  have hl2 : loadN (σ ++ [Row.mix (qeD x)]) 4 (.ptr σ.length 0) = some (qeD x) := loadN_ptr get_snoc (by rw [List.drop_zero, List.take_of_length_le (by rw [qeD_len x hxl]; exact Nat.le_refl _)]) (by rw [qeD_len x hxl]; exact Nat.le_refl _)
  obtain ⟨r, σ', e1, hr⟩ := hv _ q i to x m s (h.snoc (.mix (qeD x))) hI hx hi
  refine ⟨r, σ', ?_⟩
  rcases hr with ⟨p, hp, hp0, a', v', rfl⟩ | ⟨q', hq', rfl, k1, k2, k3⟩
  · refine .inl ⟨p, hp, hp0, ⟨a', v', rfl⟩, ?_⟩
    rw [f103_L2_eq guardT rfl]
    simp only [b_lss, b_eql, b_neq, b_leq, b_geq, b_gtr, h1, guard_tt, guard_ff, guard_tf, guard_ft, guard_sk, obind, omap, pickV_true, pickV_false, condK_true, condK_false, decide_true, decide_false, Bool.not_true, Bool.not_false, not_bool, idxS h2, loadF, hld, zeroF, hsn, hl2, e1, neq22_osl]
  · refine .inr ⟨q', hq', k1, k2, k3, ?_⟩
    rw [f103_L2_eq guardT rfl]
    simp only [b_lss, b_eql, b_neq, b_leq, b_geq, b_gtr, h1, guard_tt, guard_ff, guard_tf, guard_ft, guard_sk, obind, omap, pickV_true, pickV_false, condK_true, condK_false, decide_true, decide_false, Bool.not_true, Bool.not_false, not_bool, idxS h2, loadF, hld, zeroF, hsn, hl2, e1, neq22_nn, b_add, wrap_succ (show i - fr ≤ 1000000 by omega), show i - fr + 1 = i + 1 - fr by omega]
theorem L1_end {σ : Store} {m s to : Nat} {q : List QE} (h : SS σ0 σ m s q to) (hq : q.length = to) (x1 : DV) : f103_L1 guardT σ0.length x1 (.ptr s 0) σ = some (.p .nilsl, σ) := by
  obtain ⟨lay, h1, h2⟩ := h.st
  have hz : q.length - to = 0 := by omega
  have hl := lenS (σ' := σ) h2
  rw [hz] at hl
  rw [f103_L1_eq guardT rfl]
  simp only [nil_ptr, faS1, shift_ptr, shift_pptr, Nat.zero_add, Nat.add_zero, pureFn_fn, List.append_nil, List.singleton_append, List.cons_append, List.nil_append, loadS, load1_ptr (off := 1) h1 rfl, hl, b_lss, b_eql, b_neq, b_leq, b_geq, b_gtr, guard_tt, guard_ff, guard_tf, guard_ft, guard_sk, obind, omap, pickV_true, pickV_false, condK_true, condK_false, decide_true, decide_false, Bool.not_true, Bool.not_false, not_bool, show ¬ ((0 : Nat) : Int) > 0 by decide]
theorem L1_go {σ : Store} {m s to : Nat} {q : List QE} (h : SS σ0 σ m s q to) (hq : to < q.length) (x1 : DV) :
    ∃ a v σ', SS σ0 σ' m s q q.length ∧ f103_L1 guardT σ0.length x1 (.ptr s 0) σ = f103_L2 guardT σ0.length x1 (.ptr s 0) (.osl a v 4 (q.length - to) (qsP ((q.take q.length).drop to))) (.p (pI ((q.length - to : Nat)))) (.p (pI ((to - to : Nat)))) σ' := by
  obtain ⟨lay, h1, h2⟩ := h.st
  obtain ⟨a, v, rfl⟩ := h2.osl (by omega)
  have hl := fun σ' => lenS (σ' := σ') h2
  have hst := store1 (lo := σ0.length) sS h1 (off := 1) (v := .p .nilsl) (by simp) rfl rfl h.sl
  have hms : m ≠ s := by
    intro e
    have := h.mp
    rw [e, h1] at this
    exact absurd this (by simp)
  refine ⟨a, v, σ.set s (.mix [.map m, .p .nilsl]), ⟨get_set_ne h.mp hms, ⟨.p .nilsl, by rw [List.getElem?_set_self (get_lt h1)], ?_⟩, Nat.le_refl _, h.ml, h.sl, h.ln, fun j row e => ?_⟩, ?_⟩
  · rw [Nat.sub_self, List.drop_length]
    exact Out.zero
  · exact get_set_ne (h.low j row e) (by have := get_lt e; have := h.sl; omega)
  · rw [f103_L1_eq guardT rfl]
    have hp : ((q.length - to : Nat) : Int) > 0 := by omega
    simp only [nil_ptr, faS1, shift_ptr, shift_pptr, Nat.zero_add, Nat.add_zero, pureFn_fn, List.append_nil, List.singleton_append, List.cons_append, List.nil_append, loadS, load1_ptr (off := 1) h1 rfl, hl, b_lss, b_eql, b_neq, b_leq, b_geq, b_gtr, guard_tt, guard_ff, guard_tf, guard_ft, guard_sk, obind, omap, pickV_true, pickV_false, condK_true, condK_false, decide_true, decide_false, Bool.not_true, Bool.not_false, not_bool, hp, hst, List.set_cons_succ, List.set_cons_zero, List.take_length, Nat.sub_self]
    rfl
theorem bfsQ_none {k i : Nat} {q : List QE} (h : q[i]? = none) : bfsQ vis (k + 1) i q = none := by
  unfold bfsQ
  rw [h]
theorem run_L2 (hv : HV σ0 fv caps vis I) (hB : ∀ q, I q → q.length ≤ B) (hB2 : B ≤ 100000) : ∀ (k i fr to : Nat) (q : List QE) (σ : Store) (a v m s : Nat), B - i = k → fr ≤ i → i ≤ to → SS σ0 σ m s q to → I q →
    ∃ r σ', f103_L2 guardT σ0.length (.fn fv caps) (.ptr s 0) (.osl a v 4 (to - fr) (qsP ((q.take to).drop fr))) (.p (pI ((to - fr : Nat)))) (.p (pI ((i - fr : Nat)))) σ = some (r, σ') ∧ RR r (bfsQ vis (k + 1) i q) := by
  intro k
  induction k with
  | zero =>
    intro i fr to q σ a v m s hk hf hi h hI
    have hqB := hB q hI
    have hto := h.le
    have hit : i = to := by omega
    have hend : q.length = to := by omega
    refine ⟨.p .nilsl, σ, ?_, ?_⟩
    · rw [f103_L2_eq guardT rfl]
      have h1 : ¬ ((i - fr : Nat) : Int) < ((to - fr : Nat) : Int) := by omega
      simp only [b_lss, b_eql, b_neq, b_leq, b_geq, b_gtr, h1, guard_tt, guard_ff, guard_tf, guard_ft, guard_sk, obind, omap, pickV_true, pickV_false, condK_true, condK_false, decide_true, decide_false, Bool.not_true, Bool.not_false, not_bool, L1_end h hend]
    · rw [bfsQ_none (List.getElem?_eq_none (by omega))]
      rfl
  | succ k ih =>
    have main : ∀ (i fr to : Nat) (q : List QE) (σ : Store) (a v m s : Nat), B - i = k + 1 → fr ≤ i → i < to → SS σ0 σ m s q to → I q →
        ∃ r σ', f103_L2 guardT σ0.length (.fn fv caps) (.ptr s 0) (.osl a v 4 (to - fr) (qsP ((q.take to).drop fr))) (.p (pI ((to - fr : Nat)))) (.p (pI ((i - fr : Nat)))) σ = some (r, σ') ∧ RR r (bfsQ vis (k + 1 + 1) i q) := by
      intro i fr to q σ a v m s hk hf hi h hI
      have hqB := hB q hI
      have hto := h.le
      have hiq : i < q.length := by omega
      have hx : q[i]? = some q[i] := List.getElem?_eq_getElem hiq
      obtain ⟨r, σ', hr⟩ := L2_step hv (a := a) (v := v) h hI hf hi hx (by omega)
      rcases hr with ⟨p, hp, hp0, hp1, e⟩ | ⟨q', hq', k1, k2, k3, e⟩
      · refine ⟨r, σ', e, ?_⟩
        unfold bfsQ
        rw [hx]
        simp only [hp]
        exact ⟨hp0, hp1⟩
      · have ht : q'.take to = q.take to := by
          obtain ⟨t, rfl⟩ := k3
          rw [List.take_append_of_le_length hto]
        obtain ⟨r2, σ2, e2, hr2⟩ := ih (i + 1) fr to q' σ' a v m s (by omega) (by omega) (by omega) k1 k2
        rw [ht] at e2
        refine ⟨r2, σ2, e.trans e2, ?_⟩
        unfold bfsQ
        rw [hx]
        simp only [hq']
        exact hr2
    intro i fr to q σ a v m s hk hf hi h hI
    by_cases hlt : i < to
    · exact main i fr to q σ a v m s hk hf hlt h hI
    · have hit : i = to := by omega
      subst hit
      have hto := h.le
      have h1 : ¬ ((i - fr : Nat) : Int) < ((i - fr : Nat) : Int) := by omega
      have hL : f103_L2 guardT σ0.length (.fn fv caps) (.ptr s 0) (.osl a v 4 (i - fr) (qsP ((q.take i).drop fr))) (.p (pI ((i - fr : Nat)))) (.p (pI ((i - fr : Nat)))) σ = f103_L1 guardT σ0.length (.fn fv caps) (.ptr s 0) σ := by
        rw [f103_L2_eq guardT rfl]
        simp only [b_lss, b_eql, b_neq, b_leq, b_geq, b_gtr, h1, guard_tt, guard_ff, guard_tf, guard_ft, guard_sk, obind, omap, pickV_true, pickV_false, condK_true, condK_false, decide_true, decide_false, Bool.not_true, Bool.not_false, not_bool]
      rw [hL]
      by_cases hend : q.length = i
      · refine ⟨.p .nilsl, σ, L1_end h hend _, ?_⟩
        rw [bfsQ_none (List.getElem?_eq_none (by omega))]
        rfl
      · obtain ⟨a', v', σ', k1, e⟩ := L1_go h (by omega) (.fn fv caps)
        rw [e]
        exact main i i q.length q σ' a' v' m s hk (Nat.le_refl _) (by omega) k1 hI
theorem addE_len (q : List QE) (x : QE) : (addE q x).length ≤ q.length + 1 := by
  unfold addE addN
  split
  · omega
  · simp
theorem run_L0 {bq : List QE} (hb : ∀ x ∈ bq, x.n.length = 3) (hbn : bq.length ≤ 100000) (x1 : DV) : ∀ (k j : Nat) (σ : Store) (m s : Nat), bq.length - j = k → j ≤ bq.length → SS σ0 σ m s ((bq.take j).foldl addE []) 0 → ((bq.take j).foldl addE []).length ≤ j →
    ∃ σ', f103_L0 guardT σ0.length x1 (.ptr s 0) (.p (.sl false bq.length (qsP bq))) (.p (pI (bq.length : Nat))) (.p (pI (j : Nat))) σ = f103_L1 guardT σ0.length x1 (.ptr s 0) σ' ∧ SS σ0 σ' m s (bq.foldl addE []) 0
  | 0, j, σ, m, s, hk, hj, h, hl => by
    have : j = bq.length := by omega
    subst this
    rw [List.take_length] at h
    refine ⟨σ, ?_, h⟩
    rw [f103_L0_eq guardT rfl]
    have h1 : ¬ ((bq.length : Nat) : Int) < ((bq.length : Nat) : Int) := by omega
    simp only [b_lss, b_eql, b_neq, b_leq, b_geq, b_gtr, h1, guard_tt, guard_ff, guard_tf, guard_ft, guard_sk, obind, omap, pickV_true, pickV_false, condK_true, condK_false, decide_true, decide_false, Bool.not_true, Bool.not_false, not_bool]
  | k + 1, j, σ, m, s, hk, hj, h, hl => by
    have hjl : j < bq.length := by omega
    have hx : bq[j]? = some bq[j] := List.getElem?_eq_getElem hjl
    have hxl : (bq[j]).n.length = 3 := hb _ (List.getElem_mem hjl)
    have h1 : (j : Int) < ((bq.length : Nat) : Int) := by omega
    have hidx : indexAddr PP 161 (.p (.sl false bq.length (qsP bq))) (.p (pI (j : Nat))) = some (.pptr (qsP bq) (j * 4)) := by
      have h2 : (0 : Int) ≤ (j : Int) ∧ (j : Int) < (bq.length : Nat) := by omega
      simp [indexAddr, uS, sF, h2, hjl]
    have hld := part_at (σ := σ) (fr := 0) (to := bq.length) hb (Nat.zero_le _) hjl (Nat.le_refl _) hx
    rw [List.take_length, List.drop_zero, Nat.sub_zero] at hld
    have hsn := storeNew (lo := σ0.length) (z := nodeD [0, 0, 0] ++ [.p .nilsl]) sF σ zlen (qeD_len bq[j] hxl) (qeD_one bq[j]) h.lle
    have hg : (σ ++ [Row.mix (qeD bq[j])])[σ.length]? = some (.mix (qeD bq[j])) := get_snoc
    have hl2 : loadN (σ ++ [Row.mix (qeD bq[j])]) 3 (.ptr σ.length 0) = some (nodeD bq[j].n) := loadN_ptr hg (by
      have e : (nodeD bq[j].n).length = 3 := by rw [nodeD_len, hxl]
      rw [List.drop_zero, qeD, List.take_append_of_le_length (by omega), List.take_of_length_le (by omega)]) (by rw [qeD_len _ hxl]; omega)
    have hl3 : load1 (.ptr σ.length 3) (σ ++ [Row.mix (qeD bq[j])]) = some (.p (ePth bq[j].p)) := load1_ptr hg (by
      have e : (nodeD bq[j].n).length = 3 := by rw [nodeD_len, hxl]
      rw [qeD, List.getElem?_append_right (by omega), e]; rfl)
    obtain ⟨σ', e1, k1, _⟩ := add_ok (h.snoc (.mix (qeD bq[j]))) hxl (x := .p (ePth bq[j].p)) (p := bq[j].p) (.inl rfl) (by omega)
    have hts : (bq.take (j + 1)).foldl addE [] = addN ((bq.take j).foldl addE []) bq[j].n bq[j].p := by
      rw [List.take_succ_eq_append_getElem hjl, List.foldl_append]; rfl
    rw [← hts] at k1
    obtain ⟨σ2, e2, k2⟩ := run_L0 hb hbn x1 k (j + 1) σ' m s (by omega) (by omega) k1 (by
      rw [hts]
      exact Nat.le_trans (addE_len ((bq.take j).foldl addE []) bq[j]) (by omega))
    refine ⟨σ2, ?_, k2⟩
    rw [f103_L0_eq guardT rfl]
    simp only [b_lss, b_eql, b_neq, b_leq, b_geq, b_gtr, h1, guard_tt, guard_ff, guard_tf, guard_ft, guard_sk, obind, omap, pickV_true, pickV_false, condK_true, condK_false, decide_true, decide_false, Bool.not_true, Bool.not_false, not_bool, hidx, loadF, hld, zeroF, hsn, faF0, faF1, shift_ptr, shift_pptr, Nat.zero_add, Nat.add_zero, pureFn_fn, List.append_nil, List.singleton_append, List.cons_append, List.nil_append, loadN', hl2, load22, hl3, e1, b_add, wrap_succ (show j ≤ 1000000 by omega)]
    exact e2
theorem run_nil (hc : caps.all rowFree1 = false) : pureV CC 103 [.p .nilsl, .fn fv caps] σ0 = some (.p .nilsl) := by
  have hs0 : SS σ0 ((σ0 ++ [Row.map []]) ++ [Row.mix [.map σ0.length, .p .nilsl]]) σ0.length (σ0 ++ [Row.map []]).length [] 0 := by
    refine ⟨get_old get_snoc, ⟨.p .nilsl, get_snoc, ?_⟩, Nat.le_refl _, Nat.le_refl _, by simp, fun x hx => absurd hx (by simp), (Ext.snoc _ _).trans (Ext.snoc _ _)⟩
    exact Out.zero
  refine pureV_rows rfl (by simp [rowFree, hc]) (F103_call (r := (.p .nilsl, (σ0 ++ [Row.map []]) ++ [Row.mix [.map σ0.length, .p .nilsl]])) ?_) rfl
  have hln : ∀ σ, len PP 161 (.p .nilsl) σ = some (.p (pI 0)) := fun σ => by simp [len, uS]
  have hbox : boxV (.agg [.map σ0.length, .p .nilsl]) = some [.map σ0.length, .p .nilsl] := rfl
  rw [F103_eq]
  simp only [bldS, hbox, guard_tt, guard_ff, guard_tf, guard_ft, guard_sk, obind, omap, pickV_true, pickV_false, condK_true, condK_false, decide_true, decide_false, Bool.not_true, Bool.not_false, not_bool, hln]
  rw [f103_L0_eq guardT rfl]
  simp only [b_lss, b_eql, b_neq, b_leq, b_geq, b_gtr, Int.lt_irrefl, guard_tt, guard_ff, guard_tf, guard_ft, guard_sk, obind, omap, pickV_true, pickV_false, condK_true, condK_false, decide_true, decide_false, Bool.not_true, Bool.not_false, not_bool, L1_end hs0 rfl]
theorem run_ok (hv : HV σ0 fv caps vis I) (hB : ∀ q, I q → q.length ≤ B) (hB2 : B ≤ 100000) {bq : List QE} (hb : ∀ x ∈ bq, x.n.length = 3) (hbn : bq.length ≤ 100000) (hI : I (bq.foldl addE [])) (hc : caps.all rowFree1 = false) :
    pureV CC 103 [.p (.sl false bq.length (qsP bq)), .fn fv caps] σ0 = some (match bfsQ vis (B + 1) 0 (bq.foldl addE []) with | none => .p .nilsl | some p => .p (.sl false p.length (eInts p))) := by
  have hs0 : SS σ0 ((σ0 ++ [Row.map []]) ++ [Row.mix [.map σ0.length, .p .nilsl]]) σ0.length (σ0 ++ [Row.map []]).length [] 0 := by
    refine ⟨get_old get_snoc, ⟨.p .nilsl, get_snoc, ?_⟩, Nat.le_refl _, Nat.le_refl _, by simp, fun x hx => absurd hx (by simp), (Ext.snoc _ _).trans (Ext.snoc _ _)⟩
    exact Out.zero
  obtain ⟨σ1, e1, k1⟩ := run_L0 hb hbn (.fn fv caps) _ 0 _ _ _ (Nat.sub_zero _) (Nat.zero_le _) hs0 (Nat.le_refl _)
  have key : ∃ r σ', f103_L1 guardT σ0.length (.fn fv caps) (.ptr (σ0 ++ [Row.map []]).length 0) σ1 = some (r, σ') ∧ RR r (bfsQ vis (B + 1) 0 (bq.foldl addE [])) := by
    by_cases h0 : (bq.foldl addE []).length = 0
    · refine ⟨.p .nilsl, σ1, L1_end k1 h0 _, ?_⟩
      rw [bfsQ_none (List.getElem?_eq_none (by omega))]
      rfl
    · obtain ⟨a, v, σ2, k2, e2⟩ := L1_go k1 (by omega) (.fn fv caps)
      rw [e2]
      exact run_L2 hv hB hB2 B 0 0 _ _ σ2 a v _ _ (Nat.sub_zero _) (Nat.le_refl _) (Nat.zero_le _) k2 hI
  obtain ⟨r, σ', e3, hr⟩ := key
  have hv1 : view (.p (.sl false bq.length (qsP bq))) = .p (.sl false bq.length (qsP bq)) := by simp [view, viewCell, loosen, loosens_qs]
  refine pureV_rows (by simp [hv1, fn_view]) (by simp [rowFree, hc]) (F103_call (r := (r, σ')) ?_) ?_
  · have hln : ∀ σ, len PP 161 (.p (.sl false bq.length (qsP bq))) σ = some (.p (pI (bq.length : Nat))) := fun σ => by simp [len, uS]
    have hbox : boxV (.agg [.map σ0.length, .p .nilsl]) = some [.map σ0.length, .p .nilsl] := rfl
    rw [F103_eq]
    simp only [bldS, hbox, guard_tt, guard_ff, guard_tf, guard_ft, guard_sk, obind, omap, pickV_true, pickV_false, condK_true, condK_false, decide_true, decide_false, Bool.not_true, Bool.not_false, not_bool, hln]
    exact e1.trans e3
  · cases hbq : bfsQ vis (B + 1) 0 (bq.foldl addE []) with
    | none =>
      rw [hbq] at hr
      have hr : r = .p .nilsl := hr
      subst hr
      rfl
    | some p =>
      rw [hbq] at hr
      obtain ⟨_, a, v, rfl⟩ := hr
      simp [thawAll, thawPart, thaw, thaw1, thawP, loosens_ints]
end
end Go.D.RnV
end
/- What the search for violations does at a node. -/
section
set_option linter.unusedVariables false
set_option linter.unusedSimpArgs false
namespace Go.D
/-! ### Paths: a first state, then letters and states in turn -/
def outC (c : Cmp) (s : Int) : Int := (L c.out).getD s.toNat 0
def stsOf : List Int → List Int
  | _ :: t :: r => t :: stsOf r
  | _ => []
def prsOf (c : Cmp) : Int → List Int → List Pr
  | s, i :: t :: r => ⟨i, outC c s⟩ :: prsOf c t r
  | _, _ => []
def endOf : Int → List Int → Int
  | _, _ :: t :: r => endOf t r
  | s, _ => s
theorem stsOf_snoc (i t : Int) : ∀ (r : List Int), r.length % 2 = 0 → stsOf (r ++ [i, t]) = stsOf r ++ [t]
  | [], _ => rfl
  | [a], h => absurd h (by simp)
  | a :: b :: r, h => by
    have := stsOf_snoc i t r (by simp at h; omega)
    show b :: stsOf (r ++ [i, t]) = _
    rw [this]; rfl
theorem endOf_snoc (i t : Int) : ∀ (s : Int) (r : List Int), r.length % 2 = 0 → endOf s (r ++ [i, t]) = t
  | s, [], _ => rfl
  | s, [a], h => absurd h (by simp)
  | s, a :: b :: r, h => endOf_snoc i t b r (by simp at h; omega)
theorem prsOf_snoc (c : Cmp) (i t : Int) : ∀ (s : Int) (r : List Int), r.length % 2 = 0 → prsOf c s (r ++ [i, t]) = prsOf c s r ++ [⟨i, outC c (endOf s r)⟩]
  | s, [], _ => rfl
  | s, [a], h => absurd h (by simp)
  | s, a :: b :: r, h => by
    have := prsOf_snoc c i t b r (by simp at h; omega)
    show ⟨a, outC c s⟩ :: prsOf c b (r ++ [i, t]) = _
    rw [this]; rfl
theorem stsOf_len : ∀ (r : List Int), r.length % 2 = 0 → (stsOf r).length = r.length / 2
  | [], _ => rfl
  | [a], h => absurd h (by simp)
  | a :: b :: r, h => by
    have := stsOf_len r (by simp at h; omega)
    simp only [stsOf, List.length_cons, this]; omega
theorem prsOf_len (c : Cmp) : ∀ (s : Int) (r : List Int), r.length % 2 = 0 → (prsOf c s r).length = r.length / 2
  | s, [], _ => rfl
  | s, [a], h => absurd h (by simp)
  | s, a :: b :: r, h => by
    have := prsOf_len c b r (by simp at h; omega)
    simp only [prsOf, List.length_cons, this]; omega
/-- A path that ends in a state, with states in range. -/
structure POk (n : Nat) (p : List Int) (at0 : Int) : Prop where
  ex : ∃ s r, p = s :: r ∧ r.length % 2 = 0 ∧ endOf s r = at0 ∧ ∀ v ∈ s :: stsOf r, 0 ≤ v ∧ v < n
theorem POk.snoc {n : Nat} {p : List Int} {a i t : Int} (h : POk n p a) (ht : 0 ≤ t ∧ t < n) : POk n (p ++ [i, t]) t := by
  obtain ⟨s, r, rfl, h1, h2, h3⟩ := h.ex
  refine ⟨s, r ++ [i, t], rfl, by simp; omega, endOf_snoc i t s r h1, fun v hv => ?_⟩
  rw [stsOf_snoc i t r h1] at hv
  have : v ∈ s :: stsOf r ∨ v = t := by simpa [or_assoc] using hv
  rcases this with h | rfl
  · exact h3 v h
  · exact ht

/-! ### The visit, in plain terms -/
def vpr (c : Cmp) (e : Edg) : Pr := ⟨e.t, outC c e.f⟩
def visVF (c : Cmp) (wa wg : W3) (x : QE) : Nat → Nat → List QE → Sum (List Int) (List QE)
  | 0, _, q => .inr q
  | r + 1, k, q =>
    if ((L c.mv).getD k default).f = x.n.getD 0 0 then
      if nextW wg (x.n.getD 2 0) (vpr c ((L c.mv).getD k default)) = -1 then .inl (x.p ++ [((L c.mv).getD k default).t, ((L c.mv).getD k default).a])
      else if nextW wa (x.n.getD 1 0) (vpr c ((L c.mv).getD k default)) = -1 then visVF c wa wg x r (k + 1) q
      else visVF c wa wg x r (k + 1) (addN q [((L c.mv).getD k default).a, nextW wa (x.n.getD 1 0) (vpr c ((L c.mv).getD k default)), nextW wg (x.n.getD 2 0) (vpr c ((L c.mv).getD k default))] (x.p ++ [((L c.mv).getD k default).t, ((L c.mv).getD k default).a]))
    else visVF c wa wg x r (k + 1) q
def visV (c : Cmp) (wa wg : W3) (x : QE) (q : List QE) : Sum (List Int) (List QE) := visVF c wa wg x (L c.mv).length 0 q
/-- Right nodes. -/
structure NOkV (n : Nat) (wa wg : W3) (l : List Int) : Prop where
  len : l.length = 3
  at0 : 0 ≤ l.getD 0 0 ∧ l.getD 0 0 < n
  a : 0 ≤ l.getD 1 0 ∧ l.getD 1 0 < (wa.length : Nat)
  g : 0 ≤ l.getD 2 0 ∧ l.getD 2 0 < (wg.length : Nat)
structure IV (n : Nat) (wa wg : W3) (q : List QE) : Prop where
  nd : (q.map (·.n)).Nodup
  ok : ∀ x ∈ q, NOkV n wa wg x.n
  pl : ∀ x ∈ q, x.p.length < 2 * q.length
  pp : ∀ x ∈ q, POk n x.p (x.n.getD 0 0)
theorem IV.add {n : Nat} {wa wg : W3} {q : List QE} {l p : List Int} (h : IV n wa wg q) (hn : NOkV n wa wg l) (hp : p.length < 2 * q.length + 2) (hv : POk n p (l.getD 0 0)) : IV n wa wg (addN q l p) := by
  unfold addN
  split
  · exact h
  · rename_i hh
    have hh : ¬ ∃ x ∈ q, x.n = l := fun e => hh (hasN_mem.2 e)
    have hm : ∀ y ∈ q ++ [(⟨l, p⟩ : QE)], y ∈ q ∨ y = ⟨l, p⟩ := fun y hy => by simpa using hy
    refine ⟨?_, fun y hy => ?_, fun y hy => ?_, fun y hy => ?_⟩
    · rw [List.map_append, List.nodup_append]
      refine ⟨h.nd, by simp, fun a ha b hb => ?_⟩
      obtain ⟨x, hx, rfl⟩ := List.mem_map.1 ha
      have : b = l := by simpa using hb
      subst this
      exact fun e => hh ⟨x, hx, e⟩
    · rcases hm y hy with h1 | rfl
      · exact h.ok y h1
      · exact hn
    · rw [List.length_append]
      rcases hm y hy with h1 | rfl
      · have := h.pl y h1; simp; omega
      · simp; omega
    · rcases hm y hy with h1 | rfl
      · exact h.pp y h1
      · exact hv
theorem IV.le {n : Nat} {wa wg : W3} {q : List QE} (hn : n ≤ 10) (ha : WOk wa wa.length) (hg : WOk wg wg.length) (h : IV n wa wg q) : q.length ≤ 360 := by
  have h1 : (q.map (·.n)).length ≤ (allTo [10, 6, 6]).length := by
    refine nodup_le h.nd fun l hl => ?_
    obtain ⟨x, hx, rfl⟩ := List.mem_map.1 hl
    have hk := h.ok x hx
    have h6 := ha.n6
    have h7 := hg.n6
    refine allTo_mem (by rw [hk.len]; rfl) fun i h1 h2 => ?_
    rw [← getD_at 0 h1]
    have hi : i < 3 := by rw [hk.len] at h1; exact h1
    match i, hi with
    | 0, _ => have := hk.at0; show _ ∧ _ < ((10 : Nat) : Int); omega
    | 1, _ => have := hk.a; show _ ∧ _ < ((6 : Nat) : Int); omega
    | 2, _ => have := hk.g; show _ ∧ _ < ((6 : Nat) : Int); omega
  rw [allTo_len, List.length_map] at h1
  exact h1
theorem vpr_ok {c : Cmp} {n : Nat} (hc : COk c n) {k : Nat} (hk : k < (L c.mv).length) : badP (vpr c ((L c.mv).getD k default)) = false := by
  rw [getD_at default hk]
  obtain ⟨h1, h2, h3⟩ := hc.ml _ (List.getElem_mem hk)
  have h4 := hc.ol ((L c.mv)[k].f).toNat (by omega)
  simp only [badP, vpr, h3, outC, h4]; rfl

/-! ### The visit, by the program -/
open RnV
theorem fa163_0 (x : DV) : fieldAddr PP 163 x 0 = shiftPtr x 0 := Eq.trans (by kernel_rfl) rfl
theorem fa163_1 (x : DV) : fieldAddr PP 163 x 1 = shiftPtr x 1 := Eq.trans (by kernel_rfl) rfl
theorem fa163_2 (x : DV) : fieldAddr PP 163 x 2 = shiftPtr x 2 := Eq.trans (by kernel_rfl) rfl
theorem load27v (x : DV) (σ : Store) : load PP 27 x σ = load1 x σ := Eq.trans (by kernel_rfl) rfl
theorem build163 (a b d : Int) : build PP 163 [(0, .p (pI a)), (1, .p (pI b)), (2, .p (pI d))] = some (.agg (nodeD [a, b, d])) := Eq.trans (by kernel_rfl) rfl
theorem bs22_2v (x y : Int) (σ : Store) : buildSlice PP none 22 2 [(0, .p (pI x)), (1, .p (pI y))] σ = some (.p (.sl true 2 (eInts [x, y])), σ) := Eq.trans (by kernel_rfl) rfl
theorem qeV_at {x : QE} (h : x.n.length = 3) {i : Nat} (hi : i < 3) : (qeD x)[i]? = some (.p (pI (x.n.getD i 0))) := by
  have e : (nodeD x.n).length = 3 := by rw [nodeD_len, h]
  rw [qeD, List.getElem?_append_left (by omega)]
  simp only [nodeD, List.getElem?_map]
  rw [List.getElem?_eq_getElem (by omega), getD_at 0 (by omega)]
  rfl
section
variable {σ0 : Store} {rc ra rg n : Nat} {c : Cmp} {wa wg : OW} (h1 : σ0[rc]? = some (.mix (eCmp c))) (h2 : σ0[ra]? = some (.mix [.p (eWt wa)])) (h3 : σ0[rg]? = some (.mix [.p (eWt wg)]))
  (hc : COk c n) (ha : WOk (wl wa) (wl wa).length) (hg : WOk (wl wg) (wl wg).length)
include h1 h2 h3 hc ha hg
theorem L104_0 {x : QE} {m s to b : Nat} {q0 : List QE} (hx : NOkV n (wl wa) (wl wg) x.n) (hbs : b ≠ s) (hpx : POk n x.p (x.n.getD 0 0)) (hpl : x.p.length < 2 * q0.length) :
    ∀ (r k : Nat) (σ : Store) (q : List QE), (L c.mv).length - k = r → k ≤ (L c.mv).length → SS σ0 σ m s q to → IV n (wl wa) (wl wg) q → q0 <+: q → σ[b]? = some (.mix (qeD x)) →
    ∃ v σ', f104_L0 guardT σ0.length (.ptr s 0) (.ptr rc 0) (.ptr rg 0) (.ptr ra 0) (.ptr b 0) (.p (eEs c.mv)) (.p (pI ((L c.mv).length : Nat))) (.p (pI (k : Nat))) σ = some (v, σ') ∧
      ((∃ p, visVF c (wl wa) (wl wg) x r k q = .inl p ∧ p ≠ [] ∧ ∃ a u, v = .osl a u 1 p.length (eInts p)) ∨ (∃ q', visVF c (wl wa) (wl wg) x r k q = .inr q' ∧ v = .p .nilsl ∧ SS σ0 σ' m s q' to ∧ IV n (wl wa) (wl wg) q' ∧ q0 <+: q'))
  | 0, k, σ, q, hk, hkl, hS, hI, hpre, hb => by
    have hn : ¬ (k : Int) < ((L c.mv).length : Nat) := by omega
    refine ⟨.p .nilsl, σ, ?_, .inr ⟨q, rfl, rfl, hS, hI, hpre⟩⟩
    rw [f104_L0_eq guardT rfl]
    simp only [b_lss, b_eql, b_neq, b_leq, b_geq, b_gtr, hn, guard_tt, guard_ff, guard_tf, guard_ft, guard_sk, obind, omap, pickV_true, pickV_false, condK_true, condK_false, decide_true, decide_false, Bool.not_true, Bool.not_false, not_bool]
  | r + 1, k, σ, q, hk, hkl, hS, hI, hpre, hb => by
    have hm60 := hc.m60
    have hn10 := hc.n10
    have hkk : k < (L c.mv).length := by omega
    have h' : (k : Int) < ((L c.mv).length : Nat) := by omega
    have hql := hI.le hn10 ha hg
    have hp := vpr_ok hc hkk
    obtain ⟨hef, hea, het⟩ := hc.ml _ (List.getElem_mem hkk)
    rw [← getD_at default hkk] at hef hea het
    have hlle := hS.lle
    have hbl := get_lt hb
    have hpq : x.p.length < 2 * q.length := Nat.lt_of_lt_of_le hpl (Nat.mul_le_mul_left 2 hpre.length_le)
    have hof : ((L c.mv).getD k default).f.toNat < (L c.out).length := by rw [hc.o]; omega
    unfold visVF
    generalize hE : (L c.mv).getD k default = e at *
    have hld106 : (loadN σ 3 (.pptr (eEdgs (L c.mv)) (k * 3))).map DV.agg = some (.agg (edgD e)) := by rw [load106_D hkk, hE]
    have n1 := storeNew (lo := σ0.length) (cs := edgD e) (z := [.p (pI 0), .p (pI 0), .p (pI 0)]) s106 σ rfl rfl rfl hlle
    have gE : (σ ++ [Row.mix (edgD e)])[σ.length]? = some (.mix (edgD e)) := get_snoc
    have hb1 : (σ ++ [Row.mix (edgD e)])[b]? = some (.mix (qeD x)) := get_old hb
    have hS1 := hS.snoc (.mix (edgD e))
    have hJ : ∀ σ'', f104_J0 guardT σ0.length (.ptr s 0) (.ptr rc 0) (.ptr rg 0) (.ptr ra 0) (.ptr b 0) (.p (eEs c.mv)) (.p (pI ((L c.mv).length : Nat))) (.p (pI (k : Nat))) σ'' = f104_L0 guardT σ0.length (.ptr s 0) (.ptr rc 0) (.ptr rg 0) (.ptr ra 0) (.ptr b 0) (.p (eEs c.mv)) (.p (pI ((L c.mv).length : Nat))) (.p (pI (k + 1 : Nat))) σ'' := by
      intro σ''
      rw [f104_J0_eq]
      simp only [b_add, wrap_succ (show k ≤ 1000000 by omega), guard_tt, guard_ff, guard_tf, guard_ft, guard_sk, obind, omap, pickV_true, pickV_false, condK_true, condK_false, decide_true, decide_false, Bool.not_true, Bool.not_false, not_bool]
    by_cases hfe : e.f = x.n.getD 0 0
    · rw [if_pos hfe]
      have hrc : (σ ++ [Row.mix (edgD e)])[rc]? = some (.mix (eCmp c)) := hS1.low _ _ h1
      have n2 := storeNew (lo := σ0.length) (cs := prD (vpr c e)) (z := [.p (pI 0), .p (pI 0)]) s98 (σ ++ [Row.mix (edgD e)]) rfl rfl rfl (by simp; omega)
      have gZ : ((σ ++ [Row.mix (edgD e)]) ++ [Row.mix (prD (vpr c e))])[(σ ++ [Row.mix (edgD e)]).length]? = some (.mix (prD (vpr c e))) := get_snoc
      have gE2 : ((σ ++ [Row.mix (edgD e)]) ++ [Row.mix (prD (vpr c e))])[σ.length]? = some (.mix (edgD e)) := get_old gE
      have hb2 : ((σ ++ [Row.mix (edgD e)]) ++ [Row.mix (prD (vpr c e))])[b]? = some (.mix (qeD x)) := get_old hb1
      have hS2 := hS1.snoc (.mix (prD (vpr c e)))
      have hbld : build PP 98 [(0, .p (pI e.t)), (1, .p (pI ((L c.out).getD e.f.toNat 0)))] = some (.agg (prD (vpr c e))) := bld98 _ _
      generalize hZ : (σ ++ [Row.mix (edgD e)]).length = Z at *
      generalize hρ : (σ ++ [Row.mix (edgD e)]) ++ [Row.mix (prD (vpr c e))] = ρ at *
      obtain ⟨v1, σ3, ver, c1, cx, c2⟩ := clone_app (p := x.p) (l2 := [e.t, e.a]) (n := 2) (lo := σ0.length) (lo1 := ρ.length) (σ := ρ) (by omega) rfl (by decide) (by decide) hS2.lle
      have gE3 := cx _ _ gE2
      have hS4 := hS2.snoc (.tok ver)
      have gE4 : (ρ ++ [Row.tok ver])[σ.length]? = some (.mix (edgD e)) := get_old gE2
      have gZ4 : (ρ ++ [Row.tok ver])[Z]? = some (.mix (prD (vpr c e))) := get_old gZ
      have gb4 : (ρ ++ [Row.tok ver])[b]? = some (.mix (qeD x)) := get_old hb2
      have ga4 : (ρ ++ [Row.tok ver])[ra]? = some (.mix [.p (eWt wa)]) := hS4.low _ _ h2
      have gg4 : (ρ ++ [Row.tok ver])[rg]? = some (.mix [.p (eWt wg)]) := hS4.low _ _ h3
      have hpl2 : loadN (ρ ++ [Row.tok ver]) 2 (.ptr Z 0) = some (prD (vpr c e)) := loadN_ptr gZ4 rfl (by simp [prD])
      have hSg := S94 (σ := ρ ++ [Row.tok ver]) hg hx.g hp
      have hSa := S94 (σ := ρ ++ [Row.tok ver]) ha hx.a hp
      have lb3 : load1 (.ptr b 3) ρ = some (.p (ePth x.p)) := load1_ptr hb2 (by
        have e : (nodeD x.n).length = 3 := by rw [nodeD_len, hx.len]
        rw [qeD, List.getElem?_append_right (by omega), e]; rfl)
      have head : ∀ R, (((pureFn CC (.fn 94 []) [.p (eWt wg), .p (pI (x.n.getD 2 0)), .agg (prD (vpr c e))] (ρ ++ [Row.tok ver])).bind fun x50 => (binOp PP .eql 3 x50 (.p (.int .i64 (-1)))).bind fun x52 => condK x52 (some (.osl ρ.length ver 1 (x.p ++ [e.t, e.a]).length (eInts (x.p ++ [e.t, e.a])), ρ ++ [Row.tok ver]))
          ((pureFn CC (.fn 94 []) [.p (eWt wa), .p (pI (x.n.getD 1 0)), .agg (prD (vpr c e))] (ρ ++ [Row.tok ver])).bind fun x59 => (binOp PP .neq 3 x59 (.p (.int .i64 (-1)))).bind fun x61 => condK x61
            ((build PP 163 [(0, .p (pI e.a)), (1, x59), (2, x50)]).bind fun x67 => (plainFn CC σ0.length (.fn 105 []) [.ptr s 0, x67, .osl ρ.length ver 1 (x.p ++ [e.t, e.a]).length (eInts (x.p ++ [e.t, e.a]))] (ρ ++ [Row.tok ver])).bind fun r69 => f104_L0 guardT σ0.length (.ptr s 0) (.ptr rc 0) (.ptr rg 0) (.ptr ra 0) (.ptr b 0) (.p (eEs c.mv)) (.p (pI ((L c.mv).length : Nat))) (.p (pI (k + 1 : Nat))) r69.2)
            (f104_L0 guardT σ0.length (.ptr s 0) (.ptr rc 0) (.ptr rg 0) (.ptr ra 0) (.ptr b 0) (.p (eEs c.mv)) (.p (pI ((L c.mv).length : Nat))) (.p (pI (k + 1 : Nat))) (ρ ++ [Row.tok ver]))))) = R →
          f104_L0 guardT σ0.length (.ptr s 0) (.ptr rc 0) (.ptr rg 0) (.ptr ra 0) (.ptr b 0) (.p (eEs c.mv)) (.p (pI ((L c.mv).length : Nat))) (.p (pI (k : Nat))) σ = R := by
        intro R hR
        rw [f104_L0_eq guardT rfl]
        simp only [b_lss, b_eql, b_neq, b_leq, b_geq, b_gtr, h', guard_tt, guard_ff, guard_tf, guard_ft, guard_sk, obind, omap, pickV_true, pickV_false, condK_true, condK_false, decide_true, decide_false, Bool.not_true, Bool.not_false, not_bool, idx23 hkk, load106, hld106, zero106, n1, fa106_0, fa106_1, fa106_2, faF0, faF1, fa163_0, fa163_1, fa163_2, shift_ptr, shift_pptr, Nat.zero_add, Nat.add_zero, pureFn_fn, List.append_nil, List.singleton_append, List.cons_append, List.nil_append, load3, load1_ptr (off := 0) gE rfl, load1_ptr (off := 0) hb1 (qeV_at hx.len (by decide)), hfe]
        rw [← hfe]
        simp only [load1_ptr (off := 1) gE rfl, fa25_2, shift_ptr, shift_pptr, Nat.zero_add, Nat.add_zero, pureFn_fn, List.append_nil, List.singleton_append, List.cons_append, List.nil_append, load22, load1_ptr (off := 2) hrc rfl, guard_tt, guard_ff, guard_tf, guard_ft, guard_sk, obind, omap, pickV_true, pickV_false, condK_true, condK_false, decide_true, decide_false, Bool.not_true, Bool.not_false, not_bool, idx22i hef.1 hof, load1_getD hof, hbld, zero98, hZ, n2, hρ, lb3, c1, load1_ptr (off := 1) gE3 rfl, load1_ptr (off := 2) gE3 rfl, bs22_2v, c2, load27v, load1_ptr (off := 0) gg4 rfl, load1_ptr (off := 0) ga4 rfl, load1_ptr (off := 2) gb4 (qeV_at hx.len (by decide)), load1_ptr (off := 1) gb4 (qeV_at hx.len (by decide)), load98, hpl2, load1_ptr (off := 2) gE4 rfl, hJ]
        exact hR
      by_cases hbk : nextW (wl wg) (x.n.getD 2 0) (vpr c e) = -1
      · rw [if_pos hbk]
        refine ⟨.osl ρ.length ver 1 (x.p ++ [e.t, e.a]).length (eInts (x.p ++ [e.t, e.a])), ρ ++ [.tok ver], head _ ?_, .inl ⟨_, rfl, by simp, _, _, rfl⟩⟩
        simp only [shift_ptr, shift_pptr, Nat.zero_add, Nat.add_zero, pureFn_fn, List.append_nil, List.singleton_append, List.cons_append, List.nil_append, hSg, b_lss, b_eql, b_neq, b_leq, b_geq, b_gtr, hbk, guard_tt, guard_ff, guard_tf, guard_ft, guard_sk, obind, omap, pickV_true, pickV_false, condK_true, condK_false, decide_true, decide_false, Bool.not_true, Bool.not_false, not_bool]
      · rw [if_neg hbk]
        by_cases hak : nextW (wl wa) (x.n.getD 1 0) (vpr c e) = -1
        · rw [if_pos hak]
          obtain ⟨v, σ'', f1, f2⟩ := L104_0 hx hbs hpx hpl r (k + 1) (ρ ++ [.tok ver]) q (by omega) (by omega) hS4 hI hpre gb4
          refine ⟨v, σ'', head _ ?_, f2⟩
          simp only [shift_ptr, shift_pptr, Nat.zero_add, Nat.add_zero, pureFn_fn, List.append_nil, List.singleton_append, List.cons_append, List.nil_append, hSg, hSa, b_lss, b_eql, b_neq, b_leq, b_geq, b_gtr, hbk, hak, guard_tt, guard_ff, guard_tf, guard_ft, guard_sk, obind, omap, pickV_true, pickV_false, condK_true, condK_false, decide_true, decide_false, Bool.not_true, Bool.not_false, not_bool]
          exact f1
        · rw [if_neg hak]
          have hne : x.p ++ [e.t, e.a] ≠ [] := by simp
          obtain ⟨υ, a1, a2, a3⟩ := add_ok hS4 (n := [e.a, nextW (wl wa) (x.n.getD 1 0) (vpr c e), nextW (wl wg) (x.n.getD 2 0) (vpr c e)]) rfl (p := x.p ++ [e.t, e.a]) (x := .osl ρ.length ver 1 (x.p ++ [e.t, e.a]).length (eInts (x.p ++ [e.t, e.a]))) (.inr ⟨hne, _, _, rfl⟩) (by omega)
          have hI2 : IV n (wl wa) (wl wg) (addN q [e.a, nextW (wl wa) (x.n.getD 1 0) (vpr c e), nextW (wl wg) (x.n.getD 2 0) (vpr c e)] (x.p ++ [e.t, e.a])) := by
            refine hI.add ⟨rfl, hea, next_rng ha hx.a hp hak, next_rng hg hx.g hp hbk⟩ (by simp; omega) ?_
            exact hpx.snoc hea
          obtain ⟨v, σ'', f1, f2⟩ := L104_0 hx hbs hpx hpl r (k + 1) υ _ (by omega) (by omega) a2 hI2 (hpre.trans (addN_pre _ _ _)) (a3 b _ hbs gb4)
          refine ⟨v, σ'', head _ ?_, f2⟩
          simp only [shift_ptr, shift_pptr, Nat.zero_add, Nat.add_zero, pureFn_fn, List.append_nil, List.singleton_append, List.cons_append, List.nil_append, hSg, hSa, b_lss, b_eql, b_neq, b_leq, b_geq, b_gtr, hbk, hak, guard_tt, guard_ff, guard_tf, guard_ft, guard_sk, obind, omap, pickV_true, pickV_false, condK_true, condK_false, decide_true, decide_false, Bool.not_true, Bool.not_false, not_bool, build163, a1]
          exact f1
    · rw [if_neg hfe]
      obtain ⟨v, σ'', f1, f2⟩ := L104_0 hx hbs hpx hpl r (k + 1) (σ ++ [.mix (edgD e)]) q (by omega) (by omega) hS1 hI hpre hb1
      refine ⟨v, σ'', ?_, f2⟩
      rw [f104_L0_eq guardT rfl]
      simp only [b_lss, b_eql, b_neq, b_leq, b_geq, b_gtr, h', guard_tt, guard_ff, guard_tf, guard_ft, guard_sk, obind, omap, pickV_true, pickV_false, condK_true, condK_false, decide_true, decide_false, Bool.not_true, Bool.not_false, not_bool, idx23 hkk, load106, hld106, zero106, n1, fa106_0, faF0, fa163_0, shift_ptr, shift_pptr, Nat.zero_add, Nat.add_zero, pureFn_fn, List.append_nil, List.singleton_append, List.cons_append, List.nil_append, load3, load1_ptr (off := 0) gE rfl, load1_ptr (off := 0) hb1 (qeV_at hx.len (by decide)), hfe, hJ]
      exact f1
theorem hv104 : HV σ0 104 [.ptr rc 0, .ptr rg 0, .ptr ra 0] (visV c (wl wa) (wl wg)) (IV n (wl wa) (wl wg)) := by
  intro σ q i to x m s hS hI hx hi
  have hm := List.mem_of_getElem? hx
  have hxn := hI.ok x hm
  have hsl : s < σ.length := by obtain ⟨lay, e, _⟩ := hS.st; exact get_lt e
  obtain ⟨r, σ', e1, e2⟩ := L104_0 h1 h2 h3 hc ha hg (q0 := q) hxn (b := σ.length) (s := s) (by omega) (hI.pp x hm) (hI.pl x hm) _ 0 (σ ++ [.mix (qeD x)]) q (Nat.sub_zero _) (Nat.zero_le _) (hS.snoc _) hI (List.prefix_refl _) get_snoc
  have hrc : (σ ++ [Row.mix (qeD x)])[rc]? = some (.mix (eCmp c)) := get_old (hS.low _ _ h1)
  refine ⟨r, σ', ?_, e2⟩
  show CC σ0.length 104 ([.ptr s 0, .agg (qeD x)] ++ [.ptr rc 0, .ptr rg 0, .ptr ra 0]) σ = _
  refine F104_call ?_
  rw [F104_eq]
  simp only [box_agg (qeD_one x), guard_tt, guard_ff, guard_tf, guard_ft, guard_sk, obind, omap, pickV_true, pickV_false, condK_true, condK_false, decide_true, decide_false, Bool.not_true, Bool.not_false, not_bool, fa25_3, shift_ptr, shift_pptr, Nat.zero_add, Nat.add_zero, pureFn_fn, List.append_nil, List.singleton_append, List.cons_append, List.nil_append, load23, load1_ptr (off := 3) hrc rfl, len23]
  exact e1
end
end Go.D
end
/- Violations: what the program answers. -/
section
set_option linter.unusedVariables false
set_option linter.unusedSimpArgs false
namespace Go.D
theorem Grow.push2 {σ : Store} {t e lo B sz b n m : Nat} {z : List DV} {cs vs : List PV} {x : DV} (hs : srcType PP t = true) (hu : PP.underlying t = some (.slice e)) (h1 : size? PP e = some sz) (h2 : bytes? PP e = some b) (h3 : zeroOf PP e = some z)
    (h4 : z.length = sz) (hz : 0 < sz) (hb : 0 < b) (hb2 : b ≤ 1000) (hv : vs.length = m * sz) (hm : m ≠ 0) (hm2 : m ≤ 1000) (ho : Grow σ B sz n cs x) (hn : n ≤ 1000000) (hlo : lo ≤ B) (hB : B ≤ σ.length) :
    ∃ r ver σ', append PP lo false t t x (.p (.sl true m vs)) σ = some (.osl r ver sz (n + m) (cs ++ vs), σ') ∧ Grow σ' B sz (n + m) (cs ++ vs) (.osl r ver sz (n + m) (cs ++ vs)) ∧ (rowOf x = some r ∨ r = σ.length) ∧ (∀ (j : Nat) (row : Row), rowOf x ≠ some j → σ[j]? = some row → σ'[j]? = some row) ∧ σ.length ≤ σ'.length := by
  have hsrc : source σ sz (.p (.sl true m vs)) = some (m, vs.map DV.p) := by simp [source, hv]
  have hz0 : ¬ (z.length ≠ sz ∨ sz = 0) := by omega
  have e1 : (n + m) * b ≤ 140737488355328 := Nat.le_trans (Nat.mul_le_mul (show n + m ≤ 1001000 by omega) hb2) (by decide)
  have e2 : n + m ≤ 140737488355328 := by omega
  have hnm : n + m ≠ 0 := by omega
  obtain ⟨hc, ho⟩ := ho
  have hl : (cs ++ vs).length = (n + m) * sz := by rw [List.length_append, hc, hv, Nat.add_mul]
  rcases ho with ⟨rfl, rfl⟩ | rfl | ⟨r, ver, rfl, hr, hBr⟩
  · have hcs : cs = [] := List.length_eq_zero_iff.1 (by simpa using hc)
    subst hcs
    refine ⟨σ.length, 0, σ ++ [.tok 0], ?_, ⟨hl, .inr (.inr ⟨_, _, rfl, get_snoc, hB⟩)⟩, .inr rfl, fun j row _ h => get_old h, by simp⟩
    simp only [append, hs, hu, h1, h2, h3, hz0, hsrc, appNil]
    simp only [Nat.zero_add] at e1 e2 ⊢
    simp [e1, e2, hb, hm, pures_map]
  · refine ⟨σ.length, 0, σ ++ [.tok 0], ?_, ⟨hl, .inr (.inr ⟨_, _, rfl, get_snoc, hB⟩)⟩, .inr rfl, fun j row _ h => get_old h, by simp⟩
    simp only [append, hs, hu, h1, h2, h3, hz0, hsrc, appLit]
    simp [e1, e2, hb, hm, hc, pures_map]
  · refine ⟨r, ver + 1, σ.set r (.tok (ver + 1)), ?_, ⟨hl, .inr (.inr ⟨_, _, rfl, ?_, hBr⟩)⟩, .inl rfl, fun j row hj h => get_set_ne h (fun e => hj (by rw [e]; rfl)), by simp⟩
    · have hlr : lo ≤ r := by omega
      simp only [append, hs, hu, h1, h2, h3, hz0, hsrc, appTok]
      simp [e1, e2, hb, hc, hlr, hr, pures_map]
    · rw [List.getElem?_set_self (get_lt hr)]
theorem Grow.keep {σ σ' : Store} {B sz n : Nat} {cs : List PV} {x : DV} (h : Grow σ B sz n cs x) (he : ∀ r row, rowOf x = some r → σ[r]? = some row → σ'[r]? = some row) : Grow σ' B sz n cs x := by
  refine ⟨h.1, ?_⟩
  rcases h.2 with h | h | ⟨q, ver, h1, h2, h3⟩
  · exact .inl h
  · exact .inr (.inl h)
  · exact .inr (.inr ⟨q, ver, h1, he q _ (by rw [h1]; rfl) h2, h3⟩)
theorem Grow.row_tok {σ : Store} {B sz n : Nat} {cs : List PV} {x : DV} (h : Grow σ B sz n cs x) {r : Nat} (hr : rowOf x = some r) : ∃ v, σ[r]? = some (.tok v) := by
  rcases h.2 with ⟨_, rfl⟩ | rfl | ⟨q, ver, rfl, h2, h3⟩
  · exact absurd hr (by simp [rowOf])
  · exact absurd hr (by simp [rowOf])
  · have : q = r := by simpa [rowOf] using hr
    subst this
    exact ⟨ver, h2⟩
theorem Grow.one {σ : Store} {B sz n : Nat} {cs : List PV} {x : DV} (h : Grow σ B sz n cs x) : x.one = true ∧ x.cells = [x] := by
  rcases h.2 with ⟨_, rfl⟩ | rfl | ⟨q, ver, rfl, h2, h3⟩ <;> exact ⟨rfl, rfl⟩
theorem Grow.tw {σ σ' : Store} {B sz n : Nat} {cs : List PV} {x : DV} (h : Grow σ B sz n cs x) (hn : n ≠ 0) (m : Nat) : thaw m σ' x = some (.p (.sl false n (loosens cs))) := by
  rcases h.2 with ⟨h, _⟩ | rfl | ⟨q, ver, rfl, h2, h3⟩
  · exact absurd h hn
  · simp [thaw, thaw1, thawP, loosen]
  · simp [thaw, thaw1, thawP]

/-! ### The search -/
open RnV
def initQ (c : Cmp) : List QE := (L c.init).map fun s => ⟨[s, 0, 0], [s]⟩
def viRes (c : Cmp) (wa wg : W3) : Option (List Int) := bfsQ (visV c wa wg) 361 0 (initQ c)
def runV (c : Cmp) : List Int → Run
  | s :: r => ⟨some (s :: stsOf r), some (prsOf c s r)⟩
  | [] => ⟨none, none⟩
theorem addE_fold : ∀ (l acc : List QE), ((acc ++ l).map (·.n)).Nodup → l.foldl addE acc = acc ++ l
  | [], acc, _ => by simp
  | x :: l, acc, h => by
    have h1 : addE acc x = acc ++ [x] := by
      unfold addE addN
      rw [if_neg]
      intro hh
      obtain ⟨y, hy, he⟩ := hasN_mem.1 hh
      rw [List.map_append, List.map_cons, List.nodup_append] at h
      exact h.2.2 y.n (List.mem_map.2 ⟨y, hy, rfl⟩) x.n (by simp) he
    rw [List.foldl_cons, h1, addE_fold l (acc ++ [x]) (by rwa [List.append_assoc]), List.append_assoc]
    rfl
theorem inc_pair {l : List Int} (h : ∀ i, i + 1 < l.length → l.getD i 0 < l.getD (i + 1) 0) : ∀ (d i : Nat), i + d + 1 < l.length → l.getD i 0 < l.getD (i + d + 1) 0
  | 0, i, hi => h i hi
  | d + 1, i, hi => by
    have h1 := inc_pair h d i (by omega)
    have h2 := h (i + d + 1) (by omega)
    have e : i + (d + 1) + 1 = i + d + 1 + 1 := by omega
    rw [e]
    omega
theorem inc_nodup {l : List Int} (h : ∀ i, i + 1 < l.length → l.getD i 0 < l.getD (i + 1) 0) : l.Nodup := by
  rw [List.nodup_iff_pairwise_ne, List.pairwise_iff_getElem]
  intro i j hi hj hij
  have := inc_pair h (j - i - 1) i (by omega)
  rw [show i + (j - i - 1) + 1 = j by omega, getD_at 0 hi, getD_at 0 hj] at this
  omega
theorem initQ_nodup {c : Cmp} {n : Nat} (hc : COk c n) : ((initQ c).map (·.n)).Nodup := by
  have : (initQ c).map (·.n) = (L c.init).map fun s => [s, 0, 0] := by simp [initQ]
  rw [this]
  exact (inc_nodup hc.inc).map _ fun a b hab e => hab (by simpa using e)
theorem iv0 {c : Cmp} {n : Nat} {wa wg : W3} (hc : COk c n) (ha : WOk wa wa.length) (hg : WOk wg wg.length) : IV n wa wg (initQ c) := by
  have hm : ∀ x ∈ initQ c, ∃ s ∈ L c.init, x = ⟨[s, 0, 0], [s]⟩ := fun x hx => by
    obtain ⟨s, hs, rfl⟩ := List.mem_map.1 hx
    exact ⟨s, hs, rfl⟩
  refine ⟨initQ_nodup hc, fun x hx => ?_, fun x hx => ?_, fun x hx => ?_⟩
  · obtain ⟨s, hs, rfl⟩ := hm x hx
    have h1 := ha.n1
    have h2 := hg.n1
    refine ⟨rfl, hc.il s hs, ?_, ?_⟩
    · show (0 : Int) ≤ 0 ∧ (0 : Int) < _; omega
    · show (0 : Int) ≤ 0 ∧ (0 : Int) < _; omega
  · obtain ⟨s, hs, rfl⟩ := hm x hx
    have := List.length_pos_of_mem hx
    simp only [List.length_cons, List.length_nil]
    omega
  · obtain ⟨s, hs, rfl⟩ := hm x hx
    refine ⟨s, [], rfl, rfl, rfl, fun v hv => ?_⟩
    have : v = s := by simpa [stsOf] using hv
    rw [this]; exact hc.il s hs
/-- What is right of what is found. -/
def PFin (n : Nat) (p : List Int) : Prop := p.length ≤ 2000 ∧ ∃ s r, p = s :: r ∧ r.length % 2 = 0 ∧ r ≠ [] ∧ ∀ v ∈ s :: stsOf r, 0 ≤ v ∧ v < n
theorem visVF_ok {c : Cmp} {n : Nat} {wa wg : W3} (hc : COk c n) (ha : WOk wa wa.length) (hg : WOk wg wg.length) {x : QE} (hx : NOkV n wa wg x.n) (hpx : POk n x.p (x.n.getD 0 0)) : ∀ (r k : Nat) (q : List QE), (L c.mv).length - k = r → k ≤ (L c.mv).length → IV n wa wg q → x.p.length < 2 * q.length →
    (∃ p, visVF c wa wg x r k q = .inl p ∧ PFin n p) ∨ (∃ q', visVF c wa wg x r k q = .inr q' ∧ IV n wa wg q' ∧ q <+: q')
  | 0, k, q, hk, hkl, hI, hl => .inr ⟨q, rfl, hI, List.prefix_refl _⟩
  | r + 1, k, q, hk, hkl, hI, hl => by
    have hkk : k < (L c.mv).length := by omega
    have hp := vpr_ok hc hkk
    obtain ⟨hef, hea, het⟩ := hc.ml _ (List.getElem_mem hkk)
    rw [← getD_at default hkk] at hef hea het
    have hq := hI.le hc.n10 ha hg
    unfold visVF
    split
    · split
      · refine .inl ⟨_, rfl, ?_⟩
        have h1 := (hpx.snoc (i := ((L c.mv).getD k default).t) hea).ex
        obtain ⟨s, r, e, h2, h3, h4⟩ := h1
        refine ⟨by simp; omega, s, r, e, h2, ?_, h4⟩
        rintro rfl
        have := congrArg List.length e
        obtain ⟨s', r', e', _⟩ := hpx.ex
        rw [e'] at this
        simp at this
      · split
        · exact visVF_ok hc ha hg hx hpx r (k + 1) q (by omega) (by omega) hI hl
        · rename_i hbk hak
          have hI2 := hI.add (l := [((L c.mv).getD k default).a, nextW wa (x.n.getD 1 0) (vpr c ((L c.mv).getD k default)), nextW wg (x.n.getD 2 0) (vpr c ((L c.mv).getD k default))]) (p := x.p ++ [((L c.mv).getD k default).t, ((L c.mv).getD k default).a]) ⟨rfl, hea, next_rng ha hx.a hp hak, next_rng hg hx.g hp hbk⟩ (by simp; omega) (hpx.snoc hea)
          have hpre := addN_pre q [((L c.mv).getD k default).a, nextW wa (x.n.getD 1 0) (vpr c ((L c.mv).getD k default)), nextW wg (x.n.getD 2 0) (vpr c ((L c.mv).getD k default))] (x.p ++ [((L c.mv).getD k default).t, ((L c.mv).getD k default).a])
          rcases visVF_ok hc ha hg hx hpx r (k + 1) _ (by omega) (by omega) hI2 (Nat.lt_of_lt_of_le hl (Nat.mul_le_mul_left 2 hpre.length_le)) with h | ⟨q', a1, a2, a3⟩
          · exact .inl h
          · exact .inr ⟨q', a1, a2, hpre.trans a3⟩
    · exact visVF_ok hc ha hg hx hpx r (k + 1) q (by omega) (by omega) hI hl
theorem bfsV_ok {c : Cmp} {n : Nat} {wa wg : W3} (hc : COk c n) (ha : WOk wa wa.length) (hg : WOk wg wg.length) : ∀ (k i : Nat) (q : List QE) {p : List Int}, IV n wa wg q → bfsQ (visV c wa wg) k i q = some p → PFin n p
  | 0, i, q, p, hI, h => by simp [bfsQ] at h
  | k + 1, i, q, p, hI, h => by
    unfold bfsQ at h
    split at h
    · exact absurd h (by simp)
    · rename_i x hx
      have hm := List.mem_of_getElem? hx
      rcases visVF_ok hc ha hg (hI.ok x hm) (hI.pp x hm) _ 0 q rfl (by omega) hI (hI.pl x hm) with ⟨p', a1, a2⟩ | ⟨q', a1, a2, a3⟩
      · have a1 : visV c wa wg x q = .inl p' := a1
        rw [a1] at h
        have : p' = p := by simpa using h
        subst this
        exact a2
      · have a1 : visV c wa wg x q = .inr q' := a1
        rw [a1] at h
        exact bfsV_ok hc ha hg k (i + 1) q' a2 h

/-! ### violation -/
def begC (l : List Int) : List PV := l.flatMap fun s => eInts [s, 0, 0] ++ [.sl true 1 (eInts [s])]
theorem begC_loosen : ∀ l : List Int, loosens (begC l) = qsP (l.map fun s => ⟨[s, 0, 0], [s]⟩)
  | [] => rfl
  | s :: l => by
    show loosens ((eInts [s, 0, 0] ++ [.sl true 1 (eInts [s])]) ++ begC l) = qeP ⟨[s, 0, 0], [s]⟩ ++ qsP (l.map fun s => ⟨[s, 0, 0], [s]⟩)
    rw [loosens_app, loosens_app, loosens_ints, begC_loosen l]
    simp [loosens, loosen, qeP, ePth, loosens_ints, eInts]
theorem build163a (a : Int) : build PP 163 [(0, .p (pI a))] = some (.agg (nodeD [a, 0, 0])) := Eq.trans (by kernel_rfl) rfl
theorem build33_0 : build PP 33 [] = some (.agg [.p .nilsl, .p .nilsl]) := Eq.trans (by kernel_rfl) rfl
theorem build33_1 (v : PV) : build PP 33 [(0, .p v)] = some (.agg [.p v, .p .nilsl]) := Eq.trans (by kernel_rfl) rfl
theorem sliceOp1 {n : Nat} {cs : List PV} (hn : 1 ≤ n) : sliceOp PP 22 (.p (.sl false n cs)) none (some (.p (pI 1))) (some (.p (pI 1))) = some (.p (.sl true 1 (cs.take 1))) := by
  have h1 : (1 : Int) ≤ (n : Nat) := by omega
  simp [sliceOp, u22, s3, bound, h1]
theorem wrap_sub1 {n : Nat} (h : 1 ≤ n) (h2 : n ≤ 1000000) : IntKind.wrap .i64 ((n : Int) - 1) = ((n - 1 : Nat) : Int) := by rw [wrap_ok (by omega) (by omega)]; omega
theorem wrap_add2 {i : Nat} (h : i ≤ 1000000) : IntKind.wrap .i64 ((i : Int) + 2) = ((i + 2 : Nat) : Int) := by rw [wrap_ok (by omega) (by omega)]; omega
theorem idx22g2 {σ : Store} {B n i : Nat} {cs : List PV} {x : DV} (h : Grow σ B 1 n cs x) (hi : i < n) : indexAddr PP 22 x (.p (pI (i : Nat))) = some (.pptr cs i) := by
  have h2 : (0 : Int) ≤ (i : Int) ∧ (i : Int) < (n : Nat) := by omega
  rcases h.2 with h | rfl | ⟨q, ver, rfl, _⟩
  · omega
  · simp [indexAddr, u22, s3, h2, hi]
  · simp [indexAddr, u22, s3, h2, hi]
theorem len22g {σ : Store} {B n : Nat} {cs : List PV} {x : DV} (h : Grow σ B 1 n cs x) (σ' : Store) : len PP 22 x σ' = some (.p (pI (n : Nat))) := by
  rcases h.2 with ⟨rfl, rfl⟩ | rfl | ⟨q, ver, rfl, _⟩ <;> simp [len, u22]
theorem endOf_last : ∀ (s : Int) (r : List Int), r.length % 2 = 0 → (s :: stsOf r).getD (r.length / 2) 0 = endOf s r
  | s, [], _ => rfl
  | s, [a], h => absurd h (by simp)
  | s, a :: b :: r, h => by
    have := endOf_last b r (by simp at h; omega)
    have e : (a :: b :: r).length / 2 = r.length / 2 + 1 := by simp; omega
    rw [e]
    show (b :: stsOf r).getD (r.length / 2) 0 = _
    rw [this]; rfl
theorem f53_L1_ok {c : Cmp} {n : Nat} (hc : COk c n) {s : Int} {r0 : List Int} {R : Nat} (hR3 : R ≠ 3) (hR0 : R ≠ 0) (hlen : r0.length ≤ 2000) :
    ∀ (m : Nat) (d e : List Int) (a b : DV) (σ : Store), e.length = 2 * m → d.length % 2 = 0 → r0 = d ++ e → (∀ v ∈ s :: stsOf d, 0 ≤ v ∧ v < n) → (∀ v ∈ stsOf e, 0 ≤ v ∧ v < n) → σ[0]? = some (.mix (eCmp c)) → (∃ z, σ[3]? = some (.mix [z, .p .nilsl])) → σ[R]? = some (.mix [a, b]) →
      Grow σ 0 1 (d.length / 2 + 1) (eInts (s :: stsOf d)) a → Grow σ 0 2 (d.length / 2) (ePrs (prsOf c s d)) b → (∀ r, rowOf a = some r → rowOf b ≠ some r) →
      ∃ a' b' σ', f53_L1 guardT 0 (.ptr 0 0) (.ptr 3 0) (.p (.sl false (r0.length + 1) (eInts (s :: r0)))) (.ptr R 0) (.p (pI ((d.length + 1 : Nat)))) σ = some (.tuple [.agg [a', b'], .p (.bool true)], σ') ∧ Grow σ' 0 1 (r0.length / 2 + 1) (eInts (s :: stsOf r0)) a' ∧ Grow σ' 0 2 (r0.length / 2) (ePrs (prsOf c s r0)) b'
  | 0, d, e, a, b, σ, he, hd, hr, hv, hve, h0, ⟨z, h3⟩, hRr, ga, gb, hab => by
    have : e = [] := List.length_eq_zero_iff.1 (by omega)
    subst this
    rw [List.append_nil] at hr
    subst hr
    have hn : ¬ ((r0.length + 1 : Nat) : Int) < ((r0.length + 1 : Nat) : Int) := by omega
    have hln : ∀ σ, len PP 22 (.p (.sl false (r0.length + 1) (eInts (s :: r0)))) σ = some (.p (pI ((r0.length + 1 : Nat)))) := fun σ => by simp [len, u22]
    have hld : loadN σ 2 (.ptr R 0) = some [a, b] := loadN_ptr hRr rfl (by simp)
    have hst : store PP 0 33 (.ptr 3 0) (.agg [a, b]) σ = some (σ.set 3 (.mix [a, b])) := by
      have hone : ([a, b] : List DV).all DV.one = true := by simp [ga.one.1, gb.one.1]
      simp [store, s33, DV.cells, storeN, h3, ga.one.1, gb.one.1, splice]
    have g3 : (σ.set 3 (.mix [a, b]))[3]? = some (.mix [a, b]) := by rw [List.getElem?_set_self (get_lt h3)]
    have hcv : cellV PP 33 (.ptr 3 0) (σ.set 3 (.mix [a, b])) = some (.agg [a, b]) := by
      have h : ∀ ρ : Store, cellV PP 33 (.ptr 3 0) ρ = (loadN ρ 2 (.ptr 3 0)).map .agg := fun ρ => Eq.trans (by kernel_rfl) rfl
      rw [h, loadN_ptr (vs := [a, b]) g3 rfl (by simp)]
      rfl
    have hk : ∀ {sz k : Nat} {cs : List PV} {x : DV}, Grow σ 0 sz k cs x → Grow (σ.set 3 (.mix [a, b])) 0 sz k cs x := fun g => g.keep fun r row hr1 hr2 => get_set_ne hr2 (by
      rintro rfl
      obtain ⟨v, hv⟩ := g.row_tok hr1
      rw [h3] at hv
      exact absurd hv (by simp))
    refine ⟨a, b, σ.set 3 (.mix [a, b]), ?_, hk ga, hk gb⟩
    rw [f53_L1_eq guardT rfl]
    simp only [hln, b_lss, b_eql, b_neq, b_leq, b_geq, b_gtr, hn, guard_tt, guard_ff, guard_tf, guard_ft, guard_sk, obind, omap, pickV_true, pickV_false, condK_true, condK_false, decide_true, decide_false, Bool.not_true, Bool.not_false, not_bool, load33, hld, hst, hcv]
  | m + 1, d, e, a, b, σ, he, hd, hr, hv, hve, h0, ⟨z, h3⟩, hRr, ga, gb, hab => by
    match e, he with
    | [], he => simp at he
    | [y], he => simp at he; omega
    | i :: t :: e, he =>
      have hel : e.length = 2 * m := by simp at he; omega
      have hdl : d.length ≤ 2000 := by rw [hr] at hlen; simp at hlen; omega
      have hlt : ((d.length + 1 : Nat) : Int) < ((r0.length + 1 : Nat) : Int) := by rw [hr]; simp; omega
      have hln : ∀ σ, len PP 22 (.p (.sl false (r0.length + 1) (eInts (s :: r0)))) σ = some (.p (pI ((r0.length + 1 : Nat)))) := fun σ => by simp [len, u22]
      have hsplit : s :: r0 = (s :: d) ++ (i :: t :: e) := by rw [hr]; rfl
      have x1 : (eInts (s :: r0))[d.length + 1]? = some (pI i) := by
        rw [hsplit]
        simp [eInts]
      have x2 : (eInts (s :: r0))[d.length + 1 + 1]? = some (pI t) := by
        rw [hsplit]
        simp [eInts]
      have hl0 : d.length + 1 < r0.length + 1 := by omega
      have hl1 : d.length + 1 + 1 < r0.length + 1 := by rw [hr]; simp
      -- the end
      have hend := endOf_last s d hd
      have hendr : 0 ≤ endOf s d ∧ endOf s d < n := by
        rw [← hend]
        have h4 := stsOf_len d hd
        rw [getD_at 0 (by simp; omega)]
        exact hv _ (List.getElem_mem _)
      have hlast : (eInts (s :: stsOf d))[d.length / 2]? = some (pI (endOf s d)) := by
        rw [← hend]
        have h4 := stsOf_len d hd
        simp only [eInts, List.getElem?_map]
        rw [List.getElem?_eq_getElem (by simp; omega), getD_at 0 (by simp; omega)]
        rfl
      have hof : (endOf s d).toNat < (L c.out).length := by rw [hc.o]; omega
      have hbld : build PP 98 [(0, .p (pI i)), (1, .p (pI ((L c.out).getD (endOf s d).toNat 0)))] = some (.agg (prD ⟨i, outC c (endOf s d)⟩)) := bld98 _ _
      -- the pair
      obtain ⟨rb, vb, σ1, e1, g1, f1, k1, l1⟩ := gb.push2 (t := 31) (lo := 0) (m := 1) (vs := ePrs [⟨i, outC c (endOf s d)⟩]) src31 u31 s98 bytes98 zero98 rfl (by decide) (by decide) (by decide) rfl (by decide) (by decide) (by omega) (Nat.zero_le _) (Nat.zero_le _)
      have nR : rowOf b ≠ some R := fun hh => by
        obtain ⟨v, hv⟩ := gb.row_tok hh
        rw [hRr] at hv
        exact absurd hv (by simp)
      have n0 : rowOf b ≠ some 0 := fun hh => by
        obtain ⟨v, hv⟩ := gb.row_tok hh
        rw [h0] at hv
        exact absurd hv (by simp)
      have n3 : rowOf b ≠ some 3 := fun hh => by
        obtain ⟨v, hv⟩ := gb.row_tok hh
        rw [h3] at hv
        exact absurd hv (by simp)
      have hR1 := k1 R _ nR hRr
      have ga1 : Grow σ1 0 1 (d.length / 2 + 1) (eInts (s :: stsOf d)) a := ga.keep fun r row hr1 hr2 => k1 r row (hab r hr1) hr2
      have hst1 := store1 (lo := 0) (show size? PP 31 = some 1 from Eq.trans (by kernel_rfl) rfl) hR1 (off := 1) (v := .osl rb vb 2 (d.length / 2 + 1) (ePrs (prsOf c s d) ++ ePrs [⟨i, outC c (endOf s d)⟩])) (by simp) rfl rfl (Nat.zero_le _)
      simp only [List.set_cons_succ, List.set_cons_zero] at hst1
      have gR2 : (σ1.set R (.mix [a, .osl rb vb 2 (d.length / 2 + 1) (ePrs (prsOf c s d) ++ ePrs [⟨i, outC c (endOf s d)⟩])]))[R]? = some (.mix [a, .osl rb vb 2 (d.length / 2 + 1) (ePrs (prsOf c s d) ++ ePrs [⟨i, outC c (endOf s d)⟩])]) := by rw [List.getElem?_set_self (get_lt hR1)]
      have k2 : ∀ j row, j ≠ R → σ1[j]? = some row → (σ1.set R (.mix [a, .osl rb vb 2 (d.length / 2 + 1) (ePrs (prsOf c s d) ++ ePrs [⟨i, outC c (endOf s d)⟩])]))[j]? = some row := fun j row hj h => get_set_ne h hj
      have hkR : ∀ {sz k : Nat} {cs : List PV} {x : DV}, Grow σ1 0 sz k cs x → Grow (σ1.set R (.mix [a, .osl rb vb 2 (d.length / 2 + 1) (ePrs (prsOf c s d) ++ ePrs [⟨i, outC c (endOf s d)⟩])])) 0 sz k cs x := fun g => g.keep fun r row hr1 hr2 => k2 r row (by
        rintro rfl
        obtain ⟨v, hv⟩ := g.row_tok hr1
        rw [hR1] at hv
        exact absurd hv (by simp)) hr2
      have ga2 := hkR ga1
      have gb2 := hkR g1
      generalize hσ2 : σ1.set R (.mix [a, .osl rb vb 2 (d.length / 2 + 1) (ePrs (prsOf c s d) ++ ePrs [⟨i, outC c (endOf s d)⟩])]) = σ2 at *
      -- the state
      obtain ⟨ra, va, σ3, e3, g3, f3, k3, l3⟩ := ga2.push2 (t := 22) (lo := 0) (m := 1) (vs := [pI t]) src22 u22 s3 bytes3 zero3 rfl (by decide) (by decide) (by decide) rfl (by decide) (by decide) (by omega) (Nat.zero_le _) (Nat.zero_le _)
      have mR : rowOf a ≠ some R := fun hh => by
        obtain ⟨v, hv⟩ := ga2.row_tok hh
        rw [gR2] at hv
        exact absurd hv (by simp)
      have m0 : rowOf a ≠ some 0 := fun hh => by
        obtain ⟨v, hv⟩ := ga.row_tok hh
        rw [h0] at hv
        exact absurd hv (by simp)
      have m3 : rowOf a ≠ some 3 := fun hh => by
        obtain ⟨v, hv⟩ := ga.row_tok hh
        rw [h3] at hv
        exact absurd hv (by simp)
      have hR3' := k3 R _ mR gR2
      have hrb : rowOf a ≠ some rb := by
        rcases f1 with h | h
        · exact fun hh => hab rb hh h
        · intro hh
          obtain ⟨v, hv⟩ := ga.row_tok hh
          have := get_lt hv
          omega
      have gb3 : Grow σ3 0 2 (d.length / 2 + 1) (ePrs (prsOf c s d) ++ ePrs [⟨i, outC c (endOf s d)⟩]) (.osl rb vb 2 (d.length / 2 + 1) (ePrs (prsOf c s d) ++ ePrs [⟨i, outC c (endOf s d)⟩])) := gb2.keep fun r row hr1 hr2 => k3 r row (by
        have : rb = r := by simpa [rowOf] using hr1
        rw [← this]; exact hrb) hr2
      have hst3 := store1 (lo := 0) (show size? PP 22 = some 1 from s22) hR3' (off := 0) (v := .osl ra va 1 (d.length / 2 + 1 + 1) (eInts (s :: stsOf d) ++ [pI t])) (by simp) rfl rfl (Nat.zero_le _)
      simp only [List.set_cons_zero] at hst3
      have gR4 : (σ3.set R (.mix [.osl ra va 1 (d.length / 2 + 1 + 1) (eInts (s :: stsOf d) ++ [pI t]), .osl rb vb 2 (d.length / 2 + 1) (ePrs (prsOf c s d) ++ ePrs [⟨i, outC c (endOf s d)⟩])]))[R]? = some (.mix [.osl ra va 1 (d.length / 2 + 1 + 1) (eInts (s :: stsOf d) ++ [pI t]), .osl rb vb 2 (d.length / 2 + 1) (ePrs (prsOf c s d) ++ ePrs [⟨i, outC c (endOf s d)⟩])]) := by rw [List.getElem?_set_self (get_lt hR3')]
      have hkR4 : ∀ {sz k : Nat} {cs : List PV} {x : DV}, Grow σ3 0 sz k cs x → Grow (σ3.set R (.mix [.osl ra va 1 (d.length / 2 + 1 + 1) (eInts (s :: stsOf d) ++ [pI t]), .osl rb vb 2 (d.length / 2 + 1) (ePrs (prsOf c s d) ++ ePrs [⟨i, outC c (endOf s d)⟩])])) 0 sz k cs x := fun g => g.keep fun r row hr1 hr2 => get_set_ne hr2 (by
        rintro rfl
        obtain ⟨v, hv⟩ := g.row_tok hr1
        rw [hR3'] at hv
        exact absurd hv (by simp))
      have ga4 := hkR4 g3
      have gb4 := hkR4 gb3
      have z0 : (σ3.set R (.mix [.osl ra va 1 (d.length / 2 + 1 + 1) (eInts (s :: stsOf d) ++ [pI t]), .osl rb vb 2 (d.length / 2 + 1) (ePrs (prsOf c s d) ++ ePrs [⟨i, outC c (endOf s d)⟩])]))[0]? = some (.mix (eCmp c)) := get_set_ne (k3 0 _ m0 (k2 0 _ (fun e => hR0 e.symm) (k1 0 _ n0 h0))) (fun e => hR0 e.symm)
      have z3 : (σ3.set R (.mix [.osl ra va 1 (d.length / 2 + 1 + 1) (eInts (s :: stsOf d) ++ [pI t]), .osl rb vb 2 (d.length / 2 + 1) (ePrs (prsOf c s d) ++ ePrs [⟨i, outC c (endOf s d)⟩])]))[3]? = some (.mix [z, .p .nilsl]) := get_set_ne (k3 3 _ m3 (k2 3 _ (fun e => hR3 e.symm) (k1 3 _ n3 h3))) (fun e => hR3 e.symm)
      have hst' : eInts (s :: stsOf d) ++ [pI t] = eInts (s :: stsOf (d ++ [i, t])) := by rw [stsOf_snoc i t d hd]; simp [eInts]
      have hps' : ePrs (prsOf c s d) ++ ePrs [⟨i, outC c (endOf s d)⟩] = ePrs (prsOf c s (d ++ [i, t])) := by rw [prsOf_snoc c i t s d hd, prs_append]
      have hdl' : (d ++ [i, t]).length / 2 = d.length / 2 + 1 := by simp
      have hvt : 0 ≤ t ∧ t < n := hve t (by simp [stsOf])
      obtain ⟨a', b', σ', w1, w2, w3⟩ := f53_L1_ok hc hR3 hR0 hlen m (d ++ [i, t]) e _ _ _ hel (by simp; omega) (by rw [hr]; simp) (by
        intro v hv2
        rw [stsOf_snoc i t d hd] at hv2
        have : v ∈ s :: stsOf d ∨ v = t := by simpa [or_assoc] using hv2
        rcases this with h | rfl
        · exact hv v h
        · exact hvt) (fun v hv2 => hve v (by simp [stsOf, hv2])) z0 ⟨z, z3⟩ gR4 (by rw [hdl', ← hst']; exact ga4) (by rw [hdl', ← hps']; exact gb4) (by
        intro r hr1 hr2
        have q1 : ra = r := by simpa [rowOf] using hr1
        have q2 : rb = r := by simpa [rowOf] using hr2
        rcases f3 with h | h
        · exact hrb (by rw [h, q1, q2])
        · obtain ⟨v, hv⟩ := gb2.row_tok (x := .osl rb vb 2 (d.length / 2 + 1) (ePrs (prsOf c s d) ++ ePrs [⟨i, outC c (endOf s d)⟩])) (r := rb) rfl
          have := get_lt hv
          omega)
      refine ⟨a', b', σ', Eq.trans ?_ w1, w2, w3⟩
      have hR0' : load1 (.ptr R 0) σ = some a := load1_ptr hRr rfl
      have hR1' : load1 (.ptr R 1) σ = some b := load1_ptr hRr rfl
      have hR2' : load1 (.ptr R 0) σ2 = some a := load1_ptr gR2 rfl
      have hout : load1 (.ptr 0 2) σ = some (.p (eSl c.out)) := load1_ptr h0 rfl
      have hbs1 : buildSlice PP none 31 1 [(0, .agg (prD ⟨i, outC c (endOf s d)⟩))] σ = some (.p (.sl true 1 (ePrs [⟨i, outC c (endOf s d)⟩])), σ) := bs31_1 _ _
      rw [f53_L1_eq guardT rfl]
      simp only [hln, b_lss, b_eql, b_neq, b_leq, b_geq, b_gtr, hlt, guard_tt, guard_ff, guard_tf, guard_ft, guard_sk, obind, omap, pickV_true, pickV_false, condK_true, condK_false, decide_true, decide_false, Bool.not_true, Bool.not_false, not_bool, fa33_0, fa33_1, fa25_2, shift_ptr, shift_pptr, Nat.zero_add, Nat.add_zero, pureFn_fn, List.append_nil, List.singleton_append, List.cons_append, List.nil_append, load31, load22, hR0', hR1', hout, idx22x hl0, load3, load1_pptr x1, len22g ga, b_sub, wrap_sub1 (show 1 ≤ d.length / 2 + 1 by omega) (show d.length / 2 + 1 ≤ 1000000 by omega), Nat.add_sub_cancel, idx22g2 ga (show d.length / 2 < d.length / 2 + 1 by omega), load1_pptr hlast, idx22i hendr.1 hof, load1_getD hof, hbld, hbs1, e1, hst1, hσ2, hR2', b_add, wrap_succ (show d.length + 1 ≤ 1000000 by omega), idx22x hl1, load1_pptr x2, bs22_1, e3, hst3, wrap_add2 (show d.length + 1 ≤ 1000000 by omega)]
      have hd2 : (d ++ [i, t]).length + 1 = d.length + 1 + 2 := by simp
      rw [hd2]
theorem L53 {o : OI} (hl : (L o).length ≤ 1000) (x3 x4 x5 x6 : DV) : ∀ (k i : Nat) (x : DV) (σ : Store), (L o).length - i = k → i ≤ (L o).length → Out σ 0 4 i (begC ((L o).take i)) x →
    ∃ x' σ', f53_L0 guardT 0 x3 x4 x5 x6 x (.p (eSl o)) (.p (pI ((L o).length : Nat))) (.p (pI (i : Nat))) σ = f53_L0 guardT 0 x3 x4 x5 x6 x' (.p (eSl o)) (.p (pI ((L o).length : Nat))) (.p (pI ((L o).length : Nat))) σ' ∧ Out σ' 0 4 (L o).length (begC (L o)) x' ∧ ∀ (j : Nat) (row : Row), (∀ v, row ≠ .tok v) → σ[j]? = some row → σ'[j]? = some row
  | 0, i, x, σ, hk, hi, ho => by
    have : i = (L o).length := by omega
    subst this
    rw [List.take_length] at ho
    exact ⟨x, σ, rfl, ho, fun _ _ _ h => h⟩
  | k + 1, i, x, σ, hk, hi, ho => by
    have h : i < (L o).length := by omega
    have h' : (i : Int) < ((L o).length : Nat) := by omega
    obtain ⟨x', σ', e1, o1, t1, _⟩ := Out.pushF (vs := eInts [(L o).getD i 0, 0, 0] ++ [.sl true 1 (eInts [(L o).getD i 0])]) srcS uS sF bytesF zeroF (by simp [nodeD]) (by decide) (by decide) (by decide) rfl ho (by omega) (Nat.zero_le _)
    have e2 : begC ((L o).take (i + 1)) = begC ((L o).take i) ++ (eInts [(L o).getD i 0, 0, 0] ++ [.sl true 1 (eInts [(L o).getD i 0])]) := by
      rw [List.take_succ_eq_append_getElem h, getD_at 0 h]
      simp only [begC, List.flatMap_append, List.flatMap_cons, List.flatMap_nil, List.append_nil]
    rw [← e2] at o1
    obtain ⟨x'', σ'', f1, f2, f3⟩ := L53 hl x3 x4 x5 x6 k (i + 1) x' σ' (by omega) (by omega) o1
    refine ⟨x'', σ'', Eq.trans ?_ f1, f2, fun j row hj e => f3 j row hj (t1 j row e fun r ver sz n cs ex => ?_)⟩
    · have hpi : [pI ((L o).getD i 0)] = eInts [(L o).getD i 0] := rfl
      rw [f53_L0_eq guardT rfl]
      simp only [b_lss, b_eql, b_neq, b_leq, b_geq, b_gtr, h', guard_tt, guard_ff, guard_tf, guard_ft, guard_sk, obind, omap, pickV_true, pickV_false, condK_true, condK_false, decide_true, decide_false, Bool.not_true, Bool.not_false, not_bool, idx22 h, load3, load1_getD h, build163a, bs22_1, hpi, bldFp, bsp, e1, b_add, wrap_succ (show i ≤ 1000000 by omega)]
    · rintro rfl
      rcases ho.2 with ⟨_, hz⟩ | ⟨_, r2, ver2, e3, e4, _⟩
      · rw [hz] at ex; exact absurd ex (by simp)
      · rw [ex] at e3
        injection e3 with e5
        rw [e5, e4] at e
        injection e with e
        exact hj ver2 e.symm
theorem cv33 (r : Nat) (ρ : Store) : cellV PP 33 (.ptr r 0) ρ = (loadN ρ 2 (.ptr r 0)).map .agg := Eq.trans (by kernel_rfl) rfl
theorem S53 {c : Cmp} {n : Nat} {wa wg : OW} {σ : Store} (hc : COk c n) (ha : WOk (wl wa) (wl wa).length) (hg : WOk (wl wg) (wl wg).length) : pureV CC 53 [.agg (eCmp c), .p (eWt wa), .p (eWt wg)] σ =
    some (match viRes c (wl wa) (wl wg) with | none => .tuple [.agg (eRun ⟨none, none⟩), .p (.bool false)] | some p => .tuple [.agg (eRun (runV c p)), .p (.bool true)]) := by
  have hil := hc.sm.i
  have hq : (initQ c).foldl addE [] = initQ c := by
    have := addE_fold (initQ c) [] (by simpa using initQ_nodup hc)
    simpa using this
  have hF : ∃ v σ', F53 guardT 0 (.agg (eCmp c)) (.p (eWt wa)) (.p (eWt wg)) [] = some (v, σ') ∧ thawAll 0 σ' v = some (match viRes c (wl wa) (wl wg) with | none => .tuple [.agg (eRun ⟨none, none⟩), .p (.bool false)] | some p => .tuple [.agg (eRun (runV c p)), .p (.bool true)]) := by
    rw [F53_eq]
    simp only [box_cmp, box_wt, zero33, guard_tt, guard_ff, guard_tf, guard_ft, guard_sk, obind, omap, pickV_true, pickV_false, condK_true, condK_false, decide_true, decide_false, Bool.not_true, Bool.not_false, not_bool, List.nil_append, List.cons_append, List.length_nil, List.length_cons, Nat.zero_add, Nat.reduceAdd]
    generalize hσ : ([.mix (eCmp c), .mix [.p (eWt wa)], .mix [.p (eWt wg)], .mix [.p .nilsl, .p .nilsl]] : Store) = τ
    have t0 : τ[0]? = some (.mix (eCmp c)) := by rw [← hσ]; rfl
    have t1 : τ[1]? = some (.mix [.p (eWt wa)]) := by rw [← hσ]; rfl
    have t2 : τ[2]? = some (.mix [.p (eWt wg)]) := by rw [← hσ]; rfl
    have t3 : τ[3]? = some (.mix [.p .nilsl, .p .nilsl]) := by rw [← hσ]; rfl
    obtain ⟨x8, σ1, e1, o1, k1⟩ := L53 (o := c.init) hil (.ptr 0 0) (.ptr 1 0) (.ptr 2 0) (.ptr 3 0) _ 0 (.p .nilsl) τ rfl (Nat.zero_le _) Out.zero
    have u0 := k1 0 _ (fun v => by simp) t0
    have u1 := k1 1 _ (fun v => by simp) t1
    have u2 := k1 2 _ (fun v => by simp) t2
    have u3 := k1 3 _ (fun v => by simp) t3
    have hrun : pureFn CC (.fn 103 []) [x8, .fn 104 [.ptr 0 0, .ptr 2 0, .ptr 1 0]] σ1 = some (match viRes c (wl wa) (wl wg) with | none => .p .nilsl | some p => .p (.sl false p.length (eInts p))) := by
      show pureV CC 103 ([x8, .fn 104 [.ptr 0 0, .ptr 2 0, .ptr 1 0]] ++ []) σ1 = _
      rw [List.append_nil]
      by_cases h0 : (L c.init).length = 0
      · have hx : x8 = .p .nilsl := by
          rcases o1.2 with ⟨_, h⟩ | ⟨h, _⟩
          · exact h
          · exact absurd h0 h
        have hqe : initQ c = [] := by rw [initQ, List.length_eq_zero_iff.1 h0]; rfl
        have hv : viRes c (wl wa) (wl wg) = none := by
          unfold viRes
          rw [bfsQ_none (List.getElem?_eq_none (by rw [hqe]; simp))]
        rw [hx, hv]
        exact run_nil rfl
      · have hvw := o1.vw
        rw [if_neg h0, begC_loosen] at hvw
        have hlen : (initQ c).length = (L c.init).length := by simp [initQ]
        rw [← hlen] at hvw
        have hvw : view x8 = .p (.sl false (initQ c).length (qsP (initQ c))) := hvw
        rw [pureV_view (args' := [.p (.sl false (initQ c).length (qsP (initQ c))), .fn 104 [.ptr 0 0, .ptr 2 0, .ptr 1 0]]) (by simp only [List.map_cons, List.map_nil, hvw, fn_view]) (by simp [view, viewCell, loosen, loosens_qs])]
        have := run_ok (hv104 u0 u1 u2 hc ha hg) (fun q hq => hq.le hc.n10 ha hg) (by decide) (bq := initQ c) (fun x hx => by obtain ⟨s, _, rfl⟩ := List.mem_map.1 hx; rfl) (by rw [hlen]; omega) (by rw [hq]; exact iv0 hc ha hg) rfl
        rw [hq] at this
        exact this
    have hn : ¬ (((L c.init).length : Nat) : Int) < ((L c.init).length : Nat) := by omega
    simp only [fa25_1, shift_ptr, shift_pptr, Nat.zero_add, Nat.add_zero, pureFn_fn, List.append_nil, List.singleton_append, List.cons_append, List.nil_append, load22, load1_ptr (off := 1) t0 rfl, guard_tt, guard_ff, guard_tf, guard_ft, guard_sk, obind, omap, pickV_true, pickV_false, condK_true, condK_false, decide_true, decide_false, Bool.not_true, Bool.not_false, not_bool, len22]
    have hstart : f53_L0 guardT 0 (.ptr 0 0) (.ptr 1 0) (.ptr 2 0) (.ptr 3 0) (.p .nilsl) (.p (eSl c.init)) (.p (pI ((L c.init).length : Nat))) (.p (pI (0 : Nat))) τ = _ := e1
    cases hv : viRes c (wl wa) (wl wg) with
    | none =>
      rw [hv] at hrun
      have hst : store PP 0 33 (.ptr 3 0) (.agg [.p .nilsl, .p .nilsl]) σ1 = some (σ1.set 3 (.mix [.p .nilsl, .p .nilsl])) := by
        simp [store, s33, DV.cells, storeN, u3, DV.one, splice]
      have g3 : (σ1.set 3 (.mix [.p .nilsl, .p .nilsl]))[3]? = some (.mix [.p .nilsl, .p .nilsl]) := by rw [List.getElem?_set_self (get_lt u3)]
      refine ⟨.tuple [.agg [.p .nilsl, .p .nilsl], .p (.bool false)], σ1.set 3 (.mix [.p .nilsl, .p .nilsl]), ?_, rfl⟩
      refine hstart.trans ?_
      rw [f53_L0_eq guardT rfl]
      simp only [b_lss, b_eql, b_neq, b_leq, b_geq, b_gtr, hn, guard_tt, guard_ff, guard_tf, guard_ft, guard_sk, obind, omap, pickV_true, pickV_false, condK_true, condK_false, decide_true, decide_false, Bool.not_true, Bool.not_false, not_bool, hrun, eq22_nn, build33_0, hst, cv33, loadN_ptr (off := 0) (n := 2) (vs := [.p .nilsl, .p .nilsl]) g3 rfl (by simp)]
    | some p =>
      rw [hv] at hrun
      obtain ⟨hpl, s, r, rfl, hr2, hr0, hrng⟩ := bfsV_ok hc ha hg _ _ _ (iv0 hc ha hg) hv
      have hσl := get_lt u3
      have hrl : r.length ≠ 0 := fun e => hr0 (List.length_eq_zero_iff.1 e)
      have hst := storeNew (lo := 0) (cs := [.p (.sl true 1 (eInts [s])), .p .nilsl]) (z := [.p .nilsl, .p .nilsl]) s33 σ1 rfl rfl rfl (Nat.zero_le _)
      obtain ⟨a', b', σ', w1, w2, w3⟩ := f53_L1_ok hc (s := s) (r0 := r) (R := σ1.length) (by omega) (by omega) (by simp at hpl; omega) (r.length / 2) [] r _ _ (σ1 ++ [.mix [.p (.sl true 1 (eInts [s])), .p .nilsl]]) (by omega) rfl rfl (fun v hv => hrng v (by
        have : v = s := by simpa [stsOf] using hv
        rw [this]; simp)) (fun v hv => hrng v (by simp [hv])) (get_old u0) ⟨.p .nilsl, get_old u3⟩ get_snoc ⟨rfl, .inr (.inl rfl)⟩ ⟨rfl, .inl ⟨rfl, rfl⟩⟩ (fun r h => absurd h (by simp [rowOf]))
      refine ⟨.tuple [.agg [a', b'], .p (.bool true)], σ', ?_, ?_⟩
      · refine hstart.trans ?_
        rw [f53_L0_eq guardT rfl]
        have hsl : (eInts (s :: r)).take 1 = eInts [s] := rfl
        simp only [b_lss, b_eql, b_neq, b_leq, b_geq, b_gtr, hn, guard_tt, guard_ff, guard_tf, guard_ft, guard_sk, obind, omap, pickV_true, pickV_false, condK_true, condK_false, decide_true, decide_false, Bool.not_true, Bool.not_false, not_bool, hrun, eq22_sl, sliceOp1 (show 1 ≤ (s :: r).length by simp), hsl, build33_1, zero33, hst]
        exact w1
      · have y1 := w2.tw (σ' := σ') (by omega) 0
        have y2 := w3.tw (σ' := σ') (by omega) 0
        rw [loosens_ints] at y1
        rw [loosens_prs] at y2
        have z1 := stsOf_len r hr2
        have z2 := prsOf_len c s r hr2
        have y3 : thawPart 0 σ' (.agg [a', b']) = some (.agg (eRun (runV c (s :: r)))) := by
          simp only [thawPart, mapO, y1, y2, Option.map_some, runV, eRun, eSl, ePs, List.length_cons, z1, z2]
        show (mapO (thawPart 0 σ') [.agg [a', b'], .p (.bool true)]).map DV.tuple = _
        rw [mapO, y3]
        rfl
  obtain ⟨v, σ', h1, h2⟩ := hF
  exact pureV_free (by simp [cmp_view, wt_view]) rfl (F53_call h1) h2
end Go.D
end
/- Violations: what the reference says of single elements. -/
section
set_option linter.unusedVariables false
set_option linter.unusedSimpArgs false
namespace Go.D
theorem OutL.grow {σ : Store} {lo sz n : Nat} {cs : List PV} {x : DV} (h : OutL σ lo sz n cs x) : Grow σ lo sz n cs x := by
  refine ⟨h.1, ?_⟩
  rcases h.2 with ⟨h1, h2⟩ | ⟨h1, r, v, h2, h3, h4⟩
  · right; left
    have : cs = [] := List.length_eq_zero_iff.1 (by rw [h.1, h1]; simp)
    rw [h2, this, h1]
  · exact .inr (.inr ⟨r, v, h2, h3, h4⟩)
/-! ### Elements -/
def runS (c : Cmp) : List Int → Run
  | s :: r => ⟨some (s :: stsOf r), if r = [] then none else some (prsOf c s r)⟩
  | [] => ⟨none, none⟩
def vsE (c : Cmp) (x : QE) : List PV := [eSl (runS c x.p).st, ePs (runS c x.p).ps, pI (x.n.getD 1 0), pI (x.n.getD 2 0)]
def vsP (c : Cmp) (q : List QE) : List PV := q.flatMap (vsE c)
theorem vsP_app (c : Cmp) (a b : List QE) : vsP c (a ++ b) = vsP c a ++ vsP c b := by simp [vsP]
theorem vsP_len (c : Cmp) : ∀ q : List QE, (vsP c q).length = q.length * 4
  | [] => rfl
  | x :: q => by
    show (vsE c x ++ vsP c q).length = _
    rw [List.length_append, vsP_len c q, List.length_cons, Nat.add_mul]
    simp [vsE]; omega
theorem vsP_at (c : Cmp) : ∀ {q : List QE} {i : Nat} {x : QE}, q[i]? = some x → ((vsP c q).drop (i * 4)).take 4 = vsE c x
  | [], i, x, h => by simp at h
  | y :: q, 0, x, h => by
    have e : y = x := by simpa using h
    subst e
    show List.take 4 (List.drop 0 (vsE c y ++ vsP c q)) = _
    rw [List.drop_zero, List.take_append_of_le_length (by simp [vsE]), List.take_of_length_le (by simp [vsE])]
  | y :: q, i + 1, x, h => by
    have ih := vsP_at c (q := q) (i := i) (x := x) (by simpa using h)
    show List.take 4 (List.drop ((i + 1) * 4) (vsE c y ++ vsP c q)) = _
    rw [show (i + 1) * 4 = (vsE c y).length + i * 4 by simp [vsE]; omega, List.drop_append, List.drop_eq_nil_of_le (by omega), List.nil_append, Nat.add_sub_cancel_left]
    exact ih
theorem loosens_mapE (l : List PV) : loosens l = l.map loosen := by
  induction l with
  | nil => rfl
  | cons a l ih => simp only [loosens, List.map_cons, ih]
theorem loosens_vsE (c : Cmp) (x : QE) : loosens (vsE c x) = vsE c x := by
  simp [vsE, loosens, loosen_sl, loosen_ps, loosen]
theorem loosens_vsP (c : Cmp) : ∀ q : List QE, loosens (vsP c q) = vsP c q
  | [] => rfl
  | x :: q => by
    show loosens (vsE c x ++ vsP c q) = vsE c x ++ vsP c q
    rw [loosens_app, loosens_vsE, loosens_vsP c q]
theorem loosen_int {v : PV} {n : Int} (h : loosen v = pI n) : v = pI n := by
  cases v <;> simp_all [loosen]
/-- Four cells that look like an element. -/
def El (c : Cmp) (x : QE) (v0 v1 : PV) : Prop := loosen v0 = eSl (runS c x.p).st ∧ loosen v1 = ePs (runS c x.p).ps
/-- What is seen: cells up to what is known of capacities. -/
def Seen (c : Cmp) (σ : Store) (q : List QE) (x : DV) : Prop := ∃ cs, Grow σ 0 4 q.length cs x ∧ loosens cs = vsP c q
theorem Seen.snoc {c : Cmp} {σ : Store} {q : List QE} {x : DV} (h : Seen c σ q x) (r : Row) : Seen c (σ ++ [r]) q x := by
  obtain ⟨cs, h1, h2⟩ := h
  exact ⟨cs, h1.snoc, h2⟩
theorem u110 : PP.underlying 110 = some (.slice 112) := Eq.trans (by kernel_rfl) rfl
theorem s112 : size? PP 112 = some 4 := Eq.trans (by kernel_rfl) rfl
theorem bytes112 : bytes? PP 112 = some 64 := Eq.trans (by kernel_rfl) rfl
theorem zero112 : zeroOf PP 112 = some [.p .nilsl, .p .nilsl, .p (pI 0), .p (pI 0)] := Eq.trans (by kernel_rfl) rfl
theorem src110 : srcType PP 110 = true := Eq.trans (by kernel_rfl) rfl
theorem fa112_0 (x : DV) : fieldAddr PP 112 x 0 = shiftPtr x 0 := Eq.trans (by kernel_rfl) rfl
theorem fa112_1 (x : DV) : fieldAddr PP 112 x 1 = shiftPtr x 2 := Eq.trans (by kernel_rfl) rfl
theorem fa112_2 (x : DV) : fieldAddr PP 112 x 2 = shiftPtr x 3 := Eq.trans (by kernel_rfl) rfl
theorem load112 (x : DV) (σ : Store) : load PP 112 x σ = (loadN σ 4 x).map .agg := Eq.trans (by kernel_rfl) rfl
theorem Seen.len {c : Cmp} {σ : Store} {q : List QE} {x : DV} (h : Seen c σ q x) (σ' : Store) : len PP 110 x σ' = some (.p (pI (q.length : Nat))) := by
  obtain ⟨cs, h1, _⟩ := h
  rcases h1.2 with ⟨h, rfl⟩ | rfl | ⟨r, ver, rfl, _⟩
  · simp [Go.D.len, u110, h]
  · simp [Go.D.len, u110]
  · simp [Go.D.len, u110]
/-- Reading an element. -/
theorem Seen.at {c : Cmp} {σ : Store} {q : List QE} {x : DV} (h : Seen c σ q x) {i : Nat} {e : QE} (he : q[i]? = some e) :
    ∃ cs v0 v1, indexAddr PP 110 x (.p (pI (i : Nat))) = some (.pptr cs (i * 4)) ∧ El c e v0 v1 ∧ (∀ σ', loadN σ' 4 (.pptr cs (i * 4)) = some [.p v0, .p v1, .p (pI (e.n.getD 1 0)), .p (pI (e.n.getD 2 0))]) ∧
      (∀ σ', loadN σ' 2 (.pptr cs (i * 4)) = some [.p v0, .p v1]) ∧ (∀ σ', load1 (.pptr cs (i * 4 + 2)) σ' = some (.p (pI (e.n.getD 1 0)))) ∧ (∀ σ', load1 (.pptr cs (i * 4 + 3)) σ' = some (.p (pI (e.n.getD 2 0)))) := by
  obtain ⟨cs, h1, h2⟩ := h
  have hi := (List.getElem?_eq_some_iff.1 he).1
  have hcl := h1.1
  have h3 := vsP_at c he
  rw [← h2, loosens_mapE, ← List.map_drop, ← List.map_take] at h3
  have hlen : ((cs.drop (i * 4)).take 4).length = 4 := by rw [List.length_take, List.length_drop]; omega
  match hm : (cs.drop (i * 4)).take 4, hlen with
  | [v0, v1, v2, v3], _ =>
    rw [hm] at h3
    simp only [List.map_cons, List.map_nil, vsE, List.cons.injEq, and_true] at h3
    obtain ⟨a0, a1, a2, a3⟩ := h3
    have b2 := loosen_int a2
    have b3 := loosen_int a3
    subst b2 b3
    have hat : ∀ j, j < 4 → cs[i * 4 + j]? = ((cs.drop (i * 4)).take 4)[j]? := by
      intro j hj
      rw [List.getElem?_take, if_pos hj, List.getElem?_drop]
    have hidx : indexAddr PP 110 x (.p (pI (i : Nat))) = some (.pptr cs (i * 4)) := by
      have h5 : (0 : Int) ≤ (i : Int) ∧ (i : Int) < (q.length : Nat) := by omega
      rcases h1.2 with h | rfl | ⟨r, ver, rfl, _⟩
      · omega
      · simp [indexAddr, u110, s112, h5, hi]
      · simp [indexAddr, u110, s112, h5, hi]
    refine ⟨cs, v0, v1, hidx, ⟨a0, a1⟩, fun σ' => ?_, fun σ' => ?_, fun σ' => load1_pptr (by rw [hat 2 (by decide), hm]; rfl) σ', fun σ' => load1_pptr (by rw [hat 3 (by decide), hm]; rfl) σ'⟩
    · have : i * 4 + 4 ≤ cs.length := by omega
      simp only [loadN, this, if_true, hm]
      rfl
    · have h6 : i * 4 + 2 ≤ cs.length := by omega
      have h7 : (cs.drop (i * 4)).take 2 = [v0, v1] := by
        have := congrArg (List.take 2) hm
        rw [List.take_take] at this
        simpa using this
      simp only [loadN, h6, if_true, h7]
      rfl

/-! ### end -/
theorem S62 {c : Cmp} {n : Nat} {x : QE} {v0 v1 : PV} {σ : Store} {a g : Int} (hE : El c x v0 v1) (hp : POk n x.p (x.n.getD 0 0)) (hl : x.p.length ≤ 2000) : pureV CC 62 [.agg [.p v0, .p v1, .p (pI a), .p (pI g)]] σ = some (.p (pI (x.n.getD 0 0))) := by
  obtain ⟨s, r, hpr, h1, h2, h3⟩ := hp.ex
  have hst : (runS c x.p).st = some (s :: stsOf r) := by rw [hpr]; rfl
  rw [pureV_view (args' := [.agg [.p (eSl (some (s :: stsOf r))), .p (ePs (runS c x.p).ps), .p (pI a), .p (pI g)]]) (by simp [view, viewCell, hE.1, hE.2, hst, loosen]) (by simp [view, viewCell, loosen_sl, loosen_ps, loosen])]
  refine pureV_free (by simp [view, viewCell, loosen_sl, loosen_ps, loosen]) rfl (F62_call (r := (.p (pI (x.n.getD 0 0)), [.mix [.p (eSl (some (s :: stsOf r))), .p (ePs (runS c x.p).ps), .p (pI a), .p (pI g)]])) ?_) rfl
  have hbox : boxV (.agg [.p (eSl (some (s :: stsOf r))), .p (ePs (runS c x.p).ps), .p (pI a), .p (pI g)]) = some [.p (eSl (some (s :: stsOf r))), .p (ePs (runS c x.p).ps), .p (pI a), .p (pI g)] := rfl
  have g0 : ([Row.mix [.p (eSl (some (s :: stsOf r))), .p (ePs (runS c x.p).ps), .p (pI a), .p (pI g)]] : Store)[0]? = some (.mix [.p (eSl (some (s :: stsOf r))), .p (ePs (runS c x.p).ps), .p (pI a), .p (pI g)]) := rfl
  have hL : (L (some (s :: stsOf r)) : List Int).length = r.length / 2 + 1 := by show (s :: stsOf r).length = _; rw [List.length_cons, stsOf_len r h1]
  have hrl : r.length ≤ 2000 := by rw [hpr] at hl; simp at hl; omega
  have hi : r.length / 2 < (L (some (s :: stsOf r)) : List Int).length := by omega
  have hend := endOf_last s r h1
  rw [F62_eq]
  simp only [hbox, guard_tt, guard_ff, guard_tf, guard_ft, guard_sk, obind, omap, pickV_true, pickV_false, condK_true, condK_false, decide_true, decide_false, Bool.not_true, Bool.not_false, not_bool, List.length_nil, List.nil_append, fa112_0, fa33_0, shift_ptr, shift_pptr, Nat.zero_add, Nat.add_zero, pureFn_fn, List.append_nil, List.singleton_append, List.cons_append, List.nil_append, load22, load1_ptr (off := 0) g0 rfl, len22, hL, b_sub, wrap_sub1 (show 1 ≤ r.length / 2 + 1 by omega) (show r.length / 2 + 1 ≤ 1000000 by omega), Nat.add_sub_cancel, idx22 hi, load3, load1_getD hi]
  rw [show (L (some (s :: stsOf r)) : List Int).getD (r.length / 2) 0 = _ from hend, h2]

/-! ### further -/
theorem runS_L {c : Cmp} {s : Int} {r : List Int} : L (runS c (s :: r)).ps = prsOf c s r := by
  unfold runS
  by_cases h : r = []
  · subst h; rfl
  · simp only [if_neg h]; rfl
theorem run_rs {c : Cmp} {s : Int} {r : List Int} (h1 : r.length % 2 = 0) (hl : r.length ≤ 1900) : RSm (runS c (s :: r)) := by
  have a := stsOf_len r h1
  have b := prsOf_len c s r h1
  refine ⟨?_, ?_⟩
  · show (s :: stsOf r).length ≤ 1000
    simp only [List.length_cons]; omega
  · rw [runS_L]; omega
theorem S63 {c : Cmp} {n : Nat} {x : QE} {v0 v1 : PV} {e : Edg} {σ : Store} (hc : COk c n) (hE : El c x v0 v1) (hp : POk n x.p (x.n.getD 0 0)) (hl : x.p.length ≤ 1900) (hef : e.f = x.n.getD 0 0) (hrng : 0 ≤ e.f ∧ e.f < n) :
    pureV CC 63 [.agg (eCmp c), .agg [.p v0, .p v1], .agg (edgD e)] σ = some (.agg (eRun (runS c (x.p ++ [e.t, e.a])))) := by
  obtain ⟨s, r, hpr, h1, h2, h3⟩ := hp.ex
  have hrl : r.length ≤ 1900 := by rw [hpr] at hl; simp at hl; omega
  have hr := run_rs (c := c) (s := s) h1 hrl
  have hvw : view (.agg (edgD e)) = .agg (edgD e) := by simp [view, viewCell, edgD, loosen]
  rw [pureV_view (args' := [.agg (eCmp c), .agg (eRun (runS c (s :: r))), .agg (edgD e)]) (by
    have a := hE.1
    have b := hE.2
    rw [hpr] at a b
    simp only [List.map_cons, List.map_nil, cmp_view, hvw]
    simp [view, viewCell, a, b, eRun]) (by simp only [List.map_cons, List.map_nil, cmp_view, hvw, run_view])]
  have hF : ∃ v σ', F63 guardT 0 (.agg (eCmp c)) (.agg (eRun (runS c (s :: r)))) (.agg (edgD e)) [] = some (v, σ') ∧ thawAll 0 σ' v = some (.agg (eRun (runS c (x.p ++ [e.t, e.a])))) := by
    rw [F63_eq]
    have hbe : boxV (.agg (edgD e)) = some (edgD e) := rfl
    simp only [box_cmp, box_run, hbe, zero33, guard_tt, guard_ff, guard_tf, guard_ft, guard_sk, obind, omap, pickV_true, pickV_false, condK_true, condK_false, decide_true, decide_false, Bool.not_true, Bool.not_false, not_bool, List.nil_append, List.cons_append, List.length_nil, List.length_cons, Nat.zero_add, Nat.reduceAdd]
    generalize hτ : ([.mix (eCmp c), .mix (eRun (runS c (s :: r))), .mix (edgD e), .mix [.p .nilsl, .p .nilsl]] : Store) = τ
    have t0 : τ[0]? = some (.mix (eCmp c)) := by rw [← hτ]; rfl
    have t1 : τ[1]? = some (.mix (eRun (runS c (s :: r)))) := by rw [← hτ]; rfl
    have t2 : τ[2]? = some (.mix (edgD e)) := by rw [← hτ]; rfl
    have t3 : τ[3]? = some (.mix [.p .nilsl, .p .nilsl]) := by rw [← hτ]; rfl
    obtain ⟨xa, xb, σ1, c1, ga, gb, k1, l1, ap⟩ := C31 (lo := 0) (σ := τ) hr (Nat.zero_le _)
    have ga := ga.grow
    have gb := gb.grow
    have hst := RnV.storeNew (lo := 0) (cs := [xa, xb]) (z := [.p .nilsl, .p .nilsl]) s33 σ1 rfl rfl (by simp [ga.one.1, gb.one.1]) (Nat.zero_le _) -- storeNew33 (lo := 0) (σ := σ1) ga.one.1 gb.one.1 (Nat.zero_le _)
    have u0 := get_old (r := .mix [xa, xb]) (k1 0 _ t0)
    have u2 := get_old (r := .mix [xa, xb]) (k1 2 _ t2)
    have u3 := get_old (r := .mix [xa, xb]) (k1 3 _ t3)
    have uR : (σ1 ++ [Row.mix [xa, xb]])[σ1.length]? = some (.mix [xa, xb]) := get_snoc
    have ga1 := ga.snoc (r := .mix [xa, xb])
    have gb1 := gb.snoc (r := .mix [xa, xb])
    have hσ1 : 4 ≤ σ1.length := by have := get_lt (k1 3 _ t3); omega
    generalize hρ : σ1 ++ [Row.mix [xa, xb]] = ρ at *
    generalize hR : σ1.length = R at *
    rw [show L (runS c (s :: r)).st = s :: stsOf r from rfl] at ga ga1
    rw [runS_L] at gb gb1
    have z1 := stsOf_len r h1
    have z2 := prsOf_len c s r h1
    have ap' : ∀ q, rowOf xa = some q → rowOf xb ≠ some q := by
      intro q q1 q2
      rcases ga.2 with ⟨_, rfl⟩ | rfl | ⟨ra, va, rfl, _, _⟩
      · exact absurd q1 (by simp [rowOf])
      · exact absurd q1 (by simp [rowOf])
      · rcases gb.2 with ⟨_, rfl⟩ | rfl | ⟨rb, vb, rfl, _, _⟩
        · exact absurd q2 (by simp [rowOf])
        · exact absurd q2 (by simp [rowOf])
        · have a1 : ra = q := by simpa [rowOf] using q1
          have a2 : rb = q := by simpa [rowOf] using q2
          exact ap _ _ _ _ _ _ _ _ rfl rfl (by rw [a1, a2])
    have nomix : ∀ {ρ : Store} {B sz k j : Nat} {cs : List PV} {y : DV} {row : List DV}, Grow ρ B sz k cs y → ρ[j]? = some (.mix row) → rowOf y ≠ some j := fun g hj hh => by
      obtain ⟨v, hv⟩ := g.row_tok hh
      rw [hj] at hv
      exact absurd hv (by simp)
    -- the state
    obtain ⟨ra, va, σ2, e1, g1, f1, k2, l2⟩ := ga1.push2 (t := 22) (lo := 0) (m := 1) (vs := [pI e.a]) src22 u22 s3 bytes3 zero3 rfl (by decide) (by decide) (by decide) rfl (by decide) (by decide) (by simp only [List.length_cons]; omega) (Nat.zero_le _) (Nat.zero_le _)
    have hR2 := k2 R _ (nomix ga1 uR) uR
    have v0' := k2 0 _ (nomix ga1 u0) u0
    have v2' := k2 2 _ (nomix ga1 u2) u2
    have v3' := k2 3 _ (nomix ga1 u3) u3
    have gb2 : Grow σ2 0 2 _ _ xb := gb1.keep fun q row q1 q2 => k2 q row (fun hh => ap' q hh q1) q2
    have hra : rowOf xb ≠ some ra := by
      rcases f1 with h | h
      · exact ap' ra h
      · intro hh
        obtain ⟨v, hv⟩ := gb1.row_tok hh
        have := get_lt hv
        omega
    have hst2 := RnV.store1 (lo := 0) (show size? PP 22 = some 1 from s22) hR2 (off := 0) (v := .osl ra va 1 ((s :: stsOf r).length + 1) (eInts (s :: stsOf r) ++ [pI e.a])) (by simp) rfl rfl (Nat.zero_le _)
    simp only [List.set_cons_zero] at hst2
    have kset : ∀ {ρ : Store} {row row' : List DV}, ρ[R]? = some (.mix row) → ∀ {B sz k : Nat} {cs : List PV} {y : DV}, Grow ρ B sz k cs y → Grow (ρ.set R (.mix row')) B sz k cs y := fun hRr _ _ _ _ _ g => g.keep fun q row q1 q2 => get_set_ne q2 (by
      rintro rfl
      exact nomix g hRr q1)
    have ga3 := kset (row' := [.osl ra va 1 ((s :: stsOf r).length + 1) (eInts (s :: stsOf r) ++ [pI e.a]), xb]) hR2 g1
    have gb3 := kset (row' := [.osl ra va 1 ((s :: stsOf r).length + 1) (eInts (s :: stsOf r) ++ [pI e.a]), xb]) hR2 gb2
    have w0 := get_set_ne (r := .mix [.osl ra va 1 ((s :: stsOf r).length + 1) (eInts (s :: stsOf r) ++ [pI e.a]), xb]) v0' (show 0 ≠ R by omega)
    have w2 := get_set_ne (r := .mix [.osl ra va 1 ((s :: stsOf r).length + 1) (eInts (s :: stsOf r) ++ [pI e.a]), xb]) v2' (show 2 ≠ R by omega)
    have w3 := get_set_ne (r := .mix [.osl ra va 1 ((s :: stsOf r).length + 1) (eInts (s :: stsOf r) ++ [pI e.a]), xb]) v3' (show 3 ≠ R by omega)
    have wR : (σ2.set R (.mix [.osl ra va 1 ((s :: stsOf r).length + 1) (eInts (s :: stsOf r) ++ [pI e.a]), xb]))[R]? = some (.mix [.osl ra va 1 ((s :: stsOf r).length + 1) (eInts (s :: stsOf r) ++ [pI e.a]), xb]) := by rw [List.getElem?_set_self (get_lt hR2)]
    generalize hσ3 : σ2.set R (.mix [.osl ra va 1 ((s :: stsOf r).length + 1) (eInts (s :: stsOf r) ++ [pI e.a]), xb]) = σ3 at *
    -- the pair
    obtain ⟨rb, vb, σ4, e4, g4, f4, k4, l4⟩ := gb3.push2 (t := 31) (lo := 0) (m := 1) (vs := ePrs [⟨e.t, outC c e.f⟩]) src31 u31 s98 bytes98 zero98 rfl (by decide) (by decide) (by decide) rfl (by decide) (by decide) (by omega) (Nat.zero_le _) (Nat.zero_le _)
    have hR4 := k4 R _ (nomix gb3 wR) wR
    have x3 := k4 3 _ (nomix gb3 w3) w3
    have ga4 : Grow σ4 0 1 _ _ (.osl ra va 1 ((s :: stsOf r).length + 1) (eInts (s :: stsOf r) ++ [pI e.a])) := ga3.keep fun q row q1 q2 => k4 q row (fun hh => by
      have : ra = q := by simpa [rowOf] using q1
      rw [← this] at hh
      exact hra hh) q2
    have hst4 := RnV.store1 (lo := 0) (show size? PP 31 = some 1 from Eq.trans (by kernel_rfl) rfl) hR4 (off := 1) (v := .osl rb vb 2 ((prsOf c s r).length + 1) (ePrs (prsOf c s r) ++ ePrs [⟨e.t, outC c e.f⟩])) (by simp) rfl rfl (Nat.zero_le _)
    simp only [List.set_cons_succ, List.set_cons_zero] at hst4
    have yR : (σ4.set R (.mix [.osl ra va 1 ((s :: stsOf r).length + 1) (eInts (s :: stsOf r) ++ [pI e.a]), .osl rb vb 2 ((prsOf c s r).length + 1) (ePrs (prsOf c s r) ++ ePrs [⟨e.t, outC c e.f⟩])]))[R]? = some (.mix [.osl ra va 1 ((s :: stsOf r).length + 1) (eInts (s :: stsOf r) ++ [pI e.a]), .osl rb vb 2 ((prsOf c s r).length + 1) (ePrs (prsOf c s r) ++ ePrs [⟨e.t, outC c e.f⟩])]) := by rw [List.getElem?_set_self (get_lt hR4)]
    have y3 := get_set_ne (r := .mix [.osl ra va 1 ((s :: stsOf r).length + 1) (eInts (s :: stsOf r) ++ [pI e.a]), .osl rb vb 2 ((prsOf c s r).length + 1) (ePrs (prsOf c s r) ++ ePrs [⟨e.t, outC c e.f⟩])]) x3 (show 3 ≠ R by omega)
    generalize hσ5 : σ4.set R (.mix [.osl ra va 1 ((s :: stsOf r).length + 1) (eInts (s :: stsOf r) ++ [pI e.a]), .osl rb vb 2 ((prsOf c s r).length + 1) (ePrs (prsOf c s r) ++ ePrs [⟨e.t, outC c e.f⟩])]) = σ5 at *
    have hst5 : store PP 0 33 (.ptr 3 0) (.agg [.osl ra va 1 ((s :: stsOf r).length + 1) (eInts (s :: stsOf r) ++ [pI e.a]), .osl rb vb 2 ((prsOf c s r).length + 1) (ePrs (prsOf c s r) ++ ePrs [⟨e.t, outC c e.f⟩])]) σ5 = some (σ5.set 3 (.mix [.osl ra va 1 ((s :: stsOf r).length + 1) (eInts (s :: stsOf r) ++ [pI e.a]), .osl rb vb 2 ((prsOf c s r).length + 1) (ePrs (prsOf c s r) ++ ePrs [⟨e.t, outC c e.f⟩])])) := by
      simp [store, s33, DV.cells, storeN, y3, DV.one, splice]
    have g5 : (σ5.set 3 (.mix [.osl ra va 1 ((s :: stsOf r).length + 1) (eInts (s :: stsOf r) ++ [pI e.a]), .osl rb vb 2 ((prsOf c s r).length + 1) (ePrs (prsOf c s r) ++ ePrs [⟨e.t, outC c e.f⟩])]))[3]? = some (.mix [.osl ra va 1 ((s :: stsOf r).length + 1) (eInts (s :: stsOf r) ++ [pI e.a]), .osl rb vb 2 ((prsOf c s r).length + 1) (ePrs (prsOf c s r) ++ ePrs [⟨e.t, outC c e.f⟩])]) := by rw [List.getElem?_set_self (get_lt y3)]
    have hof : e.f.toNat < (L c.out).length := by rw [hc.o]; omega
    have hbld : build PP 98 [(0, .p (pI e.t)), (1, .p (pI ((L c.out).getD e.f.toNat 0)))] = some (.agg (prD ⟨e.t, outC c e.f⟩)) := bld98 _ _
    have hbs := bs31_1 ⟨e.t, outC c e.f⟩
    have c1' : plainFn CC 0 (.fn 31 []) [.agg (eRun (runS c (s :: r)))] τ = some (.agg [xa, xb], σ1) := c1
    refine ⟨.agg [.osl ra va 1 ((s :: stsOf r).length + 1) (eInts (s :: stsOf r) ++ [pI e.a]), .osl rb vb 2 ((prsOf c s r).length + 1) (ePrs (prsOf c s r) ++ ePrs [⟨e.t, outC c e.f⟩])], σ5.set 3 (.mix [.osl ra va 1 ((s :: stsOf r).length + 1) (eInts (s :: stsOf r) ++ [pI e.a]), .osl rb vb 2 ((prsOf c s r).length + 1) (ePrs (prsOf c s r) ++ ePrs [⟨e.t, outC c e.f⟩])]), ?_, ?_⟩
    · have hl33 : loadN τ 2 (.ptr 1 0) = some (eRun (runS c (s :: r))) := loadN_ptr t1 rfl (by simp [eRun])
      have hl33b : loadN σ5 2 (.ptr R 0) = some [.osl ra va 1 ((s :: stsOf r).length + 1) (eInts (s :: stsOf r) ++ [pI e.a]), .osl rb vb 2 ((prsOf c s r).length + 1) (ePrs (prsOf c s r) ++ ePrs [⟨e.t, outC c e.f⟩])] := loadN_ptr yR rfl (by simp)
      simp only [load33, hl33, guard_tt, guard_ff, guard_tf, guard_ft, guard_sk, obind, omap, pickV_true, pickV_false, condK_true, condK_false, decide_true, decide_false, Bool.not_true, Bool.not_false, not_bool, c1', hR, hst, hρ, fa33_0, fa33_1, fa106_0, fa106_1, fa106_2, fa25_2, shift_ptr, shift_pptr, Nat.zero_add, Nat.add_zero, pureFn_fn, List.append_nil, List.singleton_append, List.cons_append, List.nil_append, load22, load31, load3, load1_ptr (off := 0) uR rfl, load1_ptr (off := 2) u2 rfl, bs22_1, e1, hst2, hσ3, load1_ptr (off := 1) wR rfl, load1_ptr (off := 1) w2 rfl, load1_ptr (off := 2) w0 rfl, load1_ptr (off := 0) w2 rfl, idx22i hrng.1 hof, load1_getD hof, hbld, hbs, e4, hst4, hσ5, hl33b, hst5, cv33, loadN_ptr (off := 0) (n := 2) g5 rfl (by simp)]
      rfl
    · have hne : r ++ [e.t, e.a] ≠ [] := by simp
      have hrun : runS c (x.p ++ [e.t, e.a]) = ⟨some (s :: stsOf r ++ [e.a]), some (prsOf c s r ++ [⟨e.t, outC c e.f⟩])⟩ := by
        rw [hpr]
        show runS c (s :: (r ++ [e.t, e.a])) = _
        unfold runS
        simp only [if_neg hne, stsOf_snoc e.t e.a r h1, prsOf_snoc c e.t e.a s r h1, h2, hef]
        rfl
      have w : eInts (s :: stsOf r) ++ [pI e.a] = eInts (s :: stsOf r ++ [e.a]) := by simp [eInts]
      have w' : ePrs (prsOf c s r) ++ ePrs [⟨e.t, outC c e.f⟩] = ePrs (prsOf c s r ++ [⟨e.t, outC c e.f⟩]) := (prs_append _ _).symm
      rw [hrun, w, w']
      simp [thawAll, thawPart, mapO, thaw, thaw1, thawP, loosens_ints, loosens_prs, eRun, eSl, ePs]
  obtain ⟨v, σ', h1, h2⟩ := hF
  exact pureV_free (by simp only [List.map_cons, List.map_nil, cmp_view, hvw, run_view]) rfl (F63_call h1) h2
end Go.D
end
/- Equations of functions 19, printed by gen.py. -/
section
set_option linter.unusedVariables false
set_option maxRecDepth 10000
namespace Go.D
open _root_.Go.D.Code (fstC sndC)
open _root_.Go.D.Ann (left right)
noncomputable def c19_0 : Code := bodyOf Go.Proofs.Try.f19
noncomputable def a19_0 : Ann := (pol 19).ann
noncomputable def a19_7 : Ann := right (left (right (right a19_0)))
noncomputable def a19_8 : Ann := left a19_7
noncomputable def c19_9 : Code := fstC (fstC (sndC (fstC (sndC (sndC c19_0)))))
noncomputable def c19_19 : Code := sndC (sndC (sndC c19_0))
noncomputable def a19_19 : Ann := right (right (right a19_0))
noncomputable def a19_22 : Ann := left (right a19_19)
noncomputable def a19_23 : Ann := left a19_22
noncomputable def c19_24 : Code := fstC (fstC (fstC (sndC c19_19)))
noncomputable def a19_30 : Ann := right (left a19_23)
noncomputable def a19_36 : Ann := right (left (right (left a19_30)))
noncomputable def a19_37 : Ann := left a19_36
noncomputable def c19_38 : Code := fstC (fstC (sndC (fstC (sndC (fstC (sndC c19_24))))))
noncomputable def a19_45 : Ann := left (right (left a19_37))
noncomputable def a19_48 : Ann := right (left a19_45)
noncomputable def a19_49 : Ann := left a19_48
noncomputable def c19_50 : Code := fstC (fstC (sndC (fstC (fstC (sndC c19_38)))))
noncomputable def c19_68 : Code := sndC (sndC c19_38)
noncomputable def a19_68 : Ann := right (right (left a19_37))
noncomputable def c19_69 : Code := sndC (sndC (fstC (sndC c19_24)))
noncomputable def a19_69 : Ann := right (right (left a19_30))
noncomputable def a19_72 : Ann := right (left a19_69)
noncomputable def a19_73 : Ann := left a19_72
noncomputable def c19_74 : Code := fstC (fstC (sndC (fstC c19_69)))
noncomputable def a19_81 : Ann := left (right (left a19_73))
noncomputable def a19_84 : Ann := right (left a19_81)
noncomputable def a19_85 : Ann := left a19_84
noncomputable def c19_86 : Code := fstC (fstC (sndC (fstC (fstC (sndC c19_74)))))
noncomputable def c19_109 : Code := sndC (sndC c19_86)
noncomputable def a19_109 : Ann := right (right (left a19_85))
noncomputable def c19_110 : Code := sndC (sndC c19_74)
noncomputable def a19_110 : Ann := right (right (left a19_73))
noncomputable def c19_111 : Code := sndC c19_69
noncomputable def a19_111 : Ann := right a19_69
noncomputable def c19_112 : Code := sndC (sndC c19_19)
noncomputable def a19_112 : Ann := right (right a19_19)
noncomputable def f19_L0 (G : GuardT) (lo : Nat) (x1 x2 x3 x6 x8 x9 : DV) (σ : Store) : Option (DV × Store) :=
 codeF G PP (pol 19) CC lo (.loop c19_9) a19_8 [ud, x1, x2, x3, ud, ud, x6, ud, x8, x9, ud, ud, ud, ud, ud, ud, ud, ud, ud, ud, ud, ud, ud, ud, ud, ud, ud, ud, ud, ud, ud, ud, ud, ud, ud, ud, ud, ud, ud, ud, ud, ud, ud, ud, ud, ud, ud, ud, ud, ud, ud, ud, ud, ud, ud, ud, ud, ud, ud, ud, ud, ud, ud, ud, ud, ud, ud, ud, ud, ud, ud, ud, ud, ud, ud, ud, ud, ud, ud, ud, ud, ud, ud, ud, ud, ud, ud, ud, ud, ud, ud, ud, ud, ud, ud, ud, ud, ud, ud, ud, ud, ud, ud, ud, ud, ud, ud, ud, ud, ud, ud, ud, ud, ud, ud, ud, ud, ud, ud, ud, ud, ud, ud, ud, ud, ud, ud, ud, ud, ud, ud, ud, ud, ud, ud, ud, ud, ud, ud, ud, ud, ud, ud, ud, ud, ud, ud, ud, ud, ud, ud, ud, ud, ud, ud, ud, ud, ud, ud, ud, ud, ud, ud, ud, ud, ud, ud, ud, ud, ud, ud, ud, ud, ud, ud, ud, ud, ud, ud, ud, ud, ud, ud, ud, ud, ud, ud, ud, ud, ud] σ
 (blockC 0 a19_7 (seqC G PP (pol 19) CC lo c19_19 a19_19 (finR PP Go.Proofs.Try.f19.results.toList)))
noncomputable def f19_L1 (G : GuardT) (lo : Nat) (x1 x2 x3 x6 x8 x10 : DV) (σ : Store) : Option (DV × Store) :=
 codeF G PP (pol 19) CC lo (.loop c19_24) a19_23 [ud, x1, x2, x3, ud, ud, x6, ud, x8, ud, x10, ud, ud, ud, ud, ud, ud, ud, ud, ud, ud, ud, ud, ud, ud, ud, ud, ud, ud, ud, ud, ud, ud, ud, ud, ud, ud, ud, ud, ud, ud, ud, ud, ud, ud, ud, ud, ud, ud, ud, ud, ud, ud, ud, ud, ud, ud, ud, ud, ud, ud, ud, ud, ud, ud, ud, ud, ud, ud, ud, ud, ud, ud, ud, ud, ud, ud, ud, ud, ud, ud, ud, ud, ud, ud, ud, ud, ud, ud, ud, ud, ud, ud, ud, ud, ud, ud, ud, ud, ud, ud, ud, ud, ud, ud, ud, ud, ud, ud, ud, ud, ud, ud, ud, ud, ud, ud, ud, ud, ud, ud, ud, ud, ud, ud, ud, ud, ud, ud, ud, ud, ud, ud, ud, ud, ud, ud, ud, ud, ud, ud, ud, ud, ud, ud, ud, ud, ud, ud, ud, ud, ud, ud, ud, ud, ud, ud, ud, ud, ud, ud, ud, ud, ud, ud, ud, ud, ud, ud, ud, ud, ud, ud, ud, ud, ud, ud, ud, ud, ud, ud, ud, ud, ud, ud, ud, ud, ud, ud, ud] σ
 (blockC 2 a19_22 (seqC G PP (pol 19) CC lo c19_112 a19_112 (finR PP Go.Proofs.Try.f19.results.toList)))
noncomputable def f19_L2 (G : GuardT) (lo : Nat) (x1 x2 x3 x6 x8 x10 x11 x12 : DV) (σ : Store) : Option (DV × Store) :=
 codeF G PP (pol 19) CC lo (.loop c19_38) a19_37 [ud, x1, x2, x3, ud, ud, x6, ud, x8, ud, x10, x11, x12, ud, ud, ud, ud, ud, ud, ud, ud, ud, ud, ud, ud, ud, ud, ud, ud, ud, ud, ud, ud, ud, ud, ud, ud, ud, ud, ud, ud, ud, ud, ud, ud, ud, ud, ud, ud, ud, ud, ud, ud, ud, ud, ud, ud, ud, ud, ud, ud, ud, ud, ud, ud, ud, ud, ud, ud, ud, ud, ud, ud, ud, ud, ud, ud, ud, ud, ud, ud, ud, ud, ud, ud, ud, ud, ud, ud, ud, ud, ud, ud, ud, ud, ud, ud, ud, ud, ud, ud, ud, ud, ud, ud, ud, ud, ud, ud, ud, ud, ud, ud, ud, ud, ud, ud, ud, ud, ud, ud, ud, ud, ud, ud, ud, ud, ud, ud, ud, ud, ud, ud, ud, ud, ud, ud, ud, ud, ud, ud, ud, ud, ud, ud, ud, ud, ud, ud, ud, ud, ud, ud, ud, ud, ud, ud, ud, ud, ud, ud, ud, ud, ud, ud, ud, ud, ud, ud, ud, ud, ud, ud, ud, ud, ud, ud, ud, ud, ud, ud, ud, ud, ud, ud, ud, ud, ud, ud, ud] σ
 (blockC 4 a19_36 (seqC G PP (pol 19) CC lo c19_69 a19_69 (blockC 3 a19_30 (loopC G PP (pol 19) CC lo c19_24 a19_23 (blockC 2 a19_22 (seqC G PP (pol 19) CC lo c19_112 a19_112 (finR PP Go.Proofs.Try.f19.results.toList)))))))
noncomputable def f19_L3 (G : GuardT) (lo : Nat) (x1 x2 x3 x6 x8 x10 x11 x12 x13 : DV) (σ : Store) : Option (DV × Store) :=
 codeF G PP (pol 19) CC lo (.loop c19_50) a19_49 [ud, x1, x2, x3, ud, ud, x6, ud, x8, ud, x10, x11, x12, x13, ud, ud, ud, ud, ud, ud, ud, ud, ud, ud, ud, ud, ud, ud, ud, ud, ud, ud, ud, ud, ud, ud, ud, ud, ud, ud, ud, ud, ud, ud, ud, ud, ud, ud, ud, ud, ud, ud, ud, ud, ud, ud, ud, ud, ud, ud, ud, ud, ud, ud, ud, ud, ud, ud, ud, ud, ud, ud, ud, ud, ud, ud, ud, ud, ud, ud, ud, ud, ud, ud, ud, ud, ud, ud, ud, ud, ud, ud, ud, ud, ud, ud, ud, ud, ud, ud, ud, ud, ud, ud, ud, ud, ud, ud, ud, ud, ud, ud, ud, ud, ud, ud, ud, ud, ud, ud, ud, ud, ud, ud, ud, ud, ud, ud, ud, ud, ud, ud, ud, ud, ud, ud, ud, ud, ud, ud, ud, ud, ud, ud, ud, ud, ud, ud, ud, ud, ud, ud, ud, ud, ud, ud, ud, ud, ud, ud, ud, ud, ud, ud, ud, ud, ud, ud, ud, ud, ud, ud, ud, ud, ud, ud, ud, ud, ud, ud, ud, ud, ud, ud, ud, ud, ud, ud, ud, ud] σ
 (blockC 6 a19_48 (blockC 5 a19_45 (seqC G PP (pol 19) CC lo c19_68 a19_68 (loopC G PP (pol 19) CC lo c19_38 a19_37 (blockC 4 a19_36 (seqC G PP (pol 19) CC lo c19_69 a19_69 (blockC 3 a19_30 (loopC G PP (pol 19) CC lo c19_24 a19_23 (blockC 2 a19_22 (seqC G PP (pol 19) CC lo c19_112 a19_112 (finR PP Go.Proofs.Try.f19.results.toList)))))))))))
noncomputable def f19_L4 (G : GuardT) (lo : Nat) (x1 x2 x3 x6 x8 x11 x15 : DV) (σ : Store) : Option (DV × Store) :=
 codeF G PP (pol 19) CC lo (.loop c19_74) a19_73 [ud, x1, x2, x3, ud, ud, x6, ud, x8, ud, ud, x11, ud, ud, ud, x15, ud, ud, ud, ud, ud, ud, ud, ud, ud, ud, ud, ud, ud, ud, ud, ud, ud, ud, ud, ud, ud, ud, ud, ud, ud, ud, ud, ud, ud, ud, ud, ud, ud, ud, ud, ud, ud, ud, ud, ud, ud, ud, ud, ud, ud, ud, ud, ud, ud, ud, ud, ud, ud, ud, ud, ud, ud, ud, ud, ud, ud, ud, ud, ud, ud, ud, ud, ud, ud, ud, ud, ud, ud, ud, ud, ud, ud, ud, ud, ud, ud, ud, ud, ud, ud, ud, ud, ud, ud, ud, ud, ud, ud, ud, ud, ud, ud, ud, ud, ud, ud, ud, ud, ud, ud, ud, ud, ud, ud, ud, ud, ud, ud, ud, ud, ud, ud, ud, ud, ud, ud, ud, ud, ud, ud, ud, ud, ud, ud, ud, ud, ud, ud, ud, ud, ud, ud, ud, ud, ud, ud, ud, ud, ud, ud, ud, ud, ud, ud, ud, ud, ud, ud, ud, ud, ud, ud, ud, ud, ud, ud, ud, ud, ud, ud, ud, ud, ud, ud, ud, ud, ud, ud, ud] σ
 (blockC 8 a19_72 (seqC G PP (pol 19) CC lo c19_111 a19_111 (blockC 3 a19_30 (loopC G PP (pol 19) CC lo c19_24 a19_23 (blockC 2 a19_22 (seqC G PP (pol 19) CC lo c19_112 a19_112 (finR PP Go.Proofs.Try.f19.results.toList)))))))
noncomputable def f19_L5 (G : GuardT) (lo : Nat) (x1 x2 x3 x6 x8 x11 x15 x16 : DV) (σ : Store) : Option (DV × Store) :=
 codeF G PP (pol 19) CC lo (.loop c19_86) a19_85 [ud, x1, x2, x3, ud, ud, x6, ud, x8, ud, ud, x11, ud, ud, ud, x15, x16, ud, ud, ud, ud, ud, ud, ud, ud, ud, ud, ud, ud, ud, ud, ud, ud, ud, ud, ud, ud, ud, ud, ud, ud, ud, ud, ud, ud, ud, ud, ud, ud, ud, ud, ud, ud, ud, ud, ud, ud, ud, ud, ud, ud, ud, ud, ud, ud, ud, ud, ud, ud, ud, ud, ud, ud, ud, ud, ud, ud, ud, ud, ud, ud, ud, ud, ud, ud, ud, ud, ud, ud, ud, ud, ud, ud, ud, ud, ud, ud, ud, ud, ud, ud, ud, ud, ud, ud, ud, ud, ud, ud, ud, ud, ud, ud, ud, ud, ud, ud, ud, ud, ud, ud, ud, ud, ud, ud, ud, ud, ud, ud, ud, ud, ud, ud, ud, ud, ud, ud, ud, ud, ud, ud, ud, ud, ud, ud, ud, ud, ud, ud, ud, ud, ud, ud, ud, ud, ud, ud, ud, ud, ud, ud, ud, ud, ud, ud, ud, ud, ud, ud, ud, ud, ud, ud, ud, ud, ud, ud, ud, ud, ud, ud, ud, ud, ud, ud, ud, ud, ud, ud, ud] σ
 (blockC 10 a19_84 (blockC 9 a19_81 (seqC G PP (pol 19) CC lo c19_110 a19_110 (loopC G PP (pol 19) CC lo c19_74 a19_73 (blockC 8 a19_72 (seqC G PP (pol 19) CC lo c19_111 a19_111 (blockC 3 a19_30 (loopC G PP (pol 19) CC lo c19_24 a19_23 (blockC 2 a19_22 (seqC G PP (pol 19) CC lo c19_112 a19_112 (finR PP Go.Proofs.Try.f19.results.toList)))))))))))
def f19_J0_fr (x1 x2 x3 x6 x8 x11 x15 x16 : DV) : Frame := [ud, x1, x2, x3, ud, ud, x6, ud, x8, ud, ud, x11, ud, ud, ud, x15, x16, ud, ud, ud, ud, ud, ud, ud, ud, ud, ud, ud, ud, ud, ud, ud, ud, ud, ud, ud, ud, ud, ud, ud, ud, ud, ud, ud, ud, ud, ud, ud, ud, ud, ud, ud, ud, ud, ud, ud, ud, ud, ud, ud, ud, ud, ud, ud, ud, ud, ud, ud, ud, ud, ud, ud, ud, ud, ud, ud, ud, ud, ud, ud, ud, ud, ud, ud, ud, ud, ud, ud, ud, ud, ud, ud, ud, ud, ud, ud, ud, ud, ud, ud, ud, ud, ud, ud, ud, ud, ud, ud, ud, ud, ud, ud, ud, ud, ud, ud, ud, ud, ud, ud, ud, ud, ud, ud, ud, ud, ud, ud, ud, ud, ud, ud, ud, ud, ud, ud, ud, ud, ud, ud, ud, ud, ud, ud, ud, ud, ud, ud, ud, ud, ud, ud, ud, ud, ud, ud, ud, ud, ud, ud, ud, ud, ud, ud, ud, ud, ud, ud, ud, ud, ud, ud, ud, ud, ud, ud, ud, ud, ud, ud, ud, ud, ud, ud, ud, ud, ud, ud, ud, ud]
noncomputable def f19_J0 (G : GuardT) (lo : Nat) (x1 x2 x3 x6 x8 x11 x15 x16 : DV) (σ : Store) : Option (DV × Store) :=
 (seqC G PP (pol 19) CC lo c19_109 a19_109 (loopC G PP (pol 19) CC lo c19_86 a19_85 (blockC 10 a19_84 (blockC 9 a19_81 (seqC G PP (pol 19) CC lo c19_110 a19_110 (loopC G PP (pol 19) CC lo c19_74 a19_73 (blockC 8 a19_72 (seqC G PP (pol 19) CC lo c19_111 a19_111 (blockC 3 a19_30 (loopC G PP (pol 19) CC lo c19_24 a19_23 (blockC 2 a19_22 (seqC G PP (pol 19) CC lo c19_112 a19_112 (finR PP Go.Proofs.Try.f19.results.toList))))))))))))) .normal (f19_J0_fr x1 x2 x3 x6 x8 x11 x15 x16) σ
noncomputable def F19 (G : GuardT) (lo : Nat) (x0 x1 x2 : DV) (σ : Store) : Option (DV × Store) :=
 codeF G PP (pol 19) CC lo c19_0 a19_0 [x0, x1, x2, ud, ud, ud, ud, ud, ud, ud, ud, ud, ud, ud, ud, ud, ud, ud, ud, ud, ud, ud, ud, ud, ud, ud, ud, ud, ud, ud, ud, ud, ud, ud, ud, ud, ud, ud, ud, ud, ud, ud, ud, ud, ud, ud, ud, ud, ud, ud, ud, ud, ud, ud, ud, ud, ud, ud, ud, ud, ud, ud, ud, ud, ud, ud, ud, ud, ud, ud, ud, ud, ud, ud, ud, ud, ud, ud, ud, ud, ud, ud, ud, ud, ud, ud, ud, ud, ud, ud, ud, ud, ud, ud, ud, ud, ud, ud, ud, ud, ud, ud, ud, ud, ud, ud, ud, ud, ud, ud, ud, ud, ud, ud, ud, ud, ud, ud, ud, ud, ud, ud, ud, ud, ud, ud, ud, ud, ud, ud, ud, ud, ud, ud, ud, ud, ud, ud, ud, ud, ud, ud, ud, ud, ud, ud, ud, ud, ud, ud, ud, ud, ud, ud, ud, ud, ud, ud, ud, ud, ud, ud, ud, ud, ud, ud, ud, ud, ud, ud, ud, ud, ud, ud, ud, ud, ud, ud, ud, ud, ud, ud, ud, ud, ud, ud, ud, ud, ud, ud] σ (finR PP Go.Proofs.Try.f19.results.toList)
theorem f19_L0_eq (G : GuardT) (hG : GuardOk G) (lo : Nat) (x1 x2 x3 x6 x8 x9 : DV) (σ : Store) : f19_L0 G lo x1 x2 x3 x6 x8 x9 σ =
 (fieldAddr PP 25 x3 1).bind fun x20 =>
 (load PP 22 x20 σ).bind fun x21 =>
 (len PP 22 x21 σ).bind fun x22 =>
 (binOp PP .lss 3 x9 x22).bind fun x23 =>
 condK x23
 (
 (fieldAddr PP 25 x3 1).bind fun x27 =>
 (load PP 22 x27 σ).bind fun x28 =>
 (indexAddr PP 22 x28 x9).bind fun x30 =>
 (load PP 3 x30 σ).bind fun x31 =>
 (buildSlice PP none 22 1 [(0, x31)] σ).bind fun r32_1 =>
 (build PP 33 [(0, r32_1.1)]).bind fun x33 =>
 (build PP 112 [(0, x33)]).bind fun x34 =>
 (buildSlice PP none 110 1 [(0, x34)] r32_1.2).bind fun r35_2 =>
 (append PP lo false 110 110 x8 r35_2.1 r35_2.2).bind fun r36_3 =>
 (binOp PP .add 3 x9 (DV.p (PV.int IntKind.i64 (1)))).bind fun x25 =>
 f19_L0 G lo x1 x2 x3 x6 r36_3.1 x25 r36_3.2
 )
 (
 f19_L1 G lo x1 x2 x3 x6 x8 (DV.p (PV.int IntKind.i64 (0))) σ
 ) := (loopF_eq G hG).trans (by kernel_rfl)
theorem f19_L1_eq (G : GuardT) (hG : GuardOk G) (lo : Nat) (x1 x2 x3 x6 x8 x10 : DV) (σ : Store) : f19_L1 G lo x1 x2 x3 x6 x8 x10 σ =
 (len PP 110 x8 σ).bind fun x39 =>
 (binOp PP .lss 3 x10 x39).bind fun x40 =>
 condK x40
 (
 (len PP 110 x8 σ).bind fun x42 =>
 f19_L2 G lo x1 x2 x3 x6 x8 x10 x42 x10 σ
 )
 (
 (build PP 33 []).bind fun x189 =>
 (store PP lo 33 x6 x189 σ).bind fun σ35 =>
 (cellV PP 33 x6 σ35).bind fun v0 =>
 some ((DV.tuple [v0, (DV.p (PV.bool false))]), σ35)
 ) := (loopF_eq G hG).trans (by kernel_rfl)
theorem f19_L2_eq (G : GuardT) (hG : GuardOk G) (lo : Nat) (x1 x2 x3 x6 x8 x10 x11 x12 : DV) (σ : Store) : f19_L2 G lo x1 x2 x3 x6 x8 x10 x11 x12 σ =
 (binOp PP .lss 3 x12 x11).bind fun x46 =>
 condK x46
 (
 f19_L3 G lo x1 x2 x3 x6 x8 x10 x11 x12 (DV.p (PV.int IntKind.i64 (0))) σ
 )
 (
 f19_L4 G lo x1 x2 x3 x6 x8 x11 x10 σ
 ) := (loopF_eq G hG).trans (by kernel_rfl)
theorem f19_L3_eq (G : GuardT) (hG : GuardOk G) (lo : Nat) (x1 x2 x3 x6 x8 x10 x11 x12 x13 : DV) (σ : Store) : f19_L3 G lo x1 x2 x3 x6 x8 x10 x11 x12 x13 σ =
 (fieldAddr PP 25 x3 3).bind fun x50 =>
 (load PP 23 x50 σ).bind fun x51 =>
 (len PP 23 x51 σ).bind fun x52 =>
 (binOp PP .lss 3 x13 x52).bind fun x53 =>
 condK x53
 (
 (fieldAddr PP 25 x3 3).bind fun x56 =>
 (load PP 23 x56 σ).bind fun x57 =>
 (indexAddr PP 23 x57 x13).bind fun x59 =>
 (load PP 106 x59 σ).bind fun x60 =>
 (zeroOf PP 106).bind fun z14 =>
 (store PP lo 106 (DV.ptr (List.length σ) 0) x60 (σ ++ [Row.mix z14])).bind fun σ4 =>
 (fieldAddr PP 106 (DV.ptr (List.length σ) 0) 0).bind fun x61 =>
 (load PP 3 x61 σ4).bind fun x62 =>
 (indexAddr PP 110 x8 x12).bind fun x65 =>
 (load PP 112 x65 σ4).bind fun x66 =>
 (pureFn CC (DV.fn 62 []) [x66] σ4).bind fun x67 =>
 (binOp PP .eql 3 x62 x67).bind fun x68 =>
 G _ x68 true (some (x2, σ4)) σ4 fun x70 σ5 =>
 G _ x68 true (some (x8, σ5)) σ5 fun x71 σ6 =>
 G _ x68 true (some (x12, σ6)) σ6 fun x72 σ7 =>
 G _ x68 true ((indexAddr PP 110 x71 x72).bind fun v => some (v, σ7)) σ7 fun x73 σ8 =>
 G _ x68 true ((fieldAddr PP 112 x73 2).bind fun v => some (v, σ8)) σ8 fun x74 σ9 =>
 G _ x68 true ((load PP 3 x74 σ9).bind fun v => some (v, σ9)) σ9 fun x75 σ10 =>
 G _ x68 true ((indexAddr PP 27 x70 x75).bind fun v => some (v, σ10)) σ10 fun x76 σ11 =>
 G _ x68 true ((load PP 48 x76 σ11).bind fun v => some (v, σ11)) σ11 fun x77 σ12 =>
 G _ x68 true ((fieldAddr PP 106 (DV.ptr (List.length σ) 0) 1).bind fun v => some (v, σ12)) σ12 fun x78 σ13 =>
 G _ x68 true ((load PP 3 x78 σ13).bind fun v => some (v, σ13)) σ13 fun x79 σ14 =>
 G _ x68 true ((indexAddr PP 48 x77 x79).bind fun v => some (v, σ14)) σ14 fun x80 σ15 =>
 G _ x68 true ((load PP 22 x80 σ15).bind fun v => some (v, σ15)) σ15 fun x81 σ16 =>
 G _ x68 true ((fieldAddr PP 25 x3 2).bind fun v => some (v, σ16)) σ16 fun x82 σ17 =>
 G _ x68 true ((load PP 22 x82 σ17).bind fun v => some (v, σ17)) σ17 fun x83 σ18 =>
 G _ x68 true ((fieldAddr PP 106 (DV.ptr (List.length σ) 0) 0).bind fun v => some (v, σ18)) σ18 fun x84 σ19 =>
 G _ x68 true ((load PP 3 x84 σ19).bind fun v => some (v, σ19)) σ19 fun x85 σ20 =>
 G _ x68 true ((indexAddr PP 22 x83 x85).bind fun v => some (v, σ20)) σ20 fun x86 σ21 =>
 G _ x68 true ((load PP 3 x86 σ21).bind fun v => some (v, σ21)) σ21 fun x87 σ22 =>
 G _ x68 true ((indexAddr PP 22 x81 x87).bind fun v => some (v, σ22)) σ22 fun x88 σ23 =>
 G _ x68 true ((load PP 3 x88 σ23).bind fun v => some (v, σ23)) σ23 fun x89 σ24 =>
 G _ x68 true ((binOp PP .eql 3 x89 (DV.p (PV.int IntKind.i64 (-1)))).bind fun v => some (v, σ24)) σ24 fun x90 σ25 =>
 (pickV x68 x90 (DV.p (PV.bool false))).bind fun x91 =>
 condK x91
 (
 (load PP 25 x3 σ25).bind fun x92 =>
 (indexAddr PP 110 x8 x12).bind fun x95 =>
 (fieldAddr PP 112 x95 0).bind fun x96 =>
 (load PP 33 x96 σ25).bind fun x97 =>
 (load PP 106 (DV.ptr (List.length σ) 0) σ25).bind fun x98 =>
 (pureFn CC (DV.fn 63 []) [x92, x97, x98] σ25).bind fun x99 =>
 (store PP lo 33 x6 x99 σ25).bind fun σ26 =>
 (cellV PP 33 x6 σ26).bind fun v0 =>
 some ((DV.tuple [v0, (DV.p (PV.bool true))]), σ26)
 )
 (
 (binOp PP .add 3 x13 (DV.p (PV.int IntKind.i64 (1)))).bind fun x55 =>
 f19_L3 G lo x1 x2 x3 x6 x8 x10 x11 x12 x55 σ25
 )
 )
 (
 (binOp PP .add 3 x12 (DV.p (PV.int IntKind.i64 (1)))).bind fun x48 =>
 f19_L2 G lo x1 x2 x3 x6 x8 x10 x11 x48 σ
 ) := (loopF_eq G hG).trans (by kernel_rfl)
theorem f19_L4_eq (G : GuardT) (hG : GuardOk G) (lo : Nat) (x1 x2 x3 x6 x8 x11 x15 : DV) (σ : Store) : f19_L4 G lo x1 x2 x3 x6 x8 x11 x15 σ =
 (binOp PP .lss 3 x15 x11).bind fun x103 =>
 condK x103
 (
 f19_L5 G lo x1 x2 x3 x6 x8 x11 x15 (DV.p (PV.int IntKind.i64 (0))) σ
 )
 (
 f19_L1 G lo x1 x2 x3 x6 x8 x11 σ
 ) := (loopF_eq G hG).trans (by kernel_rfl)
theorem f19_L5_eq (G : GuardT) (hG : GuardOk G) (lo : Nat) (x1 x2 x3 x6 x8 x11 x15 x16 : DV) (σ : Store) : f19_L5 G lo x1 x2 x3 x6 x8 x11 x15 x16 σ =
 (fieldAddr PP 25 x3 3).bind fun x107 =>
 (load PP 23 x107 σ).bind fun x108 =>
 (len PP 23 x108 σ).bind fun x109 =>
 (binOp PP .lss 3 x16 x109).bind fun x110 =>
 condK x110
 (
 (fieldAddr PP 25 x3 3).bind fun x113 =>
 (load PP 23 x113 σ).bind fun x114 =>
 (indexAddr PP 23 x114 x16).bind fun x116 =>
 (load PP 106 x116 σ).bind fun x117 =>
 (zeroOf PP 106).bind fun z17 =>
 (store PP lo 106 (DV.ptr (List.length σ) 0) x117 (σ ++ [Row.mix z17])).bind fun σ27 =>
 (fieldAddr PP 106 (DV.ptr (List.length σ) 0) 0).bind fun x118 =>
 (load PP 3 x118 σ27).bind fun x119 =>
 (indexAddr PP 110 x8 x15).bind fun x122 =>
 (load PP 112 x122 σ27).bind fun x123 =>
 (pureFn CC (DV.fn 62 []) [x123] σ27).bind fun x124 =>
 (binOp PP .neq 3 x119 x124).bind fun x125 =>
 condK x125
 (
 f19_J0 G lo x1 x2 x3 x6 x8 x11 x15 x16 σ27
 )
 (
 (load PP 25 x3 σ27).bind fun x126 =>
 (indexAddr PP 110 x8 x15).bind fun x129 =>
 (fieldAddr PP 112 x129 0).bind fun x130 =>
 (load PP 33 x130 σ27).bind fun x131 =>
 (load PP 106 (DV.ptr (List.length σ) 0) σ27).bind fun x132 =>
 (pureFn CC (DV.fn 63 []) [x126, x131, x132] σ27).bind fun x133 =>
 (indexAddr PP 110 x8 x15).bind fun x137 =>
 (fieldAddr PP 112 x137 1).bind fun x138 =>
 (load PP 3 x138 σ27).bind fun x139 =>
 (indexAddr PP 27 x1 x139).bind fun x140 =>
 (load PP 48 x140 σ27).bind fun x141 =>
 (fieldAddr PP 106 (DV.ptr (List.length σ) 0) 1).bind fun x142 =>
 (load PP 3 x142 σ27).bind fun x143 =>
 (indexAddr PP 48 x141 x143).bind fun x144 =>
 (load PP 22 x144 σ27).bind fun x145 =>
 (fieldAddr PP 25 x3 2).bind fun x146 =>
 (load PP 22 x146 σ27).bind fun x147 =>
 (fieldAddr PP 106 (DV.ptr (List.length σ) 0) 0).bind fun x148 =>
 (load PP 3 x148 σ27).bind fun x149 =>
 (indexAddr PP 22 x147 x149).bind fun x150 =>
 (load PP 3 x150 σ27).bind fun x151 =>
 (indexAddr PP 22 x145 x151).bind fun x152 =>
 (load PP 3 x152 σ27).bind fun x153 =>
 (indexAddr PP 110 x8 x15).bind fun x157 =>
 (fieldAddr PP 112 x157 2).bind fun x158 =>
 (load PP 3 x158 σ27).bind fun x159 =>
 (indexAddr PP 27 x2 x159).bind fun x160 =>
 (load PP 48 x160 σ27).bind fun x161 =>
 (fieldAddr PP 106 (DV.ptr (List.length σ) 0) 1).bind fun x162 =>
 (load PP 3 x162 σ27).bind fun x163 =>
 (indexAddr PP 48 x161 x163).bind fun x164 =>
 (load PP 22 x164 σ27).bind fun x165 =>
 (fieldAddr PP 25 x3 2).bind fun x166 =>
 (load PP 22 x166 σ27).bind fun x167 =>
 (fieldAddr PP 106 (DV.ptr (List.length σ) 0) 0).bind fun x168 =>
 (load PP 3 x168 σ27).bind fun x169 =>
 (indexAddr PP 22 x167 x169).bind fun x170 =>
 (load PP 3 x170 σ27).bind fun x171 =>
 (indexAddr PP 22 x165 x171).bind fun x172 =>
 (load PP 3 x172 σ27).bind fun x173 =>
 (build PP 112 [(0, x133), (1, x153), (2, x173)]).bind fun x174 =>
 (zeroOf PP 112).bind fun z18 =>
 (store PP lo 112 (DV.ptr (List.length σ27) 0) x174 (σ27 ++ [Row.mix z18])).bind fun σ28 =>
 (fieldAddr PP 112 (DV.ptr (List.length σ27) 0) 1).bind fun x175 =>
 (load PP 3 x175 σ28).bind fun x176 =>
 (binOp PP .neq 3 x176 (DV.p (PV.int IntKind.i64 (-1)))).bind fun x177 =>
 G _ x177 true (some (x8, σ28)) σ28 fun x179 σ29 =>
 G _ x177 true ((load PP 112 (DV.ptr (List.length σ27) 0) σ29).bind fun v => some (v, σ29)) σ29 fun x180 σ30 =>
 G _ x177 true ((pureFn CC (DV.fn 64 []) [x179, x180] σ30).bind fun v => some (v, σ30)) σ30 fun x181 σ31 =>
 G _ x177 true ((unOp .not x181).bind fun v => some (v, σ31)) σ31 fun x182 σ32 =>
 (pickV x177 x182 (DV.p (PV.bool false))).bind fun x183 =>
 condK x183
 (
 (load PP 112 (DV.ptr (List.length σ27) 0) σ32).bind fun x185 =>
 (buildSlice PP none 110 1 [(0, x185)] σ32).bind fun r186_33 =>
 (append PP lo false 110 110 x8 r186_33.1 r186_33.2).bind fun r187_34 =>
 f19_J0 G lo x1 x2 x3 x6 r187_34.1 x11 x15 x16 r187_34.2
 )
 (
 f19_J0 G lo x1 x2 x3 x6 x8 x11 x15 x16 σ32
 )
 )
 )
 (
 (binOp PP .add 3 x15 (DV.p (PV.int IntKind.i64 (1)))).bind fun x105 =>
 f19_L4 G lo x1 x2 x3 x6 x8 x11 x105 σ
 ) := (loopF_eq G hG).trans (by kernel_rfl)
theorem f19_J0_eq (G : GuardT) (lo : Nat) (x1 x2 x3 x6 x8 x11 x15 x16 : DV) (σ : Store) : f19_J0 G lo x1 x2 x3 x6 x8 x11 x15 x16 σ =
 (binOp PP .add 3 x16 (DV.p (PV.int IntKind.i64 (1)))).bind fun x112 =>
 f19_L5 G lo x1 x2 x3 x6 x8 x11 x15 x112 σ := by kernel_rfl
theorem F19_eq (G : GuardT) (lo : Nat) (x0 x1 x2 : DV) (σ : Store) : F19 G lo x0 x1 x2 σ =
 (boxV x0).bind fun z3 =>
 (zeroOf PP 33).bind fun z6 =>
 f19_L0 G lo x1 x2 (DV.ptr (List.length σ) 0) (DV.ptr (List.length (σ ++ [Row.mix z3])) 0) (DV.p PV.nilsl) (DV.p (PV.int IntKind.i64 (0))) ((σ ++ [Row.mix z3]) ++ [Row.mix z6]) := by kernel_rfl
theorem F19_call {lo : Nat} {x0 x1 x2 : DV} {σ : Store} {r : DV × Store} (h : F19 guardT lo x0 x1 x2 σ = some r) : CC lo 19 [x0, x1, x2] σ = some r :=
 callL_run Go.Proofs.Try.func19 (by decide +kernel) rfl (by decide +kernel) h
end Go.D
end
/- Violations: the reference's search answers as the program's. -/
section
set_option linter.unusedVariables false
set_option linter.unusedSimpArgs false
namespace Go.D
/-! ### Two passes over a layer are one -/
abbrev mvD (c : Cmp) (k : Nat) : Edg := (L c.mv).getD k default
def violF (c : Cmp) (wg : W3) (x : QE) : Nat → Nat → Option (List Int)
  | 0, _ => none
  | r + 1, k => if (mvD c k).f = x.n.getD 0 0 ∧ nextW wg (x.n.getD 2 0) (vpr c (mvD c k)) = -1 then some (x.p ++ [(mvD c k).t, (mvD c k).a]) else violF c wg x r (k + 1)
def addsF (c : Cmp) (wa wg : W3) (x : QE) : Nat → Nat → List QE → List QE
  | 0, _, q => q
  | r + 1, k, q => if (mvD c k).f = x.n.getD 0 0 then
      if nextW wa (x.n.getD 1 0) (vpr c (mvD c k)) = -1 then addsF c wa wg x r (k + 1) q
      else addsF c wa wg x r (k + 1) (addN q [(mvD c k).a, nextW wa (x.n.getD 1 0) (vpr c (mvD c k)), nextW wg (x.n.getD 2 0) (vpr c (mvD c k))] (x.p ++ [(mvD c k).t, (mvD c k).a]))
    else addsF c wa wg x r (k + 1) q
theorem visVF_split (c : Cmp) (wa wg : W3) (x : QE) : ∀ (r k : Nat) (q : List QE), visVF c wa wg x r k q = match violF c wg x r k with | some p => .inl p | none => .inr (addsF c wa wg x r k q)
  | 0, k, q => rfl
  | r + 1, k, q => by
    have ih := visVF_split c wa wg x r (k + 1)
    by_cases h1 : (mvD c k).f = x.n.getD 0 0
    · by_cases h2 : nextW wg (x.n.getD 2 0) (vpr c (mvD c k)) = -1
      · simp only [visVF, violF, h1, h2, and_self, if_true]
      · by_cases h3 : nextW wa (x.n.getD 1 0) (vpr c (mvD c k)) = -1
        · simp only [visVF, violF, addsF, h1, h2, h3, and_false, if_true, if_false]
          exact ih q
        · simp only [visVF, violF, addsF, h1, h2, h3, and_false, if_true, if_false]
          exact ih _
    · simp only [visVF, violF, addsF, h1, false_and, if_false]
      exact ih q
def violL (c : Cmp) (wg : W3) (q : List QE) : Nat → Nat → Option (List Int)
  | 0, _ => none
  | d + 1, i => match violF c wg (q.getD i default) (L c.mv).length 0 with
    | some p => some p
    | none => violL c wg q d (i + 1)
def addsL (c : Cmp) (wa wg : W3) : Nat → Nat → List QE → List QE
  | 0, _, q => q
  | d + 1, i, q => addsL c wa wg d (i + 1) (addsF c wa wg (q.getD i default) (L c.mv).length 0 q)
theorem addsF_pre (c : Cmp) (wa wg : W3) (x : QE) : ∀ (r k : Nat) (q : List QE), q <+: addsF c wa wg x r k q
  | 0, k, q => List.prefix_refl _
  | r + 1, k, q => by
    unfold addsF
    split
    · split
      · exact addsF_pre c wa wg x r (k + 1) q
      · exact (addN_pre _ _ _).trans (addsF_pre c wa wg x r (k + 1) _)
    · exact addsF_pre c wa wg x r (k + 1) q
theorem violL_pre {c : Cmp} {wg : W3} {q q' : List QE} (h : q <+: q') : ∀ (d i : Nat), i + d ≤ q.length → violL c wg q' d i = violL c wg q d i
  | 0, i, hi => rfl
  | d + 1, i, hi => by
    obtain ⟨t, rfl⟩ := h
    have e : (q ++ t).getD i default = q.getD i default := by
      rw [List.getD_eq_getElem?_getD, List.getElem?_append_left (by omega), List.getD_eq_getElem?_getD]
    unfold violL
    rw [e, violL_pre ⟨t, rfl⟩ d (i + 1) (by omega)]
theorem bfsQ_succ (vis : QE → List QE → Sum (List Int) (List QE)) (k i : Nat) (q : List QE) : bfsQ vis (k + 1) i q = match q[i]? with | none => none | some x => (match vis x q with | .inl p => some p | .inr q' => bfsQ vis k (i + 1) q') := rfl
theorem bfs_seg (c : Cmp) (wa wg : W3) (K : Nat) : ∀ (d i : Nat) (q : List QE), i + d ≤ q.length → bfsQ (visV c wa wg) (K + d) i q = match violL c wg q d i with | some p => some p | none => bfsQ (visV c wa wg) K (i + d) (addsL c wa wg d i q)
  | 0, i, q, hi => rfl
  | d + 1, i, q, hi => by
    have hil : i < q.length := by omega
    have hx : q[i]? = some (q.getD i default) := by rw [List.getElem?_eq_getElem hil, getD_at default hil]
    have hv : visV c wa wg (q.getD i default) q = _ := visVF_split c wa wg (q.getD i default) (L c.mv).length 0 q
    have e : K + (d + 1) = (K + d) + 1 := by omega
    rw [e, bfsQ_succ, hx]
    unfold violL addsL
    simp only [hv]
    cases hvf : violF c wg (q.getD i default) (L c.mv).length 0 with
    | some p => rfl
    | none =>
      simp only
      have hpre := addsF_pre c wa wg (q.getD i default) (L c.mv).length 0 q
      rw [bfs_seg c wa wg K d (i + 1) _ (by have := hpre.length_le; omega), violL_pre hpre d (i + 1) (by omega)]
      rw [show i + 1 + d = i + (d + 1) by omega]

/-! ### known -/
theorem el_at {c : Cmp} {q : List QE} {cs : List PV} (h2 : loosens cs = vsP c q) {i : Nat} {e : QE} (he : q[i]? = some e) :
    ∃ v0 v1, El c e v0 v1 ∧ (∀ σ', loadN σ' 4 (.pptr cs (i * 4)) = some [.p v0, .p v1, .p (pI (e.n.getD 1 0)), .p (pI (e.n.getD 2 0))]) ∧ (∀ σ', load1 (.pptr cs (i * 4 + 2)) σ' = some (.p (pI (e.n.getD 1 0)))) ∧ (∀ σ', load1 (.pptr cs (i * 4 + 3)) σ' = some (.p (pI (e.n.getD 2 0)))) := by
  have hi := (List.getElem?_eq_some_iff.1 he).1
  have hcl : cs.length = q.length * 4 := by
    have := congrArg List.length h2
    rw [loosens_mapE, List.length_map, vsP_len] at this
    exact this
  have h3 := vsP_at c he
  rw [← h2, loosens_mapE, ← List.map_drop, ← List.map_take] at h3
  have hlen : ((cs.drop (i * 4)).take 4).length = 4 := by rw [List.length_take, List.length_drop]; omega
  match hm : (cs.drop (i * 4)).take 4, hlen with
  | [v0, v1, v2, v3], _ =>
    rw [hm] at h3
    simp only [List.map_cons, List.map_nil, vsE, List.cons.injEq, and_true] at h3
    obtain ⟨a0, a1, a2, a3⟩ := h3
    have b2 := loosen_int a2
    have b3 := loosen_int a3
    subst b2 b3
    have hat : ∀ j, j < 4 → cs[i * 4 + j]? = ((cs.drop (i * 4)).take 4)[j]? := by
      intro j hj
      rw [List.getElem?_take, if_pos hj, List.getElem?_drop]
    refine ⟨v0, v1, ⟨a0, a1⟩, fun σ' => ?_, fun σ' => load1_pptr (by rw [hat 2 (by decide), hm]; rfl) σ', fun σ' => load1_pptr (by rw [hat 3 (by decide), hm]; rfl) σ'⟩
    have : i * 4 + 4 ≤ cs.length := by omega
    simp only [loadN, this, if_true, hm]
    rfl
theorem n3_eq {a b : List Int} (ha : a.length = 3) (hb : b.length = 3) : (a = b) ↔ (a.getD 0 0 = b.getD 0 0 ∧ a.getD 1 0 = b.getD 1 0 ∧ a.getD 2 0 = b.getD 2 0) := by
  match a, ha, b, hb with
  | [a0, a1, a2], _, [b0, b1, b2], _ => simp
theorem L64 {c : Cmp} {n : Nat} {q : List QE} {y : QE} {lo : Nat} {u0 u1 : PV} (hq : ∀ x ∈ q, x.n.length = 3 ∧ POk n x.p (x.n.getD 0 0) ∧ x.p.length ≤ 2000) (hy : y.n.length = 3 ∧ POk n y.p (y.n.getD 0 0) ∧ y.p.length ≤ 2000) (hE : El c y u0 u1) (hl : q.length ≤ 100000) {σ : Store} {r : Nat}
    (h0 : σ[r]? = some (.mix [.p u0, .p u1, .p (pI (y.n.getD 1 0)), .p (pI (y.n.getD 2 0))])) :
    ∀ (k i : Nat), q.length - i = k → i ≤ q.length → f64_L0 guardT lo (.p (.sl false q.length (vsP c q))) (.ptr r 0) (.p (pI (i : Nat))) σ = some (.p (.bool (hasN (q.drop i) y.n)), σ)
  | 0, i, hk, hi => by
    have : ¬ (i : Int) < (q.length : Nat) := by omega
    rw [f64_L0_eq guardT rfl, List.drop_eq_nil_of_le (by omega)]
    simp only [len, u110, b_lss, b_eql, b_neq, b_leq, b_geq, b_gtr, guard_tt, guard_ff, guard_tf, guard_ft, guard_sk, obind, omap, pickV_true, pickV_false, condK_true, condK_false, decide_true, decide_false, Bool.not_true, Bool.not_false, not_bool, this, hasN, List.any_nil]
  | k + 1, i, hk, hi => by
    have h : i < q.length := by omega
    have h' : (i : Int) < (q.length : Nat) := by omega
    have ih := L64 (lo := lo) hq hy hE hl h0 k (i + 1) (by omega) (by omega)
    have hxm := hq _ (List.getElem_mem h)
    obtain ⟨v0, v1, e1, e2, e3, e4⟩ := el_at (loosens_vsP c q) (List.getElem?_eq_getElem h)
    have hix : indexAddr PP 110 (.p (.sl false q.length (vsP c q))) (.p (pI (i : Nat))) = some (.pptr (vsP c q) (i * 4)) := by
      have h2 : (0 : Int) ≤ (i : Int) ∧ (i : Int) < (q.length : Nat) := by omega
      simp [indexAddr, u110, s112, h2, h]
    have s1 := S62 (σ := σ) (a := q[i].n.getD 1 0) (g := q[i].n.getD 2 0) e1 hxm.2.1 hxm.2.2
    have s2 := S62 (σ := σ) (a := y.n.getD 1 0) (g := y.n.getD 2 0) hE hy.2.1 hy.2.2
    have l4 : loadN σ 4 (.ptr r 0) = some [.p u0, .p u1, .p (pI (y.n.getD 1 0)), .p (pI (y.n.getD 2 0))] := loadN_ptr h0 rfl (by simp)
    have hd : hasN (q.drop i) y.n = (decide (q[i].n = y.n) || hasN (q.drop (i + 1)) y.n) := by rw [drop_cons h]; rfl
    have hiff := n3_eq hxm.1 hy.1
    rw [f64_L0_eq guardT rfl, hd]
    by_cases a0 : q[i].n.getD 0 0 = y.n.getD 0 0
    · have d0 : decide (q[i].n.getD 0 0 = y.n.getD 0 0) = true := decide_eq_true a0
      by_cases a1 : q[i].n.getD 1 0 = y.n.getD 1 0
      · have d1 : decide (q[i].n.getD 1 0 = y.n.getD 1 0) = true := decide_eq_true a1
        by_cases a2 : q[i].n.getD 2 0 = y.n.getD 2 0
        · have d2 : decide (q[i].n.getD 2 0 = y.n.getD 2 0) = true := decide_eq_true a2
          have this : decide (q[i].n = y.n) = true := decide_eq_true (hiff.2 ⟨a0, a1, a2⟩)
          simp only [len, u110, b_lss, b_eql, b_neq, b_leq, b_geq, b_gtr, guard_tt, guard_ff, guard_tf, guard_ft, guard_sk, obind, omap, pickV_true, pickV_false, condK_true, condK_false, decide_true, decide_false, Bool.not_true, Bool.not_false, not_bool, h', hix, load112, e2, l4, shift_ptr, shift_pptr, Nat.zero_add, Nat.add_zero, pureFn_fn, List.append_nil, List.singleton_append, List.cons_append, List.nil_append, s1, s2, d0, fa112_1, fa112_2, load3, e3, e4, load1_ptr (off := 2) h0 rfl, load1_ptr (off := 3) h0 rfl, d1, d2, this, Bool.true_or]
        · have d2 : decide (q[i].n.getD 2 0 = y.n.getD 2 0) = false := decide_eq_false a2
          have this : decide (q[i].n = y.n) = false := decide_eq_false fun e => a2 (hiff.1 e).2.2
          simp only [len, u110, b_lss, b_eql, b_neq, b_leq, b_geq, b_gtr, guard_tt, guard_ff, guard_tf, guard_ft, guard_sk, obind, omap, pickV_true, pickV_false, condK_true, condK_false, decide_true, decide_false, Bool.not_true, Bool.not_false, not_bool, h', hix, load112, e2, l4, shift_ptr, shift_pptr, Nat.zero_add, Nat.add_zero, pureFn_fn, List.append_nil, List.singleton_append, List.cons_append, List.nil_append, s1, s2, d0, fa112_1, fa112_2, load3, e3, e4, load1_ptr (off := 2) h0 rfl, load1_ptr (off := 3) h0 rfl, d1, d2, this, Bool.false_or, b_add, wrap_succ (show i ≤ 1000000 by omega), ih]
      · have d1 : decide (q[i].n.getD 1 0 = y.n.getD 1 0) = false := decide_eq_false a1
        have this : decide (q[i].n = y.n) = false := decide_eq_false fun e => a1 (hiff.1 e).2.1
        simp only [len, u110, b_lss, b_eql, b_neq, b_leq, b_geq, b_gtr, guard_tt, guard_ff, guard_tf, guard_ft, guard_sk, obind, omap, pickV_true, pickV_false, condK_true, condK_false, decide_true, decide_false, Bool.not_true, Bool.not_false, not_bool, h', hix, load112, e2, l4, shift_ptr, shift_pptr, Nat.zero_add, Nat.add_zero, pureFn_fn, List.append_nil, List.singleton_append, List.cons_append, List.nil_append, s1, s2, d0, fa112_1, fa112_2, load3, e3, e4, load1_ptr (off := 2) h0 rfl, d1, this, Bool.false_or, b_add, wrap_succ (show i ≤ 1000000 by omega), ih]
    · have d0 : decide (q[i].n.getD 0 0 = y.n.getD 0 0) = false := decide_eq_false a0
      have this : decide (q[i].n = y.n) = false := decide_eq_false fun e => a0 (hiff.1 e).1
      simp only [len, u110, b_lss, b_eql, b_neq, b_leq, b_geq, b_gtr, guard_tt, guard_ff, guard_tf, guard_ft, guard_sk, obind, omap, pickV_true, pickV_false, condK_true, condK_false, decide_true, decide_false, Bool.not_true, Bool.not_false, not_bool, h', hix, load112, e2, l4, shift_ptr, shift_pptr, Nat.zero_add, Nat.add_zero, pureFn_fn, List.append_nil, List.singleton_append, List.cons_append, List.nil_append, s1, s2, d0, this, Bool.false_or, b_add, wrap_succ (show i ≤ 1000000 by omega), ih]
theorem S64 {c : Cmp} {n : Nat} {q : List QE} {y : QE} {u0 u1 : PV} {σ τ : Store} {x8 : DV} (hS : Seen c τ q x8) (hq0 : q.length ≠ 0) (hq : ∀ x ∈ q, x.n.length = 3 ∧ POk n x.p (x.n.getD 0 0) ∧ x.p.length ≤ 2000) (hy : y.n.length = 3 ∧ POk n y.p (y.n.getD 0 0) ∧ y.p.length ≤ 2000) (hE : El c y u0 u1) (hl : q.length ≤ 100000) :
    pureFn CC (.fn 64 []) [x8, .agg [.p u0, .p u1, .p (pI (y.n.getD 1 0)), .p (pI (y.n.getD 2 0))]] σ = some (.p (.bool (hasN q y.n))) := by
  obtain ⟨cs, g1, g2⟩ := hS
  have hv := g1.vw hq0
  rw [g2] at hv
  show pureV CC 64 ([x8, _] ++ []) σ = _
  rw [List.append_nil, pureV_view (args' := [.p (.sl false q.length (vsP c q)), .agg [.p (eSl (runS c y.p).st), .p (ePs (runS c y.p).ps), .p (pI (y.n.getD 1 0)), .p (pI (y.n.getD 2 0))]]) (by
    simp only [List.map_cons, List.map_nil, hv]
    simp [view, viewCell, hE.1, hE.2, loosen]) (by simp [view, viewCell, loosen, loosens_vsP, loosen_sl, loosen_ps])]
  refine pureV_free (by simp [view, viewCell, loosen, loosens_vsP, loosen_sl, loosen_ps]) rfl (F64_call (r := (.p (.bool (hasN q y.n)), [.mix [.p (eSl (runS c y.p).st), .p (ePs (runS c y.p).ps), .p (pI (y.n.getD 1 0)), .p (pI (y.n.getD 2 0))]])) ?_) rfl
  have hbox : boxV (.agg [.p (eSl (runS c y.p).st), .p (ePs (runS c y.p).ps), .p (pI (y.n.getD 1 0)), .p (pI (y.n.getD 2 0))]) = some [.p (eSl (runS c y.p).st), .p (ePs (runS c y.p).ps), .p (pI (y.n.getD 1 0)), .p (pI (y.n.getD 2 0))] := rfl
  have hE' : El c y (eSl (runS c y.p).st) (ePs (runS c y.p).ps) := ⟨by simp [loosen_sl], by simp [loosen_ps]⟩
  have := L64 (lo := 0) (r := 0) (σ := [.mix [.p (eSl (runS c y.p).st), .p (ePs (runS c y.p).ps), .p (pI (y.n.getD 1 0)), .p (pI (y.n.getD 2 0))]]) hq hy hE' hl rfl _ 0 rfl (Nat.zero_le _)
  rw [F64_eq]
  simp only [hbox, guard_tt, guard_ff, guard_tf, guard_ft, guard_sk, obind, omap, pickV_true, pickV_false, condK_true, condK_false, decide_true, decide_false, Bool.not_true, Bool.not_false, not_bool, List.length_nil, List.nil_append]
  rw [List.drop_zero] at this
  exact this

/-! ### The search -/
theorem rdP {w : OW} (hw : WOk (wl w) (wl w).length) {s : Int} (hs : 0 ≤ s ∧ s < ((wl w).length : Nat)) {p : Pr} (hp : badP p = false) : (indexAddr PP 27 (.p (eWt w)) (.p (pI s)) = some (.pptr ((L w).map eLs) s.toNat)) ∧ (∀ σ, load1 (.pptr ((L w).map eLs) s.toNat) σ = some (.p (eLs (rowsA w s.toNat)))) ∧
    (indexAddr PP 48 (.p (eLs (rowsA w s.toNat))) (.p (pI p.i)) = some (.pptr ((L (rowsA w s.toNat)).map eSl) p.i.toNat)) ∧ (∀ σ, load1 (.pptr ((L (rowsA w s.toNat)).map eSl) p.i.toNat) σ = some (.p (eSl (rowA w s.toNat p.i.toNat)))) ∧
    (indexAddr PP 22 (.p (eSl (rowA w s.toNat p.i.toNat))) (.p (pI p.o)) = some (.pptr (eInts (L (rowA w s.toNat p.i.toNat))) p.o.toNat)) ∧ (∀ σ, load1 (.pptr (eInts (L (rowA w s.toNat p.i.toNat))) p.o.toNat) σ = some (.p (pI (nextW (wl w) s p)))) := by
  have hb : (0 ≤ p.i ∧ p.i ≤ 2) ∧ (0 ≤ p.o ∧ p.o ≤ 2) := by
    simp only [badP, Bool.or_eq_false_iff, Bool.not_eq_false'] at hp
    exact ⟨ltr_iff.1 hp.1, ltr_iff.1 hp.2⟩
  have q0 : s.toNat < (wl w).length := by omega
  have w1 := w_s q0
  have w2 := w_i hw q0 (show p.i.toNat < 3 by omega)
  have w3 := w_o hw q0 (show p.i.toNat < 3 by omega) (show p.o.toNat < 3 by omega)
  exact ⟨idx27i hs.1 w1, fun σ => load1_wt w1 σ, idx48i hb.1.1 w2, fun σ => load1_ls w2 σ, idx22i hb.2.1 w3, fun σ => by rw [load1_getD w3, ← wl_cell]; rfl⟩
section
variable {c : Cmp} {n : Nat} {wa wg : OW} (hc : COk c n) (ha : WOk (wl wa) (wl wa).length) (hg : WOk (wl wg) (wl wg).length)
include hc ha hg
/-- The first pass, at one element. -/
theorem L19_3 {q : List QE} {i : Nat} {x : QE} {x8 x1 x10 x11 : DV} (hI : IV n (wl wa) (wl wg) q) (hxi : q[i]? = some x) : ∀ (r k : Nat) (σ : Store), (L c.mv).length - k = r → k ≤ (L c.mv).length → Seen c σ q x8 → σ[0]? = some (.mix (eCmp c)) → σ[1]? = some (.mix [.p .nilsl, .p .nilsl]) →
    ∃ σ', Seen c σ' q x8 ∧ σ'[0]? = some (.mix (eCmp c)) ∧ σ'[1]? = some (.mix [.p .nilsl, .p .nilsl]) ∧
      f19_L3 guardT 0 x1 (.p (eWt wg)) (.ptr 0 0) (.ptr 1 0) x8 x10 x11 (.p (pI (i : Nat))) (.p (pI (k : Nat))) σ = match violF c (wl wg) x r k with
        | some p => some (.tuple [.agg (eRun (runS c p)), .p (.bool true)], σ'.set 1 (.mix (eRun (runS c p))))
        | none => f19_L2 guardT 0 x1 (.p (eWt wg)) (.ptr 0 0) (.ptr 1 0) x8 x10 x11 (.p (pI (i + 1 : Nat))) σ'
  | 0, k, σ, hk, hkl, hS, h0, h1 => by
    have hn : ¬ (k : Int) < ((L c.mv).length : Nat) := by omega
    have hi := (List.getElem?_eq_some_iff.1 hxi).1
    have hql := hI.le hc.n10 ha hg
    refine ⟨σ, hS, h0, h1, ?_⟩
    rw [f19_L3_eq guardT rfl]
    simp only [fa25_3, shift_ptr, shift_pptr, Nat.zero_add, Nat.add_zero, pureFn_fn, List.append_nil, List.singleton_append, List.cons_append, List.nil_append, load23, load1_ptr (off := 3) h0 rfl, len23, b_lss, b_eql, b_neq, b_leq, b_geq, b_gtr, hn, guard_tt, guard_ff, guard_tf, guard_ft, guard_sk, obind, omap, pickV_true, pickV_false, condK_true, condK_false, decide_true, decide_false, Bool.not_true, Bool.not_false, not_bool, b_add, wrap_succ (show i ≤ 1000000 by omega), violF]
  | r + 1, k, σ, hk, hkl, hS, h0, h1 => by
    have hm60 := hc.m60
    have hkk : k < (L c.mv).length := by omega
    have h' : (k : Int) < ((L c.mv).length : Nat) := by omega
    have hm := List.mem_of_getElem? hxi
    have hx := hI.ok x hm
    have hpx := hI.pp x hm
    have hql := hI.le hc.n10 ha hg
    have hpl := hI.pl x hm
    have hp := vpr_ok hc hkk
    obtain ⟨hef, hea, het⟩ := hc.ml _ (List.getElem_mem hkk)
    rw [← getD_at default hkk] at hef hea het
    have hof : ((L c.mv).getD k default).f.toNat < (L c.out).length := by rw [hc.o]; omega
    obtain ⟨cs, v0, v1, i1, i2, i3, i4, i5, i6⟩ := hS.at hxi
    unfold violF
    have hmv : mvD c k = (L c.mv).getD k default := rfl
    rw [hmv]
    generalize hE : (L c.mv).getD k default = e at *
    have hld106 : (loadN σ 3 (.pptr (eEdgs (L c.mv)) (k * 3))).map DV.agg = some (.agg (edgD e)) := by rw [load106_D hkk, hE]
    have n1 := RnV.storeNew (lo := 0) (cs := edgD e) (z := [.p (pI 0), .p (pI 0), .p (pI 0)]) s106 σ rfl rfl rfl (Nat.zero_le _)
    have gE : (σ ++ [Row.mix (edgD e)])[σ.length]? = some (.mix (edgD e)) := get_snoc
    have g0 : (σ ++ [Row.mix (edgD e)])[0]? = some (.mix (eCmp c)) := get_old h0
    have g1 : (σ ++ [Row.mix (edgD e)])[1]? = some (.mix [.p .nilsl, .p .nilsl]) := get_old h1
    have hS1 := hS.snoc (.mix (edgD e))
    have s1 := S62 (σ := σ ++ [Row.mix (edgD e)]) (a := x.n.getD 1 0) (g := x.n.getD 2 0) i2 hpx (by omega)
    obtain ⟨r1, r2, r3, r4, r5, r6⟩ := rdP hg hx.g hp
    have hpi : (vpr c e).i = e.t := rfl
    have hpo : (vpr c e).o = (L c.out).getD e.f.toNat 0 := rfl
    rw [hpi] at r3 r4 r5 r6
    rw [hpo] at r5 r6
    by_cases hfe : e.f = x.n.getD 0 0
    · by_cases hbk : nextW (wl wg) (x.n.getD 2 0) (vpr c e) = -1
      · rw [if_pos ⟨hfe, hbk⟩]
        refine ⟨σ ++ [Row.mix (edgD e)], hS1, g0, g1, ?_⟩
        have s3 := S63 (σ := σ ++ [Row.mix (edgD e)]) hc i2 hpx (by omega) hfe hef
        have hst : store PP 0 33 (.ptr 1 0) (.agg (eRun (runS c (x.p ++ [e.t, e.a])))) (σ ++ [Row.mix (edgD e)]) = some ((σ ++ [Row.mix (edgD e)]).set 1 (.mix (eRun (runS c (x.p ++ [e.t, e.a]))))) := by
          simp [store, s33, DV.cells, storeN, g1, DV.one, splice, eRun]
        have gs : ((σ ++ [Row.mix (edgD e)]).set 1 (.mix (eRun (runS c (x.p ++ [e.t, e.a])))))[1]? = some (.mix (eRun (runS c (x.p ++ [e.t, e.a])))) := by rw [List.getElem?_set_self (get_lt g1)]
        have l33 : loadN ((σ ++ [Row.mix (edgD e)]).set 1 (.mix (eRun (runS c (x.p ++ [e.t, e.a]))))) 2 (.ptr 1 0) = some (eRun (runS c (x.p ++ [e.t, e.a]))) := loadN_ptr gs rfl (by simp [eRun])
        have l106 : loadN (σ ++ [Row.mix (edgD e)]) 3 (.ptr σ.length 0) = some (edgD e) := loadN_ptr gE rfl (by simp [edgD])
        rw [hbk] at r6
        rw [f19_L3_eq guardT rfl]
        simp only [fa25_3, shift_ptr, shift_pptr, Nat.zero_add, Nat.add_zero, pureFn_fn, List.append_nil, List.singleton_append, List.cons_append, List.nil_append, load23, load1_ptr (off := 3) h0 rfl, len23, b_lss, b_eql, b_neq, b_leq, b_geq, b_gtr, h', guard_tt, guard_ff, guard_tf, guard_ft, guard_sk, obind, omap, pickV_true, pickV_false, condK_true, condK_false, decide_true, decide_false, Bool.not_true, Bool.not_false, not_bool, idx23 hkk, load106, hld106, zero106, n1, fa106_0, fa106_1, load3, load1_ptr (off := 0) gE rfl, i1, load112, i3, s1, hfe]
        simp only [fa112_0, fa112_2, shift_ptr, shift_pptr, Nat.zero_add, Nat.add_zero, pureFn_fn, List.append_nil, List.singleton_append, List.cons_append, List.nil_append, guard_tt, guard_ff, guard_tf, guard_ft, guard_sk, obind, omap, pickV_true, pickV_false, condK_true, condK_false, decide_true, decide_false, Bool.not_true, Bool.not_false, not_bool, i6, r1, load48, r2, load1_ptr (off := 1) gE rfl, r3, load22, r4, fa25_2, load1_ptr (off := 2) g0 rfl, load1_ptr (off := 0) gE rfl, idx22i hef.1 hof, load1_getD hof, r5, r6, b_lss, b_eql, b_neq, b_leq, b_geq, b_gtr, load25, cm_all g0, load33, i4, l106, s3, hst, cv33, l33]
      · rw [if_neg (fun h => hbk h.2)]
        obtain ⟨σ', k1, k2, k3, k4⟩ := L19_3 (x1 := x1) (x10 := x10) (x11 := x11) hI hxi r (k + 1) (σ ++ [Row.mix (edgD e)]) (by omega) (by omega) hS1 g0 g1
        refine ⟨σ', k1, k2, k3, Eq.trans ?_ k4⟩
        rw [f19_L3_eq guardT rfl]
        simp only [fa25_3, shift_ptr, shift_pptr, Nat.zero_add, Nat.add_zero, pureFn_fn, List.append_nil, List.singleton_append, List.cons_append, List.nil_append, load23, load1_ptr (off := 3) h0 rfl, len23, b_lss, b_eql, b_neq, b_leq, b_geq, b_gtr, h', guard_tt, guard_ff, guard_tf, guard_ft, guard_sk, obind, omap, pickV_true, pickV_false, condK_true, condK_false, decide_true, decide_false, Bool.not_true, Bool.not_false, not_bool, idx23 hkk, load106, hld106, zero106, n1, fa106_0, fa106_1, load3, load1_ptr (off := 0) gE rfl, i1, load112, i3, s1, hfe]
        simp only [fa112_0, fa112_2, shift_ptr, shift_pptr, Nat.zero_add, Nat.add_zero, pureFn_fn, List.append_nil, List.singleton_append, List.cons_append, List.nil_append, guard_tt, guard_ff, guard_tf, guard_ft, guard_sk, obind, omap, pickV_true, pickV_false, condK_true, condK_false, decide_true, decide_false, Bool.not_true, Bool.not_false, not_bool, i6, r1, load48, r2, load1_ptr (off := 1) gE rfl, r3, load22, r4, fa25_2, load1_ptr (off := 2) g0 rfl, load1_ptr (off := 0) gE rfl, idx22i hef.1 hof, load1_getD hof, r5, r6, b_lss, b_eql, b_neq, b_leq, b_geq, b_gtr, hbk, b_add, wrap_succ (show k ≤ 1000000 by omega)]
    · rw [if_neg (fun h => hfe h.1)]
      obtain ⟨σ', k1, k2, k3, k4⟩ := L19_3 (x1 := x1) (x10 := x10) (x11 := x11) hI hxi r (k + 1) (σ ++ [Row.mix (edgD e)]) (by omega) (by omega) hS1 g0 g1
      refine ⟨σ', k1, k2, k3, Eq.trans ?_ k4⟩
      rw [f19_L3_eq guardT rfl]
      simp only [fa25_3, shift_ptr, shift_pptr, Nat.zero_add, Nat.add_zero, pureFn_fn, List.append_nil, List.singleton_append, List.cons_append, List.nil_append, load23, load1_ptr (off := 3) h0 rfl, len23, b_lss, b_eql, b_neq, b_leq, b_geq, b_gtr, h', guard_tt, guard_ff, guard_tf, guard_ft, guard_sk, obind, omap, pickV_true, pickV_false, condK_true, condK_false, decide_true, decide_false, Bool.not_true, Bool.not_false, not_bool, idx23 hkk, load106, hld106, zero106, n1, fa106_0, load3, load1_ptr (off := 0) gE rfl, i1, load112, i3, s1, hfe, b_add, wrap_succ (show k ≤ 1000000 by omega)]
/-- The first pass. -/
theorem L19_2 {q : List QE} {x8 x1 : DV} {fr : Nat} (hI : IV n (wl wa) (wl wg) q) : ∀ (d i : Nat) (σ : Store), q.length - i = d → i ≤ q.length → Seen c σ q x8 → σ[0]? = some (.mix (eCmp c)) → σ[1]? = some (.mix [.p .nilsl, .p .nilsl]) →
    ∃ σ', Seen c σ' q x8 ∧ σ'[0]? = some (.mix (eCmp c)) ∧ σ'[1]? = some (.mix [.p .nilsl, .p .nilsl]) ∧
      f19_L2 guardT 0 x1 (.p (eWt wg)) (.ptr 0 0) (.ptr 1 0) x8 (.p (pI (fr : Nat))) (.p (pI (q.length : Nat))) (.p (pI (i : Nat))) σ = match violL c (wl wg) q d i with
        | some p => some (.tuple [.agg (eRun (runS c p)), .p (.bool true)], σ'.set 1 (.mix (eRun (runS c p))))
        | none => f19_L4 guardT 0 x1 (.p (eWt wg)) (.ptr 0 0) (.ptr 1 0) x8 (.p (pI (q.length : Nat))) (.p (pI (fr : Nat))) σ'
  | 0, i, σ, hk, hi, hS, h0, h1 => by
    have hn : ¬ (i : Int) < (q.length : Nat) := by omega
    refine ⟨σ, hS, h0, h1, ?_⟩
    rw [f19_L2_eq guardT rfl]
    simp only [b_lss, b_eql, b_neq, b_leq, b_geq, b_gtr, hn, guard_tt, guard_ff, guard_tf, guard_ft, guard_sk, obind, omap, pickV_true, pickV_false, condK_true, condK_false, decide_true, decide_false, Bool.not_true, Bool.not_false, not_bool, violL]
  | d + 1, i, σ, hk, hi, hS, h0, h1 => by
    have h : i < q.length := by omega
    have h' : (i : Int) < (q.length : Nat) := by omega
    have hx : q[i]? = some (q.getD i default) := by rw [List.getElem?_eq_getElem h, getD_at default h]
    obtain ⟨σ1, k1, k2, k3, k4⟩ := L19_3 hc ha hg (x1 := x1) (x10 := .p (pI (fr : Nat))) (x11 := .p (pI (q.length : Nat))) hI hx _ 0 σ rfl (Nat.zero_le _) hS h0 h1
    have hst : f19_L2 guardT 0 x1 (.p (eWt wg)) (.ptr 0 0) (.ptr 1 0) x8 (.p (pI (fr : Nat))) (.p (pI (q.length : Nat))) (.p (pI (i : Nat))) σ = f19_L3 guardT 0 x1 (.p (eWt wg)) (.ptr 0 0) (.ptr 1 0) x8 (.p (pI (fr : Nat))) (.p (pI (q.length : Nat))) (.p (pI (i : Nat))) (.p (pI (0 : Nat))) σ := by
      rw [f19_L2_eq guardT rfl]
      simp only [b_lss, b_eql, b_neq, b_leq, b_geq, b_gtr, h', guard_tt, guard_ff, guard_tf, guard_ft, guard_sk, obind, omap, pickV_true, pickV_false, condK_true, condK_false, decide_true, decide_false, Bool.not_true, Bool.not_false, not_bool]
      rfl
    rw [hst, k4]
    unfold violL
    cases hv : violF c (wl wg) (q.getD i default) (L c.mv).length 0 with
    | some p => exact ⟨σ1, k1, k2, k3, rfl⟩
    | none =>
      obtain ⟨σ2, m1, m2, m3, m4⟩ := L19_2 (x1 := x1) (fr := fr) hI d (i + 1) σ1 (by omega) (by omega) k1 k2 k3
      refine ⟨σ2, m1, m2, m3, ?_⟩
      exact m4
end
end Go.D
end
