/- LassoFormulas: for every formula and every string the law answers true and leaves its arguments as they were: the given tied card, without further conditions. -/
import Derived.Test.YtpacancmcjbckaaGreatDoorMh
import Derived.Test.YtpacancmcjbckaaGreatDoorMd
import Derived.Test.YtpacancmcjbckaaGreatDoorTie
import Derived.Test.YtpacancmcjbckaaGreatDoorCards
import Derived.SevenTiedAt
/- Chapter 13: the reference's reader of formulas: a node with one operand, with two operands. -/
section
set_option linter.unusedVariables false
set_option linter.unusedSimpArgs false
set_option maxRecDepth 8000
namespace Go.D
open Las
theorem S107 (k : Int) (σ : Store) : pureV CC 107 [.p (.int .i64 k)] σ = some (.p (.str (sgB k))) := by
  refine pureV_free rfl rfl (F107_call (r := (.p (.str (sgB k)), [])) ?_) rfl
  rw [F107_eq]
  unfold sgB
  by_cases h3 : k = 3
  · simp only [b_eql, eqT h3, gG, if_pos h3]
  by_cases h4 : k = 4
  · simp only [b_eql, eqF h3, eqT h4, gG, if_neg h3, if_pos h4]
  by_cases h5 : k = 5
  · simp only [b_eql, eqF h3, eqF h4, eqT h5, gG, if_neg h3, if_neg h4, if_pos h5]
  by_cases h8 : k = 8
  · simp only [b_eql, eqF h3, eqF h4, eqF h5, eqT h8, gG, if_neg h3, if_neg h4, if_neg h5, if_pos h8]
  · simp only [b_eql, eqF h3, eqF h4, eqF h5, eqF h8, gG, if_neg h3, if_neg h4, if_neg h5, if_neg h8]
def Goes110 (s : ByteArray) (k : Nat) : Prop :=
  ∀ (lo r p : Nat) (rem : List Int) (fs : List Nd) (fv : DV) (σ : Store), Rdr σ r s p (-1) fs fv → Plc s p rem → rem.length < k → fs.length + rem.length ≤ 900 → lo ≤ r →
  ∃ v σ', CC lo 110 [.ptr r 0] σ = some (.p (.int .i64 v), σ') ∧ Kp σ σ' r ∧ Fn σ' r s (fs.length + rem.length) v (prs true k rem fs)
section
variable {σ : Store} {r : Nat} {s : ByteArray} {p : Nat} {b : Int} {fs : List Nd} {fv : DV}
theorem C110b (h : Rdr σ r s p b fs fv) (hb : b ≠ -1) {lo : Nat} (hlo : lo ≤ r) :
    ∃ σ', CC lo 110 [.ptr r 0] σ = some (.p (.int .i64 0), σ') ∧ Kp σ σ' r ∧ Rdr σ' r s p b fs fv := by
  have l2 := h.l2
  obtain ⟨σ', c1, c2, c3⟩ := C111 h hlo
  rw [if_neg hb] at c2
  refine ⟨σ', F110_call ?_, c3, c2⟩
  rw [F110_eq]
  simp (maxSteps := 1000000) (disch := omega) only [gG, nil_ptr, shift_ptr, shift_pptr, Nat.zero_add, Nat.add_zero, pureFn_fn, List.append_nil, List.singleton_append, List.cons_append, List.nil_append, fa153_0, fa153_1, fa153_2, fa153_3, load9, load3, load23, l2, b_neq, eqF hb, plainFn, c1]
theorem bs24_1k (v : Int) (σ : Store) : buildSlice PP none 24 1 [(0, .p (.int .i64 v))] σ = some (.p (.sl true 1 [.int .i64 v]), σ) := Eq.trans (by kernel_rfl) rfl
theorem ev154 {σ σ1 σ2 : Store} {lo r : Nat} {k v n : Int} (c1 : CC lo 110 [.ptr r 0] σ = some (.p (.int .i64 v), σ1)) (c2 : CC lo 152 [.ptr r 0, .p (.int .i64 k), .p (.int .i64 0), .p (eSt (some [v]))] σ1 = some (.p (.int .i64 n), σ2)) :
    CC lo 154 [.ptr r 0, .p (.int .i64 k)] σ = some (.p (.int .i64 n), σ2) := by
  have es : eSt (some [v]) = .sl true 1 [.int .i64 v] := rfl
  rw [es] at c2
  refine F154_call ?_
  rw [F154_eq]
  simp (maxSteps := 1000000) (disch := omega) only [gG, nil_ptr, shift_ptr, shift_pptr, Nat.zero_add, Nat.add_zero, pureFn_fn, List.append_nil, List.singleton_append, List.cons_append, List.nil_append, fa153_0, fa153_1, fa153_2, fa153_3, load9, load3, load23, plainFn, c1, bs24_1k, c2]
theorem C154b (h : Rdr σ r s p b fs fv) (hb : b ≠ -1) {lo : Nat} (hlo : lo ≤ r) (hn : fs.length ≤ 1000) (kk : Int) :
    ∃ v σ' fv' x, CC lo 154 [.ptr r 0, .p (.int .i64 kk)] σ = some (.p (.int .i64 v), σ') ∧ Kp σ σ' r ∧ Rdr σ' r s p b (fs ++ [x]) fv' := by
  obtain ⟨σ1, c1, c2, c3⟩ := C110b h hb hlo
  obtain ⟨σ2, fv', d1, d2, d3⟩ := C152 c3 hlo hn kk 0 (some [0])
  exact ⟨_, σ2, fv', _, ev154 c1 d1, c2.trans d2, d3⟩
theorem C154 {k : Nat} (IH : Goes110 s k) {R : List Int} (h : Rdr σ r s p (-1) fs fv) (hp : Plc s p R) (hk : R.length < k) {bd : Nat} (hbd : fs.length + R.length + 1 ≤ bd) (hbd2 : bd ≤ 900) {lo : Nat} (hlo : lo ≤ r) (kk : Int) :
    ∃ v σ', CC lo 154 [.ptr r 0, .p (.int .i64 kk)] σ = some (.p (.int .i64 v), σ') ∧ Kp σ σ' r ∧ Fn σ' r s bd v (one kk (prs true k R fs)) := by
  obtain ⟨v, σ1, b1, b2, b3⟩ := IH lo r p R fs fv σ h hp hk (by omega) hlo
  have ln := prs_ln true k R fs
  cases hpr : prs true k R fs with
  | err e =>
    rw [hpr] at b3
    obtain ⟨p3, fs3, fv3, f1, f2, f3⟩ := b3
    obtain ⟨σ2, fv4, d1, d2, d3⟩ := C152 f1 hlo (by omega) kk 0 (some [v])
    have res : Fn σ2 r s bd (fs3.length : Nat) (.err e) := ⟨p3, _, fv4, d3, f2, by rw [List.length_append]; show fs3.length + 1 ≤ _; omega⟩
    exact ⟨_, σ2, ev154 b1 d1, b2.trans d2, res⟩
  | ok e fs3 =>
    rw [hpr] at b3 ln
    obtain ⟨f1, f2, fv3, f3⟩ := b3
    obtain ⟨n1, n2, n3⟩ := ln
    obtain ⟨σ2, fv4, d1, d2, d3⟩ := C152 f3 hlo (by omega) kk 0 (some [v])
    rw [f1] at d3
    have res : Fn σ2 r s bd (fs3.length : Nat) (.ok e (fs3 ++ [⟨kk, 0, some [((fs3.length - 1 : Nat) : Int)]⟩])) := by
      refine ⟨?_, f2, fv4, d3⟩
      rw [List.length_append]
      show _ = ((fs3.length + 1 - 1 : Nat) : Int)
      omega
    exact ⟨_, σ2, ev154 b1 d1, b2.trans d2, res⟩
theorem bs24_2k (a b : Int) (σ : Store) : buildSlice PP none 24 2 [(0, .p (.int .i64 a)), (1, .p (.int .i64 b))] σ = some (.p (.sl true 2 [.int .i64 a, .int .i64 b]), σ) := Eq.trans (by kernel_rfl) rfl
theorem no155 {lo : Nat} {σ1 σ2 σ3 : Store} {a : Int} (c1 : CC lo 110 [.ptr r 0] σ = some (.p (.int .i64 a), σ1)) (c2 : CC lo 151 [.ptr r 0, .p (.str lqstr3)] σ1 = some (.tuple [], σ2)) (h : Rdr σ2 r s p b fs fv) (hs : b = -1 → ∃ R, Plc s p R ∧ sgn R = none) (c3 : CC lo 111 [.ptr r 0] σ2 = some (.tuple [], σ3)) :
    CC lo 155 [.ptr r 0] σ = some (.p (.int .i64 0), σ3) := by
  have l0 := h.l0
  have l1 := h.l1
  have l2 := h.l2
  refine F155_call ?_
  rw [F155_eq]
  by_cases hb : b = -1
  · obtain ⟨R, hp, hR⟩ := hs hb
    subst hb
    cases R with
    | nil =>
      have := hp.nil
      have n1 : ¬ ((p : Nat) : Int) < (s.size : Nat) := by omega
      simp (maxSteps := 1000000) (disch := omega) only [gG, nil_ptr, shift_ptr, shift_pptr, Nat.zero_add, Nat.add_zero, pureFn_fn, List.append_nil, List.singleton_append, List.cons_append, List.nil_append, fa153_0, fa153_1, fa153_2, fa153_3, load9, load3, load23, plainFn, c1, c2, l0, l1, l2, b_eql, eqT (rfl : (-1 : Int) = -1), str_len, b_lss, ltF n1, c3]
    | cons c R =>
      obtain ⟨a1, a2, a3⟩ := hp.cons
      have n1 : ((p : Nat) : Int) < (s.size : Nat) := by omega
      have ix := str_idx a1
      rw [a2] at ix
      have e : sgn (c :: R) = if c = 38 then some 3 else if c = 124 then some 4 else if c = 45 then some 5 else if c = 126 then some 8 else if c = 85 then some 9 else none := rfl
      rw [e] at hR
      have h1 : ¬ c = 38 := fun hh => by rw [if_pos hh] at hR; exact absurd hR (by simp)
      rw [if_neg h1] at hR
      have h2 : ¬ c = 124 := fun hh => by rw [if_pos hh] at hR; exact absurd hR (by simp)
      rw [if_neg h2] at hR
      have h3 : ¬ c = 45 := fun hh => by rw [if_pos hh] at hR; exact absurd hR (by simp)
      rw [if_neg h3] at hR
      have h4 : ¬ c = 126 := fun hh => by rw [if_pos hh] at hR; exact absurd hR (by simp)
      rw [if_neg h4] at hR
      have h5 : ¬ c = 85 := fun hh => by rw [if_pos hh] at hR; exact absurd hR (by simp)
      simp (maxSteps := 1000000) (disch := omega) only [gG, nil_ptr, shift_ptr, shift_pptr, Nat.zero_add, Nat.add_zero, pureFn_fn, List.append_nil, List.singleton_append, List.cons_append, List.nil_append, fa153_0, fa153_1, fa153_2, fa153_3, load9, load3, load23, plainFn, c1, c2, l0, l1, l2, b_eql, eqT (rfl : (-1 : Int) = -1), str_len, b_lss, ltT n1, ix, u8_eq, eqF h1, eqF h2, eqF h3, eqF h4, eqF h5, c3]
  · simp (maxSteps := 1000000) (disch := omega) only [gG, nil_ptr, shift_ptr, shift_pptr, Nat.zero_add, Nat.add_zero, pureFn_fn, List.append_nil, List.singleton_append, List.cons_append, List.nil_append, fa153_0, fa153_1, fa153_2, fa153_3, load9, load3, load23, plainFn, c1, c2, l0, l1, l2, b_eql, eqF hb, eqT (rfl : (-1 : Int) = -1), c3]
theorem ev155_3 {lo : Nat} {σ1 σ2 σ3 σ4 σ5 σ6 : Store} {a v n : Int} {R : List Int} (c1 : CC lo 110 [.ptr r 0] σ = some (.p (.int .i64 a), σ1)) (c2 : CC lo 151 [.ptr r 0, .p (.str lqstr3)] σ1 = some (.tuple [], σ2)) (h : Rdr σ2 r s p (-1) fs fv) (hp : Plc s p (38 :: R))
    (c3 : CC lo 151 [.ptr r 0, .p (.str (sgB 3 ++ lqstr3))] σ2 = some (.tuple [], σ3)) (c4 : CC lo 110 [.ptr r 0] σ3 = some (.p (.int .i64 v), σ4)) (c5 : CC lo 151 [.ptr r 0, .p (.str lqstr4)] σ4 = some (.tuple [], σ5))
    (c6 : CC lo 152 [.ptr r 0, .p (.int .i64 3), .p (.int .i64 0), .p (.sl true 2 [.int .i64 a, .int .i64 v])] σ5 = some (.p (.int .i64 n), σ6)) :
    CC lo 155 [.ptr r 0] σ = some (.p (.int .i64 n), σ6) := by
  have l0 := h.l0
  have l1 := h.l1
  have l2 := h.l2
  have ad := str_add (sz_sgB 3).2.2
  have e36 : lpstr6 = lqstr3 := rfl
  rw [e36] at ad
  obtain ⟨a1, a2, a3⟩ := hp.cons
  have n1 : ((p : Nat) : Int) < (s.size : Nat) := by omega
  have ix := str_idx a1
  rw [a2] at ix
  refine F155_call ?_
  rw [F155_eq]
  simp (maxSteps := 1000000) (disch := omega) only [gG, nil_ptr, shift_ptr, shift_pptr, Nat.zero_add, Nat.add_zero, pureFn_fn, List.append_nil, List.singleton_append, List.cons_append, List.nil_append, fa153_0, fa153_1, fa153_2, fa153_3, load9, load3, load23, plainFn, c1, c2, l0, l1, l2, b_eql, eqT (rfl : (-1 : Int) = -1), str_len, b_lss, ltT n1, ix, u8_eq, eqT (rfl : (38 : Int) = 38), eqF (by decide : ¬ (3 : Int) = -1), S107, ad, c3, c4, c5, bs24_2k, c6]
theorem ev155_4 {lo : Nat} {σ1 σ2 σ3 σ4 σ5 σ6 : Store} {a v n : Int} {R : List Int} (c1 : CC lo 110 [.ptr r 0] σ = some (.p (.int .i64 a), σ1)) (c2 : CC lo 151 [.ptr r 0, .p (.str lqstr3)] σ1 = some (.tuple [], σ2)) (h : Rdr σ2 r s p (-1) fs fv) (hp : Plc s p (124 :: R))
    (c3 : CC lo 151 [.ptr r 0, .p (.str (sgB 4 ++ lqstr3))] σ2 = some (.tuple [], σ3)) (c4 : CC lo 110 [.ptr r 0] σ3 = some (.p (.int .i64 v), σ4)) (c5 : CC lo 151 [.ptr r 0, .p (.str lqstr4)] σ4 = some (.tuple [], σ5))
    (c6 : CC lo 152 [.ptr r 0, .p (.int .i64 4), .p (.int .i64 0), .p (.sl true 2 [.int .i64 a, .int .i64 v])] σ5 = some (.p (.int .i64 n), σ6)) :
    CC lo 155 [.ptr r 0] σ = some (.p (.int .i64 n), σ6) := by
  have l0 := h.l0
  have l1 := h.l1
  have l2 := h.l2
  have ad := str_add (sz_sgB 4).2.2
  have e36 : lpstr6 = lqstr3 := rfl
  rw [e36] at ad
  obtain ⟨a1, a2, a3⟩ := hp.cons
  have n1 : ((p : Nat) : Int) < (s.size : Nat) := by omega
  have ix := str_idx a1
  rw [a2] at ix
  refine F155_call ?_
  rw [F155_eq]
  simp (maxSteps := 1000000) (disch := omega) only [gG, nil_ptr, shift_ptr, shift_pptr, Nat.zero_add, Nat.add_zero, pureFn_fn, List.append_nil, List.singleton_append, List.cons_append, List.nil_append, fa153_0, fa153_1, fa153_2, fa153_3, load9, load3, load23, plainFn, c1, c2, l0, l1, l2, b_eql, eqT (rfl : (-1 : Int) = -1), str_len, b_lss, ltT n1, ix, u8_eq, eqF (by decide : ¬ (124 : Int) = 38), eqT (rfl : (124 : Int) = 124), eqF (by decide : ¬ (4 : Int) = -1), S107, ad, c3, c4, c5, bs24_2k, c6]
theorem ev155_5 {lo : Nat} {σ1 σ2 σ3 σ4 σ5 σ6 : Store} {a v n : Int} {R : List Int} (c1 : CC lo 110 [.ptr r 0] σ = some (.p (.int .i64 a), σ1)) (c2 : CC lo 151 [.ptr r 0, .p (.str lqstr3)] σ1 = some (.tuple [], σ2)) (h : Rdr σ2 r s p (-1) fs fv) (hp : Plc s p (45 :: R))
    (c3 : CC lo 151 [.ptr r 0, .p (.str (sgB 5 ++ lqstr3))] σ2 = some (.tuple [], σ3)) (c4 : CC lo 110 [.ptr r 0] σ3 = some (.p (.int .i64 v), σ4)) (c5 : CC lo 151 [.ptr r 0, .p (.str lqstr4)] σ4 = some (.tuple [], σ5))
    (c6 : CC lo 152 [.ptr r 0, .p (.int .i64 5), .p (.int .i64 0), .p (.sl true 2 [.int .i64 a, .int .i64 v])] σ5 = some (.p (.int .i64 n), σ6)) :
    CC lo 155 [.ptr r 0] σ = some (.p (.int .i64 n), σ6) := by
  have l0 := h.l0
  have l1 := h.l1
  have l2 := h.l2
  have ad := str_add (sz_sgB 5).2.2
  have e36 : lpstr6 = lqstr3 := rfl
  rw [e36] at ad
  obtain ⟨a1, a2, a3⟩ := hp.cons
  have n1 : ((p : Nat) : Int) < (s.size : Nat) := by omega
  have ix := str_idx a1
  rw [a2] at ix
  refine F155_call ?_
  rw [F155_eq]
  simp (maxSteps := 1000000) (disch := omega) only [gG, nil_ptr, shift_ptr, shift_pptr, Nat.zero_add, Nat.add_zero, pureFn_fn, List.append_nil, List.singleton_append, List.cons_append, List.nil_append, fa153_0, fa153_1, fa153_2, fa153_3, load9, load3, load23, plainFn, c1, c2, l0, l1, l2, b_eql, eqT (rfl : (-1 : Int) = -1), str_len, b_lss, ltT n1, ix, u8_eq, eqF (by decide : ¬ (45 : Int) = 38), eqF (by decide : ¬ (45 : Int) = 124), eqT (rfl : (45 : Int) = 45), eqF (by decide : ¬ (5 : Int) = -1), S107, ad, c3, c4, c5, bs24_2k, c6]
theorem ev155_8 {lo : Nat} {σ1 σ2 σ3 σ4 σ5 σ6 : Store} {a v n : Int} {R : List Int} (c1 : CC lo 110 [.ptr r 0] σ = some (.p (.int .i64 a), σ1)) (c2 : CC lo 151 [.ptr r 0, .p (.str lqstr3)] σ1 = some (.tuple [], σ2)) (h : Rdr σ2 r s p (-1) fs fv) (hp : Plc s p (126 :: R))
    (c3 : CC lo 151 [.ptr r 0, .p (.str (sgB 8 ++ lqstr3))] σ2 = some (.tuple [], σ3)) (c4 : CC lo 110 [.ptr r 0] σ3 = some (.p (.int .i64 v), σ4)) (c5 : CC lo 151 [.ptr r 0, .p (.str lqstr4)] σ4 = some (.tuple [], σ5))
    (c6 : CC lo 152 [.ptr r 0, .p (.int .i64 8), .p (.int .i64 0), .p (.sl true 2 [.int .i64 a, .int .i64 v])] σ5 = some (.p (.int .i64 n), σ6)) :
    CC lo 155 [.ptr r 0] σ = some (.p (.int .i64 n), σ6) := by
  have l0 := h.l0
  have l1 := h.l1
  have l2 := h.l2
  have ad := str_add (sz_sgB 8).2.2
  have e36 : lpstr6 = lqstr3 := rfl
  rw [e36] at ad
  obtain ⟨a1, a2, a3⟩ := hp.cons
  have n1 : ((p : Nat) : Int) < (s.size : Nat) := by omega
  have ix := str_idx a1
  rw [a2] at ix
  refine F155_call ?_
  rw [F155_eq]
  simp (maxSteps := 1000000) (disch := omega) only [gG, nil_ptr, shift_ptr, shift_pptr, Nat.zero_add, Nat.add_zero, pureFn_fn, List.append_nil, List.singleton_append, List.cons_append, List.nil_append, fa153_0, fa153_1, fa153_2, fa153_3, load9, load3, load23, plainFn, c1, c2, l0, l1, l2, b_eql, eqT (rfl : (-1 : Int) = -1), str_len, b_lss, ltT n1, ix, u8_eq, eqF (by decide : ¬ (126 : Int) = 38), eqF (by decide : ¬ (126 : Int) = 124), eqF (by decide : ¬ (126 : Int) = 45), eqT (rfl : (126 : Int) = 126), eqF (by decide : ¬ (8 : Int) = -1), S107, ad, c3, c4, c5, bs24_2k, c6]
theorem ev155_9 {lo : Nat} {σ1 σ2 σ3 σ4 σ5 σ6 : Store} {a v n : Int} {R : List Int} (c1 : CC lo 110 [.ptr r 0] σ = some (.p (.int .i64 a), σ1)) (c2 : CC lo 151 [.ptr r 0, .p (.str lqstr3)] σ1 = some (.tuple [], σ2)) (h : Rdr σ2 r s p (-1) fs fv) (hp : Plc s p (85 :: R))
    (c3 : CC lo 151 [.ptr r 0, .p (.str (sgB 9 ++ lqstr3))] σ2 = some (.tuple [], σ3)) (c4 : CC lo 110 [.ptr r 0] σ3 = some (.p (.int .i64 v), σ4)) (c5 : CC lo 151 [.ptr r 0, .p (.str lqstr4)] σ4 = some (.tuple [], σ5))
    (c6 : CC lo 152 [.ptr r 0, .p (.int .i64 9), .p (.int .i64 0), .p (.sl true 2 [.int .i64 a, .int .i64 v])] σ5 = some (.p (.int .i64 n), σ6)) :
    CC lo 155 [.ptr r 0] σ = some (.p (.int .i64 n), σ6) := by
  have l0 := h.l0
  have l1 := h.l1
  have l2 := h.l2
  have ad := str_add (sz_sgB 9).2.2
  have e36 : lpstr6 = lqstr3 := rfl
  rw [e36] at ad
  obtain ⟨a1, a2, a3⟩ := hp.cons
  have n1 : ((p : Nat) : Int) < (s.size : Nat) := by omega
  have ix := str_idx a1
  rw [a2] at ix
  refine F155_call ?_
  rw [F155_eq]
  simp (maxSteps := 1000000) (disch := omega) only [gG, nil_ptr, shift_ptr, shift_pptr, Nat.zero_add, Nat.add_zero, pureFn_fn, List.append_nil, List.singleton_append, List.cons_append, List.nil_append, fa153_0, fa153_1, fa153_2, fa153_3, load9, load3, load23, plainFn, c1, c2, l0, l1, l2, b_eql, eqT (rfl : (-1 : Int) = -1), str_len, b_lss, ltT n1, ix, u8_eq, eqF (by decide : ¬ (85 : Int) = 38), eqF (by decide : ¬ (85 : Int) = 124), eqF (by decide : ¬ (85 : Int) = 45), eqF (by decide : ¬ (85 : Int) = 126), eqT (rfl : (85 : Int) = 85), eqF (by decide : ¬ (9 : Int) = -1), S107, ad, c3, c4, c5, bs24_2k, c6]
theorem ev155 {lo : Nat} {σ1 σ2 σ3 σ4 σ5 σ6 : Store} {a v n kd : Int} {R : List Int} (c1 : CC lo 110 [.ptr r 0] σ = some (.p (.int .i64 a), σ1)) (c2 : CC lo 151 [.ptr r 0, .p (.str lqstr3)] σ1 = some (.tuple [], σ2)) (h : Rdr σ2 r s p (-1) fs fv) (hp : Plc s p R) (hk : sgn R = some kd)
    (c3 : CC lo 151 [.ptr r 0, .p (.str (sgB kd ++ lqstr3))] σ2 = some (.tuple [], σ3)) (c4 : CC lo 110 [.ptr r 0] σ3 = some (.p (.int .i64 v), σ4)) (c5 : CC lo 151 [.ptr r 0, .p (.str lqstr4)] σ4 = some (.tuple [], σ5))
    (c6 : CC lo 152 [.ptr r 0, .p (.int .i64 kd), .p (.int .i64 0), .p (eSt (some [a, v]))] σ5 = some (.p (.int .i64 n), σ6)) :
    CC lo 155 [.ptr r 0] σ = some (.p (.int .i64 n), σ6) := by
  have es : eSt (some [a, v]) = .sl true 2 [.int .i64 a, .int .i64 v] := rfl
  rw [es] at c6
  cases R with
  | nil => exact absurd hk (by simp [sgn])
  | cons c R =>
    have e : sgn (c :: R) = if c = 38 then some 3 else if c = 124 then some 4 else if c = 45 then some 5 else if c = 126 then some 8 else if c = 85 then some 9 else none := rfl
    rw [e] at hk
    by_cases h0 : c = 38
    · rw [if_pos h0] at hk
      injection hk with hk
      subst hk
      subst h0
      exact ev155_3 c1 c2 h hp c3 c4 c5 c6
    rw [if_neg h0] at hk
    by_cases h1 : c = 124
    · rw [if_pos h1] at hk
      injection hk with hk
      subst hk
      subst h1
      exact ev155_4 c1 c2 h hp c3 c4 c5 c6
    rw [if_neg h1] at hk
    by_cases h2 : c = 45
    · rw [if_pos h2] at hk
      injection hk with hk
      subst hk
      subst h2
      exact ev155_5 c1 c2 h hp c3 c4 c5 c6
    rw [if_neg h2] at hk
    by_cases h3 : c = 126
    · rw [if_pos h3] at hk
      injection hk with hk
      subst hk
      subst h3
      exact ev155_8 c1 c2 h hp c3 c4 c5 c6
    rw [if_neg h3] at hk
    by_cases h4 : c = 85
    · rw [if_pos h4] at hk
      injection hk with hk
      subst hk
      subst h4
      exact ev155_9 c1 c2 h hp c3 c4 c5 c6
    rw [if_neg h4] at hk
    exact absurd hk (by simp)
theorem bs_sg3 (k : Int) : bs (sgB k ++ lqstr3) = sg k ++ [32] := by
  rw [bs_app, bs_sgB]; rfl
theorem sz_sg3 (k : Int) : (sgB k ++ lqstr3).size ≤ 100 := by
  have := (sz_sgB k).1
  have e36 : lpstr6 = lqstr3 := rfl
  rw [e36] at this
  omega
theorem C155 {k : Nat} (IH : Goes110 s k) {R : List Int} (h : Rdr σ r s p (-1) fs fv) (hp : Plc s p R) (hk : R.length < k) (hbd : fs.length + R.length + 1 ≤ 900) {lo : Nat} (hlo : lo ≤ r) :
    ∃ v σ', CC lo 155 [.ptr r 0] σ = some (.p (.int .i64 v), σ') ∧ Kp σ σ' r ∧ Fn σ' r s (fs.length + R.length + 1) v (bnd (prs true k R fs) fun r1 f1 => aft [32] r1 fun r2 => match sgn r2 with
      | none => .err r2
      | some kd => aft (sg kd ++ [32]) r2 fun r3 => bnd (prs true k r3 f1) fun r4 f2 => aft [41] r4 fun r5 => .ok r5 (f2 ++ [⟨kd, 0, some [((f1.length - 1 : Nat) : Int), ((f2.length - 1 : Nat) : Int)]⟩])) := by
  have hsm := hp.sm
  have e3 : bs lqstr3 = [32] := by decide
  have e4 : bs lqstr4 = [41] := by decide
  obtain ⟨va, σ2, b1, b2, b3⟩ := IH lo r _ R fs fv σ h hp hk (by omega) hlo
  have ln := prs_ln true k R fs
  cases hpr : prs true k R fs with
  | err e =>
    rw [hpr] at b3
    obtain ⟨p3, fs3, fv3, f1, f2, f3⟩ := b3
    have hne : ((s.size - e.length : Nat) : Int) ≠ -1 := by omega
    have c1 := C151b f1 hne (lo := lo) (t := lqstr3)
    obtain ⟨σ4, d1, d2, d3⟩ := C111 f1 hlo
    rw [if_neg hne] at d2
    have res : Fn σ4 r s (fs.length + R.length + 1) 0 (.err e) := ⟨p3, _, fv3, d2, f2, by omega⟩
    exact ⟨0, σ4, no155 b1 c1 f1 (fun hh => absurd hh hne) d1, b2.trans d3, res⟩
  | ok r1 f1 =>
    rw [hpr] at b3 ln
    obtain ⟨g1, g2, fv2, g3⟩ := b3
    obtain ⟨n1, n2, n3⟩ := ln
    rw [bnd_ok]
    obtain ⟨σ3, c1, c2, c3, c4⟩ := C151 g3 g2 hlo (t := lqstr3) (by decide)
    rw [e3] at c3 c4
    unfold aft
    have hl1 := (tks_len [32] r1).1
    by_cases hk1 : (tks [32] r1).1 = true
    · rw [if_pos hk1] at c3 ⊢
      dsimp only
      generalize hr2 : (tks [32] r1).2 = r2 at *
      cases hs2 : sgn r2 with
      | none =>
        obtain ⟨σ4, d1, d2, d3⟩ := C111 c3 hlo
        rw [if_pos rfl] at d2
        have res : Fn σ4 r s (fs.length + R.length + 1) 0 (.err r2) := ⟨_, _, fv2, d2, c4.le, by omega⟩
        exact ⟨0, σ4, no155 b1 c1 c3 (fun _ => ⟨r2, c4, hs2⟩) d1, b2.trans (c2.trans d3), res⟩
      | some kd =>
        dsimp only
        obtain ⟨σ4, d1, d2, d3, d4⟩ := C151 c3 c4 hlo (t := sgB kd ++ lqstr3) (sz_sg3 kd)
        rw [bs_sg3] at d3 d4
        have hl2 := (tks_len (sg kd ++ [32]) r2).1
        by_cases hk2 : (tks (sg kd ++ [32]) r2).1 = true
        · rw [if_pos hk2] at d3 ⊢
          generalize hr3 : (tks (sg kd ++ [32]) r2).2 = r3 at *
          obtain ⟨vb, σ5, h1, h2, h3⟩ := IH lo r _ r3 f1 fv2 σ4 d3 d4 (by omega) (by omega) hlo
          have ln2 := prs_ln true k r3 f1
          cases hp2 : prs true k r3 f1 with
          | err e =>
            rw [hp2] at h3
            obtain ⟨p5, fs5, fv5, o1, o2, o3⟩ := h3
            have i1 := C151b o1 (by omega) (lo := lo) (t := lqstr4)
            obtain ⟨σ7, fv7, j1, j2, j3⟩ := C152 o1 hlo (by omega) kd 0 (some [va, vb])
            have res : Fn σ7 r s (fs.length + R.length + 1) (fs5.length : Nat) (.err e) := ⟨_, _, fv7, j3, o2, by rw [List.length_append]; show fs5.length + 1 ≤ _; omega⟩
            exact ⟨_, σ7, ev155 b1 c1 c3 c4 hs2 d1 h1 i1 j1, b2.trans (c2.trans (d2.trans (h2.trans j2))), res⟩
          | ok r4 f2 =>
            rw [hp2] at h3 ln2
            obtain ⟨o1, o2, fv5, o3⟩ := h3
            obtain ⟨w1, w2, w3⟩ := ln2
            rw [bnd_ok]
            obtain ⟨σ6, i1, i2, i3, i4⟩ := C151 o3 o2 hlo (t := lqstr4) (by decide)
            rw [e4] at i3 i4
            obtain ⟨σ7, fv7, j1, j2, j3⟩ := C152 i3 hlo (by omega) kd 0 (some [va, vb])
            have fin := ev155 b1 c1 c3 c4 hs2 d1 h1 i1 j1
            have kpt := b2.trans (c2.trans (d2.trans (h2.trans (i2.trans j2))))
            by_cases hk3 : (tks [41] r4).1 = true
            · rw [if_pos hk3] at j3 ⊢
              have res : Fn σ7 r s (fs.length + R.length + 1) (f2.length : Nat) (.ok (tks [41] r4).2 (f2 ++ [⟨kd, 0, some [((f1.length - 1 : Nat) : Int), ((f2.length - 1 : Nat) : Int)]⟩])) := by
                rw [g1, o1] at j3
                refine ⟨?_, i4, fv7, j3⟩
                rw [List.length_append]
                show _ = ((f2.length + 1 - 1 : Nat) : Int)
                omega
              exact ⟨_, σ7, fin, kpt, res⟩
            · rw [if_neg hk3] at j3 ⊢
              have res : Fn σ7 r s (fs.length + R.length + 1) (f2.length : Nat) (.err (tks [41] r4).2) := ⟨_, _, fv7, j3, i4.le, by rw [List.length_append]; show f2.length + 1 ≤ _; omega⟩
              exact ⟨_, σ7, fin, kpt, res⟩
        · rw [if_neg hk2] at d3 ⊢
          obtain ⟨σ5, h1, h2, h3⟩ := C110b d3 (by omega) hlo
          have i1 := C151b h3 (by omega) (lo := lo) (t := lqstr4)
          obtain ⟨σ7, fv7, j1, j2, j3⟩ := C152 h3 hlo (by omega) kd 0 (some [va, 0])
          have res : Fn σ7 r s (fs.length + R.length + 1) (f1.length : Nat) (.err (tks (sg kd ++ [32]) r2).2) := ⟨_, _, fv7, j3, d4.le, by rw [List.length_append]; show f1.length + 1 ≤ _; omega⟩
          exact ⟨_, σ7, ev155 b1 c1 c3 c4 hs2 d1 h1 i1 j1, b2.trans (c2.trans (d2.trans (h2.trans j2))), res⟩
    · rw [if_neg hk1] at c3 ⊢
      have hne : ((s.size - (tks [32] r1).2.length : Nat) : Int) ≠ -1 := by omega
      obtain ⟨σ4, d1, d2, d3⟩ := C111 c3 hlo
      rw [if_neg hne] at d2
      have res : Fn σ4 r s (fs.length + R.length + 1) 0 (.err (tks [32] r1).2) := ⟨_, _, fv2, d2, c4.le, by omega⟩
      exact ⟨0, σ4, no155 b1 c1 c3 (fun hh => absurd hh hne) d1, b2.trans (c2.trans d3), res⟩
end
end Go.D
end
/- Chapter 13: the text of a formula in the reference. -/
section
set_option linter.unusedVariables false
set_option linter.unusedSimpArgs false
set_option maxRecDepth 8000
namespace Go.D
open Las
theorem sz_app (a b : ByteArray) : (a ++ b).size = a.size + b.size := by
  rw [← bs_len, ← bs_len a, ← bs_len b, bs_app, List.length_append]
theorem sz_of {t : ByteArray} {l : List Int} (h : bs t = l) : t.size = l.length := by rw [← h, bs_len]
section
variable {f : Fm} (hf : FSm f) (hk : Ok (L f))
def txt2 (a b : ByteArray) (k : Int) : ByteArray := lostr6 ++ a ++ lostr7 ++ sgB k ++ lostr7 ++ b ++ lostr8
theorem bs_txt2 (a b : ByteArray) (k : Int) : bs (txt2 a b k) = 40 :: (bs a ++ (32 :: (sg k ++ (32 :: (bs b ++ [41]))))) := by
  unfold txt2
  have e6 : bs lostr6 = [40] := by decide
  have e7 : bs lostr7 = [32] := by decide
  have e8 : bs lostr8 = [41] := by decide
  simp only [bs_app, bs_sgB, e6, e7, e8, List.cons_append, List.nil_append, List.append_assoc]
theorem sgB_sz (k : Int) : (sgB k).size ≤ 2 := by
  rw [sz_of (bs_sgB k)]; exact sg_len k
theorem add_txt {a b : ByteArray} (k : Int) (ha : a.size ≤ 6597069766656) (hb : b.size ≤ 6597069766656) :
    binOp PP .add 9 (.p (.str lostr6)) (.p (.str a)) = some (.p (.str (lostr6 ++ a))) ∧
    binOp PP .add 9 (.p (.str (lostr6 ++ a))) (.p (.str lostr7)) = some (.p (.str (lostr6 ++ a ++ lostr7))) ∧
    binOp PP .add 9 (.p (.str (lostr6 ++ a ++ lostr7))) (.p (.str (sgB k))) = some (.p (.str (lostr6 ++ a ++ lostr7 ++ sgB k))) ∧
    binOp PP .add 9 (.p (.str (lostr6 ++ a ++ lostr7 ++ sgB k))) (.p (.str lostr7)) = some (.p (.str (lostr6 ++ a ++ lostr7 ++ sgB k ++ lostr7))) ∧
    binOp PP .add 9 (.p (.str (lostr6 ++ a ++ lostr7 ++ sgB k ++ lostr7))) (.p (.str b)) = some (.p (.str (lostr6 ++ a ++ lostr7 ++ sgB k ++ lostr7 ++ b))) ∧
    binOp PP .add 9 (.p (.str (lostr6 ++ a ++ lostr7 ++ sgB k ++ lostr7 ++ b))) (.p (.str lostr8)) = some (.p (.str (txt2 a b k))) := by
  have h := sgB_sz k
  have e6 : lostr6.size = 1 := by decide
  have e7 : lostr7.size = 1 := by decide
  have e8 : lostr8.size = 1 := by decide
  unfold txt2
  refine ⟨str_add ?_, str_add ?_, str_add ?_, str_add ?_, str_add ?_, str_add ?_⟩ <;> simp only [sz_app, e6, e7, e8] <;> omega
include hf hk
theorem S47 : ∀ (m i : Nat), i < m → i < (L f).length → ∃ t, bs t = tX (L f) i ∧ ∀ σ, pureV CC 47 [.p (eFm f), N i] σ = some (.p (.str t))
  | 0, i, h, hi => by omega
  | m + 1, i, h, hi => by
    have h1 := hf.1
    have hnd := nd_all hi
    have op1 := ops1 hk hi
    have x1 := tX_1 hk hi
    have x0 := tX_0 (F := L f) (i := i)
    have x2 := tX_2 hk hi
    have x6 := tX_6 hk hi
    have x7 := tX_7 hk hi
    have xb := tX_b hk hi
    have ha : L ((L f).getD i default).a = nA (L f) i := rfl
    have IH := fun j (hj : j < i) => S47 m j (by omega) (by omega)
    have sm := fun j (hj : j < i) => tX_small hk (i := j) (by omega)
    generalize hx : (L f).getD i default = x at *
    have st : store PP 0 67 (.ptr 0 0) (.agg (ndD x)) [Row.mix [.p (pI 0), .p (pI 0), .p .nilsl]] = some [Row.mix (ndD x)] := st67 (σ := []) (lo := 0) (z := [.p (pI 0), .p (pI 0), .p .nilsl]) x rfl (Nat.zero_le _)
    have g : ([Row.mix (ndD x)] : Store)[0]? = some (.mix (ndD x)) := rfl
    have rk := row_k g
    have rn := row_n g
    have ra := row_a g
    have fin : ∀ t σ', bs t = tX (L f) i → F47 guardT 0 (.p (eFm f)) (N i) [] = some (.p (.str t), σ') → ∃ t, bs t = tX (L f) i ∧ ∀ σ, pureV CC 47 [.p (eFm f), N i] σ = some (.p (.str t)) := fun t σ' e1 e2 =>
      ⟨t, e1, fun σ => pureV_free (by simp only [List.map_cons, List.map_nil, fm_view, N, int_view]) rfl (F47_call e2) rfl⟩
    by_cases k0 : x.k = 0
    · refine fin lostr1 [.mix (ndD x)] (by rw [x0 k0]; decide) ?_
      rw [F47_eq]
      simp (disch := omega) only [N, gG, shift_ptr, shift_pptr, Nat.zero_add, Nat.add_zero, pureFn_fn, List.append_nil, List.singleton_append, List.cons_append, List.nil_append, fa67_0, fa67_1, fa67_2, load67, load3, load24, load9, List.length_nil, idx23 hi, hnd, zero67, st, rk, b_eql, eqT k0]
    by_cases k1 : x.k = 1
    · obtain ⟨e1, e2, e3⟩ := x1 k1
      have bt := bs_itB e2 e3
      have szt := sz_of bt
      have il := itl_len x.n
      have l2 : lostr2.size = 1 := by decide
      have ad := str_add (a := lostr2) (b := itB x.n) (by omega)
      refine fin (lostr2 ++ itB x.n) [.mix (ndD x)] (by rw [e1, bs_app, bt]; rfl) ?_
      rw [F47_eq]
      simp (disch := omega) only [N, gG, shift_ptr, shift_pptr, Nat.zero_add, Nat.add_zero, pureFn_fn, List.append_nil, List.singleton_append, List.cons_append, List.nil_append, fa67_0, fa67_1, fa67_2, load67, load3, load24, load9, List.length_nil, idx23 hi, hnd, zero67, st, rk, b_eql, eqF k0, eqT k1, rn, S106 e2 e3, ad]
    -- one operand
    have un : ∀ pre : ByteArray, pre.size ≤ 2 → (x.k = 2 ∨ x.k = 6 ∨ x.k = 7) → 0 < i ∧ ∃ t, bs t = tX (L f) (i - 1) ∧ indexAddr PP 24 (.p (eSl x.a)) (.p (.int .i64 0)) = some (.pptr (eInts (L x.a)) 0) ∧ (∀ σ, load1 (.pptr (eInts (L x.a)) 0) σ = some (.p (.int .i64 ((i - 1 : Nat) : Int)))) ∧ (∀ σ, pureV CC 47 [.p (eFm f), .p (.int .i64 ((i - 1 : Nat) : Int))] σ = some (.p (.str t))) ∧
        binOp PP .add 9 (.p (.str pre)) (.p (.str t)) = some (.p (.str (pre ++ t))) := fun pre hpre hh => by
      obtain ⟨o1, o2⟩ := op1 hh
      rw [← ha] at o1
      obtain ⟨t, t1, t2⟩ := IH (i - 1) (by omega)
      have hl : 0 < (L x.a).length := by rw [o1]; simp
      have szt := sz_of t1
      have := sm (i - 1) (by omega)
      refine ⟨o2, t, t1, (PL.sl x.a).idx (i := 0) hl, fun σ => ?_, t2, str_add (by omega)⟩
      have := load1_getD hl σ
      rw [this, o1]; rfl
    by_cases k2 : x.k = 2
    · obtain ⟨u0, t, u1, u2, u3, u4, u5⟩ := un lostr3 (by decide) (.inl k2)
      refine fin (lostr3 ++ t) [.mix (ndD x)] (by rw [x2 k2, bs_app, u1]; rfl) ?_
      rw [F47_eq]
      simp (disch := omega) only [N, gG, shift_ptr, shift_pptr, Nat.zero_add, Nat.add_zero, pureFn_fn, List.append_nil, List.singleton_append, List.cons_append, List.nil_append, fa67_0, fa67_1, fa67_2, load67, load3, load24, load9, List.length_nil, idx23 hi, hnd, zero67, st, rk, b_eql, eqF k0, eqF k1, eqT k2, ra, u2, u3, u4, u5]
    by_cases k6 : x.k = 6
    · obtain ⟨u0, t, u1, u2, u3, u4, u5⟩ := un lostr4 (by decide) (.inr (.inl k6))
      refine fin (lostr4 ++ t) [.mix (ndD x)] (by rw [x6 k6, bs_app, u1]; rfl) ?_
      rw [F47_eq]
      simp (disch := omega) only [N, gG, shift_ptr, shift_pptr, Nat.zero_add, Nat.add_zero, pureFn_fn, List.append_nil, List.singleton_append, List.cons_append, List.nil_append, fa67_0, fa67_1, fa67_2, load67, load3, load24, load9, List.length_nil, idx23 hi, hnd, zero67, st, rk, b_eql, eqF k0, eqF k1, eqF k2, eqT k6, ra, u2, u3, u4, u5]
    by_cases k7 : x.k = 7
    · obtain ⟨u0, t, u1, u2, u3, u4, u5⟩ := un lostr5 (by decide) (.inr (.inr k7))
      refine fin (lostr5 ++ t) [.mix (ndD x)] (by rw [x7 k7, bs_app, u1]; rfl) ?_
      rw [F47_eq]
      simp (disch := omega) only [N, gG, shift_ptr, shift_pptr, Nat.zero_add, Nat.add_zero, pureFn_fn, List.append_nil, List.singleton_append, List.cons_append, List.nil_append, fa67_0, fa67_1, fa67_2, load67, load3, load24, load9, List.length_nil, idx23 hi, hnd, zero67, st, rk, b_eql, eqF k0, eqF k1, eqF k2, eqF k6, eqT k7, ra, u2, u3, u4, u5]
    obtain ⟨c, c1, c2, c3, c4⟩ := xb k0 k1 k2 k6 k7
    rw [← ha] at c3
    obtain ⟨ta, a1, a2⟩ := IH c c1
    obtain ⟨tb, b1, b2⟩ := IH (i - 1) (by omega)
    have hl0 : 0 < (L x.a).length := by rw [c3]; simp
    have hl1 : 1 < (L x.a).length := by rw [c3]; simp
    have i0 : indexAddr PP 24 (.p (eSl x.a)) (.p (.int .i64 0)) = some (.pptr (eInts (L x.a)) 0) := (PL.sl x.a).idx (i := 0) hl0
    have i1 : indexAddr PP 24 (.p (eSl x.a)) (.p (.int .i64 1)) = some (.pptr (eInts (L x.a)) 1) := (PL.sl x.a).idx (i := 1) hl1
    have d0 : ∀ σ, load1 (.pptr (eInts (L x.a)) 0) σ = some (.p (.int .i64 (c : Nat))) := fun σ => by
      have := load1_getD hl0 σ
      rw [this, c3]; rfl
    have d1 : ∀ σ, load1 (.pptr (eInts (L x.a)) 1) σ = some (.p (.int .i64 ((i - 1 : Nat) : Int))) := fun σ => by
      have := load1_getD hl1 σ
      rw [this, c3]; rfl
    have sa := sz_of a1
    have sb := sz_of b1
    have ma := sm c c1
    have mb := sm (i - 1) (by omega)
    obtain ⟨p1, p2, p3, p4, p5, p6⟩ := add_txt (a := ta) (b := tb) x.k (by omega) (by omega)
    refine fin (txt2 ta tb x.k) [.mix (ndD x)] (by rw [c4, bs_txt2, a1, b1]) ?_
    simp only [N] at a2 b2
    rw [F47_eq]
    simp (disch := omega) only [N, gG, shift_ptr, shift_pptr, Nat.zero_add, Nat.add_zero, pureFn_fn, List.append_nil, List.singleton_append, List.cons_append, List.nil_append, fa67_0, fa67_1, fa67_2, load67, load3, load24, load9, List.length_nil, idx23 hi, hnd, zero67, st, rk, b_eql, eqF k0, eqF k1, eqF k2, eqF k6, eqF k7, ra, i0, d0, a2, p1, p2, S107, p3, p4, i1, d1, b2, p5, p6]
end
end Go.D
end
/- Chapter 13: the text of a formula in the program. -/
section
set_option linter.unusedVariables false
set_option linter.unusedSimpArgs false
set_option maxRecDepth 8000
namespace Go.D
open Las
theorem u143 : PP.underlying 143 = some (.slice 9) := Eq.trans (by kernel_rfl) rfl
theorem src143 : srcType PP 143 = true := Eq.trans (by kernel_rfl) rfl
theorem s9s : size? PP 9 = some 1 := Eq.trans (by kernel_rfl) rfl
theorem bytes9 : bytes? PP 9 = some 16 := Eq.trans (by kernel_rfl) rfl
theorem zero9 : zeroOf PP 9 = some [.p (.str ⟨#[]⟩)] := Eq.trans (by kernel_rfl) rfl
theorem zero143 : zeroOf PP 143 = some [.p .nilsl] := Eq.trans (by kernel_rfl) rfl
theorem load143 (x : DV) (σ : Store) : load PP 143 x σ = load1 x σ := Eq.trans (by kernel_rfl) rfl
theorem s143 : size? PP 143 = some 1 := Eq.trans (by kernel_rfl) rfl
theorem bs143 (t : ByteArray) (σ : Store) : buildSlice PP none 143 1 [(0, .p (.str t))] σ = some (.p (.sl true 1 [.str t]), σ) := Eq.trans (by kernel_rfl) rfl
theorem Out.idx143 {σ : Store} {lo n j : Nat} {cs : List PV} {x : DV} (ho : Out σ lo 1 n cs x) (hj : j < n) : indexAddr PP 143 x (.p (.int .i64 (j : Nat))) = some (.pptr cs j) := by
  have h2 : (0 : Int) ≤ (j : Int) ∧ (j : Int) < (n : Nat) := by omega
  rcases ho.2 with ⟨rfl, rfl⟩ | ⟨_, r, v, rfl, _, _⟩
  · omega
  · simp [indexAddr, u143, s9s, h2]
theorem Out.len143 {σ : Store} {lo n : Nat} {cs : List PV} {x : DV} (ho : Out σ lo 1 n cs x) (τ : Store) : len PP 143 x τ = some (N n) := by
  rcases ho.2 with ⟨rfl, rfl⟩ | ⟨_, r, v, rfl, _, _⟩ <;> simp [len, u143, N]
structure Tl (F : List Nd) (i : Nat) (cs : List PV) : Prop where
  len : cs.length = i
  get : ∀ j, j < i → ∃ t, cs[j]? = some (.str t) ∧ bs t = tX F j
theorem Tl.snoc {F : List Nd} {i : Nat} {cs : List PV} (h : Tl F i cs) {t : ByteArray} (ht : bs t = tX F i) : Tl F (i + 1) (cs ++ [.str t]) := by
  refine ⟨by rw [List.length_append, h.len]; rfl, fun j hj => ?_⟩
  by_cases c : j < i
  · obtain ⟨u, u1, u2⟩ := h.get j c
    exact ⟨u, by rw [List.getElem?_append_left (by rw [h.len]; exact c)]; exact u1, u2⟩
  · have : j = i := by omega
    subst this
    exact ⟨t, by rw [List.getElem?_append_right (by rw [h.len]; exact Nat.le_refl _), h.len, Nat.sub_self]; rfl, ht⟩
theorem S100 {σ : Store} {y : DV} {x : Nd} {r i : Nat} {cs : List PV} (g0 : σ[0]? = some (.mix [y])) (g : σ[r]? = some (.mix (ndD x))) (ho : Out σ 1 1 i cs y) {kk j : Nat} {t : ByteArray} (hkk : kk < (L x.a).length) (hj : (L x.a).getD kk 0 = (j : Nat)) (hji : j < i) (hc : cs[j]? = some (.str t)) :
    pureV CC 100 [.p (.int .i64 (kk : Nat)), .ptr 0 0, .ptr r 0] σ = some (.p (.str t)) := by
  have l0 : load1 (.ptr 0 0) σ = some y := load1_ptr g0 rfl
  have ra := row_a g
  have i1 := (PL.sl x.a).idx hkk
  have l1 := load1_getD hkk σ
  rw [hj] at l1
  have i2 := ho.idx143 hji
  have l2 : load1 (.pptr cs j) σ = some (.p (.str t)) := load1_pptr hc σ
  refine pureV_rows rfl rfl (F100_call (r := (.p (.str t), σ)) ?_) rfl
  rw [F100_eq]
  simp (disch := omega) only [gG, shift_ptr, shift_pptr, Nat.zero_add, Nat.add_zero, pureFn_fn, List.append_nil, List.singleton_append, List.cons_append, List.nil_append, fa67_0, fa67_1, fa67_2, load67, load3, load24, load9, load143, l0, ra, i1, l1, i2, l2]
section
variable {f : Fm} (hf : FSm f) (hk : Ok (L f))
include hf hk
theorem L45 : ∀ (d i : Nat) (y : DV) (cs : List PV) (σ : Store), (L f).length - i = d → i ≤ (L f).length → σ[0]? = some (.mix [y]) → Out σ 1 1 i cs y → Tl (L f) i cs →
    ∃ t σ', bs t = tX (L f) ((L f).length - 1) ∧ f45_L0 guardT 0 (.ptr 0 0) (.p (eFm f)) (N (L f).length) (N i) σ = some (.tuple [.p (.str t), .p (pI 0)], σ')
  | 0, i, y, cs, σ, hd, hi, g0, ho, hT => by
    have hp := hk.pos
    have h1 := hf.1
    have e : i = (L f).length := by omega
    subst e
    obtain ⟨t, t1, t2⟩ := hT.get ((L f).length - 1) (by omega)
    have l0 : load1 (.ptr 0 0) σ = some y := load1_ptr g0 rfl
    have ln := ho.len143 σ
    simp only [N] at ln
    have ix := ho.idx143 (j := (L f).length - 1) (by omega)
    have l2 : load1 (.pptr cs ((L f).length - 1)) σ = some (.p (.str t)) := load1_pptr t1 σ
    refine ⟨t, σ, t2, ?_⟩
    rw [f45_L0_eq guardT rfl]
    simp (disch := omega) only [N, gG, shift_ptr, shift_pptr, Nat.zero_add, Nat.add_zero, pureFn_fn, List.append_nil, List.singleton_append, List.cons_append, List.nil_append, fa67_0, fa67_1, fa67_2, load67, load3, load24, load9, load143, b_lss, ltF, l0, ln, sub1, ix, l2]
  | d + 1, i, y, cs, σ, hd, hi, g0, ho, hT => by
    have h1 := hf.1
    have hlt : i < (L f).length := by omega
    have hd1 : (L f).length - (i + 1) = d := by omega
    have hd2 : i + 1 ≤ (L f).length := hlt
    have hnd := nd_all hlt
    have op1 := ops1 hk hlt
    have x1 := tX_1 hk hlt
    have x0 := tX_0 (F := L f) (i := i)
    have x2 := tX_2 hk hlt
    have x6 := tX_6 hk hlt
    have x7 := tX_7 hk hlt
    have xb := tX_b hk hlt
    have ha : L ((L f).getD i default).a = nA (L f) i := rfl
    have sm := fun j (hj : j < i) => tX_small hk (i := j) (by omega)
    generalize hx : (L f).getD i default = x at *
    have hl0 : 0 < σ.length := get_lt g0
    have st := st67 (σ := σ) (lo := 0) (z := [.p (pI 0), .p (pI 0), .p .nilsl]) x rfl (Nat.zero_le _)
    have g : (σ ++ [Row.mix (ndD x)])[σ.length]? = some (.mix (ndD x)) := get_snoc
    have rk := row_k g
    have rn := row_n g
    have g01 : (σ ++ [Row.mix (ndD x)])[0]? = some (.mix [y]) := get_old g0
    have l0 : load1 (.ptr 0 0) (σ ++ [Row.mix (ndD x)]) = some y := load1_ptr g01 rfl
    have ho1 : Out (σ ++ [Row.mix (ndD x)]) 1 1 i cs y := ho.low fun r v hr => get_old hr
    -- one more text
    have fin : ∀ t, bs t = tX (L f) i → ∃ y' σ2 σ3, append PP 0 false 143 143 y (.p (.sl true 1 [.str t])) (σ ++ [Row.mix (ndD x)]) = some (y', σ2) ∧ store PP 0 143 (.ptr 0 0) y' σ2 = some σ3 ∧
        ∃ u σ', bs u = tX (L f) ((L f).length - 1) ∧ f45_L0 guardT 0 (.ptr 0 0) (.p (eFm f)) (.p (.int .i64 (((L f).length : Nat) : Int))) (.p (.int .i64 ((i + 1 : Nat) : Int))) σ3 = some (.tuple [.p (.str u), .p (pI 0)], σ') := fun t ht => by
      obtain ⟨y', σ2, a1, a2, a3, a4, a5⟩ := Out.pushR (lo0 := 0) (vs := [.str t]) src143 u143 s9s bytes9 zero9 rfl (by decide) (by decide) (by decide) rfl ho1 (by omega) (by omega) (by simp)
      clear a5
      have row1 : σ2[0]? = some (.mix [y]) := a3.mix ho1 g01 (fun v hv => by cases hv)
      have yo : y'.one = true := by
        rcases a2.2 with ⟨_, rfl⟩ | ⟨_, r', v, rfl, _, _⟩ <;> rfl
      have st2 : store PP 0 143 (.ptr 0 0) y' σ2 = some (σ2.set 0 (.mix [y'])) := by
        cases y' <;> first | (exfalso; simp [DV.one] at yo; done) | simp [store, s143, DV.cells, storeN, row1, DV.one, splice]
      have g2 : (σ2.set 0 (.mix [y']))[0]? = some (.mix [y']) := by rw [List.getElem?_set_self (get_lt row1)]
      have o2 : Out (σ2.set 0 (.mix [y'])) 1 1 (i + 1) (cs ++ [.str t]) y' := by
        refine a2.low fun j v hj => ?_
        have hne : j ≠ 0 := fun hh => by rw [hh, row1] at hj; injection hj with hj; cases hj
        rw [List.getElem?_set_ne (Ne.symm hne)]; exact hj
      obtain ⟨u, σ', r1, r2⟩ := L45 d (i + 1) y' _ _ hd1 hd2 g2 o2 (hT.snoc ht)
      exact ⟨y', σ2, _, a1, st2, u, σ', r1, r2⟩
    have c0 : ((i : Nat) : Int) < ((L f).length : Nat) := by omega
    by_cases k0 : x.k = 0
    · obtain ⟨y', σ2, σ3, f1, f2, u, σ', f3, f4⟩ := fin lostr1 (by rw [x0 k0]; decide)
      refine ⟨u, σ', f3, ?_⟩
      rw [f45_L0_eq guardT rfl]
      simp (maxSteps := 1000000) (disch := omega) only [N, gG, shift_ptr, shift_pptr, Nat.zero_add, Nat.add_zero, pureFn_fn, List.append_nil, List.singleton_append, List.cons_append, List.nil_append, fa67_0, fa67_1, fa67_2, load67, load3, load24, load9, load143, b_lss, ltT c0, idx23 hlt, hnd, zero67, st, rk, b_eql, eqT k0, l0, bs143, f1, f2, f45_J0_eq, add1, f4]
    by_cases k1 : x.k = 1
    · obtain ⟨e1, e2, e3⟩ := x1 k1
      have bt := bs_itB e2 e3
      have szt := sz_of bt
      have il := itl_len x.n
      have l2 : lostr2.size = 1 := by decide
      have ad := str_add (a := lostr2) (b := itB x.n) (by omega)
      obtain ⟨y', σ2, σ3, f1, f2, u, σ', f3, f4⟩ := fin (lostr2 ++ itB x.n) (by rw [e1, bs_app, bt]; rfl)
      refine ⟨u, σ', f3, ?_⟩
      rw [f45_L0_eq guardT rfl]
      simp (maxSteps := 1000000) (disch := omega) only [N, gG, shift_ptr, shift_pptr, Nat.zero_add, Nat.add_zero, pureFn_fn, List.append_nil, List.singleton_append, List.cons_append, List.nil_append, fa67_0, fa67_1, fa67_2, load67, load3, load24, load9, load143, b_lss, ltT c0, idx23 hlt, hnd, zero67, st, rk, b_eql, eqF k0, eqT k1, rn, S101 e2 e3, ad, l0, bs143, f1, f2, f45_J0_eq, add1, f4]
    -- one operand
    have un : ∀ pre : ByteArray, pre.size ≤ 2 → (x.k = 2 ∨ x.k = 6 ∨ x.k = 7) → 0 < i ∧ ∃ t, bs t = tX (L f) (i - 1) ∧ pureV CC 100 [.p (.int .i64 0), .ptr 0 0, .ptr σ.length 0] (σ ++ [Row.mix (ndD x)]) = some (.p (.str t)) ∧
        binOp PP .add 9 (.p (.str pre)) (.p (.str t)) = some (.p (.str (pre ++ t))) := fun pre hpre hh => by
      obtain ⟨o1, o2⟩ := op1 hh
      rw [← ha] at o1
      obtain ⟨t, t1, t2⟩ := hT.get (i - 1) (by omega)
      have szt := sz_of t2
      have := sm (i - 1) (by omega)
      exact ⟨o2, t, t2, S100 (kk := 0) g01 g ho1 (by rw [o1]; simp) (by rw [o1]; rfl) (by omega) t1, str_add (by omega)⟩
    by_cases k2 : x.k = 2
    · obtain ⟨u0, t, u1, u2, u3⟩ := un lostr3 (by decide) (.inl k2)
      obtain ⟨y', σ2, σ3, f1, f2, u, σ', f3, f4⟩ := fin (lostr3 ++ t) (by rw [x2 k2, bs_app, u1]; rfl)
      refine ⟨u, σ', f3, ?_⟩
      rw [f45_L0_eq guardT rfl]
      simp (maxSteps := 1000000) (disch := omega) only [N, gG, shift_ptr, shift_pptr, Nat.zero_add, Nat.add_zero, pureFn_fn, List.append_nil, List.singleton_append, List.cons_append, List.nil_append, fa67_0, fa67_1, fa67_2, load67, load3, load24, load9, load143, b_lss, ltT c0, idx23 hlt, hnd, zero67, st, rk, b_eql, eqF k0, eqF k1, eqT k2, l0, u2, u3, bs143, f1, f2, f45_J0_eq, add1, f4]
    by_cases k6 : x.k = 6
    · obtain ⟨u0, t, u1, u2, u3⟩ := un lostr4 (by decide) (.inr (.inl k6))
      obtain ⟨y', σ2, σ3, f1, f2, u, σ', f3, f4⟩ := fin (lostr4 ++ t) (by rw [x6 k6, bs_app, u1]; rfl)
      refine ⟨u, σ', f3, ?_⟩
      rw [f45_L0_eq guardT rfl]
      simp (maxSteps := 1000000) (disch := omega) only [N, gG, shift_ptr, shift_pptr, Nat.zero_add, Nat.add_zero, pureFn_fn, List.append_nil, List.singleton_append, List.cons_append, List.nil_append, fa67_0, fa67_1, fa67_2, load67, load3, load24, load9, load143, b_lss, ltT c0, idx23 hlt, hnd, zero67, st, rk, b_eql, eqF k0, eqF k1, eqF k2, eqT k6, l0, u2, u3, bs143, f1, f2, f45_J0_eq, add1, f4]
    by_cases k7 : x.k = 7
    · obtain ⟨u0, t, u1, u2, u3⟩ := un lostr5 (by decide) (.inr (.inr k7))
      obtain ⟨y', σ2, σ3, f1, f2, u, σ', f3, f4⟩ := fin (lostr5 ++ t) (by rw [x7 k7, bs_app, u1]; rfl)
      refine ⟨u, σ', f3, ?_⟩
      rw [f45_L0_eq guardT rfl]
      simp (maxSteps := 1000000) (disch := omega) only [N, gG, shift_ptr, shift_pptr, Nat.zero_add, Nat.add_zero, pureFn_fn, List.append_nil, List.singleton_append, List.cons_append, List.nil_append, fa67_0, fa67_1, fa67_2, load67, load3, load24, load9, load143, b_lss, ltT c0, idx23 hlt, hnd, zero67, st, rk, b_eql, eqF k0, eqF k1, eqF k2, eqF k6, eqT k7, l0, u2, u3, bs143, f1, f2, f45_J0_eq, add1, f4]
    obtain ⟨c, c1, c2, c3, c4⟩ := xb k0 k1 k2 k6 k7
    rw [← ha] at c3
    obtain ⟨ta, a1, a2⟩ := hT.get c c1
    obtain ⟨tb, b1, b2⟩ := hT.get (i - 1) (by omega)
    have q0 : pureV CC 100 [.p (.int .i64 0), .ptr 0 0, .ptr σ.length 0] (σ ++ [Row.mix (ndD x)]) = some (.p (.str ta)) := S100 (kk := 0) g01 g ho1 (by rw [c3]; simp) (by rw [c3]; rfl) c1 a1
    have q1 : pureV CC 100 [.p (.int .i64 1), .ptr 0 0, .ptr σ.length 0] (σ ++ [Row.mix (ndD x)]) = some (.p (.str tb)) := S100 (kk := 1) g01 g ho1 (by rw [c3]; simp) (by rw [c3]; rfl) (by omega) b1
    have sa := sz_of a2
    have sb := sz_of b2
    have ma := sm c c1
    have mb := sm (i - 1) (by omega)
    obtain ⟨p1, p2, p3, p4, p5, p6⟩ := add_txt (a := ta) (b := tb) x.k (by omega) (by omega)
    obtain ⟨y', σ2, σ3, f1, f2, u, σ', f3, f4⟩ := fin (txt2 ta tb x.k) (by rw [c4, bs_txt2, a2, b2])
    refine ⟨u, σ', f3, ?_⟩
    rw [f45_L0_eq guardT rfl]
    simp (maxSteps := 1000000) (disch := omega) only [N, gG, shift_ptr, shift_pptr, Nat.zero_add, Nat.add_zero, pureFn_fn, List.append_nil, List.singleton_append, List.cons_append, List.nil_append, fa67_0, fa67_1, fa67_2, load67, load3, load24, load9, load143, b_lss, ltT c0, idx23 hlt, hnd, zero67, st, rk, b_eql, eqF k0, eqF k1, eqF k2, eqF k6, eqF k7, l0, q0, p1, p2, S102, p3, p4, q1, p5, p6, bs143, f1, f2, f45_J0_eq, add1, f4]
theorem S45 : ∃ t, bs t = tX (L f) ((L f).length - 1) ∧ ∀ σ, pureV CC 45 [.p (eFm f)] σ = some (.tuple [.p (.str t), .p (pI 0)]) := by
  have ok := ok_chk hk
  obtain ⟨t, σ', h1, h2⟩ := L45 hf hk _ 0 (.p .nilsl) [] [.mix [.p .nilsl]] rfl (Nat.zero_le _) rfl Out.zero ⟨rfl, fun j hj => by omega⟩
  refine ⟨t, h1, fun σ => pureV_free (by simp [fm_view]) rfl (F45_call (r := (.tuple [.p (.str t), .p (pI 0)], σ')) ?_) rfl⟩
  rw [F45_eq]
  simp only [gG, shift_ptr, shift_pptr, Nat.zero_add, Nat.add_zero, pureFn_fn, List.append_nil, List.singleton_append, List.cons_append, List.nil_append, fa67_0, fa67_1, fa67_2, load67, load3, load24, load9, load143, S70 hf, ok, b_neq, eqT (rfl : (0 : Int) = 0), zero143, len23, List.length_nil]
  exact h2
omit hk in
theorem S45e (h : (chk (L f)).2 ≠ 0) (σ : Store) : pureV CC 45 [.p (eFm f)] σ = some (.tuple [.p (.str lostr0), .p (pI (chk (L f)).2)]) := by
  refine pureV_free (by simp [fm_view]) rfl (F45_call (r := (.tuple [.p (.str lostr0), .p (pI (chk (L f)).2)], [])) ?_) rfl
  rw [F45_eq]
  simp only [gG, shift_ptr, shift_pptr, Nat.zero_add, Nat.add_zero, pureFn_fn, List.append_nil, List.singleton_append, List.cons_append, List.nil_append, fa67_0, fa67_1, fa67_2, load67, load3, load24, load9, load143, S70 hf, b_neq, eqF h]
end
end Go.D
end
/- Chapter 13: the reference's reader of formulas: all of it. -/
section
set_option linter.unusedVariables false
set_option linter.unusedSimpArgs false
set_option maxRecDepth 8000
namespace Go.D
open Las
section
variable {s : ByteArray}
theorem goes110 : ∀ k, Goes110 s k
  | 0, lo, r, p, rem, fs, fv, σ, h, hp, hk, hbd, hlo => by omega
  | k + 1, lo, r, p, rem, fs, fv, σ, h, hp, hk, hbd, hlo => by
    have IH := goes110 k
    have hsm := hp.sm
    have l0 := h.l0
    have l1 := h.l1
    have l2 := h.l2
    have ep := hp.at
    obtain ⟨σE, e1, e2, e3⟩ := C111 h hlo
    rw [if_pos rfl] at e2
    have resE : ∀ bd, fs.length ≤ bd → Fn σE r s bd 0 (.err rem) := fun bd hbd => ⟨p, fs, fv, by rw [← ep]; exact e2, hp.le, hbd⟩
    cases rem with
    | nil =>
      have hps := hp.nil
      have hpe : ((p : Nat) : Int) = (s.size : Nat) := by omega
      refine ⟨0, σE, F110_call ?_, e3, resE _ (by omega)⟩
      rw [F110_eq]
      simp (maxSteps := 1000000) (disch := omega) only [gG, nil_ptr, shift_ptr, shift_pptr, Nat.zero_add, Nat.add_zero, pureFn_fn, List.append_nil, List.singleton_append, List.cons_append, List.nil_append, fa153_0, fa153_1, fa153_2, fa153_3, load9, load3, load23, l2, b_neq, eqT (rfl : (-1 : Int) = -1), l1, l0, str_len, b_eql, eqT hpe, plainFn, e1]
    | cons c R =>
      rw [List.length_cons] at hk hbd
      have hl : (c :: R).length = R.length + 1 := List.length_cons
      obtain ⟨a1, a2, a3⟩ := hp.cons
      have hpe : ¬ ((p : Nat) : Int) = (s.size : Nat) := by omega
      have ix := str_idx a1
      rw [a2] at ix
      have st := h.s1 hlo (p + 1)
      have h1 := h.set (p + 1) (-1)
      have k1 := Kp.set σ (.mix [.p (.str s), N (p + 1), .p (.int .i64 (-1)), fv]) r
      rw [hl]
      -- one operand behind characters
      have un : ∀ {t : ByteArray} {t' : List Int} (kk : Int), bs t = c :: t' → t.size ≤ 100 → ∃ v σ1 σ', CC lo 151 [.ptr r 0, .p (.str t)] σ = some (.tuple [], σ1) ∧ CC lo 154 [.ptr r 0, .p (.int .i64 kk)] σ1 = some (.p (.int .i64 v), σ') ∧ Kp σ σ' r ∧ Fn σ' r s (fs.length + (R.length + 1)) v (aft t' R fun r' => one kk (prs true k r' fs)) := fun {t t'} kk hb hsz => by
        obtain ⟨σ1, b1, b2, b3, b4⟩ := C151 h hp hlo hsz
        have et : tks (bs t) (c :: R) = tks t' R := by
          rw [hb]
          show (if c = c then tks t' R else _) = _
          rw [if_pos rfl]
        rw [et] at b3 b4
        have hlen := (tks_len t' R).1
        unfold aft
        by_cases hok : (tks t' R).1 = true
        · rw [if_pos hok] at b3 ⊢
          obtain ⟨v, σ', d1, d2, d3⟩ := C154 IH b3 b4 (by omega) (bd := fs.length + (R.length + 1)) (by omega) (by omega) hlo kk
          exact ⟨v, σ1, σ', b1, d1, b2.trans d2, d3⟩
        · rw [if_neg hok] at b3 ⊢
          obtain ⟨v, σ', fv', x, d1, d2, d3⟩ := C154b b3 (by omega) hlo (by omega) kk
          have res : Fn σ' r s (fs.length + (R.length + 1)) v (.err (tks t' R).2) := ⟨_, _, fv', d3, b4.le, by rw [List.length_append]; show fs.length + 1 ≤ _; omega⟩
          exact ⟨v, σ1, σ', b1, d1, b2.trans d2, res⟩
      rw [prs_eq]
      by_cases c1 : c = 33
      · subst c1
        rw [if_pos rfl]
        obtain ⟨v, σ', d1, d2, d3⟩ := C154 IH h1 a3 (by omega) (bd := fs.length + (R.length + 1)) (by omega) (by omega) hlo 2
        refine ⟨v, σ', F110_call ?_, k1.trans d2, d3⟩
        rw [F110_eq]
        simp (maxSteps := 1000000) (disch := omega) only [gG, nil_ptr, shift_ptr, shift_pptr, Nat.zero_add, Nat.add_zero, pureFn_fn, List.append_nil, List.singleton_append, List.cons_append, List.nil_append, fa153_0, fa153_1, fa153_2, fa153_3, load9, load3, load23, l2, b_neq, eqT (rfl : (-1 : Int) = -1), l1, l0, str_len, b_eql, eqF hpe, ix, u8_eq, eqF (by decide : ¬ (33 : Int) = 116), eqF (by decide : ¬ (33 : Int) = 112), eqT (rfl : (33 : Int) = 33), add1, st, plainFn, d1]
      by_cases c2 : c = 91
      · subst c2
        rw [if_neg c1, if_pos rfl]
        obtain ⟨v, σ1, σ', d0, d1, d2, d3⟩ := un (t := lqstr1) (t' := [93]) 6 (by decide) (by decide)
        refine ⟨v, σ', F110_call ?_, d2, d3⟩
        rw [F110_eq]
        simp (maxSteps := 1000000) (disch := omega) only [gG, nil_ptr, shift_ptr, shift_pptr, Nat.zero_add, Nat.add_zero, pureFn_fn, List.append_nil, List.singleton_append, List.cons_append, List.nil_append, fa153_0, fa153_1, fa153_2, fa153_3, load9, load3, load23, l2, b_neq, eqT (rfl : (-1 : Int) = -1), l1, l0, str_len, b_eql, eqF hpe, ix, u8_eq, eqF (by decide : ¬ (91 : Int) = 116), eqF (by decide : ¬ (91 : Int) = 112), eqF (by decide : ¬ (91 : Int) = 33), eqT (rfl : (91 : Int) = 91), plainFn, d0, d1]
      by_cases c3 : c = 60
      · subst c3
        rw [if_neg c1, if_neg c2, if_pos rfl]
        obtain ⟨v, σ1, σ', d0, d1, d2, d3⟩ := un (t := lqstr2) (t' := [62]) 7 (by decide) (by decide)
        refine ⟨v, σ', F110_call ?_, d2, d3⟩
        rw [F110_eq]
        simp (maxSteps := 1000000) (disch := omega) only [gG, nil_ptr, shift_ptr, shift_pptr, Nat.zero_add, Nat.add_zero, pureFn_fn, List.append_nil, List.singleton_append, List.cons_append, List.nil_append, fa153_0, fa153_1, fa153_2, fa153_3, load9, load3, load23, l2, b_neq, eqT (rfl : (-1 : Int) = -1), l1, l0, str_len, b_eql, eqF hpe, ix, u8_eq, eqF (by decide : ¬ (60 : Int) = 116), eqF (by decide : ¬ (60 : Int) = 112), eqF (by decide : ¬ (60 : Int) = 33), eqF (by decide : ¬ (60 : Int) = 91), eqT (rfl : (60 : Int) = 60), plainFn, d0, d1]
      by_cases c4 : c = 116
      · subst c4
        rw [if_neg c1, if_neg c2, if_neg c3, if_pos rfl]
        obtain ⟨σ1, b1, b2, b3, b4⟩ := C151 h hp hlo (t := lqstr0) (by decide)
        have et : tks (bs lqstr0) (116 :: R) = tks [114, 117, 101] R := by
          have : bs lqstr0 = [116, 114, 117, 101] := by decide
          rw [this]; rfl
        rw [et] at b3 b4
        obtain ⟨σ2, fv2, d1, d2, d3⟩ := C152 b3 hlo (by omega) 0 0 none
        have es : eSt none = .nilsl := rfl
        rw [es] at d1
        have fin : CC lo 110 [.ptr r 0] σ = some (.p (.int .i64 (fs.length : Nat)), σ2) := by
          refine F110_call ?_
          rw [F110_eq]
          simp (maxSteps := 1000000) (disch := omega) only [gG, nil_ptr, shift_ptr, shift_pptr, Nat.zero_add, Nat.add_zero, pureFn_fn, List.append_nil, List.singleton_append, List.cons_append, List.nil_append, fa153_0, fa153_1, fa153_2, fa153_3, load9, load3, load23, l2, b_neq, eqT (rfl : (-1 : Int) = -1), l1, l0, str_len, b_eql, eqF hpe, ix, u8_eq, eqT (rfl : (116 : Int) = 116), plainFn, b1, d1]
        unfold aft
        by_cases hok : (tks [114, 117, 101] R).1 = true
        · rw [if_pos hok] at d3 ⊢
          have res : Fn σ2 r s (fs.length + (R.length + 1)) (fs.length : Nat) (.ok (tks [114, 117, 101] R).2 (fs ++ [⟨0, 0, none⟩])) := by
            refine ⟨?_, b4, fv2, d3⟩
            rw [List.length_append]
            show _ = ((fs.length + 1 - 1 : Nat) : Int)
            omega
          exact ⟨_, σ2, fin, b2.trans d2, res⟩
        · rw [if_neg hok] at d3 ⊢
          have res : Fn σ2 r s (fs.length + (R.length + 1)) (fs.length : Nat) (.err (tks [114, 117, 101] R).2) := ⟨_, _, fv2, d3, b4.le, by rw [List.length_append]; show fs.length + 1 ≤ _; omega⟩
          exact ⟨_, σ2, fin, b2.trans d2, res⟩
      by_cases c5 : c = 112
      · subst c5
        rw [if_neg c1, if_neg c2, if_neg c3, if_neg c4, if_pos rfl]
        obtain ⟨v, σ', d1, d2, d3⟩ := C153 h1 a3 hlo (by omega) (bd := fs.length + (R.length + 1)) (by omega)
        refine ⟨v, σ', F110_call ?_, k1.trans d2, d3⟩
        rw [F110_eq]
        simp (maxSteps := 1000000) (disch := omega) only [gG, nil_ptr, shift_ptr, shift_pptr, Nat.zero_add, Nat.add_zero, pureFn_fn, List.append_nil, List.singleton_append, List.cons_append, List.nil_append, fa153_0, fa153_1, fa153_2, fa153_3, load9, load3, load23, l2, b_neq, eqT (rfl : (-1 : Int) = -1), l1, l0, str_len, b_eql, eqF hpe, ix, u8_eq, eqF (by decide : ¬ (112 : Int) = 116), eqT (rfl : (112 : Int) = 112), add1, st, plainFn, d1]
      by_cases c6 : c = 40
      · subst c6
        rw [if_neg c1, if_neg c2, if_neg c3, if_neg c4, if_neg c5, if_pos rfl]
        obtain ⟨v, σ', d1, d2, d3⟩ := C155 IH h1 a3 (by omega) (by omega) hlo
        refine ⟨v, σ', F110_call ?_, k1.trans d2, d3⟩
        rw [F110_eq]
        simp (maxSteps := 1000000) (disch := omega) only [gG, nil_ptr, shift_ptr, shift_pptr, Nat.zero_add, Nat.add_zero, pureFn_fn, List.append_nil, List.singleton_append, List.cons_append, List.nil_append, fa153_0, fa153_1, fa153_2, fa153_3, load9, load3, load23, l2, b_neq, eqT (rfl : (-1 : Int) = -1), l1, l0, str_len, b_eql, eqF hpe, ix, u8_eq, eqF (by decide : ¬ (40 : Int) = 116), eqF (by decide : ¬ (40 : Int) = 112), eqF (by decide : ¬ (40 : Int) = 33), eqF (by decide : ¬ (40 : Int) = 91), eqF (by decide : ¬ (40 : Int) = 60), eqT (rfl : (40 : Int) = 40), add1, st, plainFn, d1]
      · rw [if_neg c1, if_neg c2, if_neg c3, if_neg c4, if_neg c5, if_neg c6]
        refine ⟨0, σE, F110_call ?_, e3, resE _ (by omega)⟩
        rw [F110_eq]
        simp (maxSteps := 1000000) (disch := omega) only [gG, nil_ptr, shift_ptr, shift_pptr, Nat.zero_add, Nat.add_zero, pureFn_fn, List.append_nil, List.singleton_append, List.cons_append, List.nil_append, fa153_0, fa153_1, fa153_2, fa153_3, load9, load3, load23, l2, b_neq, eqT (rfl : (-1 : Int) = -1), l1, l0, str_len, b_eql, eqF hpe, ix, u8_eq, eqF c1, eqF c2, eqF c3, eqF c4, eqF c5, eqF c6, plainFn, e1]
end
theorem bld153 (s : ByteArray) : build PP 153 [(0, .p (.str s)), (2, .p (.int .i64 (-1)))] = some (.agg [.p (.str s), .p (pI 0), .p (pI (-1)), .p .nilsl]) := Eq.trans (by kernel_rfl) rfl
section
variable {σ : Store} {r : Nat} {s : ByteArray} {p : Nat} {b : Int} {fs : List Nd} {fv : DV} {lo : Nat}
theorem J50e (h : Rdr σ r s p b fs fv) (hb : b ≠ -1) (x0 x2 x3 x4 x7 x8 x9 x10 x11 x12 x13 x14 x15 x16 x17 x18 x19 x20 x21 x22 x23 x24 x25 x26 x27 x28 x29 x30 : DV) :
    f50_J0 guardT lo x0 x2 x3 x4 (.ptr r 0) x7 x8 x9 x10 x11 x12 x13 x14 x15 x16 x17 x18 x19 x20 x21 x22 x23 x24 x25 x26 x27 x28 x29 x30 σ = some (.tuple [.p .nilsl, .p (.int .i64 b), .p (pI 8)], σ) := by
  have l2 := h.l2
  rw [f50_J0_eq]
  simp (disch := omega) only [gG, nil_ptr, shift_ptr, shift_pptr, Nat.zero_add, Nat.add_zero, pureFn_fn, List.append_nil, List.singleton_append, List.cons_append, List.nil_append, fa153_0, fa153_1, fa153_2, fa153_3, load9, load3, load23, l2, b_neq, eqF hb]
theorem J50o (h : Rdr σ r s p (-1) fs fv) (hf : FSm (oF fs)) (x2 x3 x4 x7 x8 x9 x10 x11 x12 x13 x14 x15 x16 x17 x18 x19 x20 x21 x22 x23 x24 x25 x26 x27 x28 x29 x30 : DV) :
    f50_J0 guardT lo (.p (.str s)) x2 x3 x4 (.ptr r 0) x7 x8 x9 x10 x11 x12 x13 x14 x15 x16 x17 x18 x19 x20 x21 x22 x23 x24 x25 x26 x27 x28 x29 x30 σ = some (if (chk fs).2 = 0 then .tuple [fv, N s.size, .p (pI 0)] else .tuple [.p .nilsl, .p (pI 0), .p (pI (chk fs).2)], σ) := by
  have l2 := h.l2
  have l3 := h.l3
  have q : pureV CC 25 [fv] σ = some (.p (.int .i64 (chk fs).2)) := by
    rw [pureV_view (args' := [.p (eFm (oF fs))]) (by simp only [List.map_cons, List.map_nil, h.vw]) (by simp only [List.map_cons, List.map_nil, fm_view]), S25 hf, L_oF]
  rw [f50_J0_eq]
  by_cases c : (chk fs).2 = 0
  · rw [if_pos c]
    simp (disch := omega) only [gG, nil_ptr, shift_ptr, shift_pptr, Nat.zero_add, Nat.add_zero, pureFn_fn, List.append_nil, List.singleton_append, List.cons_append, List.nil_append, fa153_0, fa153_1, fa153_2, fa153_3, load9, load3, load23, l2, b_neq, eqT (rfl : (-1 : Int) = -1), l3, q, eqT c, str_len, N]
  · rw [if_neg c]
    simp (disch := omega) only [gG, nil_ptr, shift_ptr, shift_pptr, Nat.zero_add, Nat.add_zero, pureFn_fn, List.append_nil, List.singleton_append, List.cons_append, List.nil_append, fa153_0, fa153_1, fa153_2, fa153_3, load9, load3, load23, l2, b_neq, eqT (rfl : (-1 : Int) = -1), l3, q, eqF c]
end
theorem S50 (s : ByteArray) (σ : Store) : pureV CC 50 [.p (.str s)] σ = some (rdA s) := by
  unfold rdA
  by_cases c : s.size > 400
  · have c' : ((s.size : Nat) : Int) > 400 := by omega
    rw [if_pos c]
    refine pureV_free rfl rfl (F50_call (r := (.tuple [.p .nilsl, .p (pI 0), .p (pI 2)], [])) ?_) rfl
    rw [F50_eq]
    simp only [gG, str_len, b_gtr, gtT c']
  have c' : ¬ ((s.size : Nat) : Int) > 400 := by omega
  rw [if_neg c, ← fin_eq]
  have hP : Plc s 0 (bs s) := ⟨by omega, Nat.zero_le _, rfl⟩
  have hb := bs_len s
  obtain ⟨v, σ1, a1, a2, a3⟩ := goes110 (s.size + 1) 0 0 0 (bs s) [] (.p .nilsl) _ (Rdr.new s) hP (by omega) (by simp only [List.length_nil]; omega) (Nat.le_refl 0)
  cases hpr : prs true (s.size + 1) (bs s) [] with
  | err e =>
    rw [hpr] at a3
    obtain ⟨p, fs, fv, h1, h2, h3⟩ := a3
    have hne : ((s.size - e.length : Nat) : Int) ≠ -1 := by omega
    have e0 : fin s.size (.err e) = (none, s.size - e.length) := rfl
    rw [e0]
    have l2 := h1.l2
    refine pureV_free rfl rfl (F50_call (r := (.tuple [.p .nilsl, N (s.size - e.length), .p (pI 8)], σ1)) ?_) rfl
    rw [F50_eq]
    simp only [gG, nil_ptr, shift_ptr, shift_pptr, Nat.zero_add, Nat.add_zero, pureFn_fn, List.append_nil, List.singleton_append, List.cons_append, List.nil_append, fa153_0, fa153_1, fa153_2, fa153_3, load9, load3, load23, str_len, b_gtr, gtF c', bld153, box_rd, List.length_nil, plainFn, a1, l2, b_eql, eqF hne]
    exact J50e h1 hne _ _ _ _ _ _ _ _ _ _ _ _ _ _ _ _ _ _ _ _ _ _ _ _ _ _ _ _
  | ok e fs =>
    rw [hpr] at a3
    have ln := prs_ln true (s.size + 1) (bs s) []
    have ar := prs_ar true (s.size + 1) (bs s) [] (fun x hx => absurd hx (by simp))
    rw [hpr] at ln ar
    obtain ⟨n1, n2, n3⟩ := ln
    simp only [List.length_nil] at n2 n3
    obtain ⟨h1, h2, fv, h3⟩ := a3
    have l1 := h3.l1
    have l2 := h3.l2
    by_cases ce : e = []
    · subst ce
      have e0 : fin s.size (.ok [] fs) = (some fs, 0) := rfl
      rw [e0]
      have hne : fs ≠ [] := fun hh => by rw [hh] at n2; simp at n2
      have eo : oF fs = some fs := by unfold oF; rw [if_neg hne]
      have hf := fsm_of (fs := fs) (by omega) ar
      have tw := h3.tw 0
      rw [eo] at tw
      have cp' : ¬ ((s.size - 0 : Nat) : Int) < (s.size : Nat) := by omega
      have run : CC 0 50 [.p (.str s)] [] = some (if (chk fs).2 = 0 then .tuple [fv, N s.size, .p (pI 0)] else .tuple [.p .nilsl, .p (pI 0), .p (pI (chk fs).2)], σ1) := by
        refine F50_call ?_
        rw [F50_eq]
        simp only [gG, nil_ptr, shift_ptr, shift_pptr, Nat.zero_add, Nat.add_zero, pureFn_fn, List.append_nil, List.singleton_append, List.cons_append, List.nil_append, fa153_0, fa153_1, fa153_2, fa153_3, load9, load3, load23, str_len, b_gtr, gtF c', bld153, box_rd, List.length_nil, plainFn, a1, l2, l1, b_eql, eqT (rfl : (-1 : Int) = -1), b_lss, ltF cp']
        exact J50o h3 hf _ _ _ _ _ _ _ _ _ _ _ _ _ _ _ _ _ _ _ _ _ _ _ _ _ _ _
      refine pureV_free rfl rfl run ?_
      by_cases cc : (chk fs).2 = 0
      · rw [if_pos cc]
        simp only [cc, if_true, thawAll, mapO]
        have : ∀ m σ, thawPart m σ fv = thaw m σ fv := fun m σ => by
          have := h3.one
          cases fv <;> first | rfl | (exfalso; simp [DV.one] at this; done)
        rw [this, tw]
        rfl
      · rw [if_neg cc]
        simp only [cc, if_false]
        rfl
    · have e0 : fin s.size (.ok e fs) = (none, s.size - e.length) := by
        show (if e = [] then _ else _) = _
        rw [if_neg ce]
      rw [e0]
      have hpos : 0 < e.length := List.length_pos_iff.2 ce
      have hlen := h2.len
      obtain ⟨σ2, c1, c2, c3⟩ := C111 h3 (Nat.le_refl 0)
      rw [if_pos rfl] at c2
      have hne : ((s.size - e.length : Nat) : Int) ≠ -1 := by omega
      have cp' : ((s.size - e.length : Nat) : Int) < (s.size : Nat) := by omega
      refine pureV_free rfl rfl (F50_call (r := (.tuple [.p .nilsl, N (s.size - e.length), .p (pI 8)], σ2)) ?_) rfl
      rw [F50_eq]
      simp only [gG, nil_ptr, shift_ptr, shift_pptr, Nat.zero_add, Nat.add_zero, pureFn_fn, List.append_nil, List.singleton_append, List.cons_append, List.nil_append, fa153_0, fa153_1, fa153_2, fa153_3, load9, load3, load23, str_len, b_gtr, gtF c', bld153, box_rd, List.length_nil, plainFn, a1, l2, l1, b_eql, eqT (rfl : (-1 : Int) = -1), b_lss, ltT cp', c1]
      exact J50e c2 hne _ _ _ _ _ _ _ _ _ _ _ _ _ _ _ _ _ _ _ _ _ _ _ _ _ _ _ _
end Go.D
end
/- Chapter 13: LassoGuards' law. -/
section
set_option linter.unusedVariables false
set_option linter.unusedSimpArgs false
set_option maxRecDepth 8000
namespace Go.D
open Las
theorem ex20 (a b : DV) : extractV (.tuple [a, b]) 0 = some a := rfl
theorem ex21 (a b : DV) : extractV (.tuple [a, b]) 1 = some b := rfl
end Go.D
end
/- Chapter 13: the same formula; LassoFormulas' law. -/
section
set_option linter.unusedVariables false
set_option linter.unusedSimpArgs false
set_option maxRecDepth 8000
namespace Go.D
open Las
structure Ag (F G : List Nd) : Prop where
  len : F.length = G.length
  k : ∀ i, (F.getD i default).k = (G.getD i default).k
  n : ∀ i, (F.getD i default).n = (G.getD i default).n
  a : ∀ i, L (F.getD i default).a = L (G.getD i default).a
theorem Ag.refl (F : List Nd) : Ag F F := ⟨rfl, fun _ => rfl, fun _ => rfl, fun _ => rfl⟩
section
variable {F G : List Nd} (h : Ag F G)
include h
theorem Ag.nA (i : Nat) : nA F i = nA G i := h.a i
theorem Ag.foK : ∀ (k r : Nat), foK F k r = foK G k r
  | 0, r => rfl
  | k + 1, r => by
    unfold Las.foK
    rw [h.nA]
    split
    · rfl
    · rw [Ag.foK k]
theorem Ag.foI (r : Int) : foI F r = foI G r := by unfold Las.foI fo; rw [h.foK]
theorem Ag.stB (us : List Int) : ∀ (k : Nat) (x : Int), stB F us x k = stB G us x k
  | 0, x => rfl
  | k + 1, x => by unfold Las.stB; rw [h.foI, Ag.stB us k]
theorem Ag.chkF : ∀ (d i : Nat), chkF F d i = chkF G d i
  | 0, i => by unfold Las.chkF fo; rw [h.len, h.foK]
  | d + 1, i => by
    have hb : bad (F.getD i default) = bad (G.getD i default) := by unfold bad; rw [h.k, h.n]
    unfold Las.chkF stands
    rw [h.nA, h.stB, hb, h.k, Ag.chkF d]
theorem Ag.chk : chk F = chk G := by unfold Las.chk; rw [h.len, h.chkF]
theorem Ag.tx : ∀ (k i : Nat), tx F k i = tx G k i
  | 0, i => rfl
  | k + 1, i => by
    rw [tx_eq, tx_eq, h.nA, h.k, h.n]
    simp only [Ag.tx k]
theorem Ag.tX (i : Nat) : tX F i = tX G i := h.tx (i + 1) i
end
theorem ag_own (F : List Nd) : Ag (F.map ownN) F := ⟨by rw [List.length_map], fun i => (own_get F i).2.1, fun i => (own_get F i).2.2, fun i => (own_get F i).1⟩
theorem ag_nm (F : List Nd) : Ag (F.map nmN) F := by
  have key : ∀ i, ((F.map nmN).getD i default).k = (F.getD i default).k ∧ ((F.map nmN).getD i default).n = (F.getD i default).n ∧ L ((F.map nmN).getD i default).a = L (F.getD i default).a := fun i => by
    rw [List.getD_eq_getElem?_getD, List.getD_eq_getElem?_getD, List.getElem?_map]
    cases F[i]? with
    | none => exact ⟨rfl, rfl, rfl⟩
    | some x =>
      refine ⟨rfl, rfl, ?_⟩
      show L (if L x.a = [] then none else some (L x.a)) = L x.a
      by_cases c : L x.a = []
      · rw [if_pos c, c]; rfl
      · rw [if_neg c]; rfl
  exact ⟨by rw [List.length_map], fun i => (key i).1, fun i => (key i).2.1, fun i => (key i).2.2⟩
theorem Ag.sm {f g : Fm} (h : Ag (L f) (L g)) (hg : FSm g) : FSm f := ⟨by rw [h.len]; exact hg.1, fun i => by rw [h.nA]; exact hg.2 i⟩
section
variable {f g : Fm} (hf : FSm f) (h : Ag (L f) (L g))
include hf h
theorem L49 : ∀ (d i : Nat), (L f).length - i = d → i ≤ (L f).length → f49_L0 guardT 0 (.p (eFm f)) (.p (eFm g)) (N i) [] = some (.p (.bool true), [])
  | 0, i, hd, hi => by
    have h1 := hf.1
    rw [f49_L0_eq guardT rfl]
    simp (disch := omega) only [N, gG, shift_ptr, shift_pptr, Nat.zero_add, Nat.add_zero, pureFn_fn, List.append_nil, List.singleton_append, List.cons_append, List.nil_append, fa67_0, fa67_1, fa67_2, load67, load3, load24, load9, len23, b_lss, ltF]
  | d + 1, i, hd, hi => by
    have h1 := hf.1
    have hlt : i < (L f).length := by omega
    have hlg : i < (L g).length := by rw [← h.len]; exact hlt
    have IH := L49 d (i + 1) (by omega) (by omega)
    simp only [N] at IH
    have q : ∀ σ, pureV CC 80 [.p (eSl ((L f).getD i default).a), .p (eSl ((L g).getD i default).a)] σ = some (.p (.bool true)) := fun σ => by
      have := hf.2 i
      rw [S80 (show (L ((L f).getD i default).a).length ≤ 100000 by have : (nA (L f) i).length ≤ 1000 := hf.2 i; exact Nat.le_trans this (by decide)), decide_eq_true (h.a i)]
    have kf := nd_k hlt
    have nf := nd_n hlt
    have af := nd_a hlt
    have kg := nd_k hlg
    have ng := nd_n hlg
    have ag := nd_a hlg
    have ek := h.k i
    have en := h.n i
    rw [f49_L0_eq guardT rfl]
    simp (disch := omega) only [N, gG, shift_ptr, shift_pptr, Nat.zero_add, Nat.add_zero, pureFn_fn, List.append_nil, List.singleton_append, List.cons_append, List.nil_append, fa67_0, fa67_1, fa67_2, load67, load3, load24, load9, len23, b_lss, ltT, idx23 hlt, idx23 hlg, kf, kg, b_neq, eqT ek, nf, ng, eqT en, af, ag, q, add1, IH]
theorem S49 (σ : Store) : pureV CC 49 [.p (eFm f), .p (eFm g)] σ = some (.p (.bool true)) := by
  refine pureV_free (by simp [fm_view]) rfl (F49_call (r := (.p (.bool true), [])) ?_) rfl
  have l := L49 hf h _ 0 rfl (Nat.zero_le _)
  simp only [N] at l
  rw [F49_eq]
  simp only [gG, shift_ptr, shift_pptr, Nat.zero_add, Nat.add_zero, pureFn_fn, List.append_nil, List.singleton_append, List.cons_append, List.nil_append, fa67_0, fa67_1, fa67_2, load67, load3, load24, load9, len23, N, b_neq, eqT (show (((L f).length : Nat) : Int) = ((L g).length : Nat) by rw [h.len])]
  exact l
end
theorem rdA_form (s : ByteArray) : ∃ (m : Fm) (n : Nat) (e : Int), rdA s = .tuple [.p (eFm m), .p (.int .i64 (n : Nat)), .p (.int .i64 e)] ∧ FSm m := by
  have fn : FSm none := ⟨Nat.zero_le _, fun i => Nat.zero_le _⟩
  unfold rdA
  by_cases c : s.size > 400
  · rw [if_pos c]; exact ⟨none, 0, 2, rfl, fn⟩
  rw [if_neg c]
  have ln := prs_ln false (s.size + 1) (bs s) []
  have ar := prs_ar false (s.size + 1) (bs s) [] (fun x hx => absurd hx (by simp))
  have hb := bs_len s
  cases hpr : prs false (s.size + 1) (bs s) [] with
  | err e => exact ⟨none, s.size - e.length, 8, rfl, fn⟩
  | ok e fs =>
    rw [hpr] at ln ar
    obtain ⟨n1, n2, n3⟩ := ln
    simp only [List.length_nil] at n2 n3
    by_cases ce : e = []
    · subst ce
      have e0 : fin s.size (.ok [] fs) = (some fs, 0) := rfl
      rw [e0]
      have hne : fs ≠ [] := fun hh => by rw [hh] at n2; simp at n2
      have eo : oF fs = some fs := by unfold oF; rw [if_neg hne]
      have hf := fsm_of (fs := fs) (by omega) ar
      rw [eo] at hf
      by_cases cc : (chk fs).2 = 0
      · exact ⟨some fs, s.size, 0, by simp only [cc, if_true]; rfl, hf⟩
      · exact ⟨none, 0, (chk fs).2, by simp only [cc, if_false]; rfl, fn⟩
    · have e0 : fin s.size (.ok e fs) = (none, s.size - e.length) := by
        show (if e = [] then _ else _) = _
        rw [if_neg ce]
      rw [e0]
      exact ⟨none, s.size - e.length, 8, rfl, fn⟩
theorem rdA_tX {F : List Nd} (hk : Ok F) {t : ByteArray} (ht : bs t = tX F (F.length - 1)) (hs : t.size ≤ 400) : rdA t = .tuple [.p (eFm (some (F.map nmN))), .p (.int .i64 (t.size : Nat)), .p (.int .i64 0)] := by
  unfold rdA
  rw [if_neg (by omega), ht, prs_all hk (t.size + 1) (by rw [← ht, bs_len]; omega)]
  have e0 : fin t.size (.ok [] (F.map nmN)) = (some (F.map nmN), 0) := rfl
  rw [e0]
  have hc : (chk (F.map nmN)).2 = 0 := by rw [(ag_nm F).chk]; exact ok_chk hk
  simp only [hc, if_true]
  rfl
theorem J8 (s : ByteArray) (x0 x4 x5 x6 x7 x8 x9 x10 x11 x12 x13 x14 x20 x21 x22 x23 x24 x25 x26 x27 x28 x29 x30 x31 x32 x33 x34 x35 x36 x37 x38 x39 x40 x41 x42 x43 x44 x45 x46 x47 x48 x49 x50 x51 x52 x53 x54 x55 x56 x57 x58 x59 x60 x61 x62 x63 x64 x65 x66 x67 x68 x69 x70 x71 x72 x73 x74 x75 x76 x77 x78 x79 x80 x81 x82 x83 x84 x85 x86 x87 x88 x89 x90 x91 x92 x93 x94 x95 x96 : DV) (σ : Store) :
    f8_J0 guardT 0 x0 (.p (.str s)) x4 x5 x6 x7 x8 x9 x10 x11 x12 x13 x14 x20 x21 x22 x23 x24 x25 x26 x27 x28 x29 x30 x31 x32 x33 x34 x35 x36 x37 x38 x39 x40 x41 x42 x43 x44 x45 x46 x47 x48 x49 x50 x51 x52 x53 x54 x55 x56 x57 x58 x59 x60 x61 x62 x63 x64 x65 x66 x67 x68 x69 x70 x71 x72 x73 x74 x75 x76 x77 x78 x79 x80 x81 x82 x83 x84 x85 x86 x87 x88 x89 x90 x91 x92 x93 x94 x95 x96 σ = some (.p (.bool true), σ) := by
  obtain ⟨m, n, e, h1, h2⟩ := rdA_form s
  have t0 : ∀ a b c : DV, extractV (.tuple [a, b, c]) 0 = some a := fun a b c => rfl
  have t1 : ∀ a b c : DV, extractV (.tuple [a, b, c]) 1 = some b := fun a b c => rfl
  have t2 : ∀ a b c : DV, extractV (.tuple [a, b, c]) 2 = some c := fun a b c => rfl
  have q1 := S48 s
  have q2 := S50 s
  rw [h1] at q1 q2
  have q3 := fun σ => S49 h2 (Ag.refl _) σ
  rw [f8_J0_eq]
  simp (maxSteps := 1000000) only [gG, shift_ptr, shift_pptr, Nat.zero_add, Nat.add_zero, pureFn_fn, List.append_nil, List.singleton_append, List.cons_append, List.nil_append, fa67_0, fa67_1, fa67_2, load67, load3, load24, load9, q1, q2, t0, t1, t2, b_eql, eqT (rfl : e = e), eqT (rfl : ((n : Nat) : Int) = (n : Nat)), q3]
theorem call8 (f : Fm) (s : ByteArray) : ∃ σ', CC 0 8 [.p (eFm f), .p (.str s)] [] = some (.p (.bool true), σ') := by
  have haw := awake_true
  obtain ⟨b, b1, b2⟩ := S13 f []
  refine ⟨[], F8_call ?_⟩
  rw [F8_eq]
  cases b with
  | false => simp only [gG, shift_ptr, shift_pptr, Nat.zero_add, Nat.add_zero, pureFn_fn, List.append_nil, List.singleton_append, List.cons_append, List.nil_append, fa67_0, fa67_1, fa67_2, load67, load3, load24, load9, haw _, b1]
  | true =>
    have hf := b2 rfl
    by_cases h420 : ((s.size : Nat) : Int) > 420
    · simp only [gG, shift_ptr, shift_pptr, Nat.zero_add, Nat.add_zero, pureFn_fn, List.append_nil, List.singleton_append, List.cons_append, List.nil_append, fa67_0, fa67_1, fa67_2, load67, load3, load24, load9, haw _, b1, str_len, b_gtr, gtT h420]
    · have ag := ag_own (L f)
      have q44 := fun σ => S44 hf.own σ
      simp only [L_oF, ag.chk, pr2] at q44
      have q46 := fun σ => S46 hf σ
      simp only [pr2] at q46
      by_cases hc : (chk (L f)).2 = 0
      · have hk := chk_ok hc
        have hkO : Ok (L (oF ((L f).map ownN))) := by rw [L_oF]; exact chk_ok (by rw [ag.chk]; exact hc)
        have hpos := hk.pos
        have hle := hk.le
        obtain ⟨t, t1, t2⟩ := S47 hf hk _ ((L f).length - 1) (Nat.lt_succ_self _) (by omega)
        obtain ⟨t', t3, t4⟩ := S45 hf.own hkO
        rw [L_oF, List.length_map, ag.tX, ← t1] at t3
        obtain rfl := bs_inj t3
        simp only [N] at t2
        have ln := fun σ => len23 f σ
        simp only [N] at ln
        by_cases h400 : t'.size ≤ 400
        · have h400' : ((t'.size : Nat) : Int) ≤ 400 := by omega
          have q48 := S48 t'
          rw [rdA_tX hk t1 h400] at q48
          have an := ag_nm (L f)
          have q49 := fun σ => S49 (f := some ((L f).map nmN)) (g := f) (Ag.sm (f := some ((L f).map nmN)) an hf) an σ
          have t0 : ∀ a b c : DV, extractV (.tuple [a, b, c]) 0 = some a := fun a b c => rfl
          have t1 : ∀ a b c : DV, extractV (.tuple [a, b, c]) 1 = some b := fun a b c => rfl
          have t2' : ∀ a b c : DV, extractV (.tuple [a, b, c]) 2 = some c := fun a b c => rfl
          simp (maxSteps := 1000000) (disch := omega) only [gG, shift_ptr, shift_pptr, Nat.zero_add, Nat.add_zero, pureFn_fn, List.append_nil, List.singleton_append, List.cons_append, List.nil_append, fa67_0, fa67_1, fa67_2, load67, load3, load24, load9, haw _, b1, str_len, b_gtr, gtF h420, S19 hf, q44, t4, q46, ex20, ex21, b_neq, eqT (rfl : (chk (L f)).2 = (chk (L f)).2), eqT (rfl : (chk (L f)).1 = (chk (L f)).1), hc, eqT (rfl : (0 : Int) = 0), ln, sub1, t2, str_ne, q48, t0, t1, t2', b_leq, leT h400', eqT (rfl : ((t'.size : Nat) : Int) = (t'.size : Nat)), q49, J8]
        · have h400' : ¬ ((t'.size : Nat) : Int) ≤ 400 := by omega
          have q48 := S48 t'
          have e48 : rdA t' = .tuple [.p .nilsl, .p (pI 0), .p (pI 2)] := by unfold rdA; rw [if_pos (by omega)]
          rw [e48] at q48
          have t0 : ∀ a b c : DV, extractV (.tuple [a, b, c]) 0 = some a := fun a b c => rfl
          have t1 : ∀ a b c : DV, extractV (.tuple [a, b, c]) 1 = some b := fun a b c => rfl
          have t2' : ∀ a b c : DV, extractV (.tuple [a, b, c]) 2 = some c := fun a b c => rfl
          simp (maxSteps := 1000000) (disch := omega) only [gG, shift_ptr, shift_pptr, Nat.zero_add, Nat.add_zero, pureFn_fn, List.append_nil, List.singleton_append, List.cons_append, List.nil_append, fa67_0, fa67_1, fa67_2, load67, load3, load24, load9, haw _, b1, str_len, b_gtr, gtF h420, S19 hf, q44, t4, q46, ex20, ex21, b_neq, eqT (rfl : (chk (L f)).2 = (chk (L f)).2), eqT (rfl : (chk (L f)).1 = (chk (L f)).1), hc, eqT (rfl : (0 : Int) = 0), ln, sub1, t2, str_ne, q48, t0, t1, t2', b_leq, leF h400', J8]
      · have hcO : (chk (L (oF ((L f).map ownN)))).2 ≠ 0 := by rw [L_oF, ag.chk]; exact hc
        have q45 := fun σ => S45e hf.own hcO σ
        simp only [L_oF, ag.chk] at q45
        simp (maxSteps := 1000000) (disch := omega) only [gG, shift_ptr, shift_pptr, Nat.zero_add, Nat.add_zero, pureFn_fn, List.append_nil, List.singleton_append, List.cons_append, List.nil_append, fa67_0, fa67_1, fa67_2, load67, load3, load24, load9, haw _, b1, str_len, b_gtr, gtF h420, S19 hf, q44, q45, q46, ex20, ex21, b_neq, eqT (rfl : (chk (L f)).2 = (chk (L f)).2), eqT (rfl : (chk (L f)).1 = (chk (L f)).1), eqF hc, str_ne, J8]
end Go.D
end
/- LassoFormulas: for every formula and every string the law answers true and leaves its arguments as they were: the given tied card, without further conditions. -/
section
set_option linter.unusedVariables false
set_option linter.unusedSimpArgs false
set_option maxRecDepth 100000
namespace Go.D
open Go.ChangeShapes Go.WideShapes Go.ChangeAt Go.RowKit

theorem lassoFormulas_calls {H : Type} {enc : TypeId × Value → H} {W : World} {base : Nat} {args : Array Value} {ds : List (DataW H)} {ps : List MemPlace}
    (hval : ∀ (j : Nat) t v, ([23, 9] : List TypeId).toArray[j]? = some t → args[j]? = some v → Value.okWide PP W .any base t v)
    (hA : DataW.TrodAll enc PP W 0 (fun _ => true) true [23, 9] args.toList ds ps) :
    Calls PP 8 args W fun e W' => e = .returned (.bool true) ∧ Below W.heap.size W W' := by
  obtain ⟨v0, v1, d0, d1, p0, p1, rfl, rfl, rfl, h0, h1⟩ := trodAll_two hA
  obtain ⟨o0, ho0⟩ := read_fm (hval 0 23 v0 rfl rfl) h0
  obtain ⟨o1, ho1⟩ := read_str (hval 1 9 v1 rfl rfl) h1
  obtain ⟨σ', hc⟩ := call8 o0 o1
  refine calls_of hc ⟨rfl, fun j h1 h2 => ?_⟩
  match j, h1 with
  | 0, _ => exact ho0
  | 1, _ => exact ho1

end Go.D
namespace Go.Proofs.YtpacancmcjbckaaGreatDoor
open Go.D Go.ChangeShapes Go.WideShapes Go.ChangeAt Go.RowKit

set_option maxRecDepth 100000 in
theorem lassoFormulas_lifted (os : Os) (started : os.Started) (H : Type) (enc : TypeId × Value → H) :
    ReturnsInHanded {} Tryz.checked os 8 .any (fun w args => (Rows.lassoFormulasSpec.pre enc Tryz.prog Tryz.f8 [] false w args ∧ laidMetH Tryz.prog Rows.lassoFormulasRow.laid w) ∧ sizedMet enc Tryz.prog Tryz.f8 (OpenSpec.ofChange Rows.lassoFormulasSpec) false w args)
      (Rows.lassoFormulasSpec.post enc Tryz.prog Tryz.f8 false true false false) := by
  refine returnsInHanded_of_change_and (C := Tryz.checked) (X := fun w _ => laidMetH Tryz.prog Rows.lassoFormulasRow.laid w) (fun _ _ _ hh h => h.of_heap hh) own_ok started (by kernel_rfl) Tryz.func8
    (ChangeSpec.witness_at (enc := enc) (C := Tryz.checked) (os := os) (X := fun w _ => laidMetH Tryz.prog Rows.lassoFormulasRow.laid w) false (laidW os) #[.slice none 0 0, .string ⟨#[]⟩] 8 (World.laidAll_os _ _ _) (by kernel_rfl) (by kernel_rfl) (by kernel_rfl) (by kernel_rfl) (by kernel_rfl) (laidW_met os _)) ?_
  intro W base args ds gs before hval0 hW _ _ _ _
  have hval : ∀ (j : Nat) t v, Tryz.f8.params[j]? = some t → args[j]? = some v → Value.okWide Tryz.prog W .any base t v := hval0
  have hW' := hW
  obtain ⟨p, q, hA0, hV, rfl, _, _⟩ := hW
  have hA : DataW.TrodAll enc Tryz.prog W 0 (fun _ => true) true Tryz.f8.params.toList args.toList ds p := hA0
  rw [Tryz.params8] at hA hval
  have hA2 := hA
  obtain ⟨v0, v1, d0, d1, p0, p1, rfl, rfl, rfl, h0, h1⟩ := trodAll_two hA
  obtain ⟨rfl, rfl⟩ := trodVars_none hV
  have hlt : ∀ x ∈ p0 ++ p1, x.block < W.heap.size := fun x hx => by
    have := hW'.lt x (by simpa using hx)
    exact this
  have e0 : ∀ x ∈ p0, x.block < W.heap.size := fun x hx => hlt x (List.mem_append_left _ hx)
  have e1 : ∀ x ∈ p1, x.block < W.heap.size := fun x hx => hlt x (List.mem_append_right _ hx)
  refine (lassoFormulas_calls (base := base) hval hA2).mono ?_
  rintro e W2 ⟨rfl, hnx⟩
  refine ⟨_, rfl, _, _, _, [], p0 ++ p1, [], hW', ?_, ?_, rfl, hnx.frame _, fun h => by cases h⟩
  · exact trodAll_mk1 (shut_bool ul4 true)
  · exact trodAll_mk2 (Below.trod laidOut_ok (by kernel_rfl) (of_decide_eq_true (by kernel_rfl)) h0 hnx e0) (Below.trod laidOut_ok (by kernel_rfl) (of_decide_eq_true (by kernel_rfl)) h1 hnx e1)

theorem lassoFormulas_row : Rows.LassoFormulasSaid :=
  OpenClaim.holds_of_wide 8 Tryz.f8 rfl rfl rfl rfl rfl rfl rfl ⟨rfl, rfl, rfl, rfl, rfl⟩ rfl rfl rfl rfl rfl (by kernel_rfl) Tryz.func8 (by kernel_rfl)
    (of_decide_eq_true (by kernel_rfl)) (by unfold Func.isWrapper; first | (rw [if_pos (by decide +kernel)]; kernel_rfl) | (rw [if_neg (by decide +kernel)]; exact ⟨rfl, rfl⟩))
    (fun os started H enc _ => lassoFormulas_lifted os started H enc)

theorem lassoFormulas_holds : Rows.LassoFormulasCardSaid :=
  Claim7.holds_tied_plain_at .later [] [.data, .data, .data, .sentinel, .sentinel] true (true, "98bef7c5375844f969da89516d037819b1a57239a7494585b2bb93910f3c950f") true
    lassoFormulas_row (fun _ h => by cases h) (by kernel_rfl) (fun _ h => by cases h) lassoFormulas_row_tie rfl ⟨rfl, rfl⟩ (by kernel_rfl) rfl
    (fun f fn hf hfn => by
      obtain rfl : f = 8 := Option.some.inj ((show Tryz.prog.funcNamed "stutter/stutterlaw13.LassoFormulas" = some 8 by kernel_rfl).symm.trans hf) |>.symm
      obtain rfl : fn = Tryz.f8 := (Option.some.inj (Tryz.func8.symm.trans hfn)).symm
      refine ⟨by kernel_rfl, fun j t ht => ?_⟩
      have hall : (Tryz.f8.params.toList.all fun t => Tryz.prog.wantsStandIn t == false) = true := by kernel_rfl
      have hm : t ∈ Tryz.f8.params.toList := by
        have := Array.mem_of_getElem? ht
        exact this.val
      exact eq_of_beq (List.all_eq_true.1 hall t hm))
    (by kernel_rfl)

end Go.Proofs.YtpacancmcjbckaaGreatDoor
end
