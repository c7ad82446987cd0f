/- Sorting in place, in plain terms: what the library's pdqsort does to a list, step by step, and that it sorts. -/
import Derived.Test.YtkpdgafinpedgaaGreatQa
import Derived.Test.YtkpdgafinpedgaaGreatQc
section
set_option linter.unusedVariables false
set_option linter.unusedSimpArgs false
namespace Go.D.Srt
variable {E : Type} [Inhabited E]
abbrev ge (A : List E) (i : Nat) : E := A.getD i default
def swp (A : List E) (i j : Nat) : List E := (A.set i (ge A j)).set j (ge A i)
theorem ge_set {A : List E} {i j : Nat} {v : E} (h : i < A.length) : ge (A.set i v) j = if i = j then v else ge A j := by
  unfold ge
  rw [List.getD_eq_getElem?_getD, List.getD_eq_getElem?_getD]
  by_cases e : i = j
  · subst e; rw [List.getElem?_set_self h, if_pos rfl]; rfl
  · rw [List.getElem?_set_ne e, if_neg e]
theorem swp_len (A : List E) (i j : Nat) : (swp A i j).length = A.length := by simp [swp]
theorem ge_swp {A : List E} {i j : Nat} (hi : i < A.length) (hj : j < A.length) (k : Nat) : ge (swp A i j) k = if k = j then ge A i else if k = i then ge A j else ge A k := by
  unfold swp
  rw [ge_set (by rw [List.length_set]; exact hj)]
  by_cases e : j = k
  · rw [if_pos e, if_pos e.symm]
  · rw [if_neg e, if_neg (fun h => e h.symm), ge_set hi]
    by_cases e2 : i = k
    · rw [if_pos e2, if_pos e2.symm]
    · rw [if_neg e2, if_neg (fun h => e2 h.symm)]
theorem swp_perm {A : List E} {i j : Nat} (hi : i < A.length) (hj : j < A.length) : (swp A i j).Perm A := by
  have e1 : ge A j = A[j] := by unfold ge; rw [List.getD_eq_getElem?_getD, List.getElem?_eq_getElem hj]; rfl
  have e2 : ge A i = A[i] := by unfold ge; rw [List.getD_eq_getElem?_getD, List.getElem?_eq_getElem hi]; rfl
  unfold swp
  rw [e1, e2]
  exact List.set_set_perm hi hj
structure RP (a b : Nat) (A B : List E) : Prop where
  len : B.length = A.length
  out : ∀ i, i < a ∨ b ≤ i → ge B i = ge A i
  all : ∀ P : E → Prop, (∀ i, a ≤ i → i < b → P (ge A i)) → ∀ i, a ≤ i → i < b → P (ge B i)
  perm : B.Perm A
theorem RP.refl (a b : Nat) (A : List E) : RP a b A A := ⟨rfl, fun _ _ => rfl, fun _ h => h, List.Perm.refl _⟩
theorem RP.trans {a b : Nat} {A B C : List E} (h : RP a b A B) (h2 : RP a b B C) : RP a b A C :=
  ⟨h2.len.trans h.len, fun i hi => (h2.out i hi).trans (h.out i hi), fun P hp => h2.all P (h.all P hp), h2.perm.trans h.perm⟩
theorem RP.mono {a b a' b' : Nat} {A B : List E} (h : RP a b A B) (ha : a' ≤ a) (hb : b ≤ b') : RP a' b' A B := by
  refine ⟨h.len, fun i hi => h.out i (by omega), fun P hp i h1 h2 => ?_, h.perm⟩
  by_cases hin : a ≤ i ∧ i < b
  · exact h.all P (fun j g1 g2 => hp j (by omega) (by omega)) i hin.1 hin.2
  · rw [h.out i (by omega)]; exact hp i h1 h2
theorem RP.swap {a b i j : Nat} {A : List E} (hi : a ≤ i ∧ i < b) (hj : a ≤ j ∧ j < b) (hb : b ≤ A.length) : RP a b A (swp A i j) := by
  refine ⟨swp_len _ _ _, fun k hk => ?_, fun P hp k h1 h2 => ?_, swp_perm (by omega) (by omega)⟩
  · rw [ge_swp (by omega) (by omega), if_neg (by omega), if_neg (by omega)]
  · rw [ge_swp (by omega) (by omega)]
    split
    · exact hp i hi.1 hi.2
    · split
      · exact hp j hj.1 hj.2
      · exact hp k h1 h2
structure Ord (lt : E → E → Bool) : Prop where
  asym : ∀ x y, lt x y = true → lt y x = false
  trans : ∀ x y z, lt y x = false → lt z y = false → lt z x = false
omit [Inhabited E] in
theorem Ord.irr {lt : E → E → Bool} (h : Ord lt) (x : E) : lt x x = false := by
  cases e : lt x x with
  | false => rfl
  | true => have := h.asym x x e; rw [e] at this; exact absurd this (by decide)
def Sd (lt : E → E → Bool) (a b : Nat) (A : List E) : Prop := ∀ i j, a ≤ i → i < j → j < b → lt (ge A j) (ge A i) = false
section
variable {lt : E → E → Bool} (H : Ord lt)
def insIn (lt : E → E → Bool) (a : Nat) : Nat → List E → List E
  | 0, A => A
  | j + 1, A => if a < j + 1 ∧ lt (ge A (j + 1)) (ge A j) = true then insIn lt a j (swp A (j + 1) j) else A
def insOut (lt : E → E → Bool) (a : Nat) : Nat → Nat → List E → List E
  | 0, _, A => A
  | r + 1, i, A => insOut lt a r (i + 1) (insIn lt a i A)
theorem insIn_rp {a b : Nat} : ∀ (j : Nat) (A : List E), a ≤ j → j < b → b ≤ A.length → RP a b A (insIn lt a j A)
  | 0, A, ha, hb, hl => RP.refl _ _ _
  | j + 1, A, ha, hb, hl => by
    unfold insIn
    split
    · rename_i h
      exact (RP.swap ⟨by omega, by omega⟩ ⟨by omega, by omega⟩ hl).trans (insIn_rp j _ (by omega) (by omega) (by rw [swp_len]; exact hl))
    · exact RP.refl _ _ _
include H in
theorem insIn_sd {a i : Nat} : ∀ (j : Nat) (A : List E), a ≤ j → j ≤ i → i < A.length → (∀ p q, a ≤ p → p < q → q ≤ i → p ≠ j → q ≠ j → lt (ge A q) (ge A p) = false) → (∀ q, j < q → q ≤ i → lt (ge A q) (ge A j) = false) → Sd lt a (i + 1) (insIn lt a j A)
  | 0, A, ha, hj, hl, h1, h2 => by
    intro p q hp hpq hq
    by_cases e : p = 0
    · subst e; exact h2 q (by omega) (by omega)
    · exact h1 p q hp hpq (by omega) e (by omega)
  | j + 1, A, ha, hj, hl, h1, h2 => by
    unfold insIn
    split
    · rename_i h
      have g := fun k => ge_swp (A := A) (i := j + 1) (j := j) (by omega) (by omega) k
      refine insIn_sd j _ (by omega) (by omega) (by rw [swp_len]; exact hl) (fun p q hp hpq hq hpj hqj => ?_) (fun q hq hqi => ?_)
      · rw [g, g, if_neg hqj, if_neg hpj]
        by_cases e1 : q = j + 1
        · rw [if_pos e1, if_neg (by omega)]
          exact h1 p j hp (by omega) (by omega) (by omega) (by omega)
        · rw [if_neg e1]
          by_cases e2 : p = j + 1
          · rw [if_pos e2]
            exact h1 j q (by omega) (by omega) hq (by omega) e1
          · rw [if_neg e2]
            exact h1 p q hp hpq hq e2 e1
      · rw [g, g, if_neg (by omega), if_pos rfl]
        by_cases e1 : q = j + 1
        · rw [if_pos e1]; exact H.asym _ _ h.2
        · rw [if_neg e1]; exact h2 q (by omega) hqi
    · rename_i h
      intro p q hp hpq hq
      by_cases e1 : p = j + 1
      · subst e1; exact h2 q hpq (by omega)
      · by_cases e2 : q = j + 1
        · subst e2
          have hlt : lt (ge A (j + 1)) (ge A j) = false := by
            cases e : lt (ge A (j + 1)) (ge A j) with
            | false => rfl
            | true => exact absurd ⟨by omega, e⟩ h
          by_cases e3 : p = j
          · subst e3; exact hlt
          · exact H.trans _ _ _ (h1 p j hp (by omega) (by omega) e1 (by omega)) hlt
        · exact h1 p q hp hpq (by omega) e1 e2
include H in
theorem insIn_ok {a i : Nat} {A : List E} (ha : a ≤ i) (hl : i < A.length) (hs : Sd lt a i A) : Sd lt a (i + 1) (insIn lt a i A) :=
  insIn_sd H i A ha (Nat.le_refl _) hl (fun p q h1 h2 h3 h4 h5 => hs p q h1 h2 (by omega)) (fun q h1 h2 => by omega)
include H in
theorem insOut_ok {a b : Nat} : ∀ (r i : Nat) (A : List E), a ≤ i → i + r = b → b ≤ A.length → Sd lt a i A → RP a b A (insOut lt a r i A) ∧ Sd lt a b (insOut lt a r i A)
  | 0, i, A, ha, hr, hl, hs => ⟨RP.refl _ _ _, by rw [← hr]; exact hs⟩
  | r + 1, i, A, ha, hr, hl, hs => by
    have h1 := insIn_rp (lt := lt) (a := a) (b := b) i A ha (by omega) hl
    have h2 := insOut_ok (b := b) r (i + 1) (insIn lt a i A) (by omega) (by omega) (by rw [h1.len]; exact hl) (insIn_ok H (i := i) ha (show i < A.length by omega) hs)
    exact ⟨h1.trans h2.1, h2.2⟩
theorem insIn_low {a : Nat} : ∀ (j : Nat) (A : List E), a ≤ j → j < A.length → (0 < a → ∀ p, a ≤ p → p ≤ j → lt (ge A p) (ge A (a - 1)) = false) → insIn lt 0 j A = insIn lt a j A
  | 0, A, ha, hl, h => rfl
  | j + 1, A, ha, hl, h => by
    unfold insIn
    by_cases e : a = j + 1
    · subst e
      have := h (by omega) (j + 1) (Nat.le_refl _) (Nat.le_refl _)
      rw [show j + 1 - 1 = j by omega] at this
      rw [if_neg (by rw [this]; simp), if_neg (by omega)]
    · by_cases e2 : lt (ge A (j + 1)) (ge A j) = true
      · rw [if_pos ⟨by omega, e2⟩, if_pos ⟨by omega, e2⟩]
        refine insIn_low j _ (by omega) (by rw [swp_len]; omega) fun h0 p h1 h2 => ?_
        have g := fun k => ge_swp (A := A) (i := j + 1) (j := j) (by omega) (by omega) k
        rw [g, g, if_neg (show ¬ a - 1 = j by omega), if_neg (show ¬ a - 1 = j + 1 by omega)]
        split
        · exact h h0 (j + 1) (by omega) (Nat.le_refl _)
        · rw [if_neg (by omega)]; exact h h0 p h1 (by omega)
      · rw [if_neg (fun hh => e2 hh.2), if_neg (fun hh => e2 hh.2)]
def Hp (lt : E → E → Bool) (f lo hi : Nat) (A : List E) : Prop := ∀ i c, lo ≤ i → (c = 2 * i + 1 ∨ c = 2 * i + 2) → c < hi → lt (ge A (f + i)) (ge A (f + c)) = false
def sift (lt : E → E → Bool) (f hi : Nat) : Nat → Nat → List E → List E
  | 0, _, A => A
  | k + 1, root, A =>
    if hi ≤ 2 * root + 1 then A else
    let c := if 2 * root + 2 < hi ∧ lt (ge A (f + (2 * root + 1))) (ge A (f + (2 * root + 2))) = true then 2 * root + 2 else 2 * root + 1
    if lt (ge A (f + root)) (ge A (f + c)) = true then sift lt f hi k c (swp A (f + root) (f + c)) else A
theorem sift_rp {f hi : Nat} : ∀ (k root : Nat) (A : List E), root < hi → f + hi ≤ A.length → RP f (f + hi) A (sift lt f hi k root A)
  | 0, root, A, hr, hl => RP.refl _ _ _
  | k + 1, root, A, hr, hl => by
    unfold sift
    split
    · exact RP.refl _ _ _
    · simp only
      generalize hc : (if 2 * root + 2 < hi ∧ lt (ge A (f + (2 * root + 1))) (ge A (f + (2 * root + 2))) = true then 2 * root + 2 else 2 * root + 1) = c
      have hcl : c < hi := by rw [← hc]; split <;> omega
      split
      · exact (RP.swap ⟨by omega, by omega⟩ ⟨by omega, by omega⟩ hl).trans (sift_rp k c _ hcl (by rw [swp_len]; exact hl))
      · exact RP.refl _ _ _
include H in
theorem sift_hp {f lo hi : Nat} : ∀ (k root : Nat) (A : List E), hi - root ≤ k → lo ≤ root → root < hi → f + hi ≤ A.length →
    (∀ i c, lo ≤ i → i ≠ root → (c = 2 * i + 1 ∨ c = 2 * i + 2) → c < hi → lt (ge A (f + i)) (ge A (f + c)) = false) →
    (∀ p c, lo ≤ p → (root = 2 * p + 1 ∨ root = 2 * p + 2) → (c = 2 * root + 1 ∨ c = 2 * root + 2) → c < hi → lt (ge A (f + p)) (ge A (f + c)) = false) → Hp lt f lo hi (sift lt f hi k root A)
  | 0, root, A, hk, hlo, hr, hl, h1, h2 => by omega
  | k + 1, root, A, hk, hlo, hr, hl, h1, h2 => by
    unfold sift
    split
    · rename_i h0
      intro i c hi1 hc hch
      by_cases e : i = root
      · omega
      · exact h1 i c hi1 e hc hch
    · rename_i h0
      simp only
      -- the greater child
      have hcc : ∃ c, (if 2 * root + 2 < hi ∧ lt (ge A (f + (2 * root + 1))) (ge A (f + (2 * root + 2))) = true then 2 * root + 2 else 2 * root + 1) = c ∧ (c = 2 * root + 1 ∨ c = 2 * root + 2) ∧ c < hi ∧ ∀ c', (c' = 2 * root + 1 ∨ c' = 2 * root + 2) → c' < hi → lt (ge A (f + c)) (ge A (f + c')) = false := by
        split
        · rename_i hh
          refine ⟨_, rfl, .inr rfl, by omega, fun c' hc' hl' => ?_⟩
          rcases hc' with rfl | rfl
          · exact H.asym _ _ hh.2
          · exact H.irr _
        · rename_i hh
          refine ⟨_, rfl, .inl rfl, by omega, fun c' hc' hl' => ?_⟩
          rcases hc' with rfl | rfl
          · exact H.irr _
          · cases e : lt (ge A (f + (2 * root + 1))) (ge A (f + (2 * root + 2))) with
            | false => rfl
            | true => exact absurd ⟨hl', e⟩ hh
      obtain ⟨c, hc, hc1, hc2, hc3⟩ := hcc
      rw [hc]
      have g := fun j => ge_swp (A := A) (i := f + root) (j := f + c) (by omega) (by omega) j
      split
      · rename_i hlt
        refine sift_hp k c _ (by omega) (by omega) hc2 (by rw [swp_len]; exact hl) (fun i c' hi1 hne hcc' hl' => ?_) (fun p c' hp1 hpc hcc' hl' => ?_)
        · rw [g, g]
          by_cases e1 : i = root
          · subst e1
            rw [if_neg (by omega), if_pos rfl]
            by_cases e2 : c' = c
            · subst e2; rw [if_pos rfl]; exact H.asym _ _ hlt
            · rw [if_neg (by omega), if_neg (by omega)]
              exact hc3 c' hcc' hl'
          · rw [if_neg (by omega), if_neg (by omega)]
            by_cases e2 : c' = c
            · omega
            · rw [if_neg (by omega)]
              by_cases e3 : c' = root
              · subst e3
                rw [if_pos rfl]
                exact h2 i c hi1 hcc' hc1 hc2
              · rw [if_neg (by omega)]
                exact h1 i c' hi1 e1 hcc' hl'
        · have hpr : p = root := by omega
          subst hpr
          rw [g, g, if_neg (by omega), if_pos rfl, if_neg (by omega), if_neg (by omega)]
          exact h1 c c' (by omega) (by omega) hcc' hl'
      · rename_i hlt
        intro i c' hi1 hcc' hl'
        by_cases e : i = root
        · subst e
          have hf : lt (ge A (f + i)) (ge A (f + c)) = false := by
            cases e : lt (ge A (f + i)) (ge A (f + c)) with
            | false => rfl
            | true => exact absurd e hlt
          exact H.trans _ _ _ (hc3 c' hcc' hl') hf |> fun h => by
            exact H.trans (ge A (f + c')) (ge A (f + c)) (ge A (f + i)) (hc3 c' hcc' hl') hf
        · exact h1 i c' hi1 e hcc' hl'
include H in
theorem Hp.top {f hi : Nat} {A : List E} (h : Hp lt f 0 hi A) : ∀ (i : Nat), i < hi → lt (ge A f) (ge A (f + i)) = false := by
  intro i
  induction i using Nat.strongRecOn with
  | _ i ih =>
    intro hi1
    by_cases e : i = 0
    · subst e; exact H.irr _
    · have h1 := ih ((i - 1) / 2) (by omega) (by omega)
      have h2 := h ((i - 1) / 2) i (Nat.zero_le _) (by omega) hi1
      exact H.trans _ _ _ h2 h1
def hpA (lt : E → E → Bool) (f n : Nat) : Nat → List E → List E
  | 0, A => sift lt f n n 0 A
  | i + 1, A => hpA lt f n i (sift lt f n n (i + 1) A)
def hpB (lt : E → E → Bool) (f : Nat) : Nat → List E → List E
  | 0, A => A
  | i + 1, A => hpB lt f i (sift lt f i i 0 (swp A f (f + i)))
include H in
theorem hpA_ok {f n : Nat} : ∀ (i : Nat) (A : List E), i < n → f + n ≤ A.length → Hp lt f (i + 1) n A → RP f (f + n) A (hpA lt f n i A) ∧ Hp lt f 0 n (hpA lt f n i A)
  | 0, A, hi, hl, h => ⟨sift_rp n 0 A hi hl, sift_hp H n 0 A (by omega) (Nat.le_refl _) hi hl (fun i c h1 h2 h3 h4 => h i c (by omega) h3 h4) (fun p c h1 h2 h3 h4 => by omega)⟩
  | i + 1, A, hi, hl, h => by
    have h1 := sift_rp (lt := lt) n (i + 1) A hi hl
    have h2 := sift_hp H (lo := i + 1) n (i + 1) A (by omega) (Nat.le_refl _) hi hl (fun j c g1 g2 g3 g4 => h j c (by omega) g3 g4) (fun p c g1 g2 g3 g4 => by omega)
    have h3 := hpA_ok i _ (by omega) (by rw [h1.len]; exact hl) h2
    exact ⟨h1.trans h3.1, h3.2⟩
include H in
theorem hpB_ok {f n : Nat} : ∀ (i : Nat) (A : List E), i ≤ n → f + n ≤ A.length → Hp lt f 0 i A → Sd lt (f + i) (f + n) A → (∀ p q, f ≤ p → p < f + i → f + i ≤ q → q < f + n → lt (ge A q) (ge A p) = false) →
    RP f (f + n) A (hpB lt f i A) ∧ Sd lt f (f + n) (hpB lt f i A)
  | 0, A, hi, hl, hh, hs, hle => ⟨RP.refl _ _ _, hs⟩
  | i + 1, A, hi, hl, hh, hs, hle => by
    have r1 : RP f (f + (i + 1)) A (swp A f (f + i)) := RP.swap ⟨by omega, by omega⟩ ⟨by omega, by omega⟩ (by omega)
    have g := fun j => ge_swp (A := A) (i := f) (j := f + i) (by omega) (by omega) j
    by_cases h0 : i = 0
    · subst h0
      have r2 : sift lt f 0 0 0 (swp A f (f + 0)) = swp A f (f + 0) := rfl
      have e1 : ∀ j, ge (swp A f (f + 0)) j = ge A j := by
        intro j
        rw [g]
        by_cases e : j = f
        · subst e; simp
        · rw [if_neg (by omega), if_neg e]
      refine ⟨(r1.mono (Nat.le_refl _) (by omega)), fun p q h1 h2 h3 => ?_⟩
      show lt (ge (swp A f (f + 0)) q) (ge (swp A f (f + 0)) p) = false
      rw [e1, e1]
      by_cases e : p = f
      · subst e; exact hle p q h1 (by omega) (by omega) h3
      · exact hs p q (by omega) h2 h3
    · have r2 := sift_rp (lt := lt) (f := f) (hi := i) i 0 (swp A f (f + i)) (by omega) (by rw [swp_len]; omega)
      have hnode : ∀ j c, 0 ≤ j → j ≠ 0 → (c = 2 * j + 1 ∨ c = 2 * j + 2) → c < i → lt (ge (swp A f (f + i)) (f + j)) (ge (swp A f (f + i)) (f + c)) = false := by
        intro j c _ hj hc hci
        rw [g, g, if_neg (by omega), if_neg (by omega), if_neg (by omega), if_neg (by omega)]
        exact hh j c (Nat.zero_le _) hc (by omega)
      have h2 := sift_hp H (f := f) (lo := 0) (hi := i) i 0 (swp A f (f + i)) (by omega) (Nat.le_refl _) (by omega) (by rw [swp_len]; omega) hnode (fun p c g1 g2 => by omega)
      have hmax := hh.top H
      have hout : ∀ q, f + i ≤ q → ge (sift lt f i i 0 (swp A f (f + i))) q = ge (swp A f (f + i)) q := fun q hq => r2.out q (by omega)
      have hs2 : Sd lt (f + i) (f + n) (sift lt f i i 0 (swp A f (f + i))) := by
        intro p q h3 h4 h5
        rw [hout p h3, hout q (by omega), g, g, if_neg (show ¬ q = f + i by omega), if_neg (show ¬ q = f by omega)]
        by_cases e : p = f + i
        · rw [if_pos e]; exact hle f q (Nat.le_refl _) (by omega) (by omega) h5
        · rw [if_neg e, if_neg (by omega)]; exact hs p q (by omega) h4 h5
      have hle2 : ∀ p q, f ≤ p → p < f + i → f + i ≤ q → q < f + n → lt (ge (sift lt f i i 0 (swp A f (f + i))) q) (ge (sift lt f i i 0 (swp A f (f + i))) p) = false := by
        intro p q h3 h4 h5 h6
        rw [hout q h5]
        refine r2.all (fun x => lt (ge (swp A f (f + i)) q) x = false) (fun k g1 g2 => ?_) p h3 h4
        rw [g, g]
        by_cases e : q = f + i
        · rw [if_pos e, if_neg (show ¬ k = f + i by omega)]
          split
          · have := hmax i (by omega); exact this
          · have := hmax (k - f) (by omega)
            rwa [show f + (k - f) = k by omega] at this
        · rw [if_neg e, if_neg (show ¬ q = f by omega), if_neg (show ¬ k = f + i by omega)]
          split
          · exact hle (f + i) q (by omega) (by omega) (by omega) h6
          · exact hle k q g1 (by omega) (by omega) h6
      have h3 := hpB_ok i _ (by omega) (by rw [r2.len, swp_len]; exact hl) h2 hs2 hle2
      exact ⟨((r1.mono (Nat.le_refl _) (by omega)).trans (r2.mono (Nat.le_refl _) (by omega))).trans h3.1, h3.2⟩
def upI (q : E → Bool) (A : List E) : Nat → Nat → Nat → Nat
  | 0, i, _ => i
  | k + 1, i, j => if i ≤ j ∧ q (ge A i) = true then upI q A k (i + 1) j else i
def dnJ (q : E → Bool) (A : List E) : Nat → Nat → Nat → Nat
  | 0, _, j => j
  | k + 1, i, j => if i ≤ j ∧ q (ge A j) = true then dnJ q A k i (j - 1) else j
theorem upI_ok {q : E → Bool} {A : List E} : ∀ (k i j : Nat), j + 1 - i ≤ k → i ≤ j + 1 → i ≤ upI q A k i j ∧ upI q A k i j ≤ j + 1 ∧ (∀ p, i ≤ p → p < upI q A k i j → q (ge A p) = true) ∧ (upI q A k i j ≤ j → q (ge A (upI q A k i j)) = false)
  | 0, i, j, hk, hi => ⟨Nat.le_refl _, hi, fun p h1 h2 => by simp only [upI] at h2; omega, fun h => by simp only [upI] at h; omega⟩
  | k + 1, i, j, hk, hi => by
    unfold upI
    split
    · rename_i h
      obtain ⟨a1, a2, a3, a4⟩ := upI_ok (q := q) (A := A) k (i + 1) j (by omega) (by omega)
      refine ⟨by omega, a2, fun p h1 h2 => ?_, a4⟩
      by_cases e : p = i
      · subst e; exact h.2
      · exact a3 p (by omega) h2
    · rename_i h
      refine ⟨Nat.le_refl _, hi, fun p h1 h2 => by omega, fun hij => ?_⟩
      cases e : q (ge A i) with
      | false => rfl
      | true => exact absurd ⟨hij, e⟩ h
theorem dnJ_ok {q : E → Bool} {A : List E} : ∀ (k i j : Nat), j + 1 - i ≤ k → i ≤ j + 1 → 1 ≤ i → dnJ q A k i j ≤ j ∧ i ≤ dnJ q A k i j + 1 ∧ (∀ p, dnJ q A k i j < p → p ≤ j → q (ge A p) = true) ∧ (i ≤ dnJ q A k i j → q (ge A (dnJ q A k i j)) = false)
  | 0, i, j, hk, hi, h1 => ⟨Nat.le_refl _, hi, fun p g1 g2 => by simp only [dnJ] at g1; omega, fun h => by simp only [dnJ] at h; omega⟩
  | k + 1, i, j, hk, hi, h1 => by
    unfold dnJ
    split
    · rename_i h
      obtain ⟨a1, a2, a3, a4⟩ := dnJ_ok (q := q) (A := A) k i (j - 1) (by omega) (by omega) h1
      refine ⟨by omega, a2, fun p g1 g2 => ?_, a4⟩
      by_cases e : p = j
      · subst e; exact h.2
      · exact a3 p g1 (by omega)
    · rename_i h
      refine ⟨Nat.le_refl _, hi, fun p g1 g2 => by omega, fun hij => ?_⟩
      cases e : q (ge A j) with
      | false => rfl
      | true => exact absurd ⟨hij, e⟩ h
def prt (u v : E → E → Bool) (a : Nat) : Nat → Nat → Nat → List E → Nat × Nat × List E
  | 0, i, j, A => (i, j, A)
  | k + 1, i, j, A =>
    let i' := upI (u (ge A a)) A (j + 1 - i) i j
    let j' := dnJ (v (ge A a)) A (j + 1 - i') i' j
    if j' < i' then (i', j', A) else prt u v a k (i' + 1) (j' - 1) (swp A i' j')
theorem prt_ok {u v : E → E → Bool} (huv : ∀ x y, v x y = !u x y) {a b : Nat} : ∀ (k i j : Nat) (A : List E), j + 1 - i < k → a + 1 ≤ i → i ≤ j + 1 → j < b → b ≤ A.length →
    (∀ p, a < p → p < i → u (ge A a) (ge A p) = true) → (∀ p, j < p → p < b → u (ge A a) (ge A p) = false) →
    RP (a + 1) b A (prt u v a k i j A).2.2 ∧ (prt u v a k i j A).1 = (prt u v a k i j A).2.1 + 1 ∧ a ≤ (prt u v a k i j A).2.1 ∧ (prt u v a k i j A).2.1 < b ∧
      (∀ p, a < p → p ≤ (prt u v a k i j A).2.1 → u (ge A a) (ge (prt u v a k i j A).2.2 p) = true) ∧ (∀ p, (prt u v a k i j A).2.1 < p → p < b → u (ge A a) (ge (prt u v a k i j A).2.2 p) = false)
  | 0, i, j, A, hk, hi, hij, hj, hb, h1, h2 => by omega
  | k + 1, i, j, A, hk, hi, hij, hj, hb, h1, h2 => by
    obtain ⟨a1, a2, a3, a4⟩ := upI_ok (q := u (ge A a)) (A := A) (j + 1 - i) i j (Nat.le_refl _) hij
    obtain ⟨b1, b2, b3, b4⟩ := dnJ_ok (q := v (ge A a)) (A := A) (j + 1 - upI (u (ge A a)) A (j + 1 - i) i j) (upI (u (ge A a)) A (j + 1 - i) i j) j (Nat.le_refl _) a2 (by omega)
    unfold prt
    simp only
    generalize hI : upI (u (ge A a)) A (j + 1 - i) i j = i' at *
    generalize hJ : dnJ (v (ge A a)) A (j + 1 - i') i' j = j' at *
    have f1 : ∀ p, a < p → p < i' → u (ge A a) (ge A p) = true := fun p g1 g2 => by
      by_cases e : p < i
      · exact h1 p g1 e
      · exact a3 p (by omega) g2
    have f2 : ∀ p, j' < p → p < b → u (ge A a) (ge A p) = false := fun p g1 g2 => by
      by_cases e : p ≤ j
      · have := b3 p g1 e; rw [huv] at this; simpa using this
      · exact h2 p (by omega) g2
    split
    · rename_i hlt
      have : i' = j' + 1 := by omega
      show RP (a + 1) b A A ∧ i' = j' + 1 ∧ a ≤ j' ∧ j' < b ∧ (∀ p, a < p → p ≤ j' → u (ge A a) (ge A p) = true) ∧ (∀ p, j' < p → p < b → u (ge A a) (ge A p) = false)
      exact ⟨RP.refl _ _ _, this, by omega, by omega, fun p g1 g2 => f1 p g1 (by omega), f2⟩
    · rename_i hlt
      have c1 := a4 (by omega)
      have c2 := b4 (by omega)
      rw [huv] at c2
      have hne : i' ≠ j' := by
        rintro rfl
        rw [c1] at c2; exact absurd c2 (by decide)
      have g := fun m => ge_swp (A := A) (i := i') (j := j') (by omega) (by omega) m
      have gA : ge (swp A i' j') a = ge A a := by rw [g, if_neg (by omega), if_neg (by omega)]
      have r := prt_ok huv (a := a) (b := b) k (i' + 1) (j' - 1) (swp A i' j') (by omega) (by omega) (by omega) (by omega) (by rw [swp_len]; exact hb) (fun p g1 g2 => by
        rw [gA, g]
        by_cases e : p = i'
        · rw [if_neg (by omega), if_pos e]; simpa using c2
        · rw [if_neg (by omega), if_neg e]; exact f1 p g1 (by omega)) (fun p g1 g2 => by
        rw [gA, g]
        by_cases e : p = j'
        · rw [if_pos e]; exact c1
        · rw [if_neg e, if_neg (by omega)]; exact f2 p (by omega) g2)
      rw [gA] at r
      exact ⟨(RP.swap ⟨by omega, by omega⟩ ⟨by omega, by omega⟩ hb).trans r.1, r.2⟩
def scanI (lt : E → E → Bool) (A : List E) (b : Nat) : Nat → Nat → Nat
  | 0, i => i
  | k + 1, i => if i < b ∧ lt (ge A i) (ge A (i - 1)) = false then scanI lt A b k (i + 1) else i
def insUp (lt : E → E → Bool) : Nat → Nat → List E → List E
  | 0, _, A => A
  | r + 1, j, A => if lt (ge A j) (ge A (j - 1)) = true then insUp lt r (j + 1) (swp A j (j - 1)) else A
def pins (lt : E → E → Bool) (a b : Nat) : Nat → Nat → List E → Bool × List E
  | 0, _, A => (false, A)
  | s + 1, i, A =>
    let i' := scanI lt A b (b - i) i
    if i' = b then (true, A) else if b - a < 50 then (false, A) else
    let A1 := swp A i' (i' - 1)
    let A2 := if 2 ≤ i' - a then insIn lt 0 (i' - 1) A1 else A1
    let A3 := if 2 ≤ b - i' then insUp lt (b - (i' + 1)) (i' + 1) A2 else A2
    pins lt a b s i' A3
include H in
theorem scanI_ok {A : List E} {a b : Nat} : ∀ (k i : Nat), b - i ≤ k → a + 1 ≤ i → i ≤ b → Sd lt a i A → i ≤ scanI lt A b k i ∧ scanI lt A b k i ≤ b ∧ Sd lt a (scanI lt A b k i) A ∧ (scanI lt A b k i < b → lt (ge A (scanI lt A b k i)) (ge A (scanI lt A b k i - 1)) = true)
  | 0, i, hk, ha, hb, hs => ⟨Nat.le_refl _, hb, hs, fun h => by simp only [scanI] at h; omega⟩
  | k + 1, i, hk, ha, hb, hs => by
    unfold scanI
    split
    · rename_i h
      have hs2 : Sd lt a (i + 1) A := by
        intro p q h1 h2 h3
        by_cases e : q = i
        · subst e
          by_cases e2 : p = q - 1
          · rw [e2]; exact h.2
          · exact H.trans _ _ _ (hs p (q - 1) h1 (by omega) (by omega)) h.2
        · exact hs p q h1 h2 (by omega)
      obtain ⟨a1, a2⟩ := scanI_ok (a := a) (b := b) k (i + 1) (by omega) (by omega) (by omega) hs2
      exact ⟨by omega, a2⟩
    · rename_i h
      refine ⟨Nat.le_refl _, hb, hs, fun hib => ?_⟩
      cases e : lt (ge A i) (ge A (i - 1)) with
      | true => rfl
      | false => exact absurd ⟨hib, e⟩ h
theorem insUp_rp {i b : Nat} : ∀ (r j : Nat) (A : List E), i < j → j + r ≤ b → b ≤ A.length → RP i b A (insUp lt r j A)
  | 0, j, A, hi, hr, hl => RP.refl _ _ _
  | r + 1, j, A, hi, hr, hl => by
    unfold insUp
    split
    · exact (RP.swap ⟨by omega, by omega⟩ ⟨by omega, by omega⟩ hl).trans (insUp_rp r (j + 1) _ (by omega) (by omega) (by rw [swp_len]; exact hl))
    · exact RP.refl _ _ _
include H in
theorem pins_ok {a b : Nat} : ∀ (s i : Nat) (A : List E), a + 1 ≤ i → i ≤ b → b ≤ A.length → (0 < a → ∀ p, a ≤ p → p < b → lt (ge A p) (ge A (a - 1)) = false) → Sd lt a i A →
    RP a b A (pins lt a b s i A).2 ∧ ((pins lt a b s i A).1 = true → Sd lt a b (pins lt a b s i A).2)
  | 0, i, A, ha, hb, hl, hlow, hs => ⟨RP.refl _ _ _, fun h => by simp [pins] at h⟩
  | s + 1, i, A, ha, hb, hl, hlow, hs => by
    obtain ⟨a1, a2, a3, a4⟩ := scanI_ok H (b - i) i (Nat.le_refl _) ha hb hs
    unfold pins
    simp only
    generalize hI : scanI lt A b (b - i) i = i' at *
    split
    · rename_i e
      exact ⟨RP.refl _ _ _, fun _ => by rw [← e]; exact a3⟩
    · split
      · exact ⟨RP.refl _ _ _, fun h => absurd h (by simp)⟩
      · rename_i e1 e2
        have r1 : RP a b A (swp A i' (i' - 1)) := RP.swap ⟨by omega, by omega⟩ ⟨by omega, by omega⟩ hl
        have g := fun m => ge_swp (A := A) (i := i') (j := i' - 1) (by omega) (by omega) m
        have hlow1 : 0 < a → ∀ p, a ≤ p → p < b → lt (ge (swp A i' (i' - 1)) p) (ge (swp A i' (i' - 1)) (a - 1)) = false := fun h0 p h1 h2 => by
          rw [r1.out (a - 1) (by omega)]
          exact r1.all (fun x => lt x (ge A (a - 1)) = false) (fun k g1 g2 => hlow h0 k g1 g2) p h1 h2
        have hs1 : Sd lt a (i' - 1) (swp A i' (i' - 1)) := fun p q h1 h2 h3 => by
          rw [g, g, if_neg (by omega), if_neg (by omega), if_neg (by omega), if_neg (by omega)]
          exact a3 p q h1 h2 (by omega)
        have h2 : RP a b A (if 2 ≤ i' - a then insIn lt 0 (i' - 1) (swp A i' (i' - 1)) else swp A i' (i' - 1)) ∧ Sd lt a i' (if 2 ≤ i' - a then insIn lt 0 (i' - 1) (swp A i' (i' - 1)) else swp A i' (i' - 1)) := by
          split
          · rw [insIn_low (a := a) (i' - 1) (swp A i' (i' - 1)) (by omega) (by rw [swp_len]; omega) fun h0 p h1 h2 => hlow1 h0 p h1 (by omega)]
            refine ⟨r1.trans (insIn_rp (b := b) (i' - 1) (swp A i' (i' - 1)) (by omega) (by omega) (by rw [swp_len]; exact hl)), ?_⟩
            have := insIn_ok H (a := a) (i := i' - 1) (A := swp A i' (i' - 1)) (by omega) (by rw [swp_len]; omega) hs1
            rwa [show i' - 1 + 1 = i' by omega] at this
          · exact ⟨r1, fun p q h1 h2 h3 => by omega⟩
        generalize (if 2 ≤ i' - a then insIn lt 0 (i' - 1) (swp A i' (i' - 1)) else swp A i' (i' - 1)) = A2 at *
        have h3 : RP i' b A2 (if 2 ≤ b - i' then insUp lt (b - (i' + 1)) (i' + 1) A2 else A2) := by
          split
          · exact insUp_rp _ _ _ (by omega) (by omega) (by rw [h2.1.len]; exact hl)
          · exact RP.refl _ _ _
        generalize (if 2 ≤ b - i' then insUp lt (b - (i' + 1)) (i' + 1) A2 else A2) = A3 at *
        have h4 : RP a b A A3 := h2.1.trans (h3.mono (by omega) (Nat.le_refl _))
        have h5 := pins_ok (a := a) (b := b) s i' A3 (by omega) (by omega) (by rw [h4.len]; exact hl) (fun h0 p g1 g2 => by
          rw [h4.out (a - 1) (by omega)]
          exact h4.all (fun x => lt x (ge A (a - 1)) = false) (fun k g1 g2 => hlow h0 k g1 g2) p g1 g2) (fun p q g1 g2 g3 => by
          rw [h3.out p (by omega), h3.out q (by omega)]
          exact h2.2 p q g1 g2 g3)
        exact ⟨h4.trans h5.1, h5.2⟩
def Mid (lt : E → E → Bool) (a b m : Nat) (A : List E) : Prop := (∀ p, a ≤ p → p < m → lt (ge A m) (ge A p) = false) ∧ (∀ p, m < p → p < b → lt (ge A p) (ge A m) = false)
include H in
theorem prt_mid {a b : Nat} {A : List E} (hab : a < b) (hb : b ≤ A.length) : let r := prt (fun pv x => lt x pv) (fun pv x => !lt x pv) a (b - a + 1) (a + 1) (b - 1) A
    a ≤ r.2.1 ∧ r.2.1 < b ∧ RP a b A (swp r.2.2 r.2.1 a) ∧ Mid lt a b r.2.1 (swp r.2.2 r.2.1 a) := by
  intro r
  obtain ⟨h1, h2, h3, h4, h5, h6⟩ := prt_ok (u := fun pv x => lt x pv) (v := fun pv x => !lt x pv) (fun _ _ => rfl) (a := a) (b := b) (b - a + 1) (a + 1) (b - 1) A (by omega) (by omega) (by omega) (by omega) hb (fun p g1 g2 => by omega) (fun p g1 g2 => by omega)
  have hr : r = prt (fun pv x => lt x pv) (fun pv x => !lt x pv) a (b - a + 1) (a + 1) (b - 1) A := rfl
  rw [← hr] at h1 h2 h3 h4 h5 h6
  clear_value r
  have hl := h1.len
  have g := fun m => ge_swp (A := r.2.2) (i := r.2.1) (j := a) (by omega) (by omega) m
  have hpa : ge r.2.2 a = ge A a := h1.out a (by omega)
  refine ⟨h3, h4, (h1.mono (by omega) (Nat.le_refl _)).trans (RP.swap ⟨h3, h4⟩ ⟨by omega, by omega⟩ (by omega)), ?_, ?_⟩
  · intro p g1 g2
    have gm : ge (swp r.2.2 r.2.1 a) r.2.1 = ge A a := by
      rw [g]
      by_cases e : r.2.1 = a
      · rw [if_pos e, e]; exact hpa
      · rw [if_neg e, if_pos rfl]; exact hpa
    rw [gm, g]
    by_cases e : p = a
    · rw [if_pos e]
      exact H.asym _ _ (h5 r.2.1 (by omega) (Nat.le_refl _))
    · rw [if_neg e, if_neg (by omega)]
      exact H.asym _ _ (h5 p (by omega) (by omega))
  · intro p g1 g2
    have gm : ge (swp r.2.2 r.2.1 a) r.2.1 = ge A a := by
      rw [g]
      by_cases e : r.2.1 = a
      · rw [if_pos e, e]; exact hpa
      · rw [if_neg e, if_pos rfl]; exact hpa
    rw [gm, g, if_neg (by omega), if_neg (by omega)]
    exact h6 p g1 g2
include H in
theorem glue {a b m : Nat} {A B : List E} (hm : a ≤ m ∧ m < b) (hM : Mid lt a b m A) (h1 : RP a m A B) (h2 : Sd lt a m B) {C : List E} (h3 : RP (m + 1) b B C) (h4 : Sd lt (m + 1) b C) : RP a b A C ∧ Sd lt a b C := by
  refine ⟨(h1.mono (Nat.le_refl _) (by omega)).trans (h3.mono (by omega) (Nat.le_refl _)), fun p q g1 g2 g3 => ?_⟩
  have eB : ge B m = ge A m := h1.out m (by omega)
  have eC : ge C m = ge A m := (h3.out m (by omega)).trans eB
  have low : ∀ p, a ≤ p → p < m → lt (ge A m) (ge C p) = false := fun p k1 k2 => by
    rw [h3.out p (by omega)]
    exact h1.all (fun x => lt (ge A m) x = false) (fun k j1 j2 => hM.1 k j1 j2) p k1 k2
  have high : ∀ q, m < q → q < b → lt (ge C q) (ge A m) = false := fun q k1 k2 =>
    h3.all (fun x => lt x (ge A m) = false) (fun k j1 j2 => by rw [h1.out k (by omega)]; exact hM.2 k (by omega) j2) q (by omega) k2
  by_cases e1 : q < m
  · rw [h3.out p (by omega), h3.out q (by omega)]; exact h2 p q g1 g2 e1
  · by_cases e2 : q = m
    · subst e2; rw [eC]; exact low p g1 g2
    · by_cases e3 : p < m
      · exact H.trans _ _ _ (low p g1 e3) (high q (by omega) g3)
      · by_cases e4 : p = m
        · subst e4; rw [eC]; exact high q g2 g3
        · exact h4 p q (by omega) g2 g3
include H in
theorem glue' {a b m : Nat} {A B : List E} (hm : a ≤ m ∧ m < b) (hM : Mid lt a b m A) (h1 : RP (m + 1) b A B) (h2 : Sd lt (m + 1) b B) {C : List E} (h3 : RP a m B C) (h4 : Sd lt a m C) : RP a b A C ∧ Sd lt a b C := by
  refine ⟨(h1.mono (by omega) (Nat.le_refl _)).trans (h3.mono (Nat.le_refl _) (by omega)), fun p q g1 g2 g3 => ?_⟩
  have eB : ge B m = ge A m := h1.out m (by omega)
  have eC : ge C m = ge A m := (h3.out m (by omega)).trans eB
  have low : ∀ p, a ≤ p → p < m → lt (ge A m) (ge C p) = false := fun p k1 k2 =>
    h3.all (fun x => lt (ge A m) x = false) (fun k j1 j2 => by rw [h1.out k (by omega)]; exact hM.1 k j1 j2) p k1 k2
  have high : ∀ q, m < q → q < b → lt (ge C q) (ge A m) = false := fun q k1 k2 => by
    rw [h3.out q (by omega)]
    exact h1.all (fun x => lt x (ge A m) = false) (fun k j1 j2 => hM.2 k (by omega) j2) q (by omega) k2
  by_cases e1 : q < m
  · exact h4 p q g1 g2 e1
  · by_cases e2 : q = m
    · subst e2; rw [eC]; exact low p g1 g2
    · by_cases e3 : p < m
      · exact H.trans _ _ _ (low p g1 e3) (high q (by omega) g3)
      · by_cases e4 : p = m
        · subst e4; rw [eC]; exact high q g2 g3
        · rw [h3.out p (by omega), h3.out q (by omega)]; exact h2 p q (by omega) g2 g3
include H in
theorem prtE_ok {a b : Nat} {A : List E} (hab : a < b) (hb : b ≤ A.length) (hlow : ∀ p, a ≤ p → p < b → lt (ge A p) (ge A (a - 1)) = false) (h0 : 0 < a) (hpv : lt (ge A (a - 1)) (ge A a) = false) : let r := prt (fun pv x => !lt pv x) (fun pv x => lt pv x) a (b - a + 1) (a + 1) (b - 1) A
    a < r.1 ∧ r.1 ≤ b ∧ RP a b A r.2.2 ∧ (∀ p, r.1 ≤ p → p < b → lt (ge r.2.2 p) (ge r.2.2 (r.1 - 1)) = false) ∧ ∀ C, RP r.1 b r.2.2 C → Sd lt r.1 b C → Sd lt a b C := by
  intro r
  obtain ⟨h1, h2, h3, h4, h5, h6⟩ := prt_ok (u := fun pv x => !lt pv x) (v := fun pv x => lt pv x) (fun _ _ => by simp) (a := a) (b := b) (b - a + 1) (a + 1) (b - 1) A (by omega) (by omega) (by omega) (by omega) hb (fun p g1 g2 => by omega) (fun p g1 g2 => by omega)
  have hr : r = prt (fun pv x => !lt pv x) (fun pv x => lt pv x) a (b - a + 1) (a + 1) (b - 1) A := rfl
  rw [← hr] at h1 h2 h3 h4 h5 h6
  clear_value r
  have hpa : ge r.2.2 a = ge A a := h1.out a (by omega)
  have r0 : RP a b A r.2.2 := h1.mono (by omega) (Nat.le_refl _)
  -- not above the pivot, so all alike
  have up : ∀ p, a ≤ p → p < r.1 → lt (ge A a) (ge r.2.2 p) = false := fun p g1 g2 => by
    by_cases e : p = a
    · rw [e, hpa]; exact H.irr _
    · have := h5 p (by omega) (by omega)
      simpa using this
  have dn : ∀ p, a ≤ p → p < b → lt (ge r.2.2 p) (ge A (a - 1)) = false := fun p g1 g2 => r0.all (fun x => lt x (ge A (a - 1)) = false) hlow p g1 g2
  have ab : ∀ p, r.1 ≤ p → p < b → lt (ge A a) (ge r.2.2 p) = true := fun p g1 g2 => by
    have := h6 p (by omega) g2
    simpa using this
  refine ⟨by omega, by omega, r0, fun p g1 g2 => ?_, fun C hC hS p q g1 g2 g3 => ?_⟩
  · exact H.trans _ _ _ (up (r.1 - 1) (by omega) (by omega)) (H.asym _ _ (ab p g1 g2))
  · have abC : ∀ p, r.1 ≤ p → p < b → lt (ge A a) (ge C p) = true := fun p k1 k2 => hC.all (fun x => lt (ge A a) x = true) ab p k1 k2
    by_cases e1 : q < r.1
    · rw [hC.out p (by omega), hC.out q (by omega)]
      -- p ≤ pivot ≤ low ≤ q
      exact H.trans _ _ _ (H.trans _ _ _ (up p g1 (by omega)) hpv) (dn q (by omega) (by omega))
    · by_cases e2 : p < r.1
      · rw [hC.out p (by omega)]
        exact H.trans _ _ _ (up p g1 e2) (H.asym _ _ (abC q (by omega) g3))
      · exact hS p q (by omega) g2 g3
end
end Go.D.Srt
end
/- Lists side by side: turned from the texts of chapter 21. -/
section
set_option linter.unusedVariables false
set_option linter.unusedSimpArgs false
namespace Go.D
theorem plainFn_fn (call : CallF) (lo : Nat) (f : FuncId) (caps args : List DV) (σ : Store) : plainFn call lo (.fn f caps) args σ = call lo f (args ++ caps) σ := Eq.trans rfl rfl
def rowOf : DV → Option Nat
  | .osl r _ _ _ _ => some r
  | _ => none
def Apart (x y : DV) : Prop := ∀ r, rowOf x = some r → rowOf y = some r → False
def Fresh (σ : Store) (x x' : DV) : Prop := ∀ r, rowOf x' = some r → rowOf x = some r ∨ r = σ.length
theorem Apart.symm {x y : DV} (h : Apart x y) : Apart y x := fun r a b => h r b a
theorem Apart.nil (y : DV) : Apart (.p .nilsl) y := fun r a _ => by simp [rowOf] at a
theorem Out.row_lt {σ : Store} {lo sz n : Nat} {cs : List PV} {x : DV} (ho : Out σ lo sz n cs x) {r : Nat} (h : rowOf x = some r) : r < σ.length := by
  rcases ho.2 with ⟨_, rfl⟩ | ⟨_, r', ver, rfl, h3, _⟩
  · simp [rowOf] at h
  · have : r' = r := by simpa [rowOf] using h
    rw [← this]; exact get_lt h3
theorem Apart.fresh {σ : Store} {lo sz n : Nat} {cs : List PV} {x x' y : DV} (h : Apart x y) (hf : Fresh σ x x') (hy : Out σ lo sz n cs y) : Apart x' y := by
  intro r a b
  rcases hf r a with h1 | h1
  · exact h r h1 b
  · have := hy.row_lt b
    omega
theorem Out.other {σ σ' : Store} {lo sz n : Nat} {cs : List PV} {x y : DV} (ho : Out σ lo sz n cs y) (h : Others σ σ' x) (ha : Apart x y) : Out σ' lo sz n cs y := by
  refine ⟨ho.1, ?_⟩
  rcases ho.2 with h1 | ⟨h1, r, ver, rfl, h3, h4⟩
  · exact .inl h1
  · refine .inr ⟨h1, r, ver, rfl, h r _ h3 ?_, h4⟩
    rintro r' ver' sz' n' cs' rfl e
    exact ha r (by rw [e]; rfl) rfl
theorem Out.pushF {σ : Store} {t e lo sz b n : Nat} {z : List DV} {cs vs : List PV} {x : DV} (hs : srcType PP t = true) (hu : PP.underlying t = some (.slice e)) (h1 : size? PP e = some sz) (h2 : bytes? PP e = some b) (h3 : zeroOf PP e = some z)
    (h4 : z.length = sz) (hz : 0 < sz) (hb : 0 < b) (hb2 : b ≤ 1000) (hv : vs.length = sz) (ho : Out σ lo sz n cs x) (hn : n ≤ 10000000) (hlo : lo ≤ σ.length) :
    ∃ x' σ', append PP lo false t t x (.p (.sl true 1 vs)) σ = some (x', σ') ∧ Out σ' lo sz (n + 1) (cs ++ vs) x' ∧ Others σ σ' x ∧ Fresh σ x x' := by
  have hsrc : source σ sz (.p (.sl true 1 vs)) = some (1, vs.map DV.p) := by simp [source, hv]
  have hz0 : ¬ (z.length ≠ sz ∨ sz = 0) := by omega
  obtain ⟨hc, ho⟩ := ho
  rcases ho with ⟨rfl, rfl⟩ | ⟨hn0, r, ver, rfl, hr, hl⟩
  · refine ⟨.osl σ.length 0 sz 1 vs, σ ++ [.tok 0], ?_, ⟨by simp [hc, hv], .inr ⟨by simp, σ.length, 0, ?_, get_snoc, hlo⟩⟩, ?_, ?_⟩
    · have : b ≤ 140737488355328 := by omega
      simp only [append, hs, hu, h1, h2, h3, hz0, hsrc, appNil]
      simp [this, hb, pures_map, h4, hz, Nat.ne_of_gt hz]
    · have : cs = [] := List.length_eq_zero_iff.1 (by simpa using hc)
      rw [this]; simp
    · intro i row hi _
      exact get_old hi
    · intro r h; right; simpa [rowOf] using h.symm
  · refine ⟨.osl r (ver + 1) sz (n + 1) (cs ++ vs), σ.set r (.tok (ver + 1)), ?_, ⟨by simp [hc, hv, Nat.add_mul], .inr ⟨by simp, r, ver + 1, rfl, ?_, hl⟩⟩, ?_, ?_⟩
    · have e1 : (n + 1) * b ≤ 140737488355328 := Nat.le_trans (Nat.mul_le_mul (show n + 1 ≤ 10000001 by omega) hb2) (by decide)
      have e2 : n + 1 ≤ 140737488355328 := by omega
      simp only [append, hs, hu, h1, h2, h3, hz0, hsrc, appTok]
      simp [e1, e2, hb, hc, hl, hr, pures_map, h4, Nat.ne_of_gt hz]
    · rw [List.getElem?_set_self (get_lt hr)]
    · intro i row hi hne
      rw [List.getElem?_set_ne (fun e => hne _ _ _ _ _ rfl e.symm)]
      exact hi
    · intro r' h; left; exact h
end Go.D
end
/- Equations of functions 111, 121, 122, 134, 135, 126, 127, 146, 128, 147, 148, 129, 149, 150, 162, 130, 131, 132, 133, printed by gen.py. -/
section
set_option linter.unusedVariables false
set_option maxRecDepth 10000
namespace Go.D
open Go.Proofs
noncomputable section
variable (G : GuardT) (lo : Nat) {σ : Store} {r : DV × Store}
open _root_.Go.D.Code (fstC sndC)
open _root_.Go.D.Ann (left right)
def xstr0 : ByteArray := ⟨#[0, 1, 2, 2, 3, 3, 3, 3, 4, 4, 4, 4, 4, 4, 4, 4, 5, 5, 5, 5, 5, 5, 5, 5, 5, 5, 5, 5, 5, 5, 5, 5, 6, 6, 6, 6, 6, 6, 6, 6, 6, 6, 6, 6, 6, 6, 6, 6, 6, 6, 6, 6, 6, 6, 6, 6, 6, 6, 6, 6, 6, 6, 6, 6, 7, 7, 7, 7, 7, 7, 7, 7, 7, 7, 7, 7, 7, 7, 7, 7, 7, 7, 7, 7, 7, 7, 7, 7, 7, 7, 7, 7, 7, 7, 7, 7, 7, 7, 7, 7, 7, 7, 7, 7, 7, 7, 7, 7, 7, 7, 7, 7, 7, 7, 7, 7, 7, 7, 7, 7, 7, 7, 7, 7, 7, 7, 7, 7, 8, 8, 8, 8, 8, 8, 8, 8, 8, 8, 8, 8, 8, 8, 8, 8, 8, 8, 8, 8, 8, 8, 8, 8, 8, 8, 8, 8, 8, 8, 8, 8, 8, 8, 8, 8, 8, 8, 8, 8, 8, 8, 8, 8, 8, 8, 8, 8, 8, 8, 8, 8, 8, 8, 8, 8, 8, 8, 8, 8, 8, 8, 8, 8, 8, 8, 8, 8, 8, 8, 8, 8, 8, 8, 8, 8, 8, 8, 8, 8, 8, 8, 8, 8, 8, 8, 8, 8, 8, 8, 8, 8, 8, 8, 8, 8, 8, 8, 8, 8, 8, 8, 8, 8, 8, 8, 8, 8, 8, 8, 8, 8, 8, 8, 8, 8, 8, 8, 8, 8, 8, 8, 8, 8, 8, 8, 8, 8]⟩
def c111_0 : Code := bodyOf Tryz.f111
def a111_0 : Ann := (pol 111).ann
def F111 (x0 x1 : DV) (σ : Store) : RS :=
 codeF G PP (pol 111) CC lo c111_0 a111_0 (x0 :: x1 :: zn 12 []) σ (finR PP Tryz.f111.results.toList)
theorem F111_eq (G : GuardT) (lo : Nat) (x0 x1 : DV) (σ : Store) : F111 G lo x0 x1 σ =
 (len PP 134 x0 σ).bind fun x6 =>
 (convert PP 3 165 x6).bind fun x10 =>
 (pureFn CC (DV.fn 122 []) [x10] σ).bind fun x11 =>
 (plainFn CC lo (DV.fn 121 []) [x0, I0, x6, x11, x1] σ).bind fun r13_1 =>
 some ((DV.tuple []), r13_1.2) := by kernel_rfl
theorem F111_call {lo : Nat} {x0 x1 : DV} (h : F111 guardT lo x0 x1 σ = some r) : CC lo 111 [x0, x1] σ = some r :=
 callL_run Tryz.func111 (by decide +kernel) rfl (by decide +kernel) h
def c121_0 : Code := bodyOf Tryz.f121
def a121_0 : Ann := (pol 121).ann
def a121_4 : Ann := right (right a121_0)
def a121_5 : Ann := left a121_4
def c121_6 : Code := fstC (fstC (sndC (sndC c121_0)))
def a121_6 : Ann := left a121_5
def c121_33 : Code := sndC (sndC (sndC (sndC (fstC c121_6))))
def a121_33 : Ann := right (right (right (right (left a121_6))))
def c121_45 : Code := sndC (sndC c121_33)
def a121_45 : Ann := right (right a121_33)
def c121_55 : Code := sndC c121_45
def a121_55 : Ann := right a121_45
def f121_L0 (x0 x1 x2 x3 x4 x10 x11 : DV) (σ : Store) : RS :=
 codeF G PP (pol 121) CC lo (.loop c121_6) a121_5 (x0 :: x1 :: x2 :: x3 :: x4 :: zn 5 (x10 :: x11 :: zn 136 [])) σ
 (blockC 0 a121_4 (finR PP Tryz.f121.results.toList))
def f121_J0_fr (x0 x1 x2 x3 x4 x10 x11 x12 x21 x22 x23 x24 x25 x31 x32 x38 x39 x40 x41 x42 x43 x44 x45 x46 : DV) : Frame := (x0 :: x1 :: x2 :: x3 :: x4 :: zn 5 (x10 :: x11 :: x12 :: zn 8 (x21 :: x22 :: x23 :: x24 :: x25 :: zn 5 (x31 :: x32 :: zn 5 (x38 :: x39 :: x40 :: x41 :: x42 :: x43 :: x44 :: x45 :: x46 :: zn 101 [])))))
def f121_J0 (x0 x1 x2 x3 x4 x10 x11 x12 x21 x22 x23 x24 x25 x31 x32 x38 x39 x40 x41 x42 x43 x44 x45 x46 : DV) (σ : Store) : RS :=
 (seqC G PP (pol 121) CC lo c121_33 a121_33 (blockC 1 a121_6 (loopC G PP (pol 121) CC lo c121_6 a121_5 (blockC 0 a121_4 (finR PP Tryz.f121.results.toList))))) .normal (f121_J0_fr x0 x1 x2 x3 x4 x10 x11 x12 x21 x22 x23 x24 x25 x31 x32 x38 x39 x40 x41 x42 x43 x44 x45 x46) σ
def f121_J1_fr (x0 x1 x2 x3 x4 x10 x11 x12 x13 x14 x21 x22 x23 x24 x25 x31 x32 x38 x39 x40 x41 x42 x43 x44 x45 x46 x47 x48 x49 x50 x51 x52 x53 x54 x55 x56 x57 x58 x59 x60 x61 x62 x63 x64 x65 x66 x67 : DV) : Frame := (x0 :: x1 :: x2 :: x3 :: x4 :: zn 5 (x10 :: x11 :: x12 :: x13 :: x14 :: zn 6 (x21 :: x22 :: x23 :: x24 :: x25 :: zn 5 (x31 :: x32 :: zn 5 (x38 :: x39 :: x40 :: x41 :: x42 :: x43 :: x44 :: x45 :: x46 :: x47 :: x48 :: x49 :: x50 :: x51 :: x52 :: x53 :: x54 :: x55 :: x56 :: x57 :: x58 :: x59 :: x60 :: x61 :: x62 :: x63 :: x64 :: x65 :: x66 :: x67 :: zn 80 [])))))
def f121_J1 (x0 x1 x2 x3 x4 x10 x11 x12 x13 x14 x21 x22 x23 x24 x25 x31 x32 x38 x39 x40 x41 x42 x43 x44 x45 x46 x47 x48 x49 x50 x51 x52 x53 x54 x55 x56 x57 x58 x59 x60 x61 x62 x63 x64 x65 x66 x67 : DV) (σ : Store) : RS :=
 (seqC G PP (pol 121) CC lo c121_45 a121_45 (blockC 1 a121_6 (loopC G PP (pol 121) CC lo c121_6 a121_5 (blockC 0 a121_4 (finR PP Tryz.f121.results.toList))))) .normal (f121_J1_fr x0 x1 x2 x3 x4 x10 x11 x12 x13 x14 x21 x22 x23 x24 x25 x31 x32 x38 x39 x40 x41 x42 x43 x44 x45 x46 x47 x48 x49 x50 x51 x52 x53 x54 x55 x56 x57 x58 x59 x60 x61 x62 x63 x64 x65 x66 x67) σ
def f121_J2_fr (x0 x1 x2 x3 x4 x10 x11 x12 x13 x14 x21 x22 x23 x24 x25 x31 x32 x38 x39 x40 x41 x42 x43 x44 x45 x46 x47 x48 x49 x50 x51 x52 x53 x54 x55 x56 x57 x58 x59 x60 x61 x62 x63 x64 x65 x66 x67 x68 x69 x70 x71 x72 x73 x74 x75 x76 x77 x78 x79 x80 : DV) : Frame := (x0 :: x1 :: x2 :: x3 :: x4 :: zn 5 (x10 :: x11 :: x12 :: x13 :: x14 :: zn 6 (x21 :: x22 :: x23 :: x24 :: x25 :: zn 5 (x31 :: x32 :: zn 5 (x38 :: x39 :: x40 :: x41 :: x42 :: x43 :: x44 :: x45 :: x46 :: x47 :: x48 :: x49 :: x50 :: x51 :: x52 :: x53 :: x54 :: x55 :: x56 :: x57 :: x58 :: x59 :: x60 :: x61 :: x62 :: x63 :: x64 :: x65 :: x66 :: x67 :: x68 :: x69 :: x70 :: x71 :: x72 :: x73 :: x74 :: x75 :: x76 :: x77 :: x78 :: x79 :: x80 :: zn 67 [])))))
def f121_J2 (x0 x1 x2 x3 x4 x10 x11 x12 x13 x14 x21 x22 x23 x24 x25 x31 x32 x38 x39 x40 x41 x42 x43 x44 x45 x46 x47 x48 x49 x50 x51 x52 x53 x54 x55 x56 x57 x58 x59 x60 x61 x62 x63 x64 x65 x66 x67 x68 x69 x70 x71 x72 x73 x74 x75 x76 x77 x78 x79 x80 : DV) (σ : Store) : RS :=
 (seqC G PP (pol 121) CC lo c121_55 a121_55 (blockC 1 a121_6 (loopC G PP (pol 121) CC lo c121_6 a121_5 (blockC 0 a121_4 (finR PP Tryz.f121.results.toList))))) .normal (f121_J2_fr x0 x1 x2 x3 x4 x10 x11 x12 x13 x14 x21 x22 x23 x24 x25 x31 x32 x38 x39 x40 x41 x42 x43 x44 x45 x46 x47 x48 x49 x50 x51 x52 x53 x54 x55 x56 x57 x58 x59 x60 x61 x62 x63 x64 x65 x66 x67 x68 x69 x70 x71 x72 x73 x74 x75 x76 x77 x78 x79 x80) σ
def F121 (x0 x1 x2 x3 x4 : DV) (σ : Store) : RS :=
 codeF G PP (pol 121) CC lo c121_0 a121_0 (x0 :: x1 :: x2 :: x3 :: x4 :: zn 143 []) σ (finR PP Tryz.f121.results.toList)
theorem f121_J0_eq (G : GuardT) (lo : Nat) (x0 x1 x2 x3 x4 x10 x11 x12 x21 x22 x23 x24 x25 x31 x32 x38 x39 x40 x41 x42 x43 x44 x45 x46 : DV) (σ : Store) : f121_J0 G lo x0 x1 x2 x3 x4 x10 x11 x12 x21 x22 x23 x24 x25 x31 x32 x38 x39 x40 x41 x42 x43 x44 x45 x46 σ =
 (plainFn CC lo (DV.fn 129 []) [x0, x1, x2, x4] σ).bind fun r52_4 =>
 (extractV r52_4.1 0).bind fun x53 =>
 (extractV r52_4.1 1).bind fun x54 =>
 (binOp PP .eql 169 x54 (DV.p (PV.int IntKind.i64 (2)))).bind fun x56 =>
 condK x56
 (
 (plainFn CC lo (DV.fn 130 []) [x0, x1, x2, x4] r52_4.2).bind fun r61_5 =>
 (binOp PP .sub 3 x2 I1).bind fun x63 =>
 (binOp PP .sub 3 x53 x1).bind fun x66 =>
 (binOp PP .sub 3 x63 x66).bind fun x67 =>
 f121_J1 G lo x0 x1 x2 x3 x4 x10 x11 x12 x67 I1 x21 x22 x23 x24 x25 x31 x32 x38 x39 x40 x41 x42 x43 x44 x45 x46 r52_4.1 x0 x1 x2 x4 r52_4.1 x53 x54 x54 x56 x0 x1 x2 x4 r61_5.1 x2 x63 x53 x1 x66 x67 r61_5.2
 )
 (
 f121_J1 G lo x0 x1 x2 x3 x4 x10 x11 x12 x53 x54 x21 x22 x23 x24 x25 x31 x32 x38 x39 x40 x41 x42 x43 x44 x45 x46 r52_4.1 x0 x1 x2 x4 r52_4.1 x53 x54 x54 x56 Z Z Z Z Z Z Z Z Z Z Z r52_4.2
 ) := by kernel_rfl
theorem f121_J1_eq (G : GuardT) (lo : Nat) (x0 x1 x2 x3 x4 x10 x11 x12 x13 x14 x21 x22 x23 x24 x25 x31 x32 x38 x39 x40 x41 x42 x43 x44 x45 x46 x47 x48 x49 x50 x51 x52 x53 x54 x55 x56 x57 x58 x59 x60 x61 x62 x63 x64 x65 x66 x67 : DV) (σ : Store) : f121_J1 G lo x0 x1 x2 x3 x4 x10 x11 x12 x13 x14 x21 x22 x23 x24 x25 x31 x32 x38 x39 x40 x41 x42 x43 x44 x45 x46 x47 x48 x49 x50 x51 x52 x53 x54 x55 x56 x57 x58 x59 x60 x61 x62 x63 x64 x65 x66 x67 σ =
 G _ x10 true (some (x11, σ)) σ fun x70 σ6 =>
 (pickV x10 x70 (DV.p (PV.bool false))).bind fun x71 =>
 G _ x71 true (some (x14, σ6)) σ6 fun x73 σ7 =>
 G _ x71 true ((binOp PP .eql 169 x73 I1).bind fun v => some (v, σ7)) σ7 fun x74 σ8 =>
 (pickV x71 x74 (DV.p (PV.bool false))).bind fun x75 =>
 condK x75
 (
 (plainFn CC lo (DV.fn 131 []) [x0, x1, x2, x4] σ8).bind fun r80_9 =>
 condK r80_9.1
 (
 some ((DV.tuple []), r80_9.2)
 )
 (
 f121_J2 G lo x0 x1 x2 x3 x4 x10 x11 x12 x13 x14 x21 x22 x23 x24 x25 x31 x32 x38 x39 x40 x41 x42 x43 x44 x45 x46 x47 x48 x49 x50 x51 x52 x53 x54 x55 x56 x57 x58 x59 x60 x61 x62 x63 x64 x65 x66 x67 x10 x10 x70 x71 x71 x73 x74 x75 x0 x1 x2 x4 r80_9.1 r80_9.2
 )
 )
 (
 f121_J2 G lo x0 x1 x2 x3 x4 x10 x11 x12 x13 x14 x21 x22 x23 x24 x25 x31 x32 x38 x39 x40 x41 x42 x43 x44 x45 x46 x47 x48 x49 x50 x51 x52 x53 x54 x55 x56 x57 x58 x59 x60 x61 x62 x63 x64 x65 x66 x67 x10 x10 x70 x71 x71 x73 x74 x75 Z Z Z Z Z σ8
 ) := by kernel_rfl
theorem f121_J2_eq (G : GuardT) (lo : Nat) (x0 x1 x2 x3 x4 x10 x11 x12 x13 x14 x21 x22 x23 x24 x25 x31 x32 x38 x39 x40 x41 x42 x43 x44 x45 x46 x47 x48 x49 x50 x51 x52 x53 x54 x55 x56 x57 x58 x59 x60 x61 x62 x63 x64 x65 x66 x67 x68 x69 x70 x71 x72 x73 x74 x75 x76 x77 x78 x79 x80 : DV) (σ : Store) : f121_J2 G lo x0 x1 x2 x3 x4 x10 x11 x12 x13 x14 x21 x22 x23 x24 x25 x31 x32 x38 x39 x40 x41 x42 x43 x44 x45 x46 x47 x48 x49 x50 x51 x52 x53 x54 x55 x56 x57 x58 x59 x60 x61 x62 x63 x64 x65 x66 x67 x68 x69 x70 x71 x72 x73 x74 x75 x76 x77 x78 x79 x80 σ =
 (binOp PP .gtr 3 x1 I0).bind fun x82 =>
 G _ x82 true (some (x4, σ)) σ fun x84 σ10 =>
 G _ x82 true (some (x0, σ10)) σ10 fun x85 σ11 =>
 G _ x82 true (some (x1, σ11)) σ11 fun x86 σ12 =>
 G _ x82 true ((binOp PP .sub 3 x86 I1).bind fun v => some (v, σ12)) σ12 fun x87 σ13 =>
 G _ x82 true ((indexAddr PP 134 x85 x87).bind fun v => some (v, σ13)) σ13 fun x88 σ14 =>
 G _ x82 true ((load PP 102 x88 σ14).bind fun v => some (v, σ14)) σ14 fun x89 σ15 =>
 G _ x82 true (some (x0, σ15)) σ15 fun x90 σ16 =>
 G _ x82 true (some (x13, σ16)) σ16 fun x91 σ17 =>
 G _ x82 true ((indexAddr PP 134 x90 x91).bind fun v => some (v, σ17)) σ17 fun x92 σ18 =>
 G _ x82 true ((load PP 102 x92 σ18).bind fun v => some (v, σ18)) σ18 fun x93 σ19 =>
 G _ x82 true ((pureFn CC x84 [x89, x93] σ19).bind fun v => some (v, σ19)) σ19 fun x94 σ20 =>
 G _ x82 true ((binOp PP .lss 3 x94 I0).bind fun v => some (v, σ20)) σ20 fun x95 σ21 =>
 G _ x82 true ((unOp .not x95).bind fun v => some (v, σ21)) σ21 fun x96 σ22 =>
 (pickV x82 x96 (DV.p (PV.bool false))).bind fun x97 =>
 condK x97
 (
 (plainFn CC lo (DV.fn 132 []) [x0, x1, x2, x13, x4] σ22).bind fun r103_23 =>
 f121_L0 G lo x0 r103_23.1 x2 x3 x4 x10 x11 r103_23.2
 )
 (
 (plainFn CC lo (DV.fn 133 []) [x0, x1, x2, x13, x4] σ22).bind fun r111_24 =>
 (extractV r111_24.1 0).bind fun x112 =>
 (extractV r111_24.1 1).bind fun x113 =>
 (binOp PP .sub 3 x112 x1).bind fun x117 =>
 (binOp PP .sub 3 x2 x112).bind fun x120 =>
 (binOp PP .quo 3 x12 (DV.p (PV.int IntKind.i64 (8)))).bind fun x122 =>
 (binOp PP .lss 3 x117 x120).bind fun x125 =>
 condK x125
 (
 (binOp PP .geq 3 x117 x122).bind fun x128 =>
 (plainFn CC lo (DV.fn 121 []) [x0, x1, x112, x3, x4] r111_24.2).bind fun r134_25 =>
 (binOp PP .add 3 x112 I1).bind fun x136 =>
 f121_L0 G lo x0 x136 x2 x3 x4 x128 x113 r134_25.2
 )
 (
 (binOp PP .geq 3 x120 x122).bind fun x139 =>
 (binOp PP .add 3 x112 I1).bind fun x142 =>
 (plainFn CC lo (DV.fn 121 []) [x0, x142, x2, x3, x4] r111_24.2).bind fun r146_26 =>
 f121_L0 G lo x0 x1 x112 x3 x4 x139 x113 r146_26.2
 )
 ) := by kernel_rfl
theorem f121_L0_eqN (G : GuardT) (hG : GuardOk G) (lo : Nat) (x0 x1 x2 x3 x4 x10 x11 : DV) (σ : Store) : f121_L0 G lo x0 x1 x2 x3 x4 x10 x11 σ =
 (binOp PP .sub 3 x2 x1).bind fun x23 =>
 (binOp PP .leq 3 x23 (DV.p (PV.int IntKind.i64 (12)))).bind fun x25 =>
 condK x25
 (
 (plainFn CC lo (DV.fn 126 []) [x0, x1, x2, x4] σ).bind fun r30_1 =>
 some ((DV.tuple []), r30_1.2)
 )
 (
 (binOp PP .eql 3 x3 I0).bind fun x32 =>
 condK x32
 (
 (plainFn CC lo (DV.fn 127 []) [x0, x1, x2, x4] σ).bind fun r37_2 =>
 some ((DV.tuple []), r37_2.2)
 )
 (
 (unOp .not x10).bind fun x39 =>
 condK x39
 (
 (plainFn CC lo (DV.fn 128 []) [x0, x1, x2, x4] σ).bind fun r44_3 =>
 (binOp PP .sub 3 x3 I1).bind fun x46 =>
 (plainFn CC lo (DV.fn 129 []) [x0, x1, x2, x4] r44_3.2).bind fun r52_4 =>
 (extractV r52_4.1 0).bind fun x53 =>
 (extractV r52_4.1 1).bind fun x54 =>
 (binOp PP .eql 169 x54 (DV.p (PV.int IntKind.i64 (2)))).bind fun x56 =>
 condK x56
 (
 (plainFn CC lo (DV.fn 130 []) [x0, x1, x2, x4] r52_4.2).bind fun r61_5 =>
 (binOp PP .sub 3 x2 I1).bind fun x63 =>
 (binOp PP .sub 3 x53 x1).bind fun x66 =>
 (binOp PP .sub 3 x63 x66).bind fun x67 =>
 G _ x10 true (some (x11, r61_5.2)) r61_5.2 fun x70 σ6 =>
 (pickV x10 x70 (DV.p (PV.bool false))).bind fun x71 =>
 G _ x71 true (some (I1, σ6)) σ6 fun x73 σ7 =>
 G _ x71 true ((binOp PP .eql 169 x73 I1).bind fun v => some (v, σ7)) σ7 fun x74 σ8 =>
 (pickV x71 x74 (DV.p (PV.bool false))).bind fun x75 =>
 condK x75
 (
 (plainFn CC lo (DV.fn 131 []) [x0, x1, x2, x4] σ8).bind fun r80_9 =>
 condK r80_9.1
 (
 some ((DV.tuple []), r80_9.2)
 )
 (
 (binOp PP .gtr 3 x1 I0).bind fun x82 =>
 G _ x82 true (some (x4, r80_9.2)) r80_9.2 fun x84 σ10 =>
 G _ x82 true (some (x0, σ10)) σ10 fun x85 σ11 =>
 G _ x82 true (some (x1, σ11)) σ11 fun x86 σ12 =>
 G _ x82 true ((binOp PP .sub 3 x86 I1).bind fun v => some (v, σ12)) σ12 fun x87 σ13 =>
 G _ x82 true ((indexAddr PP 134 x85 x87).bind fun v => some (v, σ13)) σ13 fun x88 σ14 =>
 G _ x82 true ((load PP 102 x88 σ14).bind fun v => some (v, σ14)) σ14 fun x89 σ15 =>
 G _ x82 true (some (x0, σ15)) σ15 fun x90 σ16 =>
 G _ x82 true (some (x67, σ16)) σ16 fun x91 σ17 =>
 G _ x82 true ((indexAddr PP 134 x90 x91).bind fun v => some (v, σ17)) σ17 fun x92 σ18 =>
 G _ x82 true ((load PP 102 x92 σ18).bind fun v => some (v, σ18)) σ18 fun x93 σ19 =>
 G _ x82 true ((pureFn CC x84 [x89, x93] σ19).bind fun v => some (v, σ19)) σ19 fun x94 σ20 =>
 G _ x82 true ((binOp PP .lss 3 x94 I0).bind fun v => some (v, σ20)) σ20 fun x95 σ21 =>
 G _ x82 true ((unOp .not x95).bind fun v => some (v, σ21)) σ21 fun x96 σ22 =>
 (pickV x82 x96 (DV.p (PV.bool false))).bind fun x97 =>
 condK x97
 (
 (plainFn CC lo (DV.fn 132 []) [x0, x1, x2, x67, x4] σ22).bind fun r103_23 =>
 f121_L0 G lo x0 r103_23.1 x2 x46 x4 x10 x11 r103_23.2
 )
 (
 (plainFn CC lo (DV.fn 133 []) [x0, x1, x2, x67, x4] σ22).bind fun r111_24 =>
 (extractV r111_24.1 0).bind fun x112 =>
 (extractV r111_24.1 1).bind fun x113 =>
 (binOp PP .sub 3 x112 x1).bind fun x117 =>
 (binOp PP .sub 3 x2 x112).bind fun x120 =>
 (binOp PP .quo 3 x23 (DV.p (PV.int IntKind.i64 (8)))).bind fun x122 =>
 (binOp PP .lss 3 x117 x120).bind fun x125 =>
 condK x125
 (
 (binOp PP .geq 3 x117 x122).bind fun x128 =>
 (plainFn CC lo (DV.fn 121 []) [x0, x1, x112, x46, x4] r111_24.2).bind fun r134_25 =>
 (binOp PP .add 3 x112 I1).bind fun x136 =>
 f121_L0 G lo x0 x136 x2 x46 x4 x128 x113 r134_25.2
 )
 (
 (binOp PP .geq 3 x120 x122).bind fun x139 =>
 (binOp PP .add 3 x112 I1).bind fun x142 =>
 (plainFn CC lo (DV.fn 121 []) [x0, x142, x2, x46, x4] r111_24.2).bind fun r146_26 =>
 f121_L0 G lo x0 x1 x112 x46 x4 x139 x113 r146_26.2
 )
 )
 )
 )
 (
 (binOp PP .gtr 3 x1 I0).bind fun x82 =>
 G _ x82 true (some (x4, σ8)) σ8 fun x84 σ27 =>
 G _ x82 true (some (x0, σ27)) σ27 fun x85 σ28 =>
 G _ x82 true (some (x1, σ28)) σ28 fun x86 σ29 =>
 G _ x82 true ((binOp PP .sub 3 x86 I1).bind fun v => some (v, σ29)) σ29 fun x87 σ30 =>
 G _ x82 true ((indexAddr PP 134 x85 x87).bind fun v => some (v, σ30)) σ30 fun x88 σ31 =>
 G _ x82 true ((load PP 102 x88 σ31).bind fun v => some (v, σ31)) σ31 fun x89 σ32 =>
 G _ x82 true (some (x0, σ32)) σ32 fun x90 σ33 =>
 G _ x82 true (some (x67, σ33)) σ33 fun x91 σ34 =>
 G _ x82 true ((indexAddr PP 134 x90 x91).bind fun v => some (v, σ34)) σ34 fun x92 σ35 =>
 G _ x82 true ((load PP 102 x92 σ35).bind fun v => some (v, σ35)) σ35 fun x93 σ36 =>
 G _ x82 true ((pureFn CC x84 [x89, x93] σ36).bind fun v => some (v, σ36)) σ36 fun x94 σ37 =>
 G _ x82 true ((binOp PP .lss 3 x94 I0).bind fun v => some (v, σ37)) σ37 fun x95 σ38 =>
 G _ x82 true ((unOp .not x95).bind fun v => some (v, σ38)) σ38 fun x96 σ39 =>
 (pickV x82 x96 (DV.p (PV.bool false))).bind fun x97 =>
 condK x97
 (
 (plainFn CC lo (DV.fn 132 []) [x0, x1, x2, x67, x4] σ39).bind fun r103_40 =>
 f121_L0 G lo x0 r103_40.1 x2 x46 x4 x10 x11 r103_40.2
 )
 (
 (plainFn CC lo (DV.fn 133 []) [x0, x1, x2, x67, x4] σ39).bind fun r111_41 =>
 (extractV r111_41.1 0).bind fun x112 =>
 (extractV r111_41.1 1).bind fun x113 =>
 (binOp PP .sub 3 x112 x1).bind fun x117 =>
 (binOp PP .sub 3 x2 x112).bind fun x120 =>
 (binOp PP .quo 3 x23 (DV.p (PV.int IntKind.i64 (8)))).bind fun x122 =>
 (binOp PP .lss 3 x117 x120).bind fun x125 =>
 condK x125
 (
 (binOp PP .geq 3 x117 x122).bind fun x128 =>
 (plainFn CC lo (DV.fn 121 []) [x0, x1, x112, x46, x4] r111_41.2).bind fun r134_42 =>
 (binOp PP .add 3 x112 I1).bind fun x136 =>
 f121_L0 G lo x0 x136 x2 x46 x4 x128 x113 r134_42.2
 )
 (
 (binOp PP .geq 3 x120 x122).bind fun x139 =>
 (binOp PP .add 3 x112 I1).bind fun x142 =>
 (plainFn CC lo (DV.fn 121 []) [x0, x142, x2, x46, x4] r111_41.2).bind fun r146_43 =>
 f121_L0 G lo x0 x1 x112 x46 x4 x139 x113 r146_43.2
 )
 )
 )
 )
 (
 G _ x10 true (some (x11, r52_4.2)) r52_4.2 fun x70 σ44 =>
 (pickV x10 x70 (DV.p (PV.bool false))).bind fun x71 =>
 G _ x71 true (some (x54, σ44)) σ44 fun x73 σ45 =>
 G _ x71 true ((binOp PP .eql 169 x73 I1).bind fun v => some (v, σ45)) σ45 fun x74 σ46 =>
 (pickV x71 x74 (DV.p (PV.bool false))).bind fun x75 =>
 condK x75
 (
 (plainFn CC lo (DV.fn 131 []) [x0, x1, x2, x4] σ46).bind fun r80_47 =>
 condK r80_47.1
 (
 some ((DV.tuple []), r80_47.2)
 )
 (
 (binOp PP .gtr 3 x1 I0).bind fun x82 =>
 G _ x82 true (some (x4, r80_47.2)) r80_47.2 fun x84 σ48 =>
 G _ x82 true (some (x0, σ48)) σ48 fun x85 σ49 =>
 G _ x82 true (some (x1, σ49)) σ49 fun x86 σ50 =>
 G _ x82 true ((binOp PP .sub 3 x86 I1).bind fun v => some (v, σ50)) σ50 fun x87 σ51 =>
 G _ x82 true ((indexAddr PP 134 x85 x87).bind fun v => some (v, σ51)) σ51 fun x88 σ52 =>
 G _ x82 true ((load PP 102 x88 σ52).bind fun v => some (v, σ52)) σ52 fun x89 σ53 =>
 G _ x82 true (some (x0, σ53)) σ53 fun x90 σ54 =>
 G _ x82 true (some (x53, σ54)) σ54 fun x91 σ55 =>
 G _ x82 true ((indexAddr PP 134 x90 x91).bind fun v => some (v, σ55)) σ55 fun x92 σ56 =>
 G _ x82 true ((load PP 102 x92 σ56).bind fun v => some (v, σ56)) σ56 fun x93 σ57 =>
 G _ x82 true ((pureFn CC x84 [x89, x93] σ57).bind fun v => some (v, σ57)) σ57 fun x94 σ58 =>
 G _ x82 true ((binOp PP .lss 3 x94 I0).bind fun v => some (v, σ58)) σ58 fun x95 σ59 =>
 G _ x82 true ((unOp .not x95).bind fun v => some (v, σ59)) σ59 fun x96 σ60 =>
 (pickV x82 x96 (DV.p (PV.bool false))).bind fun x97 =>
 condK x97
 (
 (plainFn CC lo (DV.fn 132 []) [x0, x1, x2, x53, x4] σ60).bind fun r103_61 =>
 f121_L0 G lo x0 r103_61.1 x2 x46 x4 x10 x11 r103_61.2
 )
 (
 (plainFn CC lo (DV.fn 133 []) [x0, x1, x2, x53, x4] σ60).bind fun r111_62 =>
 (extractV r111_62.1 0).bind fun x112 =>
 (extractV r111_62.1 1).bind fun x113 =>
 (binOp PP .sub 3 x112 x1).bind fun x117 =>
 (binOp PP .sub 3 x2 x112).bind fun x120 =>
 (binOp PP .quo 3 x23 (DV.p (PV.int IntKind.i64 (8)))).bind fun x122 =>
 (binOp PP .lss 3 x117 x120).bind fun x125 =>
 condK x125
 (
 (binOp PP .geq 3 x117 x122).bind fun x128 =>
 (plainFn CC lo (DV.fn 121 []) [x0, x1, x112, x46, x4] r111_62.2).bind fun r134_63 =>
 (binOp PP .add 3 x112 I1).bind fun x136 =>
 f121_L0 G lo x0 x136 x2 x46 x4 x128 x113 r134_63.2
 )
 (
 (binOp PP .geq 3 x120 x122).bind fun x139 =>
 (binOp PP .add 3 x112 I1).bind fun x142 =>
 (plainFn CC lo (DV.fn 121 []) [x0, x142, x2, x46, x4] r111_62.2).bind fun r146_64 =>
 f121_L0 G lo x0 x1 x112 x46 x4 x139 x113 r146_64.2
 )
 )
 )
 )
 (
 (binOp PP .gtr 3 x1 I0).bind fun x82 =>
 G _ x82 true (some (x4, σ46)) σ46 fun x84 σ65 =>
 G _ x82 true (some (x0, σ65)) σ65 fun x85 σ66 =>
 G _ x82 true (some (x1, σ66)) σ66 fun x86 σ67 =>
 G _ x82 true ((binOp PP .sub 3 x86 I1).bind fun v => some (v, σ67)) σ67 fun x87 σ68 =>
 G _ x82 true ((indexAddr PP 134 x85 x87).bind fun v => some (v, σ68)) σ68 fun x88 σ69 =>
 G _ x82 true ((load PP 102 x88 σ69).bind fun v => some (v, σ69)) σ69 fun x89 σ70 =>
 G _ x82 true (some (x0, σ70)) σ70 fun x90 σ71 =>
 G _ x82 true (some (x53, σ71)) σ71 fun x91 σ72 =>
 G _ x82 true ((indexAddr PP 134 x90 x91).bind fun v => some (v, σ72)) σ72 fun x92 σ73 =>
 G _ x82 true ((load PP 102 x92 σ73).bind fun v => some (v, σ73)) σ73 fun x93 σ74 =>
 G _ x82 true ((pureFn CC x84 [x89, x93] σ74).bind fun v => some (v, σ74)) σ74 fun x94 σ75 =>
 G _ x82 true ((binOp PP .lss 3 x94 I0).bind fun v => some (v, σ75)) σ75 fun x95 σ76 =>
 G _ x82 true ((unOp .not x95).bind fun v => some (v, σ76)) σ76 fun x96 σ77 =>
 (pickV x82 x96 (DV.p (PV.bool false))).bind fun x97 =>
 condK x97
 (
 (plainFn CC lo (DV.fn 132 []) [x0, x1, x2, x53, x4] σ77).bind fun r103_78 =>
 f121_L0 G lo x0 r103_78.1 x2 x46 x4 x10 x11 r103_78.2
 )
 (
 (plainFn CC lo (DV.fn 133 []) [x0, x1, x2, x53, x4] σ77).bind fun r111_79 =>
 (extractV r111_79.1 0).bind fun x112 =>
 (extractV r111_79.1 1).bind fun x113 =>
 (binOp PP .sub 3 x112 x1).bind fun x117 =>
 (binOp PP .sub 3 x2 x112).bind fun x120 =>
 (binOp PP .quo 3 x23 (DV.p (PV.int IntKind.i64 (8)))).bind fun x122 =>
 (binOp PP .lss 3 x117 x120).bind fun x125 =>
 condK x125
 (
 (binOp PP .geq 3 x117 x122).bind fun x128 =>
 (plainFn CC lo (DV.fn 121 []) [x0, x1, x112, x46, x4] r111_79.2).bind fun r134_80 =>
 (binOp PP .add 3 x112 I1).bind fun x136 =>
 f121_L0 G lo x0 x136 x2 x46 x4 x128 x113 r134_80.2
 )
 (
 (binOp PP .geq 3 x120 x122).bind fun x139 =>
 (binOp PP .add 3 x112 I1).bind fun x142 =>
 (plainFn CC lo (DV.fn 121 []) [x0, x142, x2, x46, x4] r111_79.2).bind fun r146_81 =>
 f121_L0 G lo x0 x1 x112 x46 x4 x139 x113 r146_81.2
 )
 )
 )
 )
 )
 (
 (plainFn CC lo (DV.fn 129 []) [x0, x1, x2, x4] σ).bind fun r52_82 =>
 (extractV r52_82.1 0).bind fun x53 =>
 (extractV r52_82.1 1).bind fun x54 =>
 (binOp PP .eql 169 x54 (DV.p (PV.int IntKind.i64 (2)))).bind fun x56 =>
 condK x56
 (
 (plainFn CC lo (DV.fn 130 []) [x0, x1, x2, x4] r52_82.2).bind fun r61_83 =>
 (binOp PP .sub 3 x2 I1).bind fun x63 =>
 (binOp PP .sub 3 x53 x1).bind fun x66 =>
 (binOp PP .sub 3 x63 x66).bind fun x67 =>
 G _ x10 true (some (x11, r61_83.2)) r61_83.2 fun x70 σ84 =>
 (pickV x10 x70 (DV.p (PV.bool false))).bind fun x71 =>
 G _ x71 true (some (I1, σ84)) σ84 fun x73 σ85 =>
 G _ x71 true ((binOp PP .eql 169 x73 I1).bind fun v => some (v, σ85)) σ85 fun x74 σ86 =>
 (pickV x71 x74 (DV.p (PV.bool false))).bind fun x75 =>
 condK x75
 (
 (plainFn CC lo (DV.fn 131 []) [x0, x1, x2, x4] σ86).bind fun r80_87 =>
 condK r80_87.1
 (
 some ((DV.tuple []), r80_87.2)
 )
 (
 (binOp PP .gtr 3 x1 I0).bind fun x82 =>
 G _ x82 true (some (x4, r80_87.2)) r80_87.2 fun x84 σ88 =>
 G _ x82 true (some (x0, σ88)) σ88 fun x85 σ89 =>
 G _ x82 true (some (x1, σ89)) σ89 fun x86 σ90 =>
 G _ x82 true ((binOp PP .sub 3 x86 I1).bind fun v => some (v, σ90)) σ90 fun x87 σ91 =>
 G _ x82 true ((indexAddr PP 134 x85 x87).bind fun v => some (v, σ91)) σ91 fun x88 σ92 =>
 G _ x82 true ((load PP 102 x88 σ92).bind fun v => some (v, σ92)) σ92 fun x89 σ93 =>
 G _ x82 true (some (x0, σ93)) σ93 fun x90 σ94 =>
 G _ x82 true (some (x67, σ94)) σ94 fun x91 σ95 =>
 G _ x82 true ((indexAddr PP 134 x90 x91).bind fun v => some (v, σ95)) σ95 fun x92 σ96 =>
 G _ x82 true ((load PP 102 x92 σ96).bind fun v => some (v, σ96)) σ96 fun x93 σ97 =>
 G _ x82 true ((pureFn CC x84 [x89, x93] σ97).bind fun v => some (v, σ97)) σ97 fun x94 σ98 =>
 G _ x82 true ((binOp PP .lss 3 x94 I0).bind fun v => some (v, σ98)) σ98 fun x95 σ99 =>
 G _ x82 true ((unOp .not x95).bind fun v => some (v, σ99)) σ99 fun x96 σ100 =>
 (pickV x82 x96 (DV.p (PV.bool false))).bind fun x97 =>
 condK x97
 (
 (plainFn CC lo (DV.fn 132 []) [x0, x1, x2, x67, x4] σ100).bind fun r103_101 =>
 f121_L0 G lo x0 r103_101.1 x2 x3 x4 x10 x11 r103_101.2
 )
 (
 (plainFn CC lo (DV.fn 133 []) [x0, x1, x2, x67, x4] σ100).bind fun r111_102 =>
 (extractV r111_102.1 0).bind fun x112 =>
 (extractV r111_102.1 1).bind fun x113 =>
 (binOp PP .sub 3 x112 x1).bind fun x117 =>
 (binOp PP .sub 3 x2 x112).bind fun x120 =>
 (binOp PP .quo 3 x23 (DV.p (PV.int IntKind.i64 (8)))).bind fun x122 =>
 (binOp PP .lss 3 x117 x120).bind fun x125 =>
 condK x125
 (
 (binOp PP .geq 3 x117 x122).bind fun x128 =>
 (plainFn CC lo (DV.fn 121 []) [x0, x1, x112, x3, x4] r111_102.2).bind fun r134_103 =>
 (binOp PP .add 3 x112 I1).bind fun x136 =>
 f121_L0 G lo x0 x136 x2 x3 x4 x128 x113 r134_103.2
 )
 (
 (binOp PP .geq 3 x120 x122).bind fun x139 =>
 (binOp PP .add 3 x112 I1).bind fun x142 =>
 (plainFn CC lo (DV.fn 121 []) [x0, x142, x2, x3, x4] r111_102.2).bind fun r146_104 =>
 f121_L0 G lo x0 x1 x112 x3 x4 x139 x113 r146_104.2
 )
 )
 )
 )
 (
 (binOp PP .gtr 3 x1 I0).bind fun x82 =>
 G _ x82 true (some (x4, σ86)) σ86 fun x84 σ105 =>
 G _ x82 true (some (x0, σ105)) σ105 fun x85 σ106 =>
 G _ x82 true (some (x1, σ106)) σ106 fun x86 σ107 =>
 G _ x82 true ((binOp PP .sub 3 x86 I1).bind fun v => some (v, σ107)) σ107 fun x87 σ108 =>
 G _ x82 true ((indexAddr PP 134 x85 x87).bind fun v => some (v, σ108)) σ108 fun x88 σ109 =>
 G _ x82 true ((load PP 102 x88 σ109).bind fun v => some (v, σ109)) σ109 fun x89 σ110 =>
 G _ x82 true (some (x0, σ110)) σ110 fun x90 σ111 =>
 G _ x82 true (some (x67, σ111)) σ111 fun x91 σ112 =>
 G _ x82 true ((indexAddr PP 134 x90 x91).bind fun v => some (v, σ112)) σ112 fun x92 σ113 =>
 G _ x82 true ((load PP 102 x92 σ113).bind fun v => some (v, σ113)) σ113 fun x93 σ114 =>
 G _ x82 true ((pureFn CC x84 [x89, x93] σ114).bind fun v => some (v, σ114)) σ114 fun x94 σ115 =>
 G _ x82 true ((binOp PP .lss 3 x94 I0).bind fun v => some (v, σ115)) σ115 fun x95 σ116 =>
 G _ x82 true ((unOp .not x95).bind fun v => some (v, σ116)) σ116 fun x96 σ117 =>
 (pickV x82 x96 (DV.p (PV.bool false))).bind fun x97 =>
 condK x97
 (
 (plainFn CC lo (DV.fn 132 []) [x0, x1, x2, x67, x4] σ117).bind fun r103_118 =>
 f121_L0 G lo x0 r103_118.1 x2 x3 x4 x10 x11 r103_118.2
 )
 (
 (plainFn CC lo (DV.fn 133 []) [x0, x1, x2, x67, x4] σ117).bind fun r111_119 =>
 (extractV r111_119.1 0).bind fun x112 =>
 (extractV r111_119.1 1).bind fun x113 =>
 (binOp PP .sub 3 x112 x1).bind fun x117 =>
 (binOp PP .sub 3 x2 x112).bind fun x120 =>
 (binOp PP .quo 3 x23 (DV.p (PV.int IntKind.i64 (8)))).bind fun x122 =>
 (binOp PP .lss 3 x117 x120).bind fun x125 =>
 condK x125
 (
 (binOp PP .geq 3 x117 x122).bind fun x128 =>
 (plainFn CC lo (DV.fn 121 []) [x0, x1, x112, x3, x4] r111_119.2).bind fun r134_120 =>
 (binOp PP .add 3 x112 I1).bind fun x136 =>
 f121_L0 G lo x0 x136 x2 x3 x4 x128 x113 r134_120.2
 )
 (
 (binOp PP .geq 3 x120 x122).bind fun x139 =>
 (binOp PP .add 3 x112 I1).bind fun x142 =>
 (plainFn CC lo (DV.fn 121 []) [x0, x142, x2, x3, x4] r111_119.2).bind fun r146_121 =>
 f121_L0 G lo x0 x1 x112 x3 x4 x139 x113 r146_121.2
 )
 )
 )
 )
 (
 G _ x10 true (some (x11, r52_82.2)) r52_82.2 fun x70 σ122 =>
 (pickV x10 x70 (DV.p (PV.bool false))).bind fun x71 =>
 G _ x71 true (some (x54, σ122)) σ122 fun x73 σ123 =>
 G _ x71 true ((binOp PP .eql 169 x73 I1).bind fun v => some (v, σ123)) σ123 fun x74 σ124 =>
 (pickV x71 x74 (DV.p (PV.bool false))).bind fun x75 =>
 condK x75
 (
 (plainFn CC lo (DV.fn 131 []) [x0, x1, x2, x4] σ124).bind fun r80_125 =>
 condK r80_125.1
 (
 some ((DV.tuple []), r80_125.2)
 )
 (
 (binOp PP .gtr 3 x1 I0).bind fun x82 =>
 G _ x82 true (some (x4, r80_125.2)) r80_125.2 fun x84 σ126 =>
 G _ x82 true (some (x0, σ126)) σ126 fun x85 σ127 =>
 G _ x82 true (some (x1, σ127)) σ127 fun x86 σ128 =>
 G _ x82 true ((binOp PP .sub 3 x86 I1).bind fun v => some (v, σ128)) σ128 fun x87 σ129 =>
 G _ x82 true ((indexAddr PP 134 x85 x87).bind fun v => some (v, σ129)) σ129 fun x88 σ130 =>
 G _ x82 true ((load PP 102 x88 σ130).bind fun v => some (v, σ130)) σ130 fun x89 σ131 =>
 G _ x82 true (some (x0, σ131)) σ131 fun x90 σ132 =>
 G _ x82 true (some (x53, σ132)) σ132 fun x91 σ133 =>
 G _ x82 true ((indexAddr PP 134 x90 x91).bind fun v => some (v, σ133)) σ133 fun x92 σ134 =>
 G _ x82 true ((load PP 102 x92 σ134).bind fun v => some (v, σ134)) σ134 fun x93 σ135 =>
 G _ x82 true ((pureFn CC x84 [x89, x93] σ135).bind fun v => some (v, σ135)) σ135 fun x94 σ136 =>
 G _ x82 true ((binOp PP .lss 3 x94 I0).bind fun v => some (v, σ136)) σ136 fun x95 σ137 =>
 G _ x82 true ((unOp .not x95).bind fun v => some (v, σ137)) σ137 fun x96 σ138 =>
 (pickV x82 x96 (DV.p (PV.bool false))).bind fun x97 =>
 condK x97
 (
 (plainFn CC lo (DV.fn 132 []) [x0, x1, x2, x53, x4] σ138).bind fun r103_139 =>
 f121_L0 G lo x0 r103_139.1 x2 x3 x4 x10 x11 r103_139.2
 )
 (
 (plainFn CC lo (DV.fn 133 []) [x0, x1, x2, x53, x4] σ138).bind fun r111_140 =>
 (extractV r111_140.1 0).bind fun x112 =>
 (extractV r111_140.1 1).bind fun x113 =>
 (binOp PP .sub 3 x112 x1).bind fun x117 =>
 (binOp PP .sub 3 x2 x112).bind fun x120 =>
 (binOp PP .quo 3 x23 (DV.p (PV.int IntKind.i64 (8)))).bind fun x122 =>
 (binOp PP .lss 3 x117 x120).bind fun x125 =>
 condK x125
 (
 (binOp PP .geq 3 x117 x122).bind fun x128 =>
 (plainFn CC lo (DV.fn 121 []) [x0, x1, x112, x3, x4] r111_140.2).bind fun r134_141 =>
 (binOp PP .add 3 x112 I1).bind fun x136 =>
 f121_L0 G lo x0 x136 x2 x3 x4 x128 x113 r134_141.2
 )
 (
 (binOp PP .geq 3 x120 x122).bind fun x139 =>
 (binOp PP .add 3 x112 I1).bind fun x142 =>
 (plainFn CC lo (DV.fn 121 []) [x0, x142, x2, x3, x4] r111_140.2).bind fun r146_142 =>
 f121_L0 G lo x0 x1 x112 x3 x4 x139 x113 r146_142.2
 )
 )
 )
 )
 (
 (binOp PP .gtr 3 x1 I0).bind fun x82 =>
 G _ x82 true (some (x4, σ124)) σ124 fun x84 σ143 =>
 G _ x82 true (some (x0, σ143)) σ143 fun x85 σ144 =>
 G _ x82 true (some (x1, σ144)) σ144 fun x86 σ145 =>
 G _ x82 true ((binOp PP .sub 3 x86 I1).bind fun v => some (v, σ145)) σ145 fun x87 σ146 =>
 G _ x82 true ((indexAddr PP 134 x85 x87).bind fun v => some (v, σ146)) σ146 fun x88 σ147 =>
 G _ x82 true ((load PP 102 x88 σ147).bind fun v => some (v, σ147)) σ147 fun x89 σ148 =>
 G _ x82 true (some (x0, σ148)) σ148 fun x90 σ149 =>
 G _ x82 true (some (x53, σ149)) σ149 fun x91 σ150 =>
 G _ x82 true ((indexAddr PP 134 x90 x91).bind fun v => some (v, σ150)) σ150 fun x92 σ151 =>
 G _ x82 true ((load PP 102 x92 σ151).bind fun v => some (v, σ151)) σ151 fun x93 σ152 =>
 G _ x82 true ((pureFn CC x84 [x89, x93] σ152).bind fun v => some (v, σ152)) σ152 fun x94 σ153 =>
 G _ x82 true ((binOp PP .lss 3 x94 I0).bind fun v => some (v, σ153)) σ153 fun x95 σ154 =>
 G _ x82 true ((unOp .not x95).bind fun v => some (v, σ154)) σ154 fun x96 σ155 =>
 (pickV x82 x96 (DV.p (PV.bool false))).bind fun x97 =>
 condK x97
 (
 (plainFn CC lo (DV.fn 132 []) [x0, x1, x2, x53, x4] σ155).bind fun r103_156 =>
 f121_L0 G lo x0 r103_156.1 x2 x3 x4 x10 x11 r103_156.2
 )
 (
 (plainFn CC lo (DV.fn 133 []) [x0, x1, x2, x53, x4] σ155).bind fun r111_157 =>
 (extractV r111_157.1 0).bind fun x112 =>
 (extractV r111_157.1 1).bind fun x113 =>
 (binOp PP .sub 3 x112 x1).bind fun x117 =>
 (binOp PP .sub 3 x2 x112).bind fun x120 =>
 (binOp PP .quo 3 x23 (DV.p (PV.int IntKind.i64 (8)))).bind fun x122 =>
 (binOp PP .lss 3 x117 x120).bind fun x125 =>
 condK x125
 (
 (binOp PP .geq 3 x117 x122).bind fun x128 =>
 (plainFn CC lo (DV.fn 121 []) [x0, x1, x112, x3, x4] r111_157.2).bind fun r134_158 =>
 (binOp PP .add 3 x112 I1).bind fun x136 =>
 f121_L0 G lo x0 x136 x2 x3 x4 x128 x113 r134_158.2
 )
 (
 (binOp PP .geq 3 x120 x122).bind fun x139 =>
 (binOp PP .add 3 x112 I1).bind fun x142 =>
 (plainFn CC lo (DV.fn 121 []) [x0, x142, x2, x3, x4] r111_157.2).bind fun r146_159 =>
 f121_L0 G lo x0 x1 x112 x3 x4 x139 x113 r146_159.2
 )
 )
 )
 )
 )
 )
 ) := (loopF_eq G hG).trans (by kernel_rfl)
theorem f121_L0_eq (G : GuardT) (hG : GuardOk G) (lo : Nat) (x0 x1 x2 x3 x4 x10 x11 : DV) (σ : Store) : f121_L0 G lo x0 x1 x2 x3 x4 x10 x11 σ =
 (binOp PP .sub 3 x2 x1).bind fun x23 =>
 (binOp PP .leq 3 x23 (DV.p (PV.int IntKind.i64 (12)))).bind fun x25 =>
 condK x25
 (
 (plainFn CC lo (DV.fn 126 []) [x0, x1, x2, x4] σ).bind fun r30_1 =>
 some ((DV.tuple []), r30_1.2)
 )
 (
 (binOp PP .eql 3 x3 I0).bind fun x32 =>
 condK x32
 (
 (plainFn CC lo (DV.fn 127 []) [x0, x1, x2, x4] σ).bind fun r37_2 =>
 some ((DV.tuple []), r37_2.2)
 )
 (
 (unOp .not x10).bind fun x39 =>
 condK x39
 (
 (plainFn CC lo (DV.fn 128 []) [x0, x1, x2, x4] σ).bind fun r44_3 =>
 (binOp PP .sub 3 x3 I1).bind fun x46 =>
 f121_J0 G lo x0 x1 x2 x46 x4 x10 x11 x23 x2 x1 x23 x23 x25 x3 x32 x10 x39 x0 x1 x2 x4 r44_3.1 x3 x46 r44_3.2
 )
 (
 f121_J0 G lo x0 x1 x2 x3 x4 x10 x11 x23 x2 x1 x23 x23 x25 x3 x32 x10 x39 Z Z Z Z Z Z Z σ
 )
 )
 ) := (f121_L0_eqN G hG lo x0 x1 x2 x3 x4 x10 x11 σ).trans (by simp only [f121_J0_eq, f121_J1_eq, f121_J2_eq])
theorem F121_eq (G : GuardT) (lo : Nat) (x0 x1 x2 x3 x4 : DV) (σ : Store) : F121 G lo x0 x1 x2 x3 x4 σ =
 f121_L0 G lo x0 x1 x2 x3 x4 (DV.p (PV.bool true)) (DV.p (PV.bool true)) σ := by kernel_rfl
theorem F121_call {lo : Nat} {x0 x1 x2 x3 x4 : DV} (h : F121 guardT lo x0 x1 x2 x3 x4 σ = some r) : CC lo 121 [x0, x1, x2, x3, x4] σ = some r :=
 callL_run Tryz.func121 (by decide +kernel) rfl (by decide +kernel) h
def c122_0 : Code := bodyOf Tryz.f122
def a122_0 : Ann := (pol 122).ann
def F122 (x0 : DV) (σ : Store) : RS :=
 codeF G PP (pol 122) CC lo c122_0 a122_0 (x0 :: zn 7 []) σ (finR PP Tryz.f122.results.toList)
theorem F122_eq (G : GuardT) (lo : Nat) (x0 : DV) (σ : Store) : F122 G lo x0 σ =
 condK (DV.p (PV.bool false))
 (
 (convert PP 165 176 x0).bind fun x4 =>
 (pureFn CC (DV.fn 134 []) [x4] σ).bind fun x5 =>
 some (x5, σ)
 )
 (
 (pureFn CC (DV.fn 135 []) [x0] σ).bind fun x7 =>
 some (x7, σ)
 ) := by kernel_rfl
theorem F122_call {lo : Nat} {x0 : DV} (h : F122 guardT lo x0 σ = some r) : CC lo 122 [x0] σ = some r :=
 callL_run Tryz.func122 (by decide +kernel) rfl (by decide +kernel) h
def c135_0 : Code := bodyOf Tryz.f135
def a135_0 : Ann := (pol 135).ann
def c135_10 : Code := sndC (sndC c135_0)
def a135_10 : Ann := right (right a135_0)
def c135_18 : Code := sndC c135_10
def a135_18 : Ann := right a135_10
def c135_26 : Code := sndC c135_18
def a135_26 : Ann := right a135_18
def f135_J0_fr (x0 x2 x3 x4 x5 x6 : DV) : Frame := (x0 :: Z :: x2 :: x3 :: x4 :: x5 :: x6 :: zn 18 [])
def f135_J0 (x0 x2 x3 x4 x5 x6 : DV) (σ : Store) : RS :=
 (seqC G PP (pol 135) CC lo c135_10 a135_10 (finR PP Tryz.f135.results.toList)) .normal (f135_J0_fr x0 x2 x3 x4 x5 x6) σ
def f135_J1_fr (x0 x2 x3 x4 x5 x6 x7 x8 x9 x10 x11 x12 : DV) : Frame := (x0 :: Z :: x2 :: x3 :: x4 :: x5 :: x6 :: x7 :: x8 :: x9 :: x10 :: x11 :: x12 :: zn 12 [])
def f135_J1 (x0 x2 x3 x4 x5 x6 x7 x8 x9 x10 x11 x12 : DV) (σ : Store) : RS :=
 (seqC G PP (pol 135) CC lo c135_18 a135_18 (finR PP Tryz.f135.results.toList)) .normal (f135_J1_fr x0 x2 x3 x4 x5 x6 x7 x8 x9 x10 x11 x12) σ
def f135_J2_fr (x0 x2 x3 x4 x5 x6 x7 x8 x9 x10 x11 x12 x13 x14 x15 x16 x17 x18 : DV) : Frame := (x0 :: Z :: x2 :: x3 :: x4 :: x5 :: x6 :: x7 :: x8 :: x9 :: x10 :: x11 :: x12 :: x13 :: x14 :: x15 :: x16 :: x17 :: x18 :: zn 6 [])
def f135_J2 (x0 x2 x3 x4 x5 x6 x7 x8 x9 x10 x11 x12 x13 x14 x15 x16 x17 x18 : DV) (σ : Store) : RS :=
 (seqC G PP (pol 135) CC lo c135_26 a135_26 (finR PP Tryz.f135.results.toList)) .normal (f135_J2_fr x0 x2 x3 x4 x5 x6 x7 x8 x9 x10 x11 x12 x13 x14 x15 x16 x17 x18) σ
def F135 (x0 : DV) (σ : Store) : RS :=
 codeF G PP (pol 135) CC lo c135_0 a135_0 (x0 :: zn 24 []) σ (finR PP Tryz.f135.results.toList)
theorem f135_J0_eq (G : GuardT) (lo : Nat) (x0 x2 x3 x4 x5 x6 : DV) (σ : Store) : f135_J0 G lo x0 x2 x3 x4 x5 x6 σ =
 (binOp PP .geq 178 x0 (DV.p (PV.int IntKind.u64 (65536)))).bind fun x8 =>
 condK x8
 (
 (binOp PP .shr 178 x0 (DV.p (PV.int IntKind.u64 (16)))).bind fun x10 =>
 (binOp PP .add 3 x2 (DV.p (PV.int IntKind.i64 (16)))).bind fun x12 =>
 f135_J1 G lo x10 x12 x3 x4 x5 x6 x0 x8 x0 x10 x2 x12 σ
 )
 (
 f135_J1 G lo x0 x2 x3 x4 x5 x6 x0 x8 Z Z Z Z σ
 ) := by kernel_rfl
theorem f135_J1_eq (G : GuardT) (lo : Nat) (x0 x2 x3 x4 x5 x6 x7 x8 x9 x10 x11 x12 : DV) (σ : Store) : f135_J1 G lo x0 x2 x3 x4 x5 x6 x7 x8 x9 x10 x11 x12 σ =
 (binOp PP .geq 178 x0 (DV.p (PV.int IntKind.u64 (256)))).bind fun x14 =>
 condK x14
 (
 (binOp PP .shr 178 x0 (DV.p (PV.int IntKind.u64 (8)))).bind fun x16 =>
 (binOp PP .add 3 x2 (DV.p (PV.int IntKind.i64 (8)))).bind fun x18 =>
 f135_J2 G lo x16 x18 x3 x4 x5 x6 x7 x8 x9 x10 x11 x12 x0 x14 x0 x16 x2 x18 σ
 )
 (
 f135_J2 G lo x0 x2 x3 x4 x5 x6 x7 x8 x9 x10 x11 x12 x0 x14 Z Z Z Z σ
 ) := by kernel_rfl
theorem f135_J2_eq (G : GuardT) (lo : Nat) (x0 x2 x3 x4 x5 x6 x7 x8 x9 x10 x11 x12 x13 x14 x15 x16 x17 x18 : DV) (σ : Store) : f135_J2 G lo x0 x2 x3 x4 x5 x6 x7 x8 x9 x10 x11 x12 x13 x14 x15 x16 x17 x18 σ =
 (convert PP 178 5 x0).bind fun x21 =>
 (index PP 9 (DV.p (PV.str xstr0)) x21).bind fun x22 =>
 (convert PP 5 3 x22).bind fun x23 =>
 (binOp PP .add 3 x2 x23).bind fun x24 =>
 some (x24, σ) := by kernel_rfl
theorem F135_eq (G : GuardT) (lo : Nat) (x0 : DV) (σ : Store) : F135 G lo x0 σ =
 (binOp PP .geq 178 x0 (DV.p (PV.int IntKind.u64 (4294967296)))).bind fun x4 =>
 condK x4
 (
 (binOp PP .shr 178 x0 (DV.p (PV.int IntKind.u64 (32)))).bind fun x6 =>
 f135_J0 G lo x6 (DV.p (PV.int IntKind.i64 (32))) x0 x4 x0 x6 σ
 )
 (
 f135_J0 G lo x0 I0 x0 x4 Z Z σ
 ) := by kernel_rfl
theorem F135_call {lo : Nat} {x0 : DV} (h : F135 guardT lo x0 σ = some r) : CC lo 135 [x0] σ = some r :=
 callL_run Tryz.func135 (by decide +kernel) rfl (by decide +kernel) h
def c126_0 : Code := bodyOf Tryz.f126
def a126_0 : Ann := (pol 126).ann
def a126_2 : Ann := right a126_0
def a126_3 : Ann := left a126_2
def c126_4 : Code := fstC (fstC (sndC c126_0))
def a126_11 : Ann := left (right (left a126_3))
def a126_14 : Ann := right (left a126_11)
def a126_15 : Ann := left a126_14
def c126_16 : Code := fstC (fstC (sndC (fstC (fstC (sndC c126_4)))))
def c126_26 : Code := sndC (sndC c126_4)
def a126_26 : Ann := right (right (left a126_3))
def f126_L0 (x0 x1 x2 x3 x8 : DV) (σ : Store) : RS :=
 codeF G PP (pol 126) CC lo (.loop c126_4) a126_3 (x0 :: x1 :: x2 :: x3 :: Z :: Z :: Z :: Z :: x8 :: zn 44 []) σ
 (blockC 0 a126_2 (finR PP Tryz.f126.results.toList))
def f126_L1 (x0 x1 x2 x3 x8 x9 : DV) (σ : Store) : RS :=
 codeF G PP (pol 126) CC lo (.loop c126_16) a126_15 (x0 :: x1 :: x2 :: x3 :: Z :: Z :: Z :: Z :: x8 :: x9 :: zn 43 []) σ
 (blockC 2 a126_14 (blockC 1 a126_11 (seqC G PP (pol 126) CC lo c126_26 a126_26 (loopC G PP (pol 126) CC lo c126_4 a126_3 (blockC 0 a126_2 (finR PP Tryz.f126.results.toList))))))
def F126 (x0 x1 x2 x3 : DV) (σ : Store) : RS :=
 codeF G PP (pol 126) CC lo c126_0 a126_0 (x0 :: x1 :: x2 :: x3 :: zn 49 []) σ (finR PP Tryz.f126.results.toList)
theorem f126_L0_eq (G : GuardT) (hG : GuardOk G) (lo : Nat) (x0 x1 x2 x3 x8 : DV) (σ : Store) : f126_L0 G lo x0 x1 x2 x3 x8 σ =
 (binOp PP .lss 3 x8 x2).bind fun x14 =>
 condK x14
 (
 f126_L1 G lo x0 x1 x2 x3 x8 x8 σ
 )
 (
 some ((DV.tuple []), σ)
 ) := (loopF_eq G hG).trans (by kernel_rfl)
theorem f126_L1_eq (G : GuardT) (hG : GuardOk G) (lo : Nat) (x0 x1 x2 x3 x8 x9 : DV) (σ : Store) : f126_L1 G lo x0 x1 x2 x3 x8 x9 σ =
 (binOp PP .gtr 3 x9 x1).bind fun x20 =>
 G _ x20 true (some (x3, σ)) σ fun x22 σ1 =>
 G _ x20 true (some (x0, σ1)) σ1 fun x23 σ2 =>
 G _ x20 true (some (x9, σ2)) σ2 fun x24 σ3 =>
 G _ x20 true ((indexAddr PP 134 x23 x24).bind fun v => some (v, σ3)) σ3 fun x25 σ4 =>
 G _ x20 true ((load PP 102 x25 σ4).bind fun v => some (v, σ4)) σ4 fun x26 σ5 =>
 G _ x20 true (some (x0, σ5)) σ5 fun x27 σ6 =>
 G _ x20 true (some (x9, σ6)) σ6 fun x28 σ7 =>
 G _ x20 true ((binOp PP .sub 3 x28 I1).bind fun v => some (v, σ7)) σ7 fun x29 σ8 =>
 G _ x20 true ((indexAddr PP 134 x27 x29).bind fun v => some (v, σ8)) σ8 fun x30 σ9 =>
 G _ x20 true ((load PP 102 x30 σ9).bind fun v => some (v, σ9)) σ9 fun x31 σ10 =>
 G _ x20 true ((pureFn CC x22 [x26, x31] σ10).bind fun v => some (v, σ10)) σ10 fun x32 σ11 =>
 G _ x20 true ((binOp PP .lss 3 x32 I0).bind fun v => some (v, σ11)) σ11 fun x33 σ12 =>
 (pickV x20 x33 (DV.p (PV.bool false))).bind fun x34 =>
 condK x34
 (
 (binOp PP .sub 3 x9 I1).bind fun x41 =>
 (binOp PP .sub 3 x9 I1).bind fun x44 =>
 (indexAddr PP 134 x0 x44).bind fun x45 =>
 (load PP 102 x45 σ12).bind fun x46 =>
 (indexAddr PP 134 x0 x9).bind fun x49 =>
 (load PP 102 x49 σ12).bind fun x50 =>
 (indexAddr PP 134 x0 x9).bind fun x51 =>
 (store PP lo 102 x51 x46 σ12).bind fun σ13 =>
 (indexAddr PP 134 x0 x41).bind fun x52 =>
 (store PP lo 102 x52 x50 σ13).bind fun σ14 =>
 (binOp PP .sub 3 x9 I1).bind fun x36 =>
 f126_L1 G lo x0 x1 x2 x3 x8 x36 σ14
 )
 (
 (binOp PP .add 3 x8 I1).bind fun x16 =>
 f126_L0 G lo x0 x1 x2 x3 x16 σ12
 ) := (loopF_eq G hG).trans (by kernel_rfl)
theorem F126_eq (G : GuardT) (lo : Nat) (x0 x1 x2 x3 : DV) (σ : Store) : F126 G lo x0 x1 x2 x3 σ =
 (binOp PP .add 3 x1 I1).bind fun x11 =>
 f126_L0 G lo x0 x1 x2 x3 x11 σ := by kernel_rfl
theorem F126_call {lo : Nat} {x0 x1 x2 x3 : DV} (h : F126 guardT lo x0 x1 x2 x3 σ = some r) : CC lo 126 [x0, x1, x2, x3] σ = some r :=
 callL_run Tryz.func126 (by decide +kernel) rfl (by decide +kernel) h
def c127_0 : Code := bodyOf Tryz.f127
def a127_0 : Ann := (pol 127).ann
def a127_9 : Ann := right (left (right (right (right a127_0))))
def a127_10 : Ann := left a127_9
def c127_11 : Code := fstC (fstC (sndC (fstC (sndC (sndC (sndC c127_0))))))
def c127_21 : Code := sndC (sndC (sndC (sndC c127_0)))
def a127_21 : Ann := right (right (right (right a127_0)))
def a127_23 : Ann := right a127_21
def a127_24 : Ann := left a127_23
def c127_25 : Code := fstC (fstC (sndC c127_21))
def f127_L0 (x0 x3 x8 x9 x10 x11 : DV) (σ : Store) : RS :=
 codeF G PP (pol 127) CC lo (.loop c127_11) a127_10 (x0 :: Z :: Z :: x3 :: Z :: Z :: Z :: Z :: x8 :: x9 :: x10 :: x11 :: zn 48 []) σ
 (blockC 0 a127_9 (seqC G PP (pol 127) CC lo c127_21 a127_21 (finR PP Tryz.f127.results.toList)))
def f127_L1 (x0 x3 x8 x9 x12 : DV) (σ : Store) : RS :=
 codeF G PP (pol 127) CC lo (.loop c127_25) a127_24 (x0 :: Z :: Z :: x3 :: Z :: Z :: Z :: Z :: x8 :: x9 :: Z :: Z :: x12 :: zn 47 []) σ
 (blockC 2 a127_23 (finR PP Tryz.f127.results.toList))
def F127 (x0 x1 x2 x3 : DV) (σ : Store) : RS :=
 codeF G PP (pol 127) CC lo c127_0 a127_0 (x0 :: x1 :: x2 :: x3 :: zn 56 []) σ (finR PP Tryz.f127.results.toList)
theorem f127_L0_eq (G : GuardT) (hG : GuardOk G) (lo : Nat) (x0 x3 x8 x9 x10 x11 : DV) (σ : Store) : f127_L0 G lo x0 x3 x8 x9 x10 x11 σ =
 (binOp PP .geq 3 x11 I0).bind fun x21 =>
 condK x21
 (
 (plainFn CC lo (DV.fn 146 []) [x0, x11, x10, x8, x3] σ).bind fun r29_1 =>
 (binOp PP .sub 3 x11 I1).bind fun x23 =>
 f127_L0 G lo x0 x3 x8 x9 x10 x23 r29_1.2
 )
 (
 (binOp PP .sub 3 x10 I1).bind fun x31 =>
 f127_L1 G lo x0 x3 x8 x9 x31 σ
 ) := (loopF_eq G hG).trans (by kernel_rfl)
theorem f127_L1_eq (G : GuardT) (hG : GuardOk G) (lo : Nat) (x0 x3 x8 x9 x12 : DV) (σ : Store) : f127_L1 G lo x0 x3 x8 x9 x12 σ =
 (binOp PP .geq 3 x12 I0).bind fun x33 =>
 condK x33
 (
 (binOp PP .add 3 x8 x12).bind fun x41 =>
 (binOp PP .add 3 x8 x12).bind fun x45 =>
 (indexAddr PP 134 x0 x45).bind fun x46 =>
 (load PP 102 x46 σ).bind fun x47 =>
 (indexAddr PP 134 x0 x8).bind fun x50 =>
 (load PP 102 x50 σ).bind fun x51 =>
 (indexAddr PP 134 x0 x8).bind fun x52 =>
 (store PP lo 102 x52 x47 σ).bind fun σ2 =>
 (indexAddr PP 134 x0 x41).bind fun x53 =>
 (store PP lo 102 x53 x51 σ2).bind fun σ3 =>
 (plainFn CC lo (DV.fn 146 []) [x0, x9, x12, x8, x3] σ3).bind fun r59_4 =>
 (binOp PP .sub 3 x12 I1).bind fun x35 =>
 f127_L1 G lo x0 x3 x8 x9 x35 r59_4.2
 )
 (
 some ((DV.tuple []), σ)
 ) := (loopF_eq G hG).trans (by kernel_rfl)
theorem F127_eq (G : GuardT) (lo : Nat) (x0 x1 x2 x3 : DV) (σ : Store) : F127 G lo x0 x1 x2 x3 σ =
 (binOp PP .sub 3 x2 x1).bind fun x16 =>
 (binOp PP .sub 3 x16 I1).bind fun x18 =>
 (binOp PP .quo 3 x18 (DV.p (PV.int IntKind.i64 (2)))).bind fun x19 =>
 f127_L0 G lo x0 x3 x1 I0 x16 x19 σ := by kernel_rfl
theorem F127_call {lo : Nat} {x0 x1 x2 x3 : DV} (h : F127 guardT lo x0 x1 x2 x3 σ = some r) : CC lo 127 [x0, x1, x2, x3] σ = some r :=
 callL_run Tryz.func127 (by decide +kernel) rfl (by decide +kernel) h
def c146_0 : Code := bodyOf Tryz.f146
def a146_0 : Ann := (pol 146).ann
def a146_2 : Ann := right a146_0
def a146_3 : Ann := left a146_2
def c146_4 : Code := fstC (fstC (sndC c146_0))
def a146_4 : Ann := left a146_3
def c146_19 : Code := sndC (sndC (sndC (fstC c146_4)))
def a146_19 : Ann := right (right (right (left a146_4)))
def f146_L0 (x0 x2 x3 x4 x10 : DV) (σ : Store) : RS :=
 codeF G PP (pol 146) CC lo (.loop c146_4) a146_3 (x0 :: Z :: x2 :: x3 :: x4 :: zn 5 (x10 :: zn 71 [])) σ
 (blockC 0 a146_2 (finR PP Tryz.f146.results.toList))
def f146_J0_fr (x0 x2 x3 x4 x10 x11 x13 x14 x15 x16 x17 x18 x19 x20 x21 x22 x23 x24 x25 x26 x27 x28 x29 x30 x31 x32 x33 x34 x35 x36 x37 x38 x39 x40 x41 x42 : DV) : Frame := (x0 :: Z :: x2 :: x3 :: x4 :: zn 5 (x10 :: x11 :: Z :: x13 :: x14 :: x15 :: x16 :: x17 :: x18 :: x19 :: x20 :: x21 :: x22 :: x23 :: x24 :: x25 :: x26 :: x27 :: x28 :: x29 :: x30 :: x31 :: x32 :: x33 :: x34 :: x35 :: x36 :: x37 :: x38 :: x39 :: x40 :: x41 :: x42 :: zn 39 []))
def f146_J0 (x0 x2 x3 x4 x10 x11 x13 x14 x15 x16 x17 x18 x19 x20 x21 x22 x23 x24 x25 x26 x27 x28 x29 x30 x31 x32 x33 x34 x35 x36 x37 x38 x39 x40 x41 x42 : DV) (σ : Store) : RS :=
 (seqC G PP (pol 146) CC lo c146_19 a146_19 (blockC 1 a146_4 (loopC G PP (pol 146) CC lo c146_4 a146_3 (blockC 0 a146_2 (finR PP Tryz.f146.results.toList))))) .normal (f146_J0_fr x0 x2 x3 x4 x10 x11 x13 x14 x15 x16 x17 x18 x19 x20 x21 x22 x23 x24 x25 x26 x27 x28 x29 x30 x31 x32 x33 x34 x35 x36 x37 x38 x39 x40 x41 x42) σ
def F146 (x0 x1 x2 x3 x4 : DV) (σ : Store) : RS :=
 codeF G PP (pol 146) CC lo c146_0 a146_0 (x0 :: x1 :: x2 :: x3 :: x4 :: zn 77 []) σ (finR PP Tryz.f146.results.toList)
theorem f146_J0_eq (G : GuardT) (lo : Nat) (x0 x2 x3 x4 x10 x11 x13 x14 x15 x16 x17 x18 x19 x20 x21 x22 x23 x24 x25 x26 x27 x28 x29 x30 x31 x32 x33 x34 x35 x36 x37 x38 x39 x40 x41 x42 : DV) (σ : Store) : f146_J0 G lo x0 x2 x3 x4 x10 x11 x13 x14 x15 x16 x17 x18 x19 x20 x21 x22 x23 x24 x25 x26 x27 x28 x29 x30 x31 x32 x33 x34 x35 x36 x37 x38 x39 x40 x41 x42 σ =
 (binOp PP .add 3 x3 x10).bind fun x47 =>
 (indexAddr PP 134 x0 x47).bind fun x48 =>
 (load PP 102 x48 σ).bind fun x49 =>
 (binOp PP .add 3 x3 x11).bind fun x53 =>
 (indexAddr PP 134 x0 x53).bind fun x54 =>
 (load PP 102 x54 σ).bind fun x55 =>
 (pureFn CC x4 [x49, x55] σ).bind fun x56 =>
 (binOp PP .lss 3 x56 I0).bind fun x57 =>
 (unOp .not x57).bind fun x58 =>
 condK x58
 (
 some ((DV.tuple []), σ)
 )
 (
 (binOp PP .add 3 x3 x10).bind fun x62 =>
 (binOp PP .add 3 x3 x11).bind fun x66 =>
 (binOp PP .add 3 x3 x11).bind fun x70 =>
 (indexAddr PP 134 x0 x70).bind fun x71 =>
 (load PP 102 x71 σ).bind fun x72 =>
 (binOp PP .add 3 x3 x10).bind fun x76 =>
 (indexAddr PP 134 x0 x76).bind fun x77 =>
 (load PP 102 x77 σ).bind fun x78 =>
 (indexAddr PP 134 x0 x62).bind fun x79 =>
 (store PP lo 102 x79 x72 σ).bind fun σ17 =>
 (indexAddr PP 134 x0 x66).bind fun x80 =>
 (store PP lo 102 x80 x78 σ17).bind fun σ18 =>
 f146_L0 G lo x0 x2 x3 x4 x11 σ18
 ) := by kernel_rfl
theorem f146_L0_eqN (G : GuardT) (hG : GuardOk G) (lo : Nat) (x0 x2 x3 x4 x10 : DV) (σ : Store) : f146_L0 G lo x0 x2 x3 x4 x10 σ =
 (binOp PP .mul 3 (DV.p (PV.int IntKind.i64 (2))) x10).bind fun x14 =>
 (binOp PP .add 3 x14 I1).bind fun x15 =>
 (binOp PP .geq 3 x15 x2).bind fun x18 =>
 condK x18
 (
 some ((DV.tuple []), σ)
 )
 (
 (binOp PP .add 3 x15 I1).bind fun x20 =>
 (binOp PP .lss 3 x20 x2).bind fun x22 =>
 G _ x22 true (some (x4, σ)) σ fun x24 σ1 =>
 G _ x22 true (some (x0, σ1)) σ1 fun x25 σ2 =>
 G _ x22 true (some (x3, σ2)) σ2 fun x26 σ3 =>
 G _ x22 true (some (x15, σ3)) σ3 fun x27 σ4 =>
 G _ x22 true ((binOp PP .add 3 x26 x27).bind fun v => some (v, σ4)) σ4 fun x28 σ5 =>
 G _ x22 true ((indexAddr PP 134 x25 x28).bind fun v => some (v, σ5)) σ5 fun x29 σ6 =>
 G _ x22 true ((load PP 102 x29 σ6).bind fun v => some (v, σ6)) σ6 fun x30 σ7 =>
 G _ x22 true (some (x0, σ7)) σ7 fun x31 σ8 =>
 G _ x22 true (some (x3, σ8)) σ8 fun x32 σ9 =>
 G _ x22 true (some (x15, σ9)) σ9 fun x33 σ10 =>
 G _ x22 true ((binOp PP .add 3 x32 x33).bind fun v => some (v, σ10)) σ10 fun x34 σ11 =>
 G _ x22 true ((binOp PP .add 3 x34 I1).bind fun v => some (v, σ11)) σ11 fun x35 σ12 =>
 G _ x22 true ((indexAddr PP 134 x31 x35).bind fun v => some (v, σ12)) σ12 fun x36 σ13 =>
 G _ x22 true ((load PP 102 x36 σ13).bind fun v => some (v, σ13)) σ13 fun x37 σ14 =>
 G _ x22 true ((pureFn CC x24 [x30, x37] σ14).bind fun v => some (v, σ14)) σ14 fun x38 σ15 =>
 G _ x22 true ((binOp PP .lss 3 x38 I0).bind fun v => some (v, σ15)) σ15 fun x39 σ16 =>
 (pickV x22 x39 (DV.p (PV.bool false))).bind fun x40 =>
 condK x40
 (
 (binOp PP .add 3 x15 I1).bind fun x42 =>
 (binOp PP .add 3 x3 x10).bind fun x47 =>
 (indexAddr PP 134 x0 x47).bind fun x48 =>
 (load PP 102 x48 σ16).bind fun x49 =>
 (binOp PP .add 3 x3 x42).bind fun x53 =>
 (indexAddr PP 134 x0 x53).bind fun x54 =>
 (load PP 102 x54 σ16).bind fun x55 =>
 (pureFn CC x4 [x49, x55] σ16).bind fun x56 =>
 (binOp PP .lss 3 x56 I0).bind fun x57 =>
 (unOp .not x57).bind fun x58 =>
 condK x58
 (
 some ((DV.tuple []), σ16)
 )
 (
 (binOp PP .add 3 x3 x10).bind fun x62 =>
 (binOp PP .add 3 x3 x42).bind fun x66 =>
 (binOp PP .add 3 x3 x42).bind fun x70 =>
 (indexAddr PP 134 x0 x70).bind fun x71 =>
 (load PP 102 x71 σ16).bind fun x72 =>
 (binOp PP .add 3 x3 x10).bind fun x76 =>
 (indexAddr PP 134 x0 x76).bind fun x77 =>
 (load PP 102 x77 σ16).bind fun x78 =>
 (indexAddr PP 134 x0 x62).bind fun x79 =>
 (store PP lo 102 x79 x72 σ16).bind fun σ17 =>
 (indexAddr PP 134 x0 x66).bind fun x80 =>
 (store PP lo 102 x80 x78 σ17).bind fun σ18 =>
 f146_L0 G lo x0 x2 x3 x4 x42 σ18
 )
 )
 (
 (binOp PP .add 3 x3 x10).bind fun x47 =>
 (indexAddr PP 134 x0 x47).bind fun x48 =>
 (load PP 102 x48 σ16).bind fun x49 =>
 (binOp PP .add 3 x3 x15).bind fun x53 =>
 (indexAddr PP 134 x0 x53).bind fun x54 =>
 (load PP 102 x54 σ16).bind fun x55 =>
 (pureFn CC x4 [x49, x55] σ16).bind fun x56 =>
 (binOp PP .lss 3 x56 I0).bind fun x57 =>
 (unOp .not x57).bind fun x58 =>
 condK x58
 (
 some ((DV.tuple []), σ16)
 )
 (
 (binOp PP .add 3 x3 x10).bind fun x62 =>
 (binOp PP .add 3 x3 x15).bind fun x66 =>
 (binOp PP .add 3 x3 x15).bind fun x70 =>
 (indexAddr PP 134 x0 x70).bind fun x71 =>
 (load PP 102 x71 σ16).bind fun x72 =>
 (binOp PP .add 3 x3 x10).bind fun x76 =>
 (indexAddr PP 134 x0 x76).bind fun x77 =>
 (load PP 102 x77 σ16).bind fun x78 =>
 (indexAddr PP 134 x0 x62).bind fun x79 =>
 (store PP lo 102 x79 x72 σ16).bind fun σ19 =>
 (indexAddr PP 134 x0 x66).bind fun x80 =>
 (store PP lo 102 x80 x78 σ19).bind fun σ20 =>
 f146_L0 G lo x0 x2 x3 x4 x15 σ20
 )
 )
 ) := (loopF_eq G hG).trans (by kernel_rfl)
theorem f146_L0_eq (G : GuardT) (hG : GuardOk G) (lo : Nat) (x0 x2 x3 x4 x10 : DV) (σ : Store) : f146_L0 G lo x0 x2 x3 x4 x10 σ =
 (binOp PP .mul 3 (DV.p (PV.int IntKind.i64 (2))) x10).bind fun x14 =>
 (binOp PP .add 3 x14 I1).bind fun x15 =>
 (binOp PP .geq 3 x15 x2).bind fun x18 =>
 condK x18
 (
 some ((DV.tuple []), σ)
 )
 (
 (binOp PP .add 3 x15 I1).bind fun x20 =>
 (binOp PP .lss 3 x20 x2).bind fun x22 =>
 G _ x22 true (some (x4, σ)) σ fun x24 σ1 =>
 G _ x22 true (some (x0, σ1)) σ1 fun x25 σ2 =>
 G _ x22 true (some (x3, σ2)) σ2 fun x26 σ3 =>
 G _ x22 true (some (x15, σ3)) σ3 fun x27 σ4 =>
 G _ x22 true ((binOp PP .add 3 x26 x27).bind fun v => some (v, σ4)) σ4 fun x28 σ5 =>
 G _ x22 true ((indexAddr PP 134 x25 x28).bind fun v => some (v, σ5)) σ5 fun x29 σ6 =>
 G _ x22 true ((load PP 102 x29 σ6).bind fun v => some (v, σ6)) σ6 fun x30 σ7 =>
 G _ x22 true (some (x0, σ7)) σ7 fun x31 σ8 =>
 G _ x22 true (some (x3, σ8)) σ8 fun x32 σ9 =>
 G _ x22 true (some (x15, σ9)) σ9 fun x33 σ10 =>
 G _ x22 true ((binOp PP .add 3 x32 x33).bind fun v => some (v, σ10)) σ10 fun x34 σ11 =>
 G _ x22 true ((binOp PP .add 3 x34 I1).bind fun v => some (v, σ11)) σ11 fun x35 σ12 =>
 G _ x22 true ((indexAddr PP 134 x31 x35).bind fun v => some (v, σ12)) σ12 fun x36 σ13 =>
 G _ x22 true ((load PP 102 x36 σ13).bind fun v => some (v, σ13)) σ13 fun x37 σ14 =>
 G _ x22 true ((pureFn CC x24 [x30, x37] σ14).bind fun v => some (v, σ14)) σ14 fun x38 σ15 =>
 G _ x22 true ((binOp PP .lss 3 x38 I0).bind fun v => some (v, σ15)) σ15 fun x39 σ16 =>
 (pickV x22 x39 (DV.p (PV.bool false))).bind fun x40 =>
 condK x40
 (
 (binOp PP .add 3 x15 I1).bind fun x42 =>
 f146_J0 G lo x0 x2 x3 x4 x10 x42 x10 x14 x15 x15 x2 x18 x15 x20 x2 x22 x22 x24 x25 x26 x27 x28 x29 x30 x31 x32 x33 x34 x35 x36 x37 x38 x39 x40 x15 x42 σ16
 )
 (
 f146_J0 G lo x0 x2 x3 x4 x10 x15 x10 x14 x15 x15 x2 x18 x15 x20 x2 x22 x22 x24 x25 x26 x27 x28 x29 x30 x31 x32 x33 x34 x35 x36 x37 x38 x39 x40 Z Z σ16
 )
 ) := (f146_L0_eqN G hG lo x0 x2 x3 x4 x10 σ).trans (by simp only [f146_J0_eq])
theorem F146_eq (G : GuardT) (lo : Nat) (x0 x1 x2 x3 x4 : DV) (σ : Store) : F146 G lo x0 x1 x2 x3 x4 σ =
 f146_L0 G lo x0 x2 x3 x4 x1 σ := by kernel_rfl
theorem F146_call {lo : Nat} {x0 x1 x2 x3 x4 : DV} (h : F146 guardT lo x0 x1 x2 x3 x4 σ = some r) : CC lo 146 [x0, x1, x2, x3, x4] σ = some r :=
 callL_run Tryz.func146 (by decide +kernel) rfl (by decide +kernel) h
def c128_0 : Code := bodyOf Tryz.f128
def a128_0 : Ann := (pol 128).ann
def a128_11 : Ann := right (right (right (left (right (right a128_0)))))
def a128_12 : Ann := left a128_11
def c128_13 : Code := fstC (fstC (sndC (sndC (sndC (fstC (sndC (sndC c128_0)))))))
def a128_20 : Ann := left (right (left a128_12))
def c128_29 : Code := sndC (sndC (fstC (fstC (sndC c128_13))))
def a128_29 : Ann := right (right (left a128_20))
def c128_30 : Code := sndC (sndC c128_13)
def a128_30 : Ann := right (right (left a128_12))
def f128_L0 (x0 x1 x8 x9 x10 x11 : DV) (σ : Store) : RS :=
 codeF G PP (pol 128) CC lo (.loop c128_13) a128_12 (x0 :: x1 :: zn 6 (x8 :: x9 :: x10 :: x11 :: zn 55 [])) σ
 (blockC 0 a128_11 (finR PP Tryz.f128.results.toList))
def f128_J0_fr (x0 x1 x8 x9 x10 x11 x12 x28 x29 x30 x31 x32 x33 x34 x35 x38 x39 x40 x41 x42 x43 x44 x45 x46 x47 x48 : DV) : Frame := (x0 :: x1 :: zn 6 (x8 :: x9 :: x10 :: x11 :: x12 :: zn 15 (x28 :: x29 :: x30 :: x31 :: x32 :: x33 :: x34 :: x35 :: Z :: Z :: x38 :: x39 :: x40 :: x41 :: x42 :: x43 :: x44 :: x45 :: x46 :: x47 :: x48 :: zn 18 [])))
def f128_J0 (x0 x1 x8 x9 x10 x11 x12 x28 x29 x30 x31 x32 x33 x34 x35 x38 x39 x40 x41 x42 x43 x44 x45 x46 x47 x48 : DV) (σ : Store) : RS :=
 (seqC G PP (pol 128) CC lo c128_29 a128_29 (blockC 1 a128_20 (seqC G PP (pol 128) CC lo c128_30 a128_30 (loopC G PP (pol 128) CC lo c128_13 a128_12 (blockC 0 a128_11 (finR PP Tryz.f128.results.toList)))))) .normal (f128_J0_fr x0 x1 x8 x9 x10 x11 x12 x28 x29 x30 x31 x32 x33 x34 x35 x38 x39 x40 x41 x42 x43 x44 x45 x46 x47 x48) σ
def F128 (x0 x1 x2 x3 : DV) (σ : Store) : RS :=
 codeF G PP (pol 128) CC lo c128_0 a128_0 (x0 :: x1 :: x2 :: x3 :: zn 63 []) σ (finR PP Tryz.f128.results.toList)
theorem f128_J0_eq (G : GuardT) (lo : Nat) (x0 x1 x8 x9 x10 x11 x12 x28 x29 x30 x31 x32 x33 x34 x35 x38 x39 x40 x41 x42 x43 x44 x45 x46 x47 x48 : DV) (σ : Store) : f128_J0 G lo x0 x1 x8 x9 x10 x11 x12 x28 x29 x30 x31 x32 x33 x34 x35 x38 x39 x40 x41 x42 x43 x44 x45 x46 x47 x48 σ =
 (binOp PP .add 3 x1 x12).bind fun x54 =>
 (binOp PP .add 3 x1 x12).bind fun x58 =>
 (indexAddr PP 134 x0 x58).bind fun x59 =>
 (load PP 102 x59 σ).bind fun x60 =>
 (indexAddr PP 134 x0 x11).bind fun x63 =>
 (load PP 102 x63 σ).bind fun x64 =>
 (indexAddr PP 134 x0 x11).bind fun x65 =>
 (store PP lo 102 x65 x60 σ).bind fun σ3 =>
 (indexAddr PP 134 x0 x54).bind fun x66 =>
 (store PP lo 102 x66 x64 σ3).bind fun σ4 =>
 (binOp PP .add 3 x11 I1).bind fun x37 =>
 f128_L0 G lo x0 x1 x8 x9 x10 x37 σ4 := by kernel_rfl
theorem f128_L0_eqN (G : GuardT) (hG : GuardOk G) (lo : Nat) (x0 x1 x8 x9 x10 x11 : DV) (σ : Store) : f128_L0 G lo x0 x1 x8 x9 x10 x11 σ =
 (binOp PP .quo 3 x8 (DV.p (PV.int IntKind.i64 (4)))).bind fun x31 =>
 (binOp PP .mul 3 x31 (DV.p (PV.int IntKind.i64 (2)))).bind fun x32 =>
 (binOp PP .add 3 x1 x32).bind fun x33 =>
 (binOp PP .add 3 x33 I1).bind fun x34 =>
 (binOp PP .leq 3 x11 x34).bind fun x35 =>
 condK x35
 (
 (plainFn CC lo (DV.fn 148 []) [x9] σ).bind fun r38_2 =>
 (binOp PP .sub 165 x10 (DV.p (PV.int IntKind.u64 (1)))).bind fun x40 =>
 (binOp PP .and 165 r38_2.1 x40).bind fun x41 =>
 (convert PP 165 3 x41).bind fun x42 =>
 (binOp PP .geq 3 x42 x8).bind fun x45 =>
 condK x45
 (
 (binOp PP .sub 3 x42 x8).bind fun x48 =>
 (binOp PP .add 3 x1 x48).bind fun x54 =>
 (binOp PP .add 3 x1 x48).bind fun x58 =>
 (indexAddr PP 134 x0 x58).bind fun x59 =>
 (load PP 102 x59 r38_2.2).bind fun x60 =>
 (indexAddr PP 134 x0 x11).bind fun x63 =>
 (load PP 102 x63 r38_2.2).bind fun x64 =>
 (indexAddr PP 134 x0 x11).bind fun x65 =>
 (store PP lo 102 x65 x60 r38_2.2).bind fun σ3 =>
 (indexAddr PP 134 x0 x54).bind fun x66 =>
 (store PP lo 102 x66 x64 σ3).bind fun σ4 =>
 (binOp PP .add 3 x11 I1).bind fun x37 =>
 f128_L0 G lo x0 x1 x8 x9 x10 x37 σ4
 )
 (
 (binOp PP .add 3 x1 x42).bind fun x54 =>
 (binOp PP .add 3 x1 x42).bind fun x58 =>
 (indexAddr PP 134 x0 x58).bind fun x59 =>
 (load PP 102 x59 r38_2.2).bind fun x60 =>
 (indexAddr PP 134 x0 x11).bind fun x63 =>
 (load PP 102 x63 r38_2.2).bind fun x64 =>
 (indexAddr PP 134 x0 x11).bind fun x65 =>
 (store PP lo 102 x65 x60 r38_2.2).bind fun σ5 =>
 (indexAddr PP 134 x0 x54).bind fun x66 =>
 (store PP lo 102 x66 x64 σ5).bind fun σ6 =>
 (binOp PP .add 3 x11 I1).bind fun x37 =>
 f128_L0 G lo x0 x1 x8 x9 x10 x37 σ6
 )
 )
 (
 some ((DV.tuple []), σ)
 ) := (loopF_eq G hG).trans (by kernel_rfl)
theorem f128_L0_eq (G : GuardT) (hG : GuardOk G) (lo : Nat) (x0 x1 x8 x9 x10 x11 : DV) (σ : Store) : f128_L0 G lo x0 x1 x8 x9 x10 x11 σ =
 (binOp PP .quo 3 x8 (DV.p (PV.int IntKind.i64 (4)))).bind fun x31 =>
 (binOp PP .mul 3 x31 (DV.p (PV.int IntKind.i64 (2)))).bind fun x32 =>
 (binOp PP .add 3 x1 x32).bind fun x33 =>
 (binOp PP .add 3 x33 I1).bind fun x34 =>
 (binOp PP .leq 3 x11 x34).bind fun x35 =>
 condK x35
 (
 (plainFn CC lo (DV.fn 148 []) [x9] σ).bind fun r38_2 =>
 (binOp PP .sub 165 x10 (DV.p (PV.int IntKind.u64 (1)))).bind fun x40 =>
 (binOp PP .and 165 r38_2.1 x40).bind fun x41 =>
 (convert PP 165 3 x41).bind fun x42 =>
 (binOp PP .geq 3 x42 x8).bind fun x45 =>
 condK x45
 (
 (binOp PP .sub 3 x42 x8).bind fun x48 =>
 f128_J0 G lo x0 x1 x8 x9 x10 x11 x48 x11 x1 x8 x31 x32 x33 x34 x35 r38_2.1 x10 x40 x41 x42 x42 x8 x45 x42 x8 x48 r38_2.2
 )
 (
 f128_J0 G lo x0 x1 x8 x9 x10 x11 x42 x11 x1 x8 x31 x32 x33 x34 x35 r38_2.1 x10 x40 x41 x42 x42 x8 x45 Z Z Z r38_2.2
 )
 )
 (
 some ((DV.tuple []), σ)
 ) := (f128_L0_eqN G hG lo x0 x1 x8 x9 x10 x11 σ).trans (by simp only [f128_J0_eq])
theorem F128_eq (G : GuardT) (lo : Nat) (x0 x1 x2 x3 : DV) (σ : Store) : F128 G lo x0 x1 x2 x3 σ =
 (binOp PP .sub 3 x2 x1).bind fun x15 =>
 (binOp PP .geq 3 x15 (DV.p (PV.int IntKind.i64 (8)))).bind fun x17 =>
 condK x17
 (
 (convert PP 3 185 x15).bind fun x19 =>
 (zeroOf PP 185).bind fun z9 =>
 (store PP lo 185 (DV.ptr (List.length σ) 0) x19 (σ ++ [Row.mix z9])).bind fun σ1 =>
 (pureFn CC (DV.fn 147 []) [x15] σ1).bind fun x21 =>
 (binOp PP .quo 3 x15 (DV.p (PV.int IntKind.i64 (4)))).bind fun x24 =>
 (binOp PP .mul 3 x24 (DV.p (PV.int IntKind.i64 (2)))).bind fun x25 =>
 (binOp PP .add 3 x1 x25).bind fun x26 =>
 (binOp PP .sub 3 x26 I1).bind fun x27 =>
 f128_L0 G lo x0 x1 x15 (DV.ptr (List.length σ) 0) x21 x27 σ1
 )
 (
 some ((DV.tuple []), σ)
 ) := by kernel_rfl
theorem F128_call {lo : Nat} {x0 x1 x2 x3 : DV} (h : F128 guardT lo x0 x1 x2 x3 σ = some r) : CC lo 128 [x0, x1, x2, x3] σ = some r :=
 callL_run Tryz.func128 (by decide +kernel) rfl (by decide +kernel) h
def c147_0 : Code := bodyOf Tryz.f147
def a147_0 : Ann := (pol 147).ann
def F147 (x0 : DV) (σ : Store) : RS :=
 codeF G PP (pol 147) CC lo c147_0 a147_0 (x0 :: zn 6 []) σ (finR PP Tryz.f147.results.toList)
theorem F147_eq (G : GuardT) (lo : Nat) (x0 : DV) (σ : Store) : F147 G lo x0 σ =
 (convert PP 3 165 x0).bind fun x4 =>
 (pureFn CC (DV.fn 122 []) [x4] σ).bind fun x5 =>
 (binOp PP .shl 165 (DV.p (PV.int IntKind.u64 (1))) x5).bind fun x6 =>
 some (x6, σ) := by kernel_rfl
theorem F147_call {lo : Nat} {x0 : DV} (h : F147 guardT lo x0 σ = some r) : CC lo 147 [x0] σ = some r :=
 callL_run Tryz.func147 (by decide +kernel) rfl (by decide +kernel) h
def c148_0 : Code := bodyOf Tryz.f148
def a148_0 : Ann := (pol 148).ann
def F148 (x0 : DV) (σ : Store) : RS :=
 codeF G PP (pol 148) CC lo c148_0 a148_0 (x0 :: zn 32 []) σ (finR PP Tryz.f148.results.toList)
theorem F148_eq (G : GuardT) (lo : Nat) (x0 : DV) (σ : Store) : F148 G lo x0 σ =
 (nilCheckV x0).bind fun x4 =>
 (load PP 185 x4 σ).bind fun x5 =>
 (nilCheckV x0).bind fun x7 =>
 (load PP 185 x7 σ).bind fun x8 =>
 (binOp PP .shl 185 x8 (DV.p (PV.int IntKind.u64 (13)))).bind fun x9 =>
 (binOp PP .xor 185 x5 x9).bind fun x10 =>
 (nilCheckV x0).bind fun x11 =>
 (store PP lo 185 x11 x10 σ).bind fun σ1 =>
 (nilCheckV x0).bind fun x13 =>
 (load PP 185 x13 σ1).bind fun x14 =>
 (nilCheckV x0).bind fun x16 =>
 (load PP 185 x16 σ1).bind fun x17 =>
 (binOp PP .shr 185 x17 (DV.p (PV.int IntKind.u64 (7)))).bind fun x18 =>
 (binOp PP .xor 185 x14 x18).bind fun x19 =>
 (nilCheckV x0).bind fun x20 =>
 (store PP lo 185 x20 x19 σ1).bind fun σ2 =>
 (nilCheckV x0).bind fun x22 =>
 (load PP 185 x22 σ2).bind fun x23 =>
 (nilCheckV x0).bind fun x25 =>
 (load PP 185 x25 σ2).bind fun x26 =>
 (binOp PP .shl 185 x26 (DV.p (PV.int IntKind.u64 (17)))).bind fun x27 =>
 (binOp PP .xor 185 x23 x27).bind fun x28 =>
 (nilCheckV x0).bind fun x29 =>
 (store PP lo 185 x29 x28 σ2).bind fun σ3 =>
 (nilCheckV x0).bind fun x31 =>
 (load PP 185 x31 σ3).bind fun x32 =>
 some (x32, σ3) := by kernel_rfl
theorem F148_call {lo : Nat} {x0 : DV} (h : F148 guardT lo x0 σ = some r) : CC lo 148 [x0] σ = some r :=
 callL_run Tryz.func148 (by decide +kernel) rfl (by decide +kernel) h
def c129_0 : Code := bodyOf Tryz.f129
def a129_0 : Ann := (pol 129).ann
def c129_26 : Code := sndC (fstC (sndC (fstC (sndC (sndC (sndC (sndC (sndC (sndC c129_0)))))))))
def a129_26 : Ann := right (left (right (left (right (right (right (right (right (right a129_0)))))))))
def c129_28 : Code := sndC (sndC (sndC (sndC (sndC (sndC (sndC c129_0))))))
def a129_28 : Ann := right (right (right (right (right (right (right a129_0))))))
def f129_J0_fr (x0 x1 x2 x3 x8 x9 x10 x11 x12 x13 x14 x15 x16 x17 x18 x19 x20 x21 x22 x23 x24 x25 x26 x27 x28 x29 x30 x31 x32 x33 x34 x35 x36 x37 x38 x39 x40 x41 x42 x43 x44 x45 x46 x47 x48 : DV) : Frame := (x0 :: x1 :: x2 :: x3 :: Z :: Z :: Z :: Z :: x8 :: x9 :: x10 :: x11 :: x12 :: x13 :: x14 :: x15 :: x16 :: x17 :: x18 :: x19 :: x20 :: x21 :: x22 :: x23 :: x24 :: x25 :: x26 :: x27 :: x28 :: x29 :: x30 :: x31 :: x32 :: x33 :: x34 :: x35 :: x36 :: x37 :: x38 :: x39 :: x40 :: x41 :: x42 :: x43 :: x44 :: x45 :: x46 :: x47 :: x48 :: zn 14 [])
def f129_J0 (x0 x1 x2 x3 x8 x9 x10 x11 x12 x13 x14 x15 x16 x17 x18 x19 x20 x21 x22 x23 x24 x25 x26 x27 x28 x29 x30 x31 x32 x33 x34 x35 x36 x37 x38 x39 x40 x41 x42 x43 x44 x45 x46 x47 x48 : DV) (σ : Store) : RS :=
 (seqC G PP (pol 129) CC lo c129_26 a129_26 (seqC G PP (pol 129) CC lo c129_28 a129_28 (finR PP Tryz.f129.results.toList))) .normal (f129_J0_fr x0 x1 x2 x3 x8 x9 x10 x11 x12 x13 x14 x15 x16 x17 x18 x19 x20 x21 x22 x23 x24 x25 x26 x27 x28 x29 x30 x31 x32 x33 x34 x35 x36 x37 x38 x39 x40 x41 x42 x43 x44 x45 x46 x47 x48) σ
def f129_J1_fr (x0 x1 x2 x3 x8 x9 x10 x11 x12 x13 x14 x15 x16 x17 x18 x19 x20 x21 x22 x23 x24 x25 x26 x27 x28 x29 x30 x31 x32 x33 x34 x35 x36 x37 x38 x39 x40 x41 x42 x43 x44 x45 x46 x47 x48 x49 x50 x51 x52 x53 x54 : DV) : Frame := (x0 :: x1 :: x2 :: x3 :: Z :: Z :: Z :: Z :: x8 :: x9 :: x10 :: x11 :: x12 :: x13 :: x14 :: x15 :: x16 :: x17 :: x18 :: x19 :: x20 :: x21 :: x22 :: x23 :: x24 :: x25 :: x26 :: x27 :: x28 :: x29 :: x30 :: x31 :: x32 :: x33 :: x34 :: x35 :: x36 :: x37 :: x38 :: x39 :: x40 :: x41 :: x42 :: x43 :: x44 :: x45 :: x46 :: x47 :: x48 :: x49 :: x50 :: x51 :: x52 :: x53 :: x54 :: zn 8 [])
def f129_J1 (x0 x1 x2 x3 x8 x9 x10 x11 x12 x13 x14 x15 x16 x17 x18 x19 x20 x21 x22 x23 x24 x25 x26 x27 x28 x29 x30 x31 x32 x33 x34 x35 x36 x37 x38 x39 x40 x41 x42 x43 x44 x45 x46 x47 x48 x49 x50 x51 x52 x53 x54 : DV) (σ : Store) : RS :=
 (seqC G PP (pol 129) CC lo c129_28 a129_28 (finR PP Tryz.f129.results.toList)) .normal (f129_J1_fr x0 x1 x2 x3 x8 x9 x10 x11 x12 x13 x14 x15 x16 x17 x18 x19 x20 x21 x22 x23 x24 x25 x26 x27 x28 x29 x30 x31 x32 x33 x34 x35 x36 x37 x38 x39 x40 x41 x42 x43 x44 x45 x46 x47 x48 x49 x50 x51 x52 x53 x54) σ
def F129 (x0 x1 x2 x3 : DV) (σ : Store) : RS :=
 codeF G PP (pol 129) CC lo c129_0 a129_0 (x0 :: x1 :: x2 :: x3 :: zn 59 []) σ (finR PP Tryz.f129.results.toList)
theorem f129_J0_gen (G : GuardT) (lo : Nat) (N0 : Frame → Store → Option (DV × Store)) (x0 x1 x2 x3 x8 x9 x10 x11 x12 x13 x14 x15 x16 x17 x18 x19 x20 x21 x22 x23 x24 x25 x26 x27 x28 x29 x30 x31 x32 x33 x34 x35 x36 x37 x38 x39 x40 x41 x42 x43 x44 x45 x46 x47 x48 : DV) (σ : Store) : (seqC G PP (pol 129) CC lo c129_26 a129_26 (splitC N0 (seqC G PP (pol 129) CC lo c129_28 a129_28 (finR PP Tryz.f129.results.toList)))) .normal (f129_J0_fr x0 x1 x2 x3 x8 x9 x10 x11 x12 x13 x14 x15 x16 x17 x18 x19 x20 x21 x22 x23 x24 x25 x26 x27 x28 x29 x30 x31 x32 x33 x34 x35 x36 x37 x38 x39 x40 x41 x42 x43 x44 x45 x46 x47 x48) σ =
 (plainFn CC lo (DV.fn 150 []) [x0, x12, x13, x14, x11, x3] σ).bind fun r54_4 =>
 N0 (f129_J1_fr x0 x1 x2 x3 x8 x9 x10 x11 x12 r54_4.1 x14 x15 x16 x17 x18 x19 x20 x21 x22 x23 x24 x25 x26 x27 x28 x29 x30 x31 x32 x33 x34 x35 x36 x37 x38 x39 x40 x41 x42 x43 x44 x45 x46 x47 x48 x0 x12 x13 x14 x3 r54_4.1) r54_4.2 := by kernel_rfl
theorem f129_J0_eq (G : GuardT) (lo : Nat) (x0 x1 x2 x3 x8 x9 x10 x11 x12 x13 x14 x15 x16 x17 x18 x19 x20 x21 x22 x23 x24 x25 x26 x27 x28 x29 x30 x31 x32 x33 x34 x35 x36 x37 x38 x39 x40 x41 x42 x43 x44 x45 x46 x47 x48 : DV) (σ : Store) : f129_J0 G lo x0 x1 x2 x3 x8 x9 x10 x11 x12 x13 x14 x15 x16 x17 x18 x19 x20 x21 x22 x23 x24 x25 x26 x27 x28 x29 x30 x31 x32 x33 x34 x35 x36 x37 x38 x39 x40 x41 x42 x43 x44 x45 x46 x47 x48 σ =
 (plainFn CC lo (DV.fn 150 []) [x0, x12, x13, x14, x11, x3] σ).bind fun r54_4 =>
 f129_J1 G lo x0 x1 x2 x3 x8 x9 x10 x11 x12 r54_4.1 x14 x15 x16 x17 x18 x19 x20 x21 x22 x23 x24 x25 x26 x27 x28 x29 x30 x31 x32 x33 x34 x35 x36 x37 x38 x39 x40 x41 x42 x43 x44 x45 x46 x47 x48 x0 x12 x13 x14 x3 r54_4.1 r54_4.2 := by
 have h := f129_J0_gen (N0 := (seqC G PP (pol 129) CC lo c129_28 a129_28 (finR PP Tryz.f129.results.toList)) .normal) G lo x0 x1 x2 x3 x8 x9 x10 x11 x12 x13 x14 x15 x16 x17 x18 x19 x20 x21 x22 x23 x24 x25 x26 x27 x28 x29 x30 x31 x32 x33 x34 x35 x36 x37 x38 x39 x40 x41 x42 x43 x44 x45 x46 x47 x48 σ
 simp only [splitC_eta] at h
 exact h
theorem f129_J1_eq (G : GuardT) (lo : Nat) (x0 x1 x2 x3 x8 x9 x10 x11 x12 x13 x14 x15 x16 x17 x18 x19 x20 x21 x22 x23 x24 x25 x26 x27 x28 x29 x30 x31 x32 x33 x34 x35 x36 x37 x38 x39 x40 x41 x42 x43 x44 x45 x46 x47 x48 x49 x50 x51 x52 x53 x54 : DV) (σ : Store) : f129_J1 G lo x0 x1 x2 x3 x8 x9 x10 x11 x12 x13 x14 x15 x16 x17 x18 x19 x20 x21 x22 x23 x24 x25 x26 x27 x28 x29 x30 x31 x32 x33 x34 x35 x36 x37 x38 x39 x40 x41 x42 x43 x44 x45 x46 x47 x48 x49 x50 x51 x52 x53 x54 σ =
 (load PP 3 x11 σ).bind fun x55 =>
 (binOp PP .eql 3 x55 I0).bind fun x58 =>
 condK x58
 (
 some ((DV.tuple [x13, I1]), σ)
 )
 (
 (binOp PP .eql 3 x55 (DV.p (PV.int IntKind.i64 (12)))).bind fun x61 =>
 condK x61
 (
 some ((DV.tuple [x13, (DV.p (PV.int IntKind.i64 (2)))]), σ)
 )
 (
 some ((DV.tuple [x13, I0]), σ)
 )
 ) := by kernel_rfl
theorem F129_eqN (G : GuardT) (lo : Nat) (x0 x1 x2 x3 : DV) (σ : Store) : F129 G lo x0 x1 x2 x3 σ =
 (binOp PP .sub 3 x2 x1).bind fun x17 =>
 (zeroOf PP 3).bind fun z11 =>
 (binOp PP .quo 3 x17 (DV.p (PV.int IntKind.i64 (4)))).bind fun x20 =>
 (binOp PP .mul 3 x20 I1).bind fun x21 =>
 (binOp PP .add 3 x1 x21).bind fun x22 =>
 (binOp PP .quo 3 x17 (DV.p (PV.int IntKind.i64 (4)))).bind fun x25 =>
 (binOp PP .mul 3 x25 (DV.p (PV.int IntKind.i64 (2)))).bind fun x26 =>
 (binOp PP .add 3 x1 x26).bind fun x27 =>
 (binOp PP .quo 3 x17 (DV.p (PV.int IntKind.i64 (4)))).bind fun x30 =>
 (binOp PP .mul 3 x30 (DV.p (PV.int IntKind.i64 (3)))).bind fun x31 =>
 (binOp PP .add 3 x1 x31).bind fun x32 =>
 (binOp PP .geq 3 x17 (DV.p (PV.int IntKind.i64 (8)))).bind fun x34 =>
 condK x34
 (
 (binOp PP .geq 3 x17 (DV.p (PV.int IntKind.i64 (50)))).bind fun x36 =>
 condK x36
 (
 (plainFn CC lo (DV.fn 149 []) [x0, x22, (DV.ptr (List.length σ) 0), x3] (σ ++ [Row.mix z11])).bind fun r40_1 =>
 (plainFn CC lo (DV.fn 149 []) [x0, x27, (DV.ptr (List.length σ) 0), x3] r40_1.2).bind fun r44_2 =>
 (plainFn CC lo (DV.fn 149 []) [x0, x32, (DV.ptr (List.length σ) 0), x3] r44_2.2).bind fun r48_3 =>
 (plainFn CC lo (DV.fn 150 []) [x0, r40_1.1, r44_2.1, r48_3.1, (DV.ptr (List.length σ) 0), x3] r48_3.2).bind fun r54_4 =>
 (load PP 3 (DV.ptr (List.length σ) 0) r54_4.2).bind fun x55 =>
 (binOp PP .eql 3 x55 I0).bind fun x58 =>
 condK x58
 (
 some ((DV.tuple [r54_4.1, I1]), r54_4.2)
 )
 (
 (binOp PP .eql 3 x55 (DV.p (PV.int IntKind.i64 (12)))).bind fun x61 =>
 condK x61
 (
 some ((DV.tuple [r54_4.1, (DV.p (PV.int IntKind.i64 (2)))]), r54_4.2)
 )
 (
 some ((DV.tuple [r54_4.1, I0]), r54_4.2)
 )
 )
 )
 (
 (plainFn CC lo (DV.fn 150 []) [x0, x22, x27, x32, (DV.ptr (List.length σ) 0), x3] (σ ++ [Row.mix z11])).bind fun r54_5 =>
 (load PP 3 (DV.ptr (List.length σ) 0) r54_5.2).bind fun x55 =>
 (binOp PP .eql 3 x55 I0).bind fun x58 =>
 condK x58
 (
 some ((DV.tuple [r54_5.1, I1]), r54_5.2)
 )
 (
 (binOp PP .eql 3 x55 (DV.p (PV.int IntKind.i64 (12)))).bind fun x61 =>
 condK x61
 (
 some ((DV.tuple [r54_5.1, (DV.p (PV.int IntKind.i64 (2)))]), r54_5.2)
 )
 (
 some ((DV.tuple [r54_5.1, I0]), r54_5.2)
 )
 )
 )
 )
 (
 (load PP 3 (DV.ptr (List.length σ) 0) (σ ++ [Row.mix z11])).bind fun x55 =>
 (binOp PP .eql 3 x55 I0).bind fun x58 =>
 condK x58
 (
 some ((DV.tuple [x27, I1]), (σ ++ [Row.mix z11]))
 )
 (
 (binOp PP .eql 3 x55 (DV.p (PV.int IntKind.i64 (12)))).bind fun x61 =>
 condK x61
 (
 some ((DV.tuple [x27, (DV.p (PV.int IntKind.i64 (2)))]), (σ ++ [Row.mix z11]))
 )
 (
 some ((DV.tuple [x27, I0]), (σ ++ [Row.mix z11]))
 )
 )
 ) := by kernel_rfl
theorem F129_eq (G : GuardT) (lo : Nat) (x0 x1 x2 x3 : DV) (σ : Store) : F129 G lo x0 x1 x2 x3 σ =
 (binOp PP .sub 3 x2 x1).bind fun x17 =>
 (zeroOf PP 3).bind fun z11 =>
 (binOp PP .quo 3 x17 (DV.p (PV.int IntKind.i64 (4)))).bind fun x20 =>
 (binOp PP .mul 3 x20 I1).bind fun x21 =>
 (binOp PP .add 3 x1 x21).bind fun x22 =>
 (binOp PP .quo 3 x17 (DV.p (PV.int IntKind.i64 (4)))).bind fun x25 =>
 (binOp PP .mul 3 x25 (DV.p (PV.int IntKind.i64 (2)))).bind fun x26 =>
 (binOp PP .add 3 x1 x26).bind fun x27 =>
 (binOp PP .quo 3 x17 (DV.p (PV.int IntKind.i64 (4)))).bind fun x30 =>
 (binOp PP .mul 3 x30 (DV.p (PV.int IntKind.i64 (3)))).bind fun x31 =>
 (binOp PP .add 3 x1 x31).bind fun x32 =>
 (binOp PP .geq 3 x17 (DV.p (PV.int IntKind.i64 (8)))).bind fun x34 =>
 condK x34
 (
 (binOp PP .geq 3 x17 (DV.p (PV.int IntKind.i64 (50)))).bind fun x36 =>
 condK x36
 (
 (plainFn CC lo (DV.fn 149 []) [x0, x22, (DV.ptr (List.length σ) 0), x3] (σ ++ [Row.mix z11])).bind fun r40_1 =>
 (plainFn CC lo (DV.fn 149 []) [x0, x27, (DV.ptr (List.length σ) 0), x3] r40_1.2).bind fun r44_2 =>
 (plainFn CC lo (DV.fn 149 []) [x0, x32, (DV.ptr (List.length σ) 0), x3] r44_2.2).bind fun r48_3 =>
 f129_J0 G lo x0 x1 x2 x3 I0 I0 x17 (DV.ptr (List.length σ) 0) r40_1.1 r44_2.1 r48_3.1 x2 x1 x17 x1 x17 x20 x21 x22 x1 x17 x25 x26 x27 x1 x17 x30 x31 x32 x17 x34 x17 x36 x0 x22 x3 r40_1.1 x0 x27 x3 r44_2.1 x0 x32 x3 r48_3.1 r48_3.2
 )
 (
 f129_J0 G lo x0 x1 x2 x3 I0 I0 x17 (DV.ptr (List.length σ) 0) x22 x27 x32 x2 x1 x17 x1 x17 x20 x21 x22 x1 x17 x25 x26 x27 x1 x17 x30 x31 x32 x17 x34 x17 x36 Z Z Z Z Z Z Z Z Z Z Z Z (σ ++ [Row.mix z11])
 )
 )
 (
 f129_J1 G lo x0 x1 x2 x3 I0 I0 x17 (DV.ptr (List.length σ) 0) x22 x27 x32 x2 x1 x17 x1 x17 x20 x21 x22 x1 x17 x25 x26 x27 x1 x17 x30 x31 x32 x17 x34 Z Z Z Z Z Z Z Z Z Z Z Z Z Z Z Z Z Z Z Z (σ ++ [Row.mix z11])
 ) := (F129_eqN G lo x0 x1 x2 x3 σ).trans (by simp only [f129_J0_eq, f129_J1_eq])
theorem F129_call {lo : Nat} {x0 x1 x2 x3 : DV} (h : F129 guardT lo x0 x1 x2 x3 σ = some r) : CC lo 129 [x0, x1, x2, x3] σ = some r :=
 callL_run Tryz.func129 (by decide +kernel) rfl (by decide +kernel) h
def c149_0 : Code := bodyOf Tryz.f149
def a149_0 : Ann := (pol 149).ann
def F149 (x0 x1 x2 x3 : DV) (σ : Store) : RS :=
 codeF G PP (pol 149) CC lo c149_0 a149_0 (x0 :: x1 :: x2 :: x3 :: zn 14 []) σ (finR PP Tryz.f149.results.toList)
theorem F149_eq (G : GuardT) (lo : Nat) (x0 x1 x2 x3 : DV) (σ : Store) : F149 G lo x0 x1 x2 x3 σ =
 (binOp PP .sub 3 x1 I1).bind fun x11 =>
 (binOp PP .add 3 x1 I1).bind fun x14 =>
 (plainFn CC lo (DV.fn 150 []) [x0, x11, x1, x14, x2, x3] σ).bind fun r17_1 =>
 some (r17_1.1, r17_1.2) := by kernel_rfl
theorem F149_call {lo : Nat} {x0 x1 x2 x3 : DV} (h : F149 guardT lo x0 x1 x2 x3 σ = some r) : CC lo 149 [x0, x1, x2, x3] σ = some r :=
 callL_run Tryz.func149 (by decide +kernel) rfl (by decide +kernel) h
def c150_0 : Code := bodyOf Tryz.f150
def a150_0 : Ann := (pol 150).ann
def F150 (x0 x1 x2 x3 x4 x5 : DV) (σ : Store) : RS :=
 codeF G PP (pol 150) CC lo c150_0 a150_0 (x0 :: x1 :: x2 :: x3 :: x4 :: x5 :: zn 35 []) σ (finR PP Tryz.f150.results.toList)
theorem F150_eq (G : GuardT) (lo : Nat) (x0 x1 x2 x3 x4 x5 : DV) (σ : Store) : F150 G lo x0 x1 x2 x3 x4 x5 σ =
 (plainFn CC lo (DV.fn 162 []) [x0, x1, x2, x4, x5] σ).bind fun r19_1 =>
 (extractV r19_1.1 0).bind fun x20 =>
 (extractV r19_1.1 1).bind fun x21 =>
 (plainFn CC lo (DV.fn 162 []) [x0, x21, x3, x4, x5] r19_1.2).bind fun r28_2 =>
 (extractV r28_2.1 0).bind fun x29 =>
 (extractV r28_2.1 1).bind fun x30 =>
 (plainFn CC lo (DV.fn 162 []) [x0, x20, x29, x4, x5] r28_2.2).bind fun r37_3 =>
 (extractV r37_3.1 0).bind fun x38 =>
 (extractV r37_3.1 1).bind fun x39 =>
 some (x39, r37_3.2) := by kernel_rfl
theorem F150_call {lo : Nat} {x0 x1 x2 x3 x4 x5 : DV} (h : F150 guardT lo x0 x1 x2 x3 x4 x5 σ = some r) : CC lo 150 [x0, x1, x2, x3, x4, x5] σ = some r :=
 callL_run Tryz.func150 (by decide +kernel) rfl (by decide +kernel) h
def c162_0 : Code := bodyOf Tryz.f162
def a162_0 : Ann := (pol 162).ann
def F162 (x0 x1 x2 x3 x4 : DV) (σ : Store) : RS :=
 codeF G PP (pol 162) CC lo c162_0 a162_0 (x0 :: x1 :: x2 :: x3 :: x4 :: zn 27 []) σ (finR PP Tryz.f162.results.toList)
theorem F162_eq (G : GuardT) (lo : Nat) (x0 x1 x2 x3 x4 : DV) (σ : Store) : F162 G lo x0 x1 x2 x3 x4 σ =
 (indexAddr PP 134 x0 x2).bind fun x15 =>
 (load PP 102 x15 σ).bind fun x16 =>
 (indexAddr PP 134 x0 x1).bind fun x19 =>
 (load PP 102 x19 σ).bind fun x20 =>
 (pureFn CC x4 [x16, x20] σ).bind fun x21 =>
 (binOp PP .lss 3 x21 I0).bind fun x22 =>
 condK x22
 (
 (nilCheckV x3).bind fun x24 =>
 (load PP 3 x24 σ).bind fun x25 =>
 (binOp PP .add 3 x25 I1).bind fun x26 =>
 (nilCheckV x3).bind fun x27 =>
 (store PP lo 3 x27 x26 σ).bind fun σ1 =>
 some ((DV.tuple [x2, x1]), σ1)
 )
 (
 some ((DV.tuple [x1, x2]), σ)
 ) := by kernel_rfl
theorem F162_call {lo : Nat} {x0 x1 x2 x3 x4 : DV} (h : F162 guardT lo x0 x1 x2 x3 x4 σ = some r) : CC lo 162 [x0, x1, x2, x3, x4] σ = some r :=
 callL_run Tryz.func162 (by decide +kernel) rfl (by decide +kernel) h
def c130_0 : Code := bodyOf Tryz.f130
def a130_0 : Ann := (pol 130).ann
def a130_4 : Ann := right (right a130_0)
def a130_5 : Ann := left a130_4
def c130_6 : Code := fstC (fstC (sndC (sndC c130_0)))
def f130_L0 (x0 x8 x9 : DV) (σ : Store) : RS :=
 codeF G PP (pol 130) CC lo (.loop c130_6) a130_5 (x0 :: zn 7 (x8 :: x9 :: zn 24 [])) σ
 (blockC 0 a130_4 (finR PP Tryz.f130.results.toList))
def F130 (x0 x1 x2 x3 : DV) (σ : Store) : RS :=
 codeF G PP (pol 130) CC lo c130_0 a130_0 (x0 :: x1 :: x2 :: x3 :: zn 30 []) σ (finR PP Tryz.f130.results.toList)
theorem f130_L0_eq (G : GuardT) (hG : GuardOk G) (lo : Nat) (x0 x8 x9 : DV) (σ : Store) : f130_L0 G lo x0 x8 x9 σ =
 (binOp PP .lss 3 x8 x9).bind fun x15 =>
 condK x15
 (
 (indexAddr PP 134 x0 x9).bind fun x22 =>
 (load PP 102 x22 σ).bind fun x23 =>
 (indexAddr PP 134 x0 x8).bind fun x26 =>
 (load PP 102 x26 σ).bind fun x27 =>
 (indexAddr PP 134 x0 x8).bind fun x28 =>
 (store PP lo 102 x28 x23 σ).bind fun σ1 =>
 (indexAddr PP 134 x0 x9).bind fun x29 =>
 (store PP lo 102 x29 x27 σ1).bind fun σ2 =>
 (binOp PP .add 3 x8 I1).bind fun x31 =>
 (binOp PP .sub 3 x9 I1).bind fun x33 =>
 f130_L0 G lo x0 x31 x33 σ2
 )
 (
 some ((DV.tuple []), σ)
 ) := (loopF_eq G hG).trans (by kernel_rfl)
theorem F130_eq (G : GuardT) (lo : Nat) (x0 x1 x2 x3 : DV) (σ : Store) : F130 G lo x0 x1 x2 x3 σ =
 (binOp PP .sub 3 x2 I1).bind fun x12 =>
 f130_L0 G lo x0 x1 x12 σ := by kernel_rfl
theorem F130_call {lo : Nat} {x0 x1 x2 x3 : DV} (h : F130 guardT lo x0 x1 x2 x3 σ = some r) : CC lo 130 [x0, x1, x2, x3] σ = some r :=
 callL_run Tryz.func130 (by decide +kernel) rfl (by decide +kernel) h
def c131_0 : Code := bodyOf Tryz.f131
def a131_0 : Ann := (pol 131).ann
def a131_7 : Ann := right (left (right (right a131_0)))
def a131_8 : Ann := left a131_7
def c131_9 : Code := fstC (fstC (sndC (fstC (sndC (sndC c131_0)))))
def a131_16 : Ann := left (right (left a131_8))
def a131_18 : Ann := left (left a131_16)
def a131_19 : Ann := left a131_18
def c131_20 : Code := fstC (fstC (fstC (fstC (fstC (sndC c131_9)))))
def c131_28 : Code := sndC (fstC (fstC (sndC c131_9)))
def a131_28 : Ann := right (left a131_16)
def a131_52 : Ann := right (left (right (left (right (right (right a131_28))))))
def a131_53 : Ann := left a131_52
def c131_54 : Code := fstC (fstC (sndC (fstC (sndC (fstC (sndC (sndC (sndC c131_28))))))))
def c131_71 : Code := sndC (sndC (sndC (sndC c131_28)))
def a131_71 : Ann := right (right (right (right a131_28)))
def a131_76 : Ann := right (left (right a131_71))
def a131_77 : Ann := left a131_76
def c131_78 : Code := fstC (fstC (sndC (fstC (sndC c131_71))))
def c131_95 : Code := sndC (sndC c131_9)
def a131_95 : Ann := right (right (left a131_8))
def c131_96 : Code := sndC (sndC (sndC c131_0))
def a131_96 : Ann := right (right (right a131_0))
def f131_L0 (x0 x1 x2 x3 x9 x10 : DV) (σ : Store) : RS :=
 codeF G PP (pol 131) CC lo (.loop c131_9) a131_8 (x0 :: x1 :: x2 :: x3 :: zn 5 (x9 :: x10 :: zn 130 [])) σ
 (blockC 0 a131_7 (seqC G PP (pol 131) CC lo c131_96 a131_96 (finR PP Tryz.f131.results.toList)))
def f131_L1 (x0 x1 x2 x3 x9 x10 : DV) (σ : Store) : RS :=
 codeF G PP (pol 131) CC lo (.loop c131_20) a131_19 (x0 :: x1 :: x2 :: x3 :: zn 5 (x9 :: x10 :: zn 130 [])) σ
 (blockC 2 a131_18 (seqC G PP (pol 131) CC lo c131_28 a131_28 (blockC 1 a131_16 (seqC G PP (pol 131) CC lo c131_95 a131_95 (loopC G PP (pol 131) CC lo c131_9 a131_8 (blockC 0 a131_7 (seqC G PP (pol 131) CC lo c131_96 a131_96 (finR PP Tryz.f131.results.toList))))))))
def f131_L2 (x0 x1 x2 x3 x9 x10 x11 : DV) (σ : Store) : RS :=
 codeF G PP (pol 131) CC lo (.loop c131_54) a131_53 (x0 :: x1 :: x2 :: x3 :: zn 5 (x9 :: x10 :: x11 :: zn 129 [])) σ
 (blockC 4 a131_52 (seqC G PP (pol 131) CC lo c131_71 a131_71 (blockC 1 a131_16 (seqC G PP (pol 131) CC lo c131_95 a131_95 (loopC G PP (pol 131) CC lo c131_9 a131_8 (blockC 0 a131_7 (seqC G PP (pol 131) CC lo c131_96 a131_96 (finR PP Tryz.f131.results.toList))))))))
def f131_J0_fr (x0 x1 x2 x3 x9 x10 x11 x39 x40 x41 x42 x43 x44 x45 x46 x47 x48 x49 x50 x51 x52 x53 x54 x55 x56 x57 x58 x59 x60 x61 x62 x63 x64 x65 x66 x67 x68 x69 x70 x71 x72 x73 x74 x75 x76 x77 x78 x79 x80 x81 x82 x83 x84 x85 x86 x87 x88 x89 x90 x91 x92 x93 x94 x95 x96 x97 x98 x99 x100 : DV) : Frame := (x0 :: x1 :: x2 :: x3 :: zn 5 (x9 :: x10 :: x11 :: zn 27 (x39 :: x40 :: x41 :: x42 :: x43 :: x44 :: x45 :: x46 :: x47 :: x48 :: x49 :: x50 :: x51 :: x52 :: x53 :: x54 :: x55 :: x56 :: x57 :: x58 :: x59 :: x60 :: x61 :: x62 :: x63 :: x64 :: x65 :: x66 :: x67 :: x68 :: x69 :: x70 :: x71 :: x72 :: x73 :: x74 :: x75 :: x76 :: x77 :: x78 :: x79 :: x80 :: x81 :: x82 :: x83 :: x84 :: x85 :: x86 :: x87 :: x88 :: x89 :: x90 :: x91 :: x92 :: x93 :: x94 :: x95 :: x96 :: x97 :: x98 :: x99 :: x100 :: zn 40 [])))
def f131_J0 (x0 x1 x2 x3 x9 x10 x11 x39 x40 x41 x42 x43 x44 x45 x46 x47 x48 x49 x50 x51 x52 x53 x54 x55 x56 x57 x58 x59 x60 x61 x62 x63 x64 x65 x66 x67 x68 x69 x70 x71 x72 x73 x74 x75 x76 x77 x78 x79 x80 x81 x82 x83 x84 x85 x86 x87 x88 x89 x90 x91 x92 x93 x94 x95 x96 x97 x98 x99 x100 : DV) (σ : Store) : RS :=
 (seqC G PP (pol 131) CC lo c131_71 a131_71 (blockC 1 a131_16 (seqC G PP (pol 131) CC lo c131_95 a131_95 (loopC G PP (pol 131) CC lo c131_9 a131_8 (blockC 0 a131_7 (seqC G PP (pol 131) CC lo c131_96 a131_96 (finR PP Tryz.f131.results.toList))))))) .normal (f131_J0_fr x0 x1 x2 x3 x9 x10 x11 x39 x40 x41 x42 x43 x44 x45 x46 x47 x48 x49 x50 x51 x52 x53 x54 x55 x56 x57 x58 x59 x60 x61 x62 x63 x64 x65 x66 x67 x68 x69 x70 x71 x72 x73 x74 x75 x76 x77 x78 x79 x80 x81 x82 x83 x84 x85 x86 x87 x88 x89 x90 x91 x92 x93 x94 x95 x96 x97 x98 x99 x100) σ
def f131_L3 (x0 x1 x2 x3 x9 x10 x12 : DV) (σ : Store) : RS :=
 codeF G PP (pol 131) CC lo (.loop c131_78) a131_77 (x0 :: x1 :: x2 :: x3 :: zn 5 (x9 :: x10 :: Z :: x12 :: zn 128 [])) σ
 (blockC 6 a131_76 (blockC 1 a131_16 (seqC G PP (pol 131) CC lo c131_95 a131_95 (loopC G PP (pol 131) CC lo c131_9 a131_8 (blockC 0 a131_7 (seqC G PP (pol 131) CC lo c131_96 a131_96 (finR PP Tryz.f131.results.toList)))))))
def f131_J1_fr (x0 x1 x2 x3 x9 x10 x11 x12 x39 x40 x41 x42 x43 x44 x45 x46 x47 x48 x49 x50 x51 x52 x53 x54 x55 x56 x57 x58 x59 x60 x61 x62 x63 x64 x65 x66 x67 x68 x69 x70 x71 x72 x73 x74 x75 x76 x77 x78 x79 x80 x81 x82 x83 x84 x85 x86 x87 x88 x89 x90 x91 x92 x93 x94 x95 x96 x97 x98 x99 x100 x101 x102 x103 x104 x105 x106 x107 x108 x109 x110 x111 x112 x113 x114 x115 x116 x117 x118 x119 x120 x121 x122 x123 x124 x125 x126 x127 x128 x129 x130 x131 x132 x133 x134 x135 x136 x137 x138 x139 x140 : DV) : Frame := (x0 :: x1 :: x2 :: x3 :: zn 5 (x9 :: x10 :: x11 :: x12 :: zn 26 ([x39, x40, x41, x42, x43, x44, x45, x46, x47, x48, x49, x50, x51, x52, x53, x54, x55, x56, x57, x58, x59, x60, x61, x62, x63, x64, x65, x66, x67, x68, x69, x70, x71, x72, x73, x74, x75, x76, x77, x78, x79, x80, x81, x82, x83, x84, x85, x86, x87, x88, x89, x90, x91, x92, x93, x94, x95, x96, x97, x98, x99, x100, x101, x102, x103, x104, x105, x106, x107, x108, x109, x110, x111, x112, x113, x114, x115, x116, x117, x118, x119, x120, x121, x122, x123, x124, x125, x126, x127, x128, x129, x130, x131, x132, x133, x134, x135, x136, x137, x138, x139, x140])))
def f131_J1 (x0 x1 x2 x3 x9 x10 x11 x12 x39 x40 x41 x42 x43 x44 x45 x46 x47 x48 x49 x50 x51 x52 x53 x54 x55 x56 x57 x58 x59 x60 x61 x62 x63 x64 x65 x66 x67 x68 x69 x70 x71 x72 x73 x74 x75 x76 x77 x78 x79 x80 x81 x82 x83 x84 x85 x86 x87 x88 x89 x90 x91 x92 x93 x94 x95 x96 x97 x98 x99 x100 x101 x102 x103 x104 x105 x106 x107 x108 x109 x110 x111 x112 x113 x114 x115 x116 x117 x118 x119 x120 x121 x122 x123 x124 x125 x126 x127 x128 x129 x130 x131 x132 x133 x134 x135 x136 x137 x138 x139 x140 : DV) (σ : Store) : RS :=
 (blockC 1 a131_16 (seqC G PP (pol 131) CC lo c131_95 a131_95 (loopC G PP (pol 131) CC lo c131_9 a131_8 (blockC 0 a131_7 (seqC G PP (pol 131) CC lo c131_96 a131_96 (finR PP Tryz.f131.results.toList)))))) .normal (f131_J1_fr x0 x1 x2 x3 x9 x10 x11 x12 x39 x40 x41 x42 x43 x44 x45 x46 x47 x48 x49 x50 x51 x52 x53 x54 x55 x56 x57 x58 x59 x60 x61 x62 x63 x64 x65 x66 x67 x68 x69 x70 x71 x72 x73 x74 x75 x76 x77 x78 x79 x80 x81 x82 x83 x84 x85 x86 x87 x88 x89 x90 x91 x92 x93 x94 x95 x96 x97 x98 x99 x100 x101 x102 x103 x104 x105 x106 x107 x108 x109 x110 x111 x112 x113 x114 x115 x116 x117 x118 x119 x120 x121 x122 x123 x124 x125 x126 x127 x128 x129 x130 x131 x132 x133 x134 x135 x136 x137 x138 x139 x140) σ
def F131 (x0 x1 x2 x3 : DV) (σ : Store) : RS :=
 codeF G PP (pol 131) CC lo c131_0 a131_0 (x0 :: x1 :: x2 :: x3 :: zn 137 []) σ (finR PP Tryz.f131.results.toList)
theorem f131_L0_eq (G : GuardT) (hG : GuardOk G) (lo : Nat) (x0 x1 x2 x3 x9 x10 : DV) (σ : Store) : f131_L0 G lo x0 x1 x2 x3 x9 x10 σ =
 (binOp PP .lss 3 x10 (DV.p (PV.int IntKind.i64 (5)))).bind fun x16 =>
 condK x16
 (
 f131_L1 G lo x0 x1 x2 x3 x9 x10 σ
 )
 (
 some ((DV.p (PV.bool false)), σ)
 ) := (loopF_eq G hG).trans (by kernel_rfl)
theorem f131_L1_eq (G : GuardT) (hG : GuardOk G) (lo : Nat) (x0 x1 x2 x3 x9 x10 : DV) (σ : Store) : f131_L1 G lo x0 x1 x2 x3 x9 x10 σ =
 (binOp PP .lss 3 x9 x2).bind fun x21 =>
 G _ x21 true (some (x3, σ)) σ fun x23 σ1 =>
 G _ x21 true (some (x0, σ1)) σ1 fun x24 σ2 =>
 G _ x21 true (some (x9, σ2)) σ2 fun x25 σ3 =>
 G _ x21 true ((indexAddr PP 134 x24 x25).bind fun v => some (v, σ3)) σ3 fun x26 σ4 =>
 G _ x21 true ((load PP 102 x26 σ4).bind fun v => some (v, σ4)) σ4 fun x27 σ5 =>
 G _ x21 true (some (x0, σ5)) σ5 fun x28 σ6 =>
 G _ x21 true (some (x9, σ6)) σ6 fun x29 σ7 =>
 G _ x21 true ((binOp PP .sub 3 x29 I1).bind fun v => some (v, σ7)) σ7 fun x30 σ8 =>
 G _ x21 true ((indexAddr PP 134 x28 x30).bind fun v => some (v, σ8)) σ8 fun x31 σ9 =>
 G _ x21 true ((load PP 102 x31 σ9).bind fun v => some (v, σ9)) σ9 fun x32 σ10 =>
 G _ x21 true ((pureFn CC x23 [x27, x32] σ10).bind fun v => some (v, σ10)) σ10 fun x33 σ11 =>
 G _ x21 true ((binOp PP .lss 3 x33 I0).bind fun v => some (v, σ11)) σ11 fun x34 σ12 =>
 G _ x21 true ((unOp .not x34).bind fun v => some (v, σ12)) σ12 fun x35 σ13 =>
 (pickV x21 x35 (DV.p (PV.bool false))).bind fun x36 =>
 condK x36
 (
 (binOp PP .add 3 x9 I1).bind fun x38 =>
 f131_L1 G lo x0 x1 x2 x3 x38 x10 σ13
 )
 (
 (binOp PP .eql 3 x9 x2).bind fun x41 =>
 condK x41
 (
 some ((DV.p (PV.bool true)), σ13)
 )
 (
 (binOp PP .sub 3 x2 x1).bind fun x44 =>
 (binOp PP .lss 3 x44 (DV.p (PV.int IntKind.i64 (50)))).bind fun x45 =>
 condK x45
 (
 some ((DV.p (PV.bool false)), σ13)
 )
 (
 (binOp PP .sub 3 x9 I1).bind fun x50 =>
 (binOp PP .sub 3 x9 I1).bind fun x53 =>
 (indexAddr PP 134 x0 x53).bind fun x54 =>
 (load PP 102 x54 σ13).bind fun x55 =>
 (indexAddr PP 134 x0 x9).bind fun x58 =>
 (load PP 102 x58 σ13).bind fun x59 =>
 (indexAddr PP 134 x0 x9).bind fun x60 =>
 (store PP lo 102 x60 x55 σ13).bind fun σ14 =>
 (indexAddr PP 134 x0 x50).bind fun x61 =>
 (store PP lo 102 x61 x59 σ14).bind fun σ15 =>
 (binOp PP .sub 3 x9 x1).bind fun x64 =>
 (binOp PP .geq 3 x64 (DV.p (PV.int IntKind.i64 (2)))).bind fun x65 =>
 condK x65
 (
 (binOp PP .sub 3 x9 I1).bind fun x67 =>
 f131_L2 G lo x0 x1 x2 x3 x9 x10 x67 σ15
 )
 (
 f131_J0 G lo x0 x1 x2 x3 x9 x10 Z x9 x2 x41 x2 x1 x44 x45 x0 x9 x0 x9 x50 x0 x9 x53 x54 x55 x0 x9 x58 x59 x60 x61 x9 x1 x64 x65 Z Z Z Z Z Z Z Z Z Z Z Z Z Z Z Z Z Z Z Z Z Z Z Z Z Z Z Z Z Z Z Z Z Z Z σ15
 )
 )
 )
 ) := (loopF_eq G hG).trans (by kernel_rfl)
theorem f131_L2_gen (G : GuardT) (hG : GuardOk G) (lo : Nat) (N0 : Frame → Store → Option (DV × Store)) (x0 x1 x2 x3 x9 x10 x11 : DV) (σ : Store) : codeF G PP (pol 131) CC lo (.loop c131_54) a131_53 (x0 :: x1 :: x2 :: x3 :: zn 5 (x9 :: x10 :: x11 :: zn 129 [])) σ
 (blockC 4 a131_52 (splitC N0 (seqC G PP (pol 131) CC lo c131_71 a131_71 (blockC 1 a131_16 (seqC G PP (pol 131) CC lo c131_95 a131_95 (loopC G PP (pol 131) CC lo c131_9 a131_8 (blockC 0 a131_7 (seqC G PP (pol 131) CC lo c131_96 a131_96 (finR PP Tryz.f131.results.toList))))))))) =
 (binOp PP .geq 3 x11 I1).bind fun x69 =>
 condK x69
 (
 (indexAddr PP 134 x0 x11).bind fun x75 =>
 (load PP 102 x75 σ).bind fun x76 =>
 (binOp PP .sub 3 x11 I1).bind fun x79 =>
 (indexAddr PP 134 x0 x79).bind fun x80 =>
 (load PP 102 x80 σ).bind fun x81 =>
 (pureFn CC x3 [x76, x81] σ).bind fun x82 =>
 (binOp PP .lss 3 x82 I0).bind fun x83 =>
 (unOp .not x83).bind fun x84 =>
 condK x84
 (
 N0 (f131_J0_fr x0 x1 x2 x3 x9 x10 Z Z Z Z Z Z Z Z Z Z Z Z Z Z Z Z Z Z Z Z Z Z Z Z Z Z Z Z Z Z Z Z Z Z Z Z Z Z Z Z Z Z Z Z Z Z Z Z Z Z Z Z Z Z Z Z Z Z Z Z Z Z Z) σ
 )
 (
 (binOp PP .sub 3 x11 I1).bind fun x89 =>
 (binOp PP .sub 3 x11 I1).bind fun x92 =>
 (indexAddr PP 134 x0 x92).bind fun x93 =>
 (load PP 102 x93 σ).bind fun x94 =>
 (indexAddr PP 134 x0 x11).bind fun x97 =>
 (load PP 102 x97 σ).bind fun x98 =>
 (indexAddr PP 134 x0 x11).bind fun x99 =>
 (store PP lo 102 x99 x94 σ).bind fun σ18 =>
 (indexAddr PP 134 x0 x89).bind fun x100 =>
 (store PP lo 102 x100 x98 σ18).bind fun σ19 =>
 (binOp PP .sub 3 x11 I1).bind fun x71 =>
 codeF G PP (pol 131) CC lo (.loop c131_54) a131_53 (x0 :: x1 :: x2 :: x3 :: zn 5 (x9 :: x10 :: x71 :: zn 129 [])) σ19 (blockC 4 a131_52 (splitC N0 (seqC G PP (pol 131) CC lo c131_71 a131_71 (blockC 1 a131_16 (seqC G PP (pol 131) CC lo c131_95 a131_95 (loopC G PP (pol 131) CC lo c131_9 a131_8 (blockC 0 a131_7 (seqC G PP (pol 131) CC lo c131_96 a131_96 (finR PP Tryz.f131.results.toList)))))))))
 )
 )
 (
 N0 (f131_J0_fr x0 x1 x2 x3 x9 x10 Z Z Z Z Z Z Z Z Z Z Z Z Z Z Z Z Z Z Z Z Z Z Z Z Z Z Z Z Z Z Z Z Z Z Z Z Z Z Z Z Z Z Z Z Z Z Z Z Z Z Z Z Z Z Z Z Z Z Z Z Z Z Z) σ
 ) := (loopF_eq G hG).trans (by kernel_rfl)
theorem f131_L2_eq (G : GuardT) (hG : GuardOk G) (lo : Nat) (x0 x1 x2 x3 x9 x10 x11 : DV) (σ : Store) : f131_L2 G lo x0 x1 x2 x3 x9 x10 x11 σ =
 (binOp PP .geq 3 x11 I1).bind fun x69 =>
 condK x69
 (
 (indexAddr PP 134 x0 x11).bind fun x75 =>
 (load PP 102 x75 σ).bind fun x76 =>
 (binOp PP .sub 3 x11 I1).bind fun x79 =>
 (indexAddr PP 134 x0 x79).bind fun x80 =>
 (load PP 102 x80 σ).bind fun x81 =>
 (pureFn CC x3 [x76, x81] σ).bind fun x82 =>
 (binOp PP .lss 3 x82 I0).bind fun x83 =>
 (unOp .not x83).bind fun x84 =>
 condK x84
 (
 f131_J0 G lo x0 x1 x2 x3 x9 x10 Z Z Z Z Z Z Z Z Z Z Z Z Z Z Z Z Z Z Z Z Z Z Z Z Z Z Z Z Z Z Z Z Z Z Z Z Z Z Z Z Z Z Z Z Z Z Z Z Z Z Z Z Z Z Z Z Z Z Z Z Z Z Z σ
 )
 (
 (binOp PP .sub 3 x11 I1).bind fun x89 =>
 (binOp PP .sub 3 x11 I1).bind fun x92 =>
 (indexAddr PP 134 x0 x92).bind fun x93 =>
 (load PP 102 x93 σ).bind fun x94 =>
 (indexAddr PP 134 x0 x11).bind fun x97 =>
 (load PP 102 x97 σ).bind fun x98 =>
 (indexAddr PP 134 x0 x11).bind fun x99 =>
 (store PP lo 102 x99 x94 σ).bind fun σ18 =>
 (indexAddr PP 134 x0 x89).bind fun x100 =>
 (store PP lo 102 x100 x98 σ18).bind fun σ19 =>
 (binOp PP .sub 3 x11 I1).bind fun x71 =>
 f131_L2 G lo x0 x1 x2 x3 x9 x10 x71 σ19
 )
 )
 (
 f131_J0 G lo x0 x1 x2 x3 x9 x10 Z Z Z Z Z Z Z Z Z Z Z Z Z Z Z Z Z Z Z Z Z Z Z Z Z Z Z Z Z Z Z Z Z Z Z Z Z Z Z Z Z Z Z Z Z Z Z Z Z Z Z Z Z Z Z Z Z Z Z Z Z Z Z σ
 ) := by
 have h := f131_L2_gen (N0 := (seqC G PP (pol 131) CC lo c131_71 a131_71 (blockC 1 a131_16 (seqC G PP (pol 131) CC lo c131_95 a131_95 (loopC G PP (pol 131) CC lo c131_9 a131_8 (blockC 0 a131_7 (seqC G PP (pol 131) CC lo c131_96 a131_96 (finR PP Tryz.f131.results.toList))))))) .normal) G hG lo x0 x1 x2 x3 x9 x10 x11 σ
 simp only [splitC_eta] at h
 exact h
theorem f131_J0_eq (G : GuardT) (lo : Nat) (x0 x1 x2 x3 x9 x10 x11 x39 x40 x41 x42 x43 x44 x45 x46 x47 x48 x49 x50 x51 x52 x53 x54 x55 x56 x57 x58 x59 x60 x61 x62 x63 x64 x65 x66 x67 x68 x69 x70 x71 x72 x73 x74 x75 x76 x77 x78 x79 x80 x81 x82 x83 x84 x85 x86 x87 x88 x89 x90 x91 x92 x93 x94 x95 x96 x97 x98 x99 x100 : DV) (σ : Store) : f131_J0 G lo x0 x1 x2 x3 x9 x10 x11 x39 x40 x41 x42 x43 x44 x45 x46 x47 x48 x49 x50 x51 x52 x53 x54 x55 x56 x57 x58 x59 x60 x61 x62 x63 x64 x65 x66 x67 x68 x69 x70 x71 x72 x73 x74 x75 x76 x77 x78 x79 x80 x81 x82 x83 x84 x85 x86 x87 x88 x89 x90 x91 x92 x93 x94 x95 x96 x97 x98 x99 x100 σ =
 (binOp PP .sub 3 x2 x9).bind fun x103 =>
 (binOp PP .geq 3 x103 (DV.p (PV.int IntKind.i64 (2)))).bind fun x104 =>
 condK x104
 (
 (binOp PP .add 3 x9 I1).bind fun x106 =>
 f131_L3 G lo x0 x1 x2 x3 x9 x10 x106 σ
 )
 (
 f131_J1 G lo x0 x1 x2 x3 x9 x10 x11 Z x39 x40 x41 x42 x43 x44 x45 x46 x47 x48 x49 x50 x51 x52 x53 x54 x55 x56 x57 x58 x59 x60 x61 x62 x63 x64 x65 x66 x67 x68 x69 x70 x71 x72 x73 x74 x75 x76 x77 x78 x79 x80 x81 x82 x83 x84 x85 x86 x87 x88 x89 x90 x91 x92 x93 x94 x95 x96 x97 x98 x99 x100 x2 x9 x103 x104 Z Z Z Z Z Z Z Z Z Z Z Z Z Z Z Z Z Z Z Z Z Z Z Z Z Z Z Z Z Z Z Z Z Z Z Z σ
 ) := by kernel_rfl
theorem f131_L3_gen (G : GuardT) (hG : GuardOk G) (lo : Nat) (N0 : Frame → Store → Option (DV × Store)) (x0 x1 x2 x3 x9 x10 x12 : DV) (σ : Store) : codeF G PP (pol 131) CC lo (.loop c131_78) a131_77 (x0 :: x1 :: x2 :: x3 :: zn 5 (x9 :: x10 :: Z :: x12 :: zn 128 [])) σ
 (blockC 6 a131_76 (splitC N0 (blockC 1 a131_16 (seqC G PP (pol 131) CC lo c131_95 a131_95 (loopC G PP (pol 131) CC lo c131_9 a131_8 (blockC 0 a131_7 (seqC G PP (pol 131) CC lo c131_96 a131_96 (finR PP Tryz.f131.results.toList)))))))) =
 (binOp PP .lss 3 x12 x2).bind fun x109 =>
 condK x109
 (
 (indexAddr PP 134 x0 x12).bind fun x115 =>
 (load PP 102 x115 σ).bind fun x116 =>
 (binOp PP .sub 3 x12 I1).bind fun x119 =>
 (indexAddr PP 134 x0 x119).bind fun x120 =>
 (load PP 102 x120 σ).bind fun x121 =>
 (pureFn CC x3 [x116, x121] σ).bind fun x122 =>
 (binOp PP .lss 3 x122 I0).bind fun x123 =>
 (unOp .not x123).bind fun x124 =>
 condK x124
 (
 N0 (f131_J1_fr x0 x1 x2 x3 x9 x10 Z Z Z Z Z Z Z Z Z Z Z Z Z Z Z Z Z Z Z Z Z Z Z Z Z Z Z Z Z Z Z Z Z Z Z Z Z Z Z Z Z Z Z Z Z Z Z Z Z Z Z Z Z Z Z Z Z Z Z Z Z Z Z Z Z Z Z Z Z Z Z Z Z Z Z Z Z Z Z Z Z Z Z Z Z Z Z Z Z Z Z Z Z Z Z Z Z Z Z Z Z Z Z Z) σ
 )
 (
 (binOp PP .sub 3 x12 I1).bind fun x129 =>
 (binOp PP .sub 3 x12 I1).bind fun x132 =>
 (indexAddr PP 134 x0 x132).bind fun x133 =>
 (load PP 102 x133 σ).bind fun x134 =>
 (indexAddr PP 134 x0 x12).bind fun x137 =>
 (load PP 102 x137 σ).bind fun x138 =>
 (indexAddr PP 134 x0 x12).bind fun x139 =>
 (store PP lo 102 x139 x134 σ).bind fun σ16 =>
 (indexAddr PP 134 x0 x129).bind fun x140 =>
 (store PP lo 102 x140 x138 σ16).bind fun σ17 =>
 (binOp PP .add 3 x12 I1).bind fun x111 =>
 codeF G PP (pol 131) CC lo (.loop c131_78) a131_77 (x0 :: x1 :: x2 :: x3 :: zn 5 (x9 :: x10 :: Z :: x111 :: zn 128 [])) σ17 (blockC 6 a131_76 (splitC N0 (blockC 1 a131_16 (seqC G PP (pol 131) CC lo c131_95 a131_95 (loopC G PP (pol 131) CC lo c131_9 a131_8 (blockC 0 a131_7 (seqC G PP (pol 131) CC lo c131_96 a131_96 (finR PP Tryz.f131.results.toList))))))))
 )
 )
 (
 N0 (f131_J1_fr x0 x1 x2 x3 x9 x10 Z Z Z Z Z Z Z Z Z Z Z Z Z Z Z Z Z Z Z Z Z Z Z Z Z Z Z Z Z Z Z Z Z Z Z Z Z Z Z Z Z Z Z Z Z Z Z Z Z Z Z Z Z Z Z Z Z Z Z Z Z Z Z Z Z Z Z Z Z Z Z Z Z Z Z Z Z Z Z Z Z Z Z Z Z Z Z Z Z Z Z Z Z Z Z Z Z Z Z Z Z Z Z Z) σ
 ) := (loopF_eq G hG).trans (by kernel_rfl)
theorem f131_L3_eq (G : GuardT) (hG : GuardOk G) (lo : Nat) (x0 x1 x2 x3 x9 x10 x12 : DV) (σ : Store) : f131_L3 G lo x0 x1 x2 x3 x9 x10 x12 σ =
 (binOp PP .lss 3 x12 x2).bind fun x109 =>
 condK x109
 (
 (indexAddr PP 134 x0 x12).bind fun x115 =>
 (load PP 102 x115 σ).bind fun x116 =>
 (binOp PP .sub 3 x12 I1).bind fun x119 =>
 (indexAddr PP 134 x0 x119).bind fun x120 =>
 (load PP 102 x120 σ).bind fun x121 =>
 (pureFn CC x3 [x116, x121] σ).bind fun x122 =>
 (binOp PP .lss 3 x122 I0).bind fun x123 =>
 (unOp .not x123).bind fun x124 =>
 condK x124
 (
 f131_J1 G lo x0 x1 x2 x3 x9 x10 Z Z Z Z Z Z Z Z Z Z Z Z Z Z Z Z Z Z Z Z Z Z Z Z Z Z Z Z Z Z Z Z Z Z Z Z Z Z Z Z Z Z Z Z Z Z Z Z Z Z Z Z Z Z Z Z Z Z Z Z Z Z Z Z Z Z Z Z Z Z Z Z Z Z Z Z Z Z Z Z Z Z Z Z Z Z Z Z Z Z Z Z Z Z Z Z Z Z Z Z Z Z Z Z σ
 )
 (
 (binOp PP .sub 3 x12 I1).bind fun x129 =>
 (binOp PP .sub 3 x12 I1).bind fun x132 =>
 (indexAddr PP 134 x0 x132).bind fun x133 =>
 (load PP 102 x133 σ).bind fun x134 =>
 (indexAddr PP 134 x0 x12).bind fun x137 =>
 (load PP 102 x137 σ).bind fun x138 =>
 (indexAddr PP 134 x0 x12).bind fun x139 =>
 (store PP lo 102 x139 x134 σ).bind fun σ16 =>
 (indexAddr PP 134 x0 x129).bind fun x140 =>
 (store PP lo 102 x140 x138 σ16).bind fun σ17 =>
 (binOp PP .add 3 x12 I1).bind fun x111 =>
 f131_L3 G lo x0 x1 x2 x3 x9 x10 x111 σ17
 )
 )
 (
 f131_J1 G lo x0 x1 x2 x3 x9 x10 Z Z Z Z Z Z Z Z Z Z Z Z Z Z Z Z Z Z Z Z Z Z Z Z Z Z Z Z Z Z Z Z Z Z Z Z Z Z Z Z Z Z Z Z Z Z Z Z Z Z Z Z Z Z Z Z Z Z Z Z Z Z Z Z Z Z Z Z Z Z Z Z Z Z Z Z Z Z Z Z Z Z Z Z Z Z Z Z Z Z Z Z Z Z Z Z Z Z Z Z Z Z Z Z σ
 ) := by
 have h := f131_L3_gen (N0 := (blockC 1 a131_16 (seqC G PP (pol 131) CC lo c131_95 a131_95 (loopC G PP (pol 131) CC lo c131_9 a131_8 (blockC 0 a131_7 (seqC G PP (pol 131) CC lo c131_96 a131_96 (finR PP Tryz.f131.results.toList)))))) .normal) G hG lo x0 x1 x2 x3 x9 x10 x12 σ
 simp only [splitC_eta] at h
 exact h
theorem f131_J1_eq (G : GuardT) (lo : Nat) (x0 x1 x2 x3 x9 x10 x11 x12 x39 x40 x41 x42 x43 x44 x45 x46 x47 x48 x49 x50 x51 x52 x53 x54 x55 x56 x57 x58 x59 x60 x61 x62 x63 x64 x65 x66 x67 x68 x69 x70 x71 x72 x73 x74 x75 x76 x77 x78 x79 x80 x81 x82 x83 x84 x85 x86 x87 x88 x89 x90 x91 x92 x93 x94 x95 x96 x97 x98 x99 x100 x101 x102 x103 x104 x105 x106 x107 x108 x109 x110 x111 x112 x113 x114 x115 x116 x117 x118 x119 x120 x121 x122 x123 x124 x125 x126 x127 x128 x129 x130 x131 x132 x133 x134 x135 x136 x137 x138 x139 x140 : DV) (σ : Store) : f131_J1 G lo x0 x1 x2 x3 x9 x10 x11 x12 x39 x40 x41 x42 x43 x44 x45 x46 x47 x48 x49 x50 x51 x52 x53 x54 x55 x56 x57 x58 x59 x60 x61 x62 x63 x64 x65 x66 x67 x68 x69 x70 x71 x72 x73 x74 x75 x76 x77 x78 x79 x80 x81 x82 x83 x84 x85 x86 x87 x88 x89 x90 x91 x92 x93 x94 x95 x96 x97 x98 x99 x100 x101 x102 x103 x104 x105 x106 x107 x108 x109 x110 x111 x112 x113 x114 x115 x116 x117 x118 x119 x120 x121 x122 x123 x124 x125 x126 x127 x128 x129 x130 x131 x132 x133 x134 x135 x136 x137 x138 x139 x140 σ =
 (binOp PP .add 3 x10 I1).bind fun x18 =>
 f131_L0 G lo x0 x1 x2 x3 x9 x18 σ := by kernel_rfl
theorem F131_eq (G : GuardT) (lo : Nat) (x0 x1 x2 x3 : DV) (σ : Store) : F131 G lo x0 x1 x2 x3 σ =
 (binOp PP .add 3 x1 I1).bind fun x14 =>
 f131_L0 G lo x0 x1 x2 x3 x14 I0 σ := by kernel_rfl
theorem F131_call {lo : Nat} {x0 x1 x2 x3 : DV} (h : F131 guardT lo x0 x1 x2 x3 σ = some r) : CC lo 131 [x0, x1, x2, x3] σ = some r :=
 callL_run Tryz.func131 (by decide +kernel) rfl (by decide +kernel) h
def c132_0 : Code := bodyOf Tryz.f132
def a132_0 : Ann := (pol 132).ann
def a132_7 : Ann := left (right (right (right a132_0)))
def a132_8 : Ann := left a132_7
def c132_9 : Code := fstC (fstC (fstC (sndC (sndC (sndC c132_0)))))
def a132_9 : Ann := left a132_8
def a132_11 : Ann := left (left a132_9)
def a132_12 : Ann := left a132_11
def c132_13 : Code := fstC (fstC (fstC (fstC c132_9)))
def c132_21 : Code := sndC (fstC c132_9)
def a132_21 : Ann := right (left a132_9)
def a132_22 : Ann := left a132_21
def a132_23 : Ann := left a132_22
def c132_24 : Code := fstC (fstC (fstC c132_21))
def c132_32 : Code := sndC c132_21
def a132_32 : Ann := right a132_21
def c132_43 : Code := sndC (sndC (sndC (sndC c132_0)))
def a132_43 : Ann := right (right (right (right a132_0)))
def f132_L0 (x0 x1 x4 x11 x12 : DV) (σ : Store) : RS :=
 codeF G PP (pol 132) CC lo (.loop c132_9) a132_8 (x0 :: x1 :: Z :: Z :: x4 :: zn 6 (x11 :: x12 :: zn 77 [])) σ
 (blockC 0 a132_7 (seqC G PP (pol 132) CC lo c132_43 a132_43 (finR PP Tryz.f132.results.toList)))
def f132_L1 (x0 x1 x4 x11 x12 : DV) (σ : Store) : RS :=
 codeF G PP (pol 132) CC lo (.loop c132_13) a132_12 (x0 :: x1 :: Z :: Z :: x4 :: zn 6 (x11 :: x12 :: zn 77 [])) σ
 (blockC 2 a132_11 (seqC G PP (pol 132) CC lo c132_21 a132_21 (blockC 1 a132_9 (loopC G PP (pol 132) CC lo c132_9 a132_8 (blockC 0 a132_7 (seqC G PP (pol 132) CC lo c132_43 a132_43 (finR PP Tryz.f132.results.toList)))))))
def f132_L2 (x0 x1 x4 x11 x12 : DV) (σ : Store) : RS :=
 codeF G PP (pol 132) CC lo (.loop c132_24) a132_23 (x0 :: x1 :: Z :: Z :: x4 :: zn 6 (x11 :: x12 :: zn 77 [])) σ
 (blockC 4 a132_22 (seqC G PP (pol 132) CC lo c132_32 a132_32 (blockC 1 a132_9 (loopC G PP (pol 132) CC lo c132_9 a132_8 (blockC 0 a132_7 (seqC G PP (pol 132) CC lo c132_43 a132_43 (finR PP Tryz.f132.results.toList)))))))
def F132 (x0 x1 x2 x3 x4 : DV) (σ : Store) : RS :=
 codeF G PP (pol 132) CC lo c132_0 a132_0 (x0 :: x1 :: x2 :: x3 :: x4 :: zn 85 []) σ (finR PP Tryz.f132.results.toList)
theorem f132_L0_eq (G : GuardT) (hG : GuardOk G) (lo : Nat) (x0 x1 x4 x11 x12 : DV) (σ : Store) : f132_L0 G lo x0 x1 x4 x11 x12 σ =
 f132_L1 G lo x0 x1 x4 x11 x12 σ := (loopF_eq G hG).trans (by kernel_rfl)
theorem f132_L1_eq (G : GuardT) (hG : GuardOk G) (lo : Nat) (x0 x1 x4 x11 x12 : DV) (σ : Store) : f132_L1 G lo x0 x1 x4 x11 x12 σ =
 (binOp PP .leq 3 x11 x12).bind fun x33 =>
 G _ x33 true (some (x4, σ)) σ fun x35 σ3 =>
 G _ x33 true (some (x0, σ3)) σ3 fun x36 σ4 =>
 G _ x33 true (some (x1, σ4)) σ4 fun x37 σ5 =>
 G _ x33 true ((indexAddr PP 134 x36 x37).bind fun v => some (v, σ5)) σ5 fun x38 σ6 =>
 G _ x33 true ((load PP 102 x38 σ6).bind fun v => some (v, σ6)) σ6 fun x39 σ7 =>
 G _ x33 true (some (x0, σ7)) σ7 fun x40 σ8 =>
 G _ x33 true (some (x11, σ8)) σ8 fun x41 σ9 =>
 G _ x33 true ((indexAddr PP 134 x40 x41).bind fun v => some (v, σ9)) σ9 fun x42 σ10 =>
 G _ x33 true ((load PP 102 x42 σ10).bind fun v => some (v, σ10)) σ10 fun x43 σ11 =>
 G _ x33 true ((pureFn CC x35 [x39, x43] σ11).bind fun v => some (v, σ11)) σ11 fun x44 σ12 =>
 G _ x33 true ((binOp PP .lss 3 x44 I0).bind fun v => some (v, σ12)) σ12 fun x45 σ13 =>
 G _ x33 true ((unOp .not x45).bind fun v => some (v, σ13)) σ13 fun x46 σ14 =>
 (pickV x33 x46 (DV.p (PV.bool false))).bind fun x47 =>
 condK x47
 (
 (binOp PP .add 3 x11 I1).bind fun x49 =>
 f132_L1 G lo x0 x1 x4 x49 x12 σ14
 )
 (
 f132_L2 G lo x0 x1 x4 x11 x12 σ14
 ) := (loopF_eq G hG).trans (by kernel_rfl)
theorem f132_L2_eq (G : GuardT) (hG : GuardOk G) (lo : Nat) (x0 x1 x4 x11 x12 : DV) (σ : Store) : f132_L2 G lo x0 x1 x4 x11 x12 σ =
 (binOp PP .leq 3 x11 x12).bind fun x52 =>
 G _ x52 true (some (x4, σ)) σ fun x54 σ15 =>
 G _ x52 true (some (x0, σ15)) σ15 fun x55 σ16 =>
 G _ x52 true (some (x1, σ16)) σ16 fun x56 σ17 =>
 G _ x52 true ((indexAddr PP 134 x55 x56).bind fun v => some (v, σ17)) σ17 fun x57 σ18 =>
 G _ x52 true ((load PP 102 x57 σ18).bind fun v => some (v, σ18)) σ18 fun x58 σ19 =>
 G _ x52 true (some (x0, σ19)) σ19 fun x59 σ20 =>
 G _ x52 true (some (x12, σ20)) σ20 fun x60 σ21 =>
 G _ x52 true ((indexAddr PP 134 x59 x60).bind fun v => some (v, σ21)) σ21 fun x61 σ22 =>
 G _ x52 true ((load PP 102 x61 σ22).bind fun v => some (v, σ22)) σ22 fun x62 σ23 =>
 G _ x52 true ((pureFn CC x54 [x58, x62] σ23).bind fun v => some (v, σ23)) σ23 fun x63 σ24 =>
 G _ x52 true ((binOp PP .lss 3 x63 I0).bind fun v => some (v, σ24)) σ24 fun x64 σ25 =>
 (pickV x52 x64 (DV.p (PV.bool false))).bind fun x65 =>
 condK x65
 (
 (binOp PP .sub 3 x12 I1).bind fun x67 =>
 f132_L2 G lo x0 x1 x4 x11 x67 σ25
 )
 (
 (binOp PP .gtr 3 x11 x12).bind fun x70 =>
 condK x70
 (
 some (x11, σ25)
 )
 (
 (indexAddr PP 134 x0 x12).bind fun x77 =>
 (load PP 102 x77 σ25).bind fun x78 =>
 (indexAddr PP 134 x0 x11).bind fun x81 =>
 (load PP 102 x81 σ25).bind fun x82 =>
 (indexAddr PP 134 x0 x11).bind fun x83 =>
 (store PP lo 102 x83 x78 σ25).bind fun σ26 =>
 (indexAddr PP 134 x0 x12).bind fun x84 =>
 (store PP lo 102 x84 x82 σ26).bind fun σ27 =>
 (binOp PP .add 3 x11 I1).bind fun x86 =>
 (binOp PP .sub 3 x12 I1).bind fun x88 =>
 f132_L0 G lo x0 x1 x4 x86 x88 σ27
 )
 ) := (loopF_eq G hG).trans (by kernel_rfl)
theorem F132_eq (G : GuardT) (lo : Nat) (x0 x1 x2 x3 x4 : DV) (σ : Store) : F132 G lo x0 x1 x2 x3 x4 σ =
 (indexAddr PP 134 x0 x3).bind fun x19 =>
 (load PP 102 x19 σ).bind fun x20 =>
 (indexAddr PP 134 x0 x1).bind fun x23 =>
 (load PP 102 x23 σ).bind fun x24 =>
 (indexAddr PP 134 x0 x1).bind fun x25 =>
 (store PP lo 102 x25 x20 σ).bind fun σ1 =>
 (indexAddr PP 134 x0 x3).bind fun x26 =>
 (store PP lo 102 x26 x24 σ1).bind fun σ2 =>
 (binOp PP .add 3 x1 I1).bind fun x28 =>
 (binOp PP .sub 3 x2 I1).bind fun x30 =>
 f132_L0 G lo x0 x1 x4 x28 x30 σ2 := by kernel_rfl
theorem F132_call {lo : Nat} {x0 x1 x2 x3 x4 : DV} (h : F132 guardT lo x0 x1 x2 x3 x4 σ = some r) : CC lo 132 [x0, x1, x2, x3, x4] σ = some r :=
 callL_run Tryz.func132 (by decide +kernel) rfl (by decide +kernel) h
def c133_0 : Code := bodyOf Tryz.f133
def a133_0 : Ann := (pol 133).ann
def a133_7 : Ann := left (right (right (right a133_0)))
def a133_8 : Ann := left a133_7
def c133_9 : Code := fstC (fstC (fstC (sndC (sndC (sndC c133_0)))))
def c133_17 : Code := sndC (sndC (sndC (sndC c133_0)))
def a133_17 : Ann := right (right (right (right a133_0)))
def a133_18 : Ann := left a133_17
def a133_19 : Ann := left a133_18
def c133_20 : Code := fstC (fstC (fstC c133_17))
def c133_28 : Code := sndC c133_17
def a133_28 : Ann := right a133_17
def a133_45 : Ann := left (right (right (right (right a133_28))))
def a133_46 : Ann := left a133_45
def c133_47 : Code := fstC (fstC (fstC (sndC (sndC (sndC (sndC c133_28))))))
def a133_47 : Ann := left a133_46
def a133_49 : Ann := left (left a133_47)
def a133_50 : Ann := left a133_49
def c133_51 : Code := fstC (fstC (fstC (fstC c133_47)))
def c133_59 : Code := sndC (fstC c133_47)
def a133_59 : Ann := right (left a133_47)
def a133_60 : Ann := left a133_59
def a133_61 : Ann := left a133_60
def c133_62 : Code := fstC (fstC (fstC c133_59))
def c133_70 : Code := sndC c133_59
def a133_70 : Ann := right a133_59
def c133_81 : Code := sndC (sndC (sndC (sndC (sndC c133_28))))
def a133_81 : Ann := right (right (right (right (right a133_28))))
def f133_L0 (x0 x1 x4 x12 x13 : DV) (σ : Store) : RS :=
 codeF G PP (pol 133) CC lo (.loop c133_9) a133_8 (x0 :: x1 :: Z :: Z :: x4 :: zn 7 (x12 :: x13 :: zn 164 [])) σ
 (blockC 0 a133_7 (seqC G PP (pol 133) CC lo c133_17 a133_17 (finR PP Tryz.f133.results.toList)))
def f133_L1 (x0 x1 x4 x12 x13 : DV) (σ : Store) : RS :=
 codeF G PP (pol 133) CC lo (.loop c133_20) a133_19 (x0 :: x1 :: Z :: Z :: x4 :: zn 7 (x12 :: x13 :: zn 164 [])) σ
 (blockC 2 a133_18 (seqC G PP (pol 133) CC lo c133_28 a133_28 (finR PP Tryz.f133.results.toList)))
def f133_L2 (x0 x1 x4 x12 x13 : DV) (σ : Store) : RS :=
 codeF G PP (pol 133) CC lo (.loop c133_47) a133_46 (x0 :: x1 :: Z :: Z :: x4 :: zn 7 (x12 :: x13 :: zn 164 [])) σ
 (blockC 4 a133_45 (seqC G PP (pol 133) CC lo c133_81 a133_81 (finR PP Tryz.f133.results.toList)))
def f133_L3 (x0 x1 x4 x12 x13 : DV) (σ : Store) : RS :=
 codeF G PP (pol 133) CC lo (.loop c133_51) a133_50 (x0 :: x1 :: Z :: Z :: x4 :: zn 7 (x12 :: x13 :: zn 164 [])) σ
 (blockC 6 a133_49 (seqC G PP (pol 133) CC lo c133_59 a133_59 (blockC 5 a133_47 (loopC G PP (pol 133) CC lo c133_47 a133_46 (blockC 4 a133_45 (seqC G PP (pol 133) CC lo c133_81 a133_81 (finR PP Tryz.f133.results.toList)))))))
def f133_L4 (x0 x1 x4 x12 x13 : DV) (σ : Store) : RS :=
 codeF G PP (pol 133) CC lo (.loop c133_62) a133_61 (x0 :: x1 :: Z :: Z :: x4 :: zn 7 (x12 :: x13 :: zn 164 [])) σ
 (blockC 8 a133_60 (seqC G PP (pol 133) CC lo c133_70 a133_70 (blockC 5 a133_47 (loopC G PP (pol 133) CC lo c133_47 a133_46 (blockC 4 a133_45 (seqC G PP (pol 133) CC lo c133_81 a133_81 (finR PP Tryz.f133.results.toList)))))))
def F133 (x0 x1 x2 x3 x4 : DV) (σ : Store) : RS :=
 codeF G PP (pol 133) CC lo c133_0 a133_0 (x0 :: x1 :: x2 :: x3 :: x4 :: zn 173 []) σ (finR PP Tryz.f133.results.toList)
theorem f133_L0_eq (G : GuardT) (hG : GuardOk G) (lo : Nat) (x0 x1 x4 x12 x13 : DV) (σ : Store) : f133_L0 G lo x0 x1 x4 x12 x13 σ =
 (binOp PP .leq 3 x12 x13).bind fun x34 =>
 G _ x34 true (some (x4, σ)) σ fun x36 σ3 =>
 G _ x34 true (some (x0, σ3)) σ3 fun x37 σ4 =>
 G _ x34 true (some (x12, σ4)) σ4 fun x38 σ5 =>
 G _ x34 true ((indexAddr PP 134 x37 x38).bind fun v => some (v, σ5)) σ5 fun x39 σ6 =>
 G _ x34 true ((load PP 102 x39 σ6).bind fun v => some (v, σ6)) σ6 fun x40 σ7 =>
 G _ x34 true (some (x0, σ7)) σ7 fun x41 σ8 =>
 G _ x34 true (some (x1, σ8)) σ8 fun x42 σ9 =>
 G _ x34 true ((indexAddr PP 134 x41 x42).bind fun v => some (v, σ9)) σ9 fun x43 σ10 =>
 G _ x34 true ((load PP 102 x43 σ10).bind fun v => some (v, σ10)) σ10 fun x44 σ11 =>
 G _ x34 true ((pureFn CC x36 [x40, x44] σ11).bind fun v => some (v, σ11)) σ11 fun x45 σ12 =>
 G _ x34 true ((binOp PP .lss 3 x45 I0).bind fun v => some (v, σ12)) σ12 fun x46 σ13 =>
 (pickV x34 x46 (DV.p (PV.bool false))).bind fun x47 =>
 condK x47
 (
 (binOp PP .add 3 x12 I1).bind fun x49 =>
 f133_L0 G lo x0 x1 x4 x49 x13 σ13
 )
 (
 f133_L1 G lo x0 x1 x4 x12 x13 σ13
 ) := (loopF_eq G hG).trans (by kernel_rfl)
theorem f133_L1_eq (G : GuardT) (hG : GuardOk G) (lo : Nat) (x0 x1 x4 x12 x13 : DV) (σ : Store) : f133_L1 G lo x0 x1 x4 x12 x13 σ =
 (binOp PP .leq 3 x12 x13).bind fun x52 =>
 G _ x52 true (some (x4, σ)) σ fun x54 σ14 =>
 G _ x52 true (some (x0, σ14)) σ14 fun x55 σ15 =>
 G _ x52 true (some (x13, σ15)) σ15 fun x56 σ16 =>
 G _ x52 true ((indexAddr PP 134 x55 x56).bind fun v => some (v, σ16)) σ16 fun x57 σ17 =>
 G _ x52 true ((load PP 102 x57 σ17).bind fun v => some (v, σ17)) σ17 fun x58 σ18 =>
 G _ x52 true (some (x0, σ18)) σ18 fun x59 σ19 =>
 G _ x52 true (some (x1, σ19)) σ19 fun x60 σ20 =>
 G _ x52 true ((indexAddr PP 134 x59 x60).bind fun v => some (v, σ20)) σ20 fun x61 σ21 =>
 G _ x52 true ((load PP 102 x61 σ21).bind fun v => some (v, σ21)) σ21 fun x62 σ22 =>
 G _ x52 true ((pureFn CC x54 [x58, x62] σ22).bind fun v => some (v, σ22)) σ22 fun x63 σ23 =>
 G _ x52 true ((binOp PP .lss 3 x63 I0).bind fun v => some (v, σ23)) σ23 fun x64 σ24 =>
 G _ x52 true ((unOp .not x64).bind fun v => some (v, σ24)) σ24 fun x65 σ25 =>
 (pickV x52 x65 (DV.p (PV.bool false))).bind fun x66 =>
 condK x66
 (
 (binOp PP .sub 3 x13 I1).bind fun x68 =>
 f133_L1 G lo x0 x1 x4 x12 x68 σ25
 )
 (
 (binOp PP .gtr 3 x12 x13).bind fun x71 =>
 condK x71
 (
 (indexAddr PP 134 x0 x1).bind fun x78 =>
 (load PP 102 x78 σ25).bind fun x79 =>
 (indexAddr PP 134 x0 x13).bind fun x82 =>
 (load PP 102 x82 σ25).bind fun x83 =>
 (indexAddr PP 134 x0 x13).bind fun x84 =>
 (store PP lo 102 x84 x79 σ25).bind fun σ26 =>
 (indexAddr PP 134 x0 x1).bind fun x85 =>
 (store PP lo 102 x85 x83 σ26).bind fun σ27 =>
 some ((DV.tuple [x13, (DV.p (PV.bool true))]), σ27)
 )
 (
 (indexAddr PP 134 x0 x13).bind fun x93 =>
 (load PP 102 x93 σ25).bind fun x94 =>
 (indexAddr PP 134 x0 x12).bind fun x97 =>
 (load PP 102 x97 σ25).bind fun x98 =>
 (indexAddr PP 134 x0 x12).bind fun x99 =>
 (store PP lo 102 x99 x94 σ25).bind fun σ28 =>
 (indexAddr PP 134 x0 x13).bind fun x100 =>
 (store PP lo 102 x100 x98 σ28).bind fun σ29 =>
 (binOp PP .add 3 x12 I1).bind fun x102 =>
 (binOp PP .sub 3 x13 I1).bind fun x104 =>
 f133_L2 G lo x0 x1 x4 x102 x104 σ29
 )
 ) := (loopF_eq G hG).trans (by kernel_rfl)
theorem f133_L2_eq (G : GuardT) (hG : GuardOk G) (lo : Nat) (x0 x1 x4 x12 x13 : DV) (σ : Store) : f133_L2 G lo x0 x1 x4 x12 x13 σ =
 f133_L3 G lo x0 x1 x4 x12 x13 σ := (loopF_eq G hG).trans (by kernel_rfl)
theorem f133_L3_eq (G : GuardT) (hG : GuardOk G) (lo : Nat) (x0 x1 x4 x12 x13 : DV) (σ : Store) : f133_L3 G lo x0 x1 x4 x12 x13 σ =
 (binOp PP .leq 3 x12 x13).bind fun x107 =>
 G _ x107 true (some (x4, σ)) σ fun x109 σ30 =>
 G _ x107 true (some (x0, σ30)) σ30 fun x110 σ31 =>
 G _ x107 true (some (x12, σ31)) σ31 fun x111 σ32 =>
 G _ x107 true ((indexAddr PP 134 x110 x111).bind fun v => some (v, σ32)) σ32 fun x112 σ33 =>
 G _ x107 true ((load PP 102 x112 σ33).bind fun v => some (v, σ33)) σ33 fun x113 σ34 =>
 G _ x107 true (some (x0, σ34)) σ34 fun x114 σ35 =>
 G _ x107 true (some (x1, σ35)) σ35 fun x115 σ36 =>
 G _ x107 true ((indexAddr PP 134 x114 x115).bind fun v => some (v, σ36)) σ36 fun x116 σ37 =>
 G _ x107 true ((load PP 102 x116 σ37).bind fun v => some (v, σ37)) σ37 fun x117 σ38 =>
 G _ x107 true ((pureFn CC x109 [x113, x117] σ38).bind fun v => some (v, σ38)) σ38 fun x118 σ39 =>
 G _ x107 true ((binOp PP .lss 3 x118 I0).bind fun v => some (v, σ39)) σ39 fun x119 σ40 =>
 (pickV x107 x119 (DV.p (PV.bool false))).bind fun x120 =>
 condK x120
 (
 (binOp PP .add 3 x12 I1).bind fun x122 =>
 f133_L3 G lo x0 x1 x4 x122 x13 σ40
 )
 (
 f133_L4 G lo x0 x1 x4 x12 x13 σ40
 ) := (loopF_eq G hG).trans (by kernel_rfl)
theorem f133_L4_eq (G : GuardT) (hG : GuardOk G) (lo : Nat) (x0 x1 x4 x12 x13 : DV) (σ : Store) : f133_L4 G lo x0 x1 x4 x12 x13 σ =
 (binOp PP .leq 3 x12 x13).bind fun x125 =>
 G _ x125 true (some (x4, σ)) σ fun x127 σ41 =>
 G _ x125 true (some (x0, σ41)) σ41 fun x128 σ42 =>
 G _ x125 true (some (x13, σ42)) σ42 fun x129 σ43 =>
 G _ x125 true ((indexAddr PP 134 x128 x129).bind fun v => some (v, σ43)) σ43 fun x130 σ44 =>
 G _ x125 true ((load PP 102 x130 σ44).bind fun v => some (v, σ44)) σ44 fun x131 σ45 =>
 G _ x125 true (some (x0, σ45)) σ45 fun x132 σ46 =>
 G _ x125 true (some (x1, σ46)) σ46 fun x133 σ47 =>
 G _ x125 true ((indexAddr PP 134 x132 x133).bind fun v => some (v, σ47)) σ47 fun x134 σ48 =>
 G _ x125 true ((load PP 102 x134 σ48).bind fun v => some (v, σ48)) σ48 fun x135 σ49 =>
 G _ x125 true ((pureFn CC x127 [x131, x135] σ49).bind fun v => some (v, σ49)) σ49 fun x136 σ50 =>
 G _ x125 true ((binOp PP .lss 3 x136 I0).bind fun v => some (v, σ50)) σ50 fun x137 σ51 =>
 G _ x125 true ((unOp .not x137).bind fun v => some (v, σ51)) σ51 fun x138 σ52 =>
 (pickV x125 x138 (DV.p (PV.bool false))).bind fun x139 =>
 condK x139
 (
 (binOp PP .sub 3 x13 I1).bind fun x141 =>
 f133_L4 G lo x0 x1 x4 x12 x141 σ52
 )
 (
 (binOp PP .gtr 3 x12 x13).bind fun x144 =>
 condK x144
 (
 (indexAddr PP 134 x0 x1).bind fun x169 =>
 (load PP 102 x169 σ52).bind fun x170 =>
 (indexAddr PP 134 x0 x13).bind fun x173 =>
 (load PP 102 x173 σ52).bind fun x174 =>
 (indexAddr PP 134 x0 x13).bind fun x175 =>
 (store PP lo 102 x175 x170 σ52).bind fun σ53 =>
 (indexAddr PP 134 x0 x1).bind fun x176 =>
 (store PP lo 102 x176 x174 σ53).bind fun σ54 =>
 some ((DV.tuple [x13, (DV.p (PV.bool false))]), σ54)
 )
 (
 (indexAddr PP 134 x0 x13).bind fun x151 =>
 (load PP 102 x151 σ52).bind fun x152 =>
 (indexAddr PP 134 x0 x12).bind fun x155 =>
 (load PP 102 x155 σ52).bind fun x156 =>
 (indexAddr PP 134 x0 x12).bind fun x157 =>
 (store PP lo 102 x157 x152 σ52).bind fun σ55 =>
 (indexAddr PP 134 x0 x13).bind fun x158 =>
 (store PP lo 102 x158 x156 σ55).bind fun σ56 =>
 (binOp PP .add 3 x12 I1).bind fun x160 =>
 (binOp PP .sub 3 x13 I1).bind fun x162 =>
 f133_L2 G lo x0 x1 x4 x160 x162 σ56
 )
 ) := (loopF_eq G hG).trans (by kernel_rfl)
theorem F133_eq (G : GuardT) (lo : Nat) (x0 x1 x2 x3 x4 : DV) (σ : Store) : F133 G lo x0 x1 x2 x3 x4 σ =
 (indexAddr PP 134 x0 x3).bind fun x20 =>
 (load PP 102 x20 σ).bind fun x21 =>
 (indexAddr PP 134 x0 x1).bind fun x24 =>
 (load PP 102 x24 σ).bind fun x25 =>
 (indexAddr PP 134 x0 x1).bind fun x26 =>
 (store PP lo 102 x26 x21 σ).bind fun σ1 =>
 (indexAddr PP 134 x0 x3).bind fun x27 =>
 (store PP lo 102 x27 x25 σ1).bind fun σ2 =>
 (binOp PP .add 3 x1 I1).bind fun x29 =>
 (binOp PP .sub 3 x2 I1).bind fun x31 =>
 f133_L0 G lo x0 x1 x4 x29 x31 σ2 := by kernel_rfl
theorem F133_call {lo : Nat} {x0 x1 x2 x3 x4 : DV} (h : F133 guardT lo x0 x1 x2 x3 x4 σ = some r) : CC lo 133 [x0, x1, x2, x3, x4] σ = some r :=
 callL_run Tryz.func133 (by decide +kernel) rfl (by decide +kernel) h
end
end Go.D
end
/- Sorting by the library's pdqsort over elements of type 102: the program's functions do what Go.D.Srt says. -/
section
set_option linter.unusedVariables false
set_option linter.unusedSimpArgs false
namespace Go.D.StS
open Go.D.Srt
abbrev E : Type := Int × Int
def cel (e : E) : List DV := [.p (.int .i64 e.1), .p (.int .i64 e.2)]
def val (e : E) : DV := .agg (cel e)
def cels (A : List E) : List DV := A.flatMap cel
theorem cel_len (e : E) : (cel e).length = 2 := rfl
theorem cel_one (e : E) : (cel e).all DV.one = true := rfl
theorem cels_len (A : List E) : (cels A).length = A.length * 2 := by
  induction A with
  | nil => rfl
  | cons a A ih =>
    have e : cels (a :: A) = cel a ++ cels A := rfl
    rw [e, List.length_append, ih, cel_len, List.length_cons]; omega
theorem cels_app (A B : List E) : cels (A ++ B) = cels A ++ cels B := by simp [cels]
theorem cels_at {A : List E} {i : Nat} (h : i < A.length) : cels A = cels (A.take i) ++ (cel (ge A i) ++ cels (A.drop (i + 1))) := by
  have e1 : A = A.take i ++ (ge A i :: A.drop (i + 1)) := by
    have e2 : ge A i = A[i] := by unfold ge; rw [List.getD_eq_getElem?_getD, List.getElem?_eq_getElem h]; rfl
    rw [e2, ← List.drop_eq_getElem_cons h, List.take_append_drop]
  have e3 : cels (ge A i :: A.drop (i + 1)) = cel (ge A i) ++ cels (A.drop (i + 1)) := rfl
  rw [← e3, ← cels_app, ← e1]
theorem take_len {A : List E} {i : Nat} (h : i < A.length) : (cels (A.take i)).length = i * 2 := by
  rw [cels_len, List.length_take, Nat.min_eq_left (by omega)]
theorem cels_get {A : List E} {i : Nat} (h : i < A.length) : ((cels A).drop (i * 2)).take 2 = cel (ge A i) := by
  rw [cels_at h, ← take_len h, List.drop_left, List.take_append_of_le_length (by rw [cel_len]; exact Nat.le_refl _), List.take_of_length_le (by rw [cel_len]; exact Nat.le_refl _)]
theorem cels_set {A : List E} {i : Nat} (h : i < A.length) (v : E) : splice (cels A) (i * 2) (cel v) = cels (A.set i v) := by
  have h2 : i < (A.set i v).length := by rw [List.length_set]; exact h
  rw [cels_at h2, ge_set h, if_pos rfl, List.take_set_of_le (Nat.le_refl _), List.drop_set_of_lt (by omega)]
  unfold splice
  rw [cels_at h, List.take_append_of_le_length (by rw [take_len h]; exact Nat.le_refl _), List.take_of_length_le (by rw [take_len h]; exact Nat.le_refl _), List.append_assoc]
  congr 2
  rw [← List.append_assoc, List.drop_append_of_le_length (by rw [List.length_append, take_len h, cel_len, cel_len]; exact Nat.le_refl _), List.drop_of_length_le (by rw [List.length_append, take_len h, cel_len, cel_len]; exact Nat.le_refl _), List.nil_append]
def W (σ : Store) (r : Nat) (A : List E) : Store := σ.set r (.mix (cels A))
theorem W_get {σ : Store} {r : Nat} (hr : r < σ.length) (A : List E) : (W σ r A)[r]? = some (.mix (cels A)) := by rw [W, List.getElem?_set_self hr]
theorem W_eq {σ : Store} {r : Nat} {A : List E} (h : σ[r]? = some (.mix (cels A))) : W σ r A = σ := by
  refine List.ext_getElem? fun i => ?_
  rw [W]
  by_cases e : r = i
  · subst e; rw [List.getElem?_set_self (get_lt h), h]
  · rw [List.getElem?_set_ne e]
theorem W_len (σ : Store) (r : Nat) (A : List E) : (W σ r A).length = σ.length := by simp [W]
theorem W_snoc {σ : Store} {r : Nat} (hr : r < σ.length) (A : List E) (row : Row) : W σ r A ++ [row] = W (σ ++ [row]) r A := by
  rw [W, W, List.set_append_left _ _ hr]
theorem uL : PP.underlying 134 = some (.slice 102) := Eq.trans (by kernel_rfl) rfl
theorem sE : size? PP 102 = some 2 := Eq.trans (by kernel_rfl) rfl
theorem loadE (x : DV) (σ : Store) : load PP 102 x σ = (loadN σ 2 x).map .agg := Eq.trans (by kernel_rfl) rfl
theorem idxL {r n i : Nat} (h : i < n) : indexAddr PP 134 (.rsl r 2 0 n) (.p (pI (i : Nat))) = some (.ptr r (i * 2)) := by
  have h2 : (0 : Int) ≤ (i : Int) ∧ (i : Int) < (n : Nat) := by omega
  simp [indexAddr, uL, sE, h2]
theorem ldW {σ : Store} {r i : Nat} {A : List E} (hr : r < σ.length) (h : i < A.length) : load PP 102 (.ptr r (i * 2)) (W σ r A) = some (val (ge A i)) := by
  rw [loadE, loadN_ptr (W_get hr A) (cels_get h) (by rw [cels_len]; omega)]; rfl
theorem stW {σ : Store} {r i lo : Nat} {A : List E} (hr : r < σ.length) (h : i < A.length) (hlo : lo ≤ r) (v : E) : store PP lo 102 (.ptr r (i * 2)) (val v) (W σ r A) = some (W σ r (A.set i v)) := by
  have e1 : (val v).cells = cel v := rfl
  have e2 : i * 2 + 2 ≤ (cels A).length := by rw [cels_len]; omega
  simp only [store, sE, e1, cel_len, if_true, storeN, hlo, W_get hr, cel_one, e2, decide_true, Bool.and_self, cels_set h]
  rw [W, W, List.set_set]
theorem set_len (A : List E) (i : Nat) (v : E) : (A.set i v).length = A.length := List.length_set
theorem add1 {a : Nat} (h : a ≤ 1000000) : binOp PP .add 3 (.p (.int .i64 (a : Nat))) (.p (.int .i64 1)) = some (.p (.int .i64 ((a + 1 : Nat) : Int))) := by
  rw [b_add, wrap_ok (by omega) (by omega)]; rfl
theorem sub1 {a : Nat} (h0 : 0 < a) (h : a ≤ 1000000) : binOp PP .sub 3 (.p (.int .i64 (a : Nat))) (.p (.int .i64 1)) = some (.p (.int .i64 ((a - 1 : Nat) : Int))) := by
  rw [b_sub, wrap_ok (by omega) (by omega)]
  congr 3
  omega
theorem addN {a b : Nat} (h : a + b ≤ 1000000) : binOp PP .add 3 (.p (.int .i64 (a : Nat))) (.p (.int .i64 (b : Nat))) = some (.p (.int .i64 ((a + b : Nat) : Int))) := by
  rw [b_add, wrap_ok (by omega) (by omega)]; rfl
theorem subN {a b : Nat} (h0 : b ≤ a) (h : a ≤ 1000000) : binOp PP .sub 3 (.p (.int .i64 (a : Nat))) (.p (.int .i64 (b : Nat))) = some (.p (.int .i64 ((a - b : Nat) : Int))) := by
  rw [b_sub, wrap_ok (by omega) (by omega)]
  congr 3
  omega
theorem mul2 {a : Nat} (h : a ≤ 1000000) : binOp PP .mul 3 (.p (.int .i64 2)) (.p (.int .i64 (a : Nat))) = some (.p (.int .i64 ((2 * a : Nat) : Int))) := by
  rw [b_mul, wrap_ok (by omega) (by omega)]
  congr 3
theorem ltT {a b : Int} (h : a < b) : decide (a < b) = true := decide_eq_true h
theorem ltF {a b : Int} (h : ¬ a < b) : decide (a < b) = false := decide_eq_false h
theorem leT {a b : Int} (h : a ≤ b) : decide (a ≤ b) = true := decide_eq_true h
theorem leF {a b : Int} (h : ¬ a ≤ b) : decide (a ≤ b) = false := decide_eq_false h
theorem gtT {a b : Int} (h : a > b) : decide (a > b) = true := decide_eq_true h
theorem gtF {a b : Int} (h : ¬ a > b) : decide (a > b) = false := decide_eq_false h
theorem geT {a b : Int} (h : a ≥ b) : decide (a ≥ b) = true := decide_eq_true h
theorem geF {a b : Int} (h : ¬ a ≥ b) : decide (a ≥ b) = false := decide_eq_false h
theorem eqT {a b : Int} (h : a = b) : decide (a = b) = true := decide_eq_true h
theorem eqF {a b : Int} (h : ¬ a = b) : decide (a = b) = false := decide_eq_false h
section
variable {cf : FuncId} {cmp : E → E → Int} (hc : ∀ (x y : E) (σ : Store), pureV CC cf [val x, val y] σ = some (.p (.int .i64 (cmp x y))))
variable {r n lo : Nat} {σ : Store}
def ltc (cmp : E → E → Int) (x y : E) : Bool := decide (cmp x y < 0)
abbrev V (r n : Nat) : DV := .rsl r 2 0 n
abbrev N (i : Nat) : DV := .p (.int .i64 (i : Int))
include hc in
theorem ins_L1 (hr : r < σ.length) (hlo : lo ≤ r) (hn : n ≤ 100000) {a b i : Nat} (hi : i ≤ 100000) : ∀ (j : Nat) (A : List E), a ≤ j → j < n → A.length = n →
    f126_L1 guardT lo (V r n) (N a) (N b) (.fn cf []) (N i) (N j) (W σ r A) = f126_L0 guardT lo (V r n) (N a) (N b) (.fn cf []) (N (i + 1)) (W σ r (insIn (ltc cmp) a j A))
  | 0, A, ha, hj, hA => by
    rw [f126_L1_eq guardT rfl]
    simp (disch := omega) only [V, N, b_gtr, gtF, gG, add1, insIn]
  | j + 1, A, ha, hj, hA => by
    rw [f126_L1_eq guardT rfl]
    by_cases h1 : a < j + 1
    · by_cases h2 : cmp (ge A (j + 1)) (ge A j) < 0
      · have ih := ins_L1 hr hlo hn (a := a) (b := b) hi j (swp A (j + 1) j) (by omega) (by omega) (by rw [swp_len]; exact hA)
        have e : insIn (ltc cmp) a (j + 1) A = insIn (ltc cmp) a j (swp A (j + 1) j) := by
          rw [insIn, if_pos ⟨h1, decide_eq_true h2⟩]
        have h3 : (A.set (j + 1) (ge A j)).length = n := by rw [set_len]; exact hA
        rw [e, ← ih]
        simp (disch := omega) only [V, N, b_gtr, gtT, gG, sub1, idxL, ldW, Nat.add_sub_cancel, pureFn_fn, List.append_nil, hc, b_lss, ltT, stW, swp]
      · have e : insIn (ltc cmp) a (j + 1) A = A := by
          rw [insIn, if_neg (fun h => h2 (of_decide_eq_true h.2))]
        rw [e]
        simp (disch := omega) only [V, N, b_gtr, gtT, gG, sub1, idxL, ldW, Nat.add_sub_cancel, pureFn_fn, List.append_nil, hc, b_lss, ltF, add1]
    · have e : insIn (ltc cmp) a (j + 1) A = A := by
        rw [insIn, if_neg (fun h => h1 h.1)]
      rw [e]
      simp (disch := omega) only [V, N, b_gtr, gtF, gG, add1]
theorem insIn_len (lt : E → E → Bool) (a : Nat) : ∀ (j : Nat) (A : List E), (insIn lt a j A).length = A.length
  | 0, A => rfl
  | j + 1, A => by
    unfold insIn
    split
    · rw [insIn_len lt a j, swp_len]
    · rfl
include hc in
theorem ins_L0 (hr : r < σ.length) (hlo : lo ≤ r) (hn : n ≤ 100000) {a b : Nat} (hb : b ≤ n) : ∀ (k i : Nat) (A : List E), b - i = k → a ≤ i → A.length = n →
    f126_L0 guardT lo (V r n) (N a) (N b) (.fn cf []) (N i) (W σ r A) = some (.tuple [], W σ r (insOut (ltc cmp) a (b - i) i A))
  | 0, i, A, hk, ha, hA => by
    rw [f126_L0_eq guardT rfl, hk]
    simp (disch := omega) only [V, N, b_lss, ltF, gG, insOut]
  | k + 1, i, A, hk, ha, hA => by
    rw [f126_L0_eq guardT rfl]
    have h := ins_L1 hc hr hlo hn (a := a) (b := b) (i := i) (by omega) i A ha (by omega) hA
    have ih := ins_L0 hr hlo hn (a := a) hb k (i + 1) (insIn (ltc cmp) a i A) (by omega) (by omega) (by rw [insIn_len]; exact hA)
    have e : insOut (ltc cmp) a (b - i) i A = insOut (ltc cmp) a (b - (i + 1)) (i + 1) (insIn (ltc cmp) a i A) := by
      rw [show b - i = (b - (i + 1)) + 1 by omega, insOut]
    rw [e, ← ih, ← h]
    simp (disch := omega) only [V, N, b_lss, ltT, gG]
include hc in
theorem ins_ok (hr : r < σ.length) (hlo : lo ≤ r) (hn : n ≤ 100000) {a b : Nat} (hb : b ≤ n) (ha : a ≤ n) (A : List E) (hA : A.length = n) :
    CC lo 126 [V r n, N a, N b, .fn cf []] (W σ r A) = some (.tuple [], W σ r (insOut (ltc cmp) a (b - (a + 1)) (a + 1) A)) := by
  refine F126_call ?_
  rw [F126_eq]
  simp (disch := omega) only [N, add1, gG]
  exact ins_L0 hc hr hlo hn hb _ (a + 1) A rfl (by omega) hA
end
end Go.D.StS
end
/- Heap sort over elements of type 102. -/
section
set_option linter.unusedVariables false
set_option linter.unusedSimpArgs false
namespace Go.D.StS
open Go.D.Srt
section
variable {cf : FuncId} {cmp : E → E → Int} (hc : ∀ (x y : E) (σ : Store), pureV CC cf [val x, val y] σ = some (.p (.int .i64 (cmp x y))))
variable {r n lo : Nat} {σ : Store}
include hc in
theorem sd_J0 (hr : r < σ.length) (hlo : lo ≤ r) (hn : n ≤ 100000) {f hi root c : Nat} (hf : f + hi ≤ n) (h1 : root < hi) (h2 : c < hi) (A : List E) (hA : A.length = n) (x13 x14 x15 x16 x17 x18 x19 x20 x21 x22 x23 x24 x25 x26 x27 x28 x29 x30 x31 x32 x33 x34 x35 x36 x37 x38 x39 x40 x41 x42 : DV) :
    f146_J0 guardT lo (V r n) (N hi) (N f) (.fn cf []) (N root) (N c) x13 x14 x15 x16 x17 x18 x19 x20 x21 x22 x23 x24 x25 x26 x27 x28 x29 x30 x31 x32 x33 x34 x35 x36 x37 x38 x39 x40 x41 x42 (W σ r A) =
      if ltc cmp (ge A (f + root)) (ge A (f + c)) = true then f146_L0 guardT lo (V r n) (N hi) (N f) (.fn cf []) (N c) (W σ r (swp A (f + root) (f + c))) else some (.tuple [], W σ r A) := by
  rw [f146_J0_eq guardT]
  have h3 : (A.set (f + root) (ge A (f + c))).length = n := by rw [set_len]; exact hA
  by_cases h : cmp (ge A (f + root)) (ge A (f + c)) < 0
  · rw [if_pos (show ltc cmp _ _ = true from decide_eq_true h)]
    simp (disch := omega) only [V, N, addN, gG, idxL, ldW, pureFn_fn, List.append_nil, hc, b_lss, ltT, stW, swp]
  · rw [if_neg (show ¬ ltc cmp _ _ = true from fun e => h (of_decide_eq_true e))]
    simp (disch := omega) only [V, N, addN, gG, idxL, ldW, pureFn_fn, List.append_nil, hc, b_lss, ltF, stW, swp]
include hc in
theorem sd_L0 (hr : r < σ.length) (hlo : lo ≤ r) (hn : n ≤ 100000) {f hi : Nat} (hf : f + hi ≤ n) : ∀ (k root : Nat) (A : List E), hi - root ≤ k → root ≤ 100000 → A.length = n →
    f146_L0 guardT lo (V r n) (N hi) (N f) (.fn cf []) (N root) (W σ r A) = some (.tuple [], W σ r (sift (ltc cmp) f hi k root A))
  | 0, root, A, hk, hro, hA => by
    rw [f146_L0_eq guardT rfl]
    simp (disch := omega) only [V, N, mul2, add1, b_geq, geT, gG, sift]
  | k + 1, root, A, hk, hro, hA => by
    rw [f146_L0_eq guardT rfl]
    by_cases h0 : hi ≤ 2 * root + 1
    · rw [sift, if_pos h0]
      simp (disch := omega) only [V, N, mul2, add1, b_geq, geT, gG]
    · have e1 : f + (2 * root + 1) + 1 = f + (2 * root + 2) := rfl
      have e2 : 2 * root + 1 + 1 = 2 * root + 2 := rfl
      by_cases h1 : 2 * root + 2 < hi
      · by_cases h2 : cmp (ge A (f + (2 * root + 1))) (ge A (f + (2 * root + 2))) < 0
        · have ih := sd_L0 hr hlo hn hf k (2 * root + 2) (swp A (f + root) (f + (2 * root + 2))) (by omega) (by omega) (by rw [swp_len]; exact hA)
          rw [sift, if_neg h0]
          simp only [h1, show ltc cmp (ge A (f + (2 * root + 1))) (ge A (f + (2 * root + 2))) = true from decide_eq_true h2, and_self, if_true]
          simp (disch := omega) only [V, N, mul2, add1, e1, e2, addN, b_geq, geF, b_lss, ltT, idxL, ldW, pureFn_fn, List.append_nil, hc, gG]
          refine (sd_J0 hc hr hlo hn hf (by omega) h1 A hA _ _ _ _ _ _ _ _ _ _ _ _ _ _ _ _ _ _ _ _ _ _ _ _ _ _ _ _ _ _).trans ?_
          split
          · exact ih
          · rfl
        · have ih := sd_L0 hr hlo hn hf k (2 * root + 1) (swp A (f + root) (f + (2 * root + 1))) (by omega) (by omega) (by rw [swp_len]; exact hA)
          rw [sift, if_neg h0]
          simp only [h1, show ltc cmp (ge A (f + (2 * root + 1))) (ge A (f + (2 * root + 2))) = false from decide_eq_false h2, Bool.false_eq_true, and_false, if_false]
          simp (disch := omega) only [V, N, mul2, add1, e1, e2, addN, b_geq, geF, b_lss, ltT, ltF, idxL, ldW, pureFn_fn, List.append_nil, hc, gG]
          refine (sd_J0 hc hr hlo hn hf (by omega) (show 2 * root + 1 < hi by omega) A hA _ _ _ _ _ _ _ _ _ _ _ _ _ _ _ _ _ _ _ _ _ _ _ _ _ _ _ _ _ _).trans ?_
          split
          · exact ih
          · rfl
      · have ih := sd_L0 hr hlo hn hf k (2 * root + 1) (swp A (f + root) (f + (2 * root + 1))) (by omega) (by omega) (by rw [swp_len]; exact hA)
        rw [sift, if_neg h0]
        simp only [h1, false_and, if_false]
        simp (disch := omega) only [V, N, mul2, add1, e1, e2, addN, b_geq, geF, b_lss, ltF, gG]
        refine (sd_J0 hc hr hlo hn hf (by omega) (show 2 * root + 1 < hi by omega) A hA _ _ _ _ _ _ _ _ _ _ _ _ _ _ _ _ _ _ _ _ _ _ _ _ _ _ _ _ _ _).trans ?_
        split
        · exact ih
        · rfl
theorem sift_len (lt : E → E → Bool) (f hi : Nat) : ∀ (k root : Nat) (A : List E), (sift lt f hi k root A).length = A.length
  | 0, root, A => rfl
  | k + 1, root, A => by
    unfold sift
    split
    · rfl
    · simp only
      generalize (if 2 * root + 2 < hi ∧ lt (ge A (f + (2 * root + 1))) (ge A (f + (2 * root + 2))) = true then 2 * root + 2 else 2 * root + 1) = c
      split
      · rw [sift_len lt f hi k, swp_len]
      · rfl
include hc in
theorem sd_ok (hr : r < σ.length) (hlo : lo ≤ r) (hn : n ≤ 100000) {f hi root : Nat} (hf : f + hi ≤ n) (hro : root ≤ 100000) (A : List E) (hA : A.length = n) :
    CC lo 146 [V r n, N root, N hi, N f, .fn cf []] (W σ r A) = some (.tuple [], W σ r (sift (ltc cmp) f hi hi root A)) := by
  refine F146_call ?_
  rw [F146_eq]
  exact sd_L0 hc hr hlo hn hf hi root A (by omega) hro hA
theorem sub1_0 : binOp PP .sub 3 (.p (.int .i64 ((0 : Nat) : Int))) (.p (.int .i64 1)) = some (.p (.int .i64 (-1))) := by
  rw [b_sub]; rfl
include hc in
theorem hs_L1 (hr : r < σ.length) (hlo : lo ≤ r) (hn : n ≤ 100000) {f m : Nat} : ∀ (i : Nat) (A : List E), i ≤ n → (0 < i → f + i ≤ n) → A.length = n →
    f127_L1 guardT lo (V r n) (.fn cf []) (N f) (N 0) (.p (.int .i64 ((i : Int) - 1))) (W σ r A) = some (.tuple [], W σ r (hpB (ltc cmp) f i A))
  | 0, A, hi, hf, hA => by
    rw [f127_L1_eq guardT rfl]
    simp (disch := omega) only [N, b_geq, geF, gG, hpB]
  | i + 1, A, hi, hf, hA => by
    have hf := hf (Nat.succ_pos _)
    have e : ((i + 1 : Nat) : Int) - 1 = (i : Nat) := by omega
    have h3 : (A.set f (ge A (f + i))).length = n := by rw [set_len]; exact hA
    have h1 := sd_ok hc hr hlo hn (f := f) (hi := i) (root := 0) (by omega) (by omega) (swp A f (f + i)) (by rw [swp_len]; exact hA)
    have ih := hs_L1 hr hlo hn (f := f) (m := m) i (sift (ltc cmp) f i i 0 (swp A f (f + i))) (by omega) (fun _ => by omega) (by rw [sift_len, swp_len]; exact hA)
    have e2 : binOp PP .sub 3 (.p (.int .i64 ((i : Nat) : Int))) (.p (.int .i64 1)) = some (.p (.int .i64 ((i : Int) - 1))) := by rw [b_sub, wrap_ok (by omega) (by omega)]
    rw [f127_L1_eq guardT rfl, e]
    rw [hpB, ← ih]
    simp only [V, N, swp] at h1
    simp (disch := omega) only [V, N, b_geq, geT, addN, idxL, ldW, stW, gG, e2, plainFn_fn, List.append_nil]
    rw [h1]
    simp only [gG, swp]
include hc in
theorem hs_L0 (hr : r < σ.length) (hlo : lo ≤ r) (hn : n ≤ 100000) {f m : Nat} (hf : f + m ≤ n) : ∀ (i : Nat) (A : List E), i ≤ 100000 → A.length = n →
    f127_L0 guardT lo (V r n) (.fn cf []) (N f) (N 0) (N m) (N i) (W σ r A) = some (.tuple [], W σ r (hpB (ltc cmp) f m (hpA (ltc cmp) f m i A)))
  | 0, A, hi, hA => by
    have h1 := sd_ok hc hr hlo hn (f := f) (hi := m) (root := 0) hf (by omega) A hA
    have h2 := hs_L1 hc hr hlo hn (f := f) (m := m) m (sift (ltc cmp) f m m 0 A) (by omega) (fun _ => hf) (by rw [sift_len]; exact hA)
    have e2 : binOp PP .sub 3 (.p (.int .i64 ((m : Nat) : Int))) (.p (.int .i64 1)) = some (.p (.int .i64 ((m : Int) - 1))) := by rw [b_sub, wrap_ok (by omega) (by omega)]
    rw [f127_L0_eq guardT rfl]
    simp only [V, N] at h1
    simp (disch := omega) only [V, N, b_geq, geT, gG, plainFn_fn, List.append_nil]
    rw [h1]
    simp only [gG, sub1_0]
    rw [f127_L0_eq guardT rfl]
    simp (disch := omega) only [V, N, b_geq, geF, gG, e2]
    rw [hpA]
    exact h2
  | i + 1, A, hi, hA => by
    have h1 := sd_ok hc hr hlo hn (f := f) (hi := m) (root := i + 1) hf (by omega) A hA
    have ih := hs_L0 hr hlo hn hf i (sift (ltc cmp) f m m (i + 1) A) (by omega) (by rw [sift_len]; exact hA)
    rw [f127_L0_eq guardT rfl]
    simp only [V, N] at h1
    simp (disch := omega) only [V, N, b_geq, geT, gG, plainFn_fn, List.append_nil]
    rw [h1]
    simp (disch := omega) only [gG, sub1, Nat.add_sub_cancel]
    rw [hpA]
    exact ih
include hc in
theorem hs_ok (hr : r < σ.length) (hlo : lo ≤ r) (hn : n ≤ 100000) {a b : Nat} (hab : a < b) (hb : b ≤ n) (A : List E) (hA : A.length = n) :
    CC lo 127 [V r n, N a, N b, .fn cf []] (W σ r A) = some (.tuple [], W σ r (hpB (ltc cmp) a (b - a) (hpA (ltc cmp) a (b - a) ((b - a - 1) / 2) A))) := by
  refine F127_call ?_
  have e2 : binOp PP .quo 3 (.p (.int .i64 ((b - a - 1 : Nat) : Int))) (.p (.int .i64 2)) = some (.p (.int .i64 (((b - a - 1) / 2 : Nat) : Int))) := by
    have e3 : ((b - a - 1 : Nat) : Int).tdiv 2 = (((b - a - 1) / 2 : Nat) : Int) := by rw [Int.tdiv_eq_ediv_of_nonneg (by omega)]; omega
    have e4 : binOp PP .quo 3 (.p (.int .i64 ((b - a - 1 : Nat) : Int))) (.p (.int .i64 2)) = some (.p (.int .i64 (IntKind.wrap .i64 (((b - a - 1 : Nat) : Int).tdiv 2)))) := Eq.trans rfl rfl
    rw [e4, e3, wrap_ok (by omega) (by omega)]
  rw [F127_eq]
  simp (disch := omega) only [N, subN, sub1, e2, gG]
  exact hs_L0 hc hr hlo hn (by omega) _ A (by omega) hA
end
end Go.D.StS
end
/- Partitions over elements of type 102. -/
section
set_option linter.unusedVariables false
set_option linter.unusedSimpArgs false
namespace Go.D.StS
open Go.D.Srt
def uA (cmp : E → E → Int) (pv x : E) : Bool := ltc cmp x pv
def vA (cmp : E → E → Int) (pv x : E) : Bool := !ltc cmp x pv
def uE (cmp : E → E → Int) (pv x : E) : Bool := !ltc cmp pv x
def vE (cmp : E → E → Int) (pv x : E) : Bool := ltc cmp pv x
theorem huvA (cmp : E → E → Int) (x y : E) : vA cmp x y = !uA cmp x y := rfl
theorem huvE (cmp : E → E → Int) (x y : E) : vE cmp x y = !uE cmp x y := by simp [uE, vE]
theorem nT {p : Prop} [Decidable p] (h : ¬ p) : (!decide p) = true := by simp [h]
theorem nF {p : Prop} [Decidable p] (h : (!decide p) = true) : ¬ p := by simpa using h
section
variable {cf : FuncId} {cmp : E → E → Int} (hc : ∀ (x y : E) (σ : Store), pureV CC cf [val x, val y] σ = some (.p (.int .i64 (cmp x y))))
variable {r n lo : Nat} {σ : Store}
include hc in
theorem upA0 (hr : r < σ.length) (hlo : lo ≤ r) (hn : n ≤ 100000) {a j : Nat} {A : List E} (hA : A.length = n) (hj : j < n) : ∀ (k i : Nat), k = j + 1 - i → a + 1 ≤ i → i ≤ n →
    f133_L0 guardT lo (V r n) (N a) (.fn cf []) (N i) (N j) (W σ r A) = f133_L1 guardT lo (V r n) (N a) (.fn cf []) (N (upI (uA cmp (ge A a)) A k i j)) (N j) (W σ r A)
  | 0, i, hk, ha, hi => by
    rw [f133_L0_eq guardT rfl, upI]
    simp (disch := omega) only [V, N, b_leq, leF, gG]
  | k + 1, i, hk, ha, hi => by
    rw [f133_L0_eq guardT rfl, upI]
    by_cases h : cmp (ge A i) (ge A a) < 0
    · rw [if_pos ⟨by omega, decide_eq_true h⟩, ← upA0 hr hlo hn hA hj k (i + 1) (by omega) (by omega) (by omega)]
      simp (disch := omega) only [V, N, b_leq, leT, idxL, ldW, pureFn_fn, List.append_nil, hc, b_lss, ltT, ltF, add1, gG]
    · rw [if_neg (fun hh => h (of_decide_eq_true hh.2))]
      simp (disch := omega) only [V, N, b_leq, leT, idxL, ldW, pureFn_fn, List.append_nil, hc, b_lss, ltT, ltF, add1, gG]
include hc in
theorem upA1 (hr : r < σ.length) (hlo : lo ≤ r) (hn : n ≤ 100000) {a j : Nat} {A : List E} (hA : A.length = n) (hj : j < n) : ∀ (k i : Nat), k = j + 1 - i → a + 1 ≤ i → i ≤ n →
    f133_L3 guardT lo (V r n) (N a) (.fn cf []) (N i) (N j) (W σ r A) = f133_L4 guardT lo (V r n) (N a) (.fn cf []) (N (upI (uA cmp (ge A a)) A k i j)) (N j) (W σ r A)
  | 0, i, hk, ha, hi => by
    rw [f133_L3_eq guardT rfl, upI]
    simp (disch := omega) only [V, N, b_leq, leF, gG]
  | k + 1, i, hk, ha, hi => by
    rw [f133_L3_eq guardT rfl, upI]
    by_cases h : cmp (ge A i) (ge A a) < 0
    · rw [if_pos ⟨by omega, decide_eq_true h⟩, ← upA1 hr hlo hn hA hj k (i + 1) (by omega) (by omega) (by omega)]
      simp (disch := omega) only [V, N, b_leq, leT, idxL, ldW, pureFn_fn, List.append_nil, hc, b_lss, ltT, ltF, add1, gG]
    · rw [if_neg (fun hh => h (of_decide_eq_true hh.2))]
      simp (disch := omega) only [V, N, b_leq, leT, idxL, ldW, pureFn_fn, List.append_nil, hc, b_lss, ltT, ltF, add1, gG]
include hc in
theorem upE (hr : r < σ.length) (hlo : lo ≤ r) (hn : n ≤ 100000) {a j : Nat} {A : List E} (hA : A.length = n) (hj : j < n) : ∀ (k i : Nat), k = j + 1 - i → a + 1 ≤ i → i ≤ n →
    f132_L1 guardT lo (V r n) (N a) (.fn cf []) (N i) (N j) (W σ r A) = f132_L2 guardT lo (V r n) (N a) (.fn cf []) (N (upI (uE cmp (ge A a)) A k i j)) (N j) (W σ r A)
  | 0, i, hk, ha, hi => by
    rw [f132_L1_eq guardT rfl, upI]
    simp (disch := omega) only [V, N, b_leq, leF, gG]
  | k + 1, i, hk, ha, hi => by
    rw [f132_L1_eq guardT rfl, upI]
    by_cases h : ¬ cmp (ge A a) (ge A i) < 0
    · rw [if_pos ⟨by omega, nT h⟩, ← upE hr hlo hn hA hj k (i + 1) (by omega) (by omega) (by omega)]
      simp (disch := omega) only [V, N, b_leq, leT, idxL, ldW, pureFn_fn, List.append_nil, hc, b_lss, ltT, ltF, add1, gG]
    · rw [if_neg (fun hh => h (nF hh.2))]
      simp (disch := omega) only [V, N, b_leq, leT, idxL, ldW, pureFn_fn, List.append_nil, hc, b_lss, ltT, ltF, add1, gG]
def enA0 (σ : Store) (r a i J : Nat) (A : List E) : DV × Store := (.tuple [N J, .p (.bool true)], W σ r (swp A J a))
include hc in
theorem dnA0 (hr : r < σ.length) (hlo : lo ≤ r) (hn : n ≤ 100000) {a i : Nat} {A : List E} (hA : A.length = n) (ha : a + 1 ≤ i) (ha2 : a < n) : ∀ (k j : Nat), k = j + 1 - i → i ≤ j + 1 → j < n →
    f133_L1 guardT lo (V r n) (N a) (.fn cf []) (N i) (N j) (W σ r A) =
      if dnJ (vA cmp (ge A a)) A k i j < i then some (enA0 σ r a i (dnJ (vA cmp (ge A a)) A k i j) A)
      else f133_L2 guardT lo (V r n) (N a) (.fn cf []) (N (i + 1)) (N (dnJ (vA cmp (ge A a)) A k i j - 1)) (W σ r (swp A i (dnJ (vA cmp (ge A a)) A k i j)))
  | 0, j, hk, hi, hj => by
    have h3 : (A.set j (ge A a)).length = n := by rw [set_len]; exact hA
    rw [f133_L1_eq guardT rfl, dnJ, if_pos (by omega)]
    simp (disch := omega) only [V, N, b_leq, leF, b_gtr, gtT, idxL, ldW, stW, gG, enA0, swp]
  | k + 1, j, hk, hi, hj => by
    have h3 : (A.set i (ge A j)).length = n := by rw [set_len]; exact hA
    rw [f133_L1_eq guardT rfl, dnJ]
    by_cases h : ¬ cmp (ge A j) (ge A a) < 0
    · rw [if_pos (show i ≤ j ∧ vA cmp (ge A a) (ge A j) = true from ⟨by omega, nT h⟩), ← dnA0 hr hlo hn hA ha ha2 k (j - 1) (by omega) (by omega) (by omega)]
      simp (disch := omega) only [V, N, b_leq, leT, idxL, ldW, pureFn_fn, List.append_nil, hc, b_lss, ltT, ltF, sub1, gG]
    · rw [if_neg (show ¬ (i ≤ j ∧ vA cmp (ge A a) (ge A j) = true) from fun hh => h (nF hh.2)), if_neg (by omega)]
      simp (disch := omega) only [V, N, b_leq, leT, idxL, ldW, pureFn_fn, List.append_nil, hc, b_lss, ltT, ltF, b_gtr, gtF, stW, add1, sub1, swp, gG]
def enA1 (σ : Store) (r a i J : Nat) (A : List E) : DV × Store := (.tuple [N J, .p (.bool false)], W σ r (swp A J a))
include hc in
theorem dnA1 (hr : r < σ.length) (hlo : lo ≤ r) (hn : n ≤ 100000) {a i : Nat} {A : List E} (hA : A.length = n) (ha : a + 1 ≤ i) (ha2 : a < n) : ∀ (k j : Nat), k = j + 1 - i → i ≤ j + 1 → j < n →
    f133_L4 guardT lo (V r n) (N a) (.fn cf []) (N i) (N j) (W σ r A) =
      if dnJ (vA cmp (ge A a)) A k i j < i then some (enA1 σ r a i (dnJ (vA cmp (ge A a)) A k i j) A)
      else f133_L2 guardT lo (V r n) (N a) (.fn cf []) (N (i + 1)) (N (dnJ (vA cmp (ge A a)) A k i j - 1)) (W σ r (swp A i (dnJ (vA cmp (ge A a)) A k i j)))
  | 0, j, hk, hi, hj => by
    have h3 : (A.set j (ge A a)).length = n := by rw [set_len]; exact hA
    rw [f133_L4_eq guardT rfl, dnJ, if_pos (by omega)]
    simp (disch := omega) only [V, N, b_leq, leF, b_gtr, gtT, idxL, ldW, stW, gG, enA1, swp]
  | k + 1, j, hk, hi, hj => by
    have h3 : (A.set i (ge A j)).length = n := by rw [set_len]; exact hA
    rw [f133_L4_eq guardT rfl, dnJ]
    by_cases h : ¬ cmp (ge A j) (ge A a) < 0
    · rw [if_pos (show i ≤ j ∧ vA cmp (ge A a) (ge A j) = true from ⟨by omega, nT h⟩), ← dnA1 hr hlo hn hA ha ha2 k (j - 1) (by omega) (by omega) (by omega)]
      simp (disch := omega) only [V, N, b_leq, leT, idxL, ldW, pureFn_fn, List.append_nil, hc, b_lss, ltT, ltF, sub1, gG]
    · rw [if_neg (show ¬ (i ≤ j ∧ vA cmp (ge A a) (ge A j) = true) from fun hh => h (nF hh.2)), if_neg (by omega)]
      simp (disch := omega) only [V, N, b_leq, leT, idxL, ldW, pureFn_fn, List.append_nil, hc, b_lss, ltT, ltF, b_gtr, gtF, stW, add1, sub1, swp, gG]
def enE (σ : Store) (r a i J : Nat) (A : List E) : DV × Store := (N i, W σ r A)
include hc in
theorem dnE (hr : r < σ.length) (hlo : lo ≤ r) (hn : n ≤ 100000) {a i : Nat} {A : List E} (hA : A.length = n) (ha : a + 1 ≤ i) (ha2 : a < n) : ∀ (k j : Nat), k = j + 1 - i → i ≤ j + 1 → j < n →
    f132_L2 guardT lo (V r n) (N a) (.fn cf []) (N i) (N j) (W σ r A) =
      if dnJ (vE cmp (ge A a)) A k i j < i then some (enE σ r a i (dnJ (vE cmp (ge A a)) A k i j) A)
      else f132_L0 guardT lo (V r n) (N a) (.fn cf []) (N (i + 1)) (N (dnJ (vE cmp (ge A a)) A k i j - 1)) (W σ r (swp A i (dnJ (vE cmp (ge A a)) A k i j)))
  | 0, j, hk, hi, hj => by
    have h3 : (A.set j (ge A a)).length = n := by rw [set_len]; exact hA
    rw [f132_L2_eq guardT rfl, dnJ, if_pos (by omega)]
    simp (disch := omega) only [V, N, b_leq, leF, b_gtr, gtT, idxL, ldW, stW, gG, enE, swp]
  | k + 1, j, hk, hi, hj => by
    have h3 : (A.set i (ge A j)).length = n := by rw [set_len]; exact hA
    rw [f132_L2_eq guardT rfl, dnJ]
    by_cases h : cmp (ge A a) (ge A j) < 0
    · rw [if_pos (show i ≤ j ∧ vE cmp (ge A a) (ge A j) = true from ⟨by omega, decide_eq_true h⟩), ← dnE hr hlo hn hA ha ha2 k (j - 1) (by omega) (by omega) (by omega)]
      simp (disch := omega) only [V, N, b_leq, leT, idxL, ldW, pureFn_fn, List.append_nil, hc, b_lss, ltT, ltF, sub1, gG]
    · rw [if_neg (show ¬ (i ≤ j ∧ vE cmp (ge A a) (ge A j) = true) from fun hh => h (of_decide_eq_true hh.2)), if_neg (by omega)]
      simp (disch := omega) only [V, N, b_leq, leT, idxL, ldW, pureFn_fn, List.append_nil, hc, b_lss, ltT, ltF, b_gtr, gtF, stW, add1, sub1, swp, gG]
include hc in
theorem lpA (hr : r < σ.length) (hlo : lo ≤ r) (hn : n ≤ 100000) {a : Nat} (ha2 : a < n) : ∀ (k i j : Nat) (A : List E), j + 1 - i < k → a + 1 ≤ i → i ≤ j + 1 → j < n → A.length = n →
    f133_L2 guardT lo (V r n) (N a) (.fn cf []) (N i) (N j) (W σ r A) = some (enA1 σ r a (prt (uA cmp) (vA cmp) a k i j A).1 (prt (uA cmp) (vA cmp) a k i j A).2.1 (prt (uA cmp) (vA cmp) a k i j A).2.2)
  | 0, i, j, A, hk, ha, hi, hj, hA => by omega
  | k + 1, i, j, A, hk, ha, hi, hj, hA => by
    obtain ⟨a1, a2, a3, a4⟩ := upI_ok (q := uA cmp (ge A a)) (A := A) (j + 1 - i) i j (Nat.le_refl _) hi
    have h1 := upA1 hc hr hlo hn hA hj _ i rfl ha (by omega)
    obtain ⟨b1, b2, b3, b4⟩ := dnJ_ok (q := vA cmp (ge A a)) (A := A) (j + 1 - upI (uA cmp (ge A a)) A (j + 1 - i) i j) (upI (uA cmp (ge A a)) A (j + 1 - i) i j) j (Nat.le_refl _) a2 (by omega)
    rw [f133_L2_eq guardT rfl, h1, prt]
    generalize upI (uA cmp (ge A a)) A (j + 1 - i) i j = i' at *
    have h2 := dnA1 hc hr hlo hn hA (show a + 1 ≤ i' by omega) ha2 _ j rfl a2 hj
    rw [h2]
    generalize dnJ (vA cmp (ge A a)) A (j + 1 - i') i' j = j' at *
    split
    · rename_i hlt
      rfl
    · rename_i hlt
      have c1 := a4 (by omega)
      have c2 := b4 (by omega)
      have hne : i' ≠ j' := by
        rintro rfl
        rw [huvA, c1] at c2
        exact absurd c2 (by decide)
      exact lpA hr hlo hn ha2 k (i' + 1) (j' - 1) (swp A i' j') (by omega) (by omega) (by omega) (by omega) (by rw [swp_len]; exact hA)
include hc in
theorem lpE (hr : r < σ.length) (hlo : lo ≤ r) (hn : n ≤ 100000) {a : Nat} (ha2 : a < n) : ∀ (k i j : Nat) (A : List E), j + 1 - i < k → a + 1 ≤ i → i ≤ j + 1 → j < n → A.length = n →
    f132_L0 guardT lo (V r n) (N a) (.fn cf []) (N i) (N j) (W σ r A) = some (enE σ r a (prt (uE cmp) (vE cmp) a k i j A).1 (prt (uE cmp) (vE cmp) a k i j A).2.1 (prt (uE cmp) (vE cmp) a k i j A).2.2)
  | 0, i, j, A, hk, ha, hi, hj, hA => by omega
  | k + 1, i, j, A, hk, ha, hi, hj, hA => by
    obtain ⟨a1, a2, a3, a4⟩ := upI_ok (q := uE cmp (ge A a)) (A := A) (j + 1 - i) i j (Nat.le_refl _) hi
    have h1 := upE hc hr hlo hn hA hj _ i rfl ha (by omega)
    obtain ⟨b1, b2, b3, b4⟩ := dnJ_ok (q := vE cmp (ge A a)) (A := A) (j + 1 - upI (uE cmp (ge A a)) A (j + 1 - i) i j) (upI (uE cmp (ge A a)) A (j + 1 - i) i j) j (Nat.le_refl _) a2 (by omega)
    rw [f132_L0_eq guardT rfl, h1, prt]
    generalize upI (uE cmp (ge A a)) A (j + 1 - i) i j = i' at *
    have h2 := dnE hc hr hlo hn hA (show a + 1 ≤ i' by omega) ha2 _ j rfl a2 hj
    rw [h2]
    generalize dnJ (vE cmp (ge A a)) A (j + 1 - i') i' j = j' at *
    split
    · rename_i hlt
      rfl
    · rename_i hlt
      have c1 := a4 (by omega)
      have c2 := b4 (by omega)
      have hne : i' ≠ j' := by
        rintro rfl
        rw [huvE, c1] at c2
        exact absurd c2 (by decide)
      exact lpE hr hlo hn ha2 k (i' + 1) (j' - 1) (swp A i' j') (by omega) (by omega) (by omega) (by omega) (by rw [swp_len]; exact hA)
include hc in
theorem pe_ok (hr : r < σ.length) (hlo : lo ≤ r) (hn : n ≤ 100000) {a b p : Nat} (hab : a < b) (hb : b ≤ n) (hp : p < n) (A : List E) (hA : A.length = n) :
    CC lo 132 [V r n, N a, N b, N p, .fn cf []] (W σ r A) = some (enE σ r a (prt (uE cmp) (vE cmp) a (b - a + 1) (a + 1) (b - 1) (swp A a p)).1 0 (prt (uE cmp) (vE cmp) a (b - a + 1) (a + 1) (b - 1) (swp A a p)).2.2) := by
  refine F132_call ?_
  have h3 : (A.set a (ge A p)).length = n := by rw [set_len]; exact hA
  rw [F132_eq]
  simp (disch := omega) only [V, N, idxL, ldW, stW, add1, sub1, gG]
  exact lpE hc hr hlo hn (by omega) (b - a + 1) (a + 1) (b - 1) (swp A a p) (by omega) (by omega) (by omega) (by omega) (by rw [swp_len]; exact hA)
include hc in
theorem pa_ok (hr : r < σ.length) (hlo : lo ≤ r) (hn : n ≤ 100000) {a b p : Nat} (hab : a < b) (hb : b ≤ n) (hp : p < n) (A : List E) (hA : A.length = n) :
    ∃ f : Bool, CC lo 133 [V r n, N a, N b, N p, .fn cf []] (W σ r A) = some (.tuple [N (prt (uA cmp) (vA cmp) a (b - a + 1) (a + 1) (b - 1) (swp A a p)).2.1, .p (.bool f)], W σ r (swp (prt (uA cmp) (vA cmp) a (b - a + 1) (a + 1) (b - 1) (swp A a p)).2.2 (prt (uA cmp) (vA cmp) a (b - a + 1) (a + 1) (b - 1) (swp A a p)).2.1 a)) := by
  have h3 : (A.set a (ge A p)).length = n := by rw [set_len]; exact hA
  have hB : (swp A a p).length = n := by rw [swp_len]; exact hA
  have key : ∃ f : Bool, f133_L0 guardT lo (V r n) (N a) (.fn cf []) (N (a + 1)) (N (b - 1)) (W σ r (swp A a p)) = some (.tuple [N (prt (uA cmp) (vA cmp) a (b - a + 1) (a + 1) (b - 1) (swp A a p)).2.1, .p (.bool f)], W σ r (swp (prt (uA cmp) (vA cmp) a (b - a + 1) (a + 1) (b - 1) (swp A a p)).2.2 (prt (uA cmp) (vA cmp) a (b - a + 1) (a + 1) (b - 1) (swp A a p)).2.1 a)) := by
    generalize swp A a p = B at *
    have hi : a + 1 ≤ b - 1 + 1 := by omega
    obtain ⟨a1, a2, a3, a4⟩ := upI_ok (q := uA cmp (ge B a)) (A := B) (b - 1 + 1 - (a + 1)) (a + 1) (b - 1) (Nat.le_refl _) hi
    have h1 := upA0 hc hr hlo hn hB (show b - 1 < n by omega) _ (a + 1) rfl (Nat.le_refl _) (by omega)
    obtain ⟨b1, b2, b3, b4⟩ := dnJ_ok (q := vA cmp (ge B a)) (A := B) (b - 1 + 1 - upI (uA cmp (ge B a)) B (b - 1 + 1 - (a + 1)) (a + 1) (b - 1)) (upI (uA cmp (ge B a)) B (b - 1 + 1 - (a + 1)) (a + 1) (b - 1)) (b - 1) (Nat.le_refl _) a2 (by omega)
    rw [h1, prt]
    generalize upI (uA cmp (ge B a)) B (b - 1 + 1 - (a + 1)) (a + 1) (b - 1) = i' at *
    have h2 := dnA0 hc hr hlo hn hB (show a + 1 ≤ i' by omega) (by omega) _ (b - 1) rfl a2 (by omega)
    rw [h2]
    generalize dnJ (vA cmp (ge B a)) B (b - 1 + 1 - i') i' (b - 1) = j' at *
    split
    · rename_i hlt
      exact ⟨true, rfl⟩
    · rename_i hlt
      have c1 := a4 (by omega)
      have c2 := b4 (by omega)
      have hne : i' ≠ j' := by
        rintro rfl
        rw [huvA, c1] at c2
        exact absurd c2 (by decide)
      exact ⟨false, lpA hc hr hlo hn (by omega) (b - a) (i' + 1) (j' - 1) (swp B i' j') (by omega) (by omega) (by omega) (by omega) (by rw [swp_len]; exact hB)⟩
  obtain ⟨f, hf⟩ := key
  refine ⟨f, F133_call ?_⟩
  rw [F133_eq]
  simp (disch := omega) only [V, N, idxL, ldW, stW, add1, sub1, gG]
  exact hf
end
end Go.D.StS
end
/- Partial insertion over elements of type 102. -/
section
set_option linter.unusedVariables false
set_option linter.unusedSimpArgs false
namespace Go.D.StS
open Go.D.Srt
theorem insUp_len (lt : E → E → Bool) : ∀ (k j : Nat) (A : List E), (insUp lt k j A).length = A.length
  | 0, j, A => rfl
  | k + 1, j, A => by
    unfold insUp
    split
    · rw [insUp_len lt k, swp_len]
    · rfl
section
variable {cf : FuncId} {cmp : E → E → Int} (hc : ∀ (x y : E) (σ : Store), pureV CC cf [val x, val y] σ = some (.p (.int .i64 (cmp x y))))
variable {r n lo : Nat} {σ : Store}
include hc in
theorem pi_L3 (hr : r < σ.length) (hlo : lo ≤ r) (hn : n ≤ 100000) {a b i c : Nat} (hb : b ≤ n) (hcc : c ≤ 1000) : ∀ (k j : Nat) (A : List E), k = b - j → 1 ≤ j → A.length = n →
    f131_L3 guardT lo (V r n) (N a) (N b) (.fn cf []) (N i) (N c) (N j) (W σ r A) = f131_L0 guardT lo (V r n) (N a) (N b) (.fn cf []) (N i) (N (c + 1)) (W σ r (insUp (ltc cmp) k j A))
  | 0, j, A, hk, hj, hA => by
    rw [f131_L3_eq guardT rfl, insUp]
    simp (disch := omega) only [V, N, b_lss, ltF, gG, f131_J1_eq, add1]
  | k + 1, j, A, hk, hj, hA => by
    have h3 : (A.set j (ge A (j - 1))).length = n := by rw [set_len]; exact hA
    rw [f131_L3_eq guardT rfl, insUp]
    by_cases h : cmp (ge A j) (ge A (j - 1)) < 0
    · rw [if_pos (show ltc cmp _ _ = true from decide_eq_true h), ← pi_L3 hr hlo hn hb hcc k (j + 1) (swp A j (j - 1)) (by omega) (by omega) (by rw [swp_len]; exact hA)]
      simp (disch := omega) only [V, N, b_lss, ltT, sub1, idxL, ldW, stW, pureFn_fn, List.append_nil, hc, gG, add1, swp]
    · rw [if_neg (show ¬ ltc cmp _ _ = true from fun e => h (of_decide_eq_true e))]
      simp (disch := omega) only [V, N, b_lss, ltT, ltF, sub1, idxL, ldW, stW, pureFn_fn, List.append_nil, hc, gG, f131_J1_eq, add1]
include hc in
theorem pi_J0 (hr : r < σ.length) (hlo : lo ≤ r) (hn : n ≤ 100000) {a b i c : Nat} (hb : b ≤ n) (hi : i ≤ b) (hcc : c ≤ 1000) (A : List E) (hA : A.length = n) (x11 x39 x40 x41 x42 x43 x44 x45 x46 x47 x48 x49 x50 x51 x52 x53 x54 x55 x56 x57 x58 x59 x60 x61 x62 x63 x64 x65 x66 x67 x68 x69 x70 x71 x72 x73 x74 x75 x76 x77 x78 x79 x80 x81 x82 x83 x84 x85 x86 x87 x88 x89 x90 x91 x92 x93 x94 x95 x96 x97 x98 x99 x100 : DV) :
    f131_J0 guardT lo (V r n) (N a) (N b) (.fn cf []) (N i) (N c) x11 x39 x40 x41 x42 x43 x44 x45 x46 x47 x48 x49 x50 x51 x52 x53 x54 x55 x56 x57 x58 x59 x60 x61 x62 x63 x64 x65 x66 x67 x68 x69 x70 x71 x72 x73 x74 x75 x76 x77 x78 x79 x80 x81 x82 x83 x84 x85 x86 x87 x88 x89 x90 x91 x92 x93 x94 x95 x96 x97 x98 x99 x100 (W σ r A) = f131_L0 guardT lo (V r n) (N a) (N b) (.fn cf []) (N i) (N (c + 1)) (W σ r (if 2 ≤ b - i then insUp (ltc cmp) (b - (i + 1)) (i + 1) A else A)) := by
  have h3 := pi_L3 hc hr hlo hn (a := a) (i := i) hb hcc (b - (i + 1)) (i + 1) A rfl (by omega) hA
  rw [f131_J0_eq guardT]
  by_cases h : 2 ≤ b - i
  · rw [if_pos h, ← h3]
    simp (disch := omega) only [V, N, subN, b_geq, geT, gG, add1]
  · rw [if_neg h]
    simp (disch := omega) only [V, N, subN, b_geq, geF, gG, add1, f131_J1_eq]
include hc in
theorem pi_L2 (hr : r < σ.length) (hlo : lo ≤ r) (hn : n ≤ 100000) {a b i c : Nat} (hb : b ≤ n) (hi : i ≤ b) (hcc : c ≤ 1000) : ∀ (j : Nat) (A : List E), j < n → A.length = n →
    f131_L2 guardT lo (V r n) (N a) (N b) (.fn cf []) (N i) (N c) (N j) (W σ r A) =
      f131_L0 guardT lo (V r n) (N a) (N b) (.fn cf []) (N i) (N (c + 1)) (W σ r (if 2 ≤ b - i then insUp (ltc cmp) (b - (i + 1)) (i + 1) (insIn (ltc cmp) 0 j A) else insIn (ltc cmp) 0 j A))
  | 0, A, hj, hA => by
    rw [f131_L2_eq guardT rfl, insIn]
    simp (disch := omega) only [V, N, b_geq, geF, gG]
    exact pi_J0 hc hr hlo hn hb hi hcc A hA _ _ _ _ _ _ _ _ _ _ _ _ _ _ _ _ _ _ _ _ _ _ _ _ _ _ _ _ _ _ _ _ _ _ _ _ _ _ _ _ _ _ _ _ _ _ _ _ _ _ _ _ _ _ _ _ _ _ _ _ _ _ _
  | j + 1, A, hj, hA => by
    have h3 : (A.set (j + 1) (ge A j)).length = n := by rw [set_len]; exact hA
    rw [f131_L2_eq guardT rfl]
    by_cases h : cmp (ge A (j + 1)) (ge A j) < 0
    · have e : insIn (ltc cmp) 0 (j + 1) A = insIn (ltc cmp) 0 j (swp A (j + 1) j) := by
        rw [insIn, if_pos ⟨by omega, decide_eq_true h⟩]
      rw [e, ← pi_L2 hr hlo hn hb hi hcc j (swp A (j + 1) j) (by omega) (by rw [swp_len]; exact hA)]
      simp (disch := omega) only [V, N, b_geq, geT, b_lss, ltT, sub1, Nat.add_sub_cancel, idxL, ldW, stW, pureFn_fn, List.append_nil, hc, gG, swp]
    · have e : insIn (ltc cmp) 0 (j + 1) A = A := by
        rw [insIn, if_neg (fun hh => h (of_decide_eq_true hh.2))]
      rw [e]
      simp (disch := omega) only [V, N, b_geq, geT, b_lss, ltF, sub1, Nat.add_sub_cancel, idxL, ldW, stW, pureFn_fn, List.append_nil, hc, gG]
      exact pi_J0 hc hr hlo hn hb hi hcc A hA _ _ _ _ _ _ _ _ _ _ _ _ _ _ _ _ _ _ _ _ _ _ _ _ _ _ _ _ _ _ _ _ _ _ _ _ _ _ _ _ _ _ _ _ _ _ _ _ _ _ _ _ _ _ _ _ _ _ _ _ _ _ _
def pA3 (cmp : E → E → Int) (a b i : Nat) (A : List E) : List E :=
  let A1 := swp A i (i - 1)
  let A2 := if 2 ≤ i - a then insIn (ltc cmp) 0 (i - 1) A1 else A1
  if 2 ≤ b - i then insUp (ltc cmp) (b - (i + 1)) (i + 1) A2 else A2
include hc in
theorem pi_L1 (hr : r < σ.length) (hlo : lo ≤ r) (hn : n ≤ 100000) {a b c : Nat} (hb : b ≤ n) (hcc : c ≤ 1000) {A : List E} (hA : A.length = n) : ∀ (k i : Nat), k = b - i → a + 1 ≤ i → i ≤ b →
    f131_L1 guardT lo (V r n) (N a) (N b) (.fn cf []) (N i) (N c) (W σ r A) =
      if scanI (ltc cmp) A b k i = b then some (.p (.bool true), W σ r A) else if b - a < 50 then some (.p (.bool false), W σ r A)
      else f131_L0 guardT lo (V r n) (N a) (N b) (.fn cf []) (N (scanI (ltc cmp) A b k i)) (N (c + 1)) (W σ r (pA3 cmp a b (scanI (ltc cmp) A b k i) A))
  | 0, i, hk, ha, hi => by
    rw [f131_L1_eq guardT rfl, scanI, if_pos (by omega)]
    simp (disch := omega) only [V, N, b_lss, ltF, b_eql, eqT, gG]
  | k + 1, i, hk, ha, hi => by
    rw [f131_L1_eq guardT rfl, scanI]
    by_cases h : cmp (ge A i) (ge A (i - 1)) < 0
    · rw [if_neg (show ¬ (i < b ∧ ltc cmp (ge A i) (ge A (i - 1)) = false) from fun hh => of_decide_eq_false hh.2 h), if_neg (by omega)]
      by_cases h5 : b - a < 50
      · rw [if_pos h5]
        simp (disch := omega) only [V, N, b_lss, ltT, sub1, subN, idxL, ldW, pureFn_fn, List.append_nil, hc, b_eql, eqF, gG]
      · rw [if_neg h5]
        have h3 : (A.set i (ge A (i - 1))).length = n := by rw [set_len]; exact hA
        by_cases h6 : 2 ≤ i - a
        · have e := pi_L2 hc hr hlo hn (a := a) hb (show i ≤ b from hi) hcc (i - 1) (swp A i (i - 1)) (by omega) (by rw [swp_len]; exact hA)
          have e2 : pA3 cmp a b i A = if 2 ≤ b - i then insUp (ltc cmp) (b - (i + 1)) (i + 1) (insIn (ltc cmp) 0 (i - 1) (swp A i (i - 1))) else insIn (ltc cmp) 0 (i - 1) (swp A i (i - 1)) := by
            simp only [pA3, if_pos h6]
          rw [e2, ← e]
          simp (disch := omega) only [V, N, b_lss, ltT, ltF, sub1, subN, idxL, ldW, stW, pureFn_fn, List.append_nil, hc, b_eql, eqF, b_geq, geT, gG, swp]
        · have e2 : pA3 cmp a b i A = if 2 ≤ b - i then insUp (ltc cmp) (b - (i + 1)) (i + 1) (swp A i (i - 1)) else swp A i (i - 1) := by
            simp only [pA3, if_neg h6]
          rw [e2]
          simp (disch := omega) only [V, N, b_lss, ltT, ltF, sub1, subN, idxL, ldW, stW, pureFn_fn, List.append_nil, hc, b_eql, eqF, b_geq, geF, gG]
          exact pi_J0 hc hr hlo hn (a := a) hb (show i ≤ b from hi) hcc (swp A i (i - 1)) (by rw [swp_len]; exact hA) _ _ _ _ _ _ _ _ _ _ _ _ _ _ _ _ _ _ _ _ _ _ _ _ _ _ _ _ _ _ _ _ _ _ _ _ _ _ _ _ _ _ _ _ _ _ _ _ _ _ _ _ _ _ _ _ _ _ _ _ _ _ _
    · rw [if_pos (show i < b ∧ ltc cmp (ge A i) (ge A (i - 1)) = false from ⟨by omega, decide_eq_false h⟩), ← pi_L1 hr hlo hn hb hcc hA k (i + 1) (by omega) (by omega) (by omega)]
      simp (disch := omega) only [V, N, b_lss, ltT, ltF, sub1, idxL, ldW, pureFn_fn, List.append_nil, hc, add1, gG]
theorem pA3_len (a b i : Nat) (A : List E) : (pA3 cmp a b i A).length = A.length := by
  unfold pA3
  simp only
  split <;> split <;> simp only [insUp_len, insIn_len, swp_len]
include hc in
theorem pi_L0 (hr : r < σ.length) (hlo : lo ≤ r) (hn : n ≤ 100000) {a b : Nat} (hb : b ≤ n) (hab : a < b) : ∀ (s i : Nat) (A : List E), s ≤ 5 → a + 1 ≤ i → i ≤ b → A.length = n →
    f131_L0 guardT lo (V r n) (N a) (N b) (.fn cf []) (N i) (N (5 - s)) (W σ r A) = some (.p (.bool (pins (ltc cmp) a b s i A).1), W σ r (pins (ltc cmp) a b s i A).2)
  | 0, i, A, hs, ha, hi, hA => by
    rw [f131_L0_eq guardT rfl, pins]
    simp (disch := omega) only [V, N, b_lss, ltF, gG]
  | s + 1, i, A, hs, ha, hi, hA => by
    have h1 := pi_L1 hc hr hlo hn (c := 5 - (s + 1)) hb (by omega) hA (b - i) i rfl ha hi
    have hle : i ≤ scanI (ltc cmp) A b (b - i) i ∧ scanI (ltc cmp) A b (b - i) i ≤ b := scan_le (b - i) i rfl hi
    rw [f131_L0_eq guardT rfl, pins]
    have e : f131_L1 guardT lo (V r n) (N a) (N b) (.fn cf []) (N i) (N (5 - (s + 1))) (W σ r A) = _ := h1
    have e5 : decide (((5 - (s + 1) : Nat) : Int) < 5) = true := decide_eq_true (by omega)
    simp only [b_lss, e5, gG, e]
    generalize scanI (ltc cmp) A b (b - i) i = i' at *
    split
    · rfl
    · split
      · rfl
      · have ih := pi_L0 hr hlo hn hb hab s i' (pA3 cmp a b i' A) (by omega) (by omega) (by omega) (by rw [pA3_len]; exact hA)
        rw [show 5 - (s + 1) + 1 = 5 - s by omega]
        exact ih
where
  scan_le {A : List E} {b : Nat} : ∀ (k i : Nat), k = b - i → i ≤ b → i ≤ scanI (ltc cmp) A b k i ∧ scanI (ltc cmp) A b k i ≤ b
  | 0, i, hk, hi => ⟨Nat.le_refl _, hi⟩
  | k + 1, i, hk, hi => by
    unfold scanI
    split
    · have := scan_le (A := A) (b := b) k (i + 1) (by omega) (by omega)
      exact ⟨by omega, this.2⟩
    · exact ⟨Nat.le_refl _, hi⟩
include hc in
theorem pi_ok (hr : r < σ.length) (hlo : lo ≤ r) (hn : n ≤ 100000) {a b : Nat} (hb : b ≤ n) (hab : a < b) (A : List E) (hA : A.length = n) :
    CC lo 131 [V r n, N a, N b, .fn cf []] (W σ r A) = some (.p (.bool (pins (ltc cmp) a b 5 (a + 1) A).1), W σ r (pins (ltc cmp) a b 5 (a + 1) A).2) := by
  refine F131_call ?_
  rw [F131_eq]
  simp (disch := omega) only [N, add1, gG]
  exact pi_L0 hc hr hlo hn hb hab 5 (a + 1) A (by omega) (by omega) (by omega) hA
end
end Go.D.StS
end
/- Reversing, and the choice of a pivot, over elements of type 102. -/
section
set_option linter.unusedVariables false
set_option linter.unusedSimpArgs false
namespace Go.D.StS
open Go.D.Srt
section
variable {cf : FuncId} {cmp : E → E → Int} (hc : ∀ (x y : E) (σ : Store), pureV CC cf [val x, val y] σ = some (.p (.int .i64 (cmp x y))))
variable {r n lo : Nat} {σ : Store}
theorem rv_L0 (hr : r < σ.length) (hlo : lo ≤ r) (hn : n ≤ 100000) {a b : Nat} (hb : b ≤ n) : ∀ (k i j : Nat) (A : List E), j - i ≤ k → a ≤ i → j < b → A.length = n →
    ∃ B, RP a b A B ∧ f130_L0 guardT lo (V r n) (N i) (N j) (W σ r A) = some (.tuple [], W σ r B)
  | 0, i, j, A, hk, ha, hj, hA => by
    refine ⟨A, RP.refl _ _ _, ?_⟩
    rw [f130_L0_eq guardT rfl]
    simp (disch := omega) only [V, N, b_lss, ltF, gG]
  | k + 1, i, j, A, hk, ha, hj, hA => by
    by_cases h : i < j
    · obtain ⟨B, h1, h2⟩ := rv_L0 hr hlo hn (a := a) hb k (i + 1) (j - 1) (swp A i j) (by omega) (by omega) (by omega) (by rw [swp_len]; exact hA)
      refine ⟨B, (RP.swap (a := a) (b := b) (i := i) (j := j) ⟨ha, by omega⟩ ⟨by omega, hj⟩ (by omega)).trans h1, ?_⟩
      have h3 : (A.set i (ge A j)).length = n := by rw [set_len]; exact hA
      rw [f130_L0_eq guardT rfl, ← h2]
      simp (disch := omega) only [V, N, b_lss, ltT, idxL, ldW, stW, add1, sub1, gG, swp]
    · refine ⟨A, RP.refl _ _ _, ?_⟩
      rw [f130_L0_eq guardT rfl]
      simp (disch := omega) only [V, N, b_lss, ltF, gG]
theorem rv_ok (hr : r < σ.length) (hlo : lo ≤ r) (hn : n ≤ 100000) {a b : Nat} (hab : a < b) (hb : b ≤ n) (A : List E) (hA : A.length = n) (y : DV) :
    ∃ B, RP a b A B ∧ CC lo 130 [V r n, N a, N b, y] (W σ r A) = some (.tuple [], W σ r B) := by
  obtain ⟨B, h1, h2⟩ := rv_L0 hr hlo hn (a := a) hb (b - 1 - a) a (b - 1) A (Nat.le_refl _) (Nat.le_refl _) (by omega) hA
  refine ⟨B, h1, F130_call ?_⟩
  rw [F130_eq]
  simp (disch := omega) only [N, sub1, gG]
  exact h2
def Q (σ : Store) (r : Nat) (A : List E) (k : Int) : Store := W (σ ++ [Row.mix [.p (.int .i64 k)]]) r A
theorem Q_load (hr : r < σ.length) (A : List E) (k : Int) : load PP 3 (.ptr σ.length 0) (Q σ r A k) = some (.p (.int .i64 k)) := by
  rw [load3, load1_ptr (off := 0) (cs := [.p (.int .i64 k)]) ?_ rfl]
  exact get_set_ne get_snoc (by omega)
theorem s3i : size? PP 3 = some 1 := Eq.trans (by kernel_rfl) rfl
theorem Q_store (hr : r < σ.length) (hlo : lo ≤ r) (A : List E) (k k' : Int) : store PP lo 3 (.ptr σ.length 0) (.p (.int .i64 k')) (Q σ r A k) = some (Q σ r A k') := by
  have h1 : (Q σ r A k)[σ.length]? = some (.mix [.p (.int .i64 k)]) := get_set_ne get_snoc (by omega)
  have h2 : lo ≤ σ.length := by omega
  have h3 : (Q σ r A k).set σ.length (.mix [.p (.int .i64 k')]) = Q σ r A k' := by
    unfold Q
    rw [W, List.set_comm _ _ (by omega), List.set_append_right _ _ (Nat.le_refl _), Nat.sub_self]
    rfl
  simp only [store, s3i, DV.cells, List.length_singleton, if_true, storeN, h2, h1]
  rw [← h3]
  rfl
include hc in
theorem o2_ok (hr : r < σ.length) (hlo : lo ≤ r) {i j : Nat} (hi : i < n) (hj : j < n) {A : List E} (hA : A.length = n) (k : Int) :
    ∃ i' j' k', CC lo 162 [V r n, N i, N j, .ptr σ.length 0, .fn cf []] (Q σ r A k) = some (.tuple [N i', N j'], Q σ r A k') ∧ ((i' = i ∧ j' = j) ∨ (i' = j ∧ j' = i)) := by
  have hr' : r < (σ ++ [Row.mix [.p (.int .i64 k)]]).length := by simp; omega
  by_cases h : cmp (ge A j) (ge A i) < 0
  · refine ⟨j, i, IntKind.wrap .i64 (k + 1), F162_call ?_, .inr ⟨rfl, rfl⟩⟩
    rw [F162_eq]
    have e1 := Q_load hr A k
    have e2 := Q_store hr hlo A k (IntKind.wrap .i64 (k + 1))
    have e3 : ∀ s off, nilCheckV (.ptr s off) = some (.ptr s off) := fun _ _ => rfl
    have e4 : ∀ i, i < A.length → load PP 102 (.ptr r (i * 2)) (Q σ r A k) = some (val (ge A i)) := fun i hi => ldW hr' hi
    simp (disch := omega) only [V, N, idxL, e4, pureFn_fn, List.append_nil, hc, b_lss, ltT, gG, e3, e1, b_add, e2]
  · refine ⟨i, j, k, F162_call ?_, .inl ⟨rfl, rfl⟩⟩
    rw [F162_eq]
    have e4 : ∀ i, i < A.length → load PP 102 (.ptr r (i * 2)) (Q σ r A k) = some (val (ge A i)) := fun i hi => ldW hr' hi
    simp (disch := omega) only [V, N, idxL, e4, pureFn_fn, List.append_nil, hc, b_lss, ltF, gG]
theorem ex2_0 (x y : DV) : extractV (.tuple [x, y]) 0 = some x := rfl
theorem ex2_1 (x y : DV) : extractV (.tuple [x, y]) 1 = some y := rfl
include hc in
theorem me_ok (hr : r < σ.length) (hlo : lo ≤ r) {i j l : Nat} (hi : i < n) (hj : j < n) (hl : l < n) {A : List E} (hA : A.length = n) (k : Int) :
    ∃ m k', CC lo 150 [V r n, N i, N j, N l, .ptr σ.length 0, .fn cf []] (Q σ r A k) = some (N m, Q σ r A k') ∧ (m = i ∨ m = j ∨ m = l) := by
  obtain ⟨i1, j1, k1, e1, h1⟩ := o2_ok hc hr hlo hi hj hA k
  obtain ⟨i2, j2, k2, e2, h2⟩ := o2_ok hc hr hlo (i := j1) (j := l) (by omega) hl hA k1
  obtain ⟨i3, j3, k3, e3, h3⟩ := o2_ok hc hr hlo (i := i1) (j := i2) (by omega) (by omega) hA k2
  refine ⟨j3, k3, F150_call ?_, by omega⟩
  rw [F150_eq]
  simp only [plainFn_fn, List.append_nil, e1, e2, e3, gG, ex2_0, ex2_1]
include hc in
theorem ma_ok (hr : r < σ.length) (hlo : lo ≤ r) (hn : n ≤ 100000) {i : Nat} (h0 : 1 ≤ i) (hi : i + 1 < n) {A : List E} (hA : A.length = n) (k : Int) :
    ∃ m k', CC lo 149 [V r n, N i, .ptr σ.length 0, .fn cf []] (Q σ r A k) = some (N m, Q σ r A k') ∧ i - 1 ≤ m ∧ m ≤ i + 1 := by
  obtain ⟨m, k1, e1, h1⟩ := me_ok hc hr hlo (i := i - 1) (j := i) (l := i + 1) (by omega) (by omega) hi hA k
  refine ⟨m, k1, F149_call ?_, by omega⟩
  rw [F149_eq]
  simp only [N] at e1
  simp (disch := omega) only [N, sub1, add1, plainFn_fn, List.append_nil, e1, gG]
theorem cp_J1 (hr : r < σ.length) (A : List E) (k : Int) (p : Nat) (x0 x1 x2 x3 x8 x9 x10 x12 x14 x15 x16 x17 x18 x19 x20 x21 x22 x23 x24 x25 x26 x27 x28 x29 x30 x31 x32 x33 x34 x35 x36 x37 x38 x39 x40 x41 x42 x43 x44 x45 x46 x47 x48 x49 x50 x51 x52 x53 x54 : DV) :
    ∃ h : Int, f129_J1 guardT lo x0 x1 x2 x3 x8 x9 x10 (.ptr σ.length 0) x12 (N p) x14 x15 x16 x17 x18 x19 x20 x21 x22 x23 x24 x25 x26 x27 x28 x29 x30 x31 x32 x33 x34 x35 x36 x37 x38 x39 x40 x41 x42 x43 x44 x45 x46 x47 x48 x49 x50 x51 x52 x53 x54 (Q σ r A k) = some (.tuple [N p, .p (.int .i64 h)], Q σ r A k) := by
  rw [f129_J1_eq guardT]
  simp only [Q_load hr, b_eql, gG]
  by_cases h1 : k = 0
  · exact ⟨1, by simp only [eqT h1, gG]⟩
  · by_cases h2 : k = 12
    · exact ⟨2, by simp only [eqF h1, eqT h2, gG]⟩
    · exact ⟨0, by simp only [eqF h1, eqF h2, gG]⟩
include hc in
theorem cp_J0 (hr : r < σ.length) (hlo : lo ≤ r) {i j l : Nat} (hi : i < n) (hj : j < n) (hl : l < n) {A : List E} (hA : A.length = n) (k : Int) (x1 x2 x8 x9 x10 x15 x16 x17 x18 x19 x20 x21 x22 x23 x24 x25 x26 x27 x28 x29 x30 x31 x32 x33 x34 x35 x36 x37 x38 x39 x40 x41 x42 x43 x44 x45 x46 x47 x48 : DV) :
    ∃ m h k', f129_J0 guardT lo (V r n) x1 x2 (.fn cf []) x8 x9 x10 (.ptr σ.length 0) (N i) (N j) (N l) x15 x16 x17 x18 x19 x20 x21 x22 x23 x24 x25 x26 x27 x28 x29 x30 x31 x32 x33 x34 x35 x36 x37 x38 x39 x40 x41 x42 x43 x44 x45 x46 x47 x48 (Q σ r A k) = some (.tuple [N m, .p (.int .i64 h)], Q σ r A k') ∧ (m = i ∨ m = j ∨ m = l) := by
  obtain ⟨m, k', e1, h1⟩ := me_ok hc hr hlo hi hj hl hA k
  rw [f129_J0_eq guardT]
  simp only [plainFn_fn, List.append_nil, e1, gG]
  obtain ⟨h, e2⟩ := cp_J1 (lo := lo) hr A k' m _ _ _ _ _ _ _ _ _ _ _ _ _ _ _ _ _ _ _ _ _ _ _ _ _ _ _ _ _ _ _ _ _ _ _ _ _ _ _ _ _ _ _ _ _ _ _ _ _
  exact ⟨m, h, k', e2, h1⟩
theorem quo4 {l : Nat} (h : l ≤ 1000000) : binOp PP .quo 3 (.p (.int .i64 (l : Nat))) (.p (.int .i64 4)) = some (.p (.int .i64 ((l / 4 : Nat) : Int))) := by
  have e3 : ((l : Nat) : Int).tdiv 4 = ((l / 4 : Nat) : Int) := by rw [Int.tdiv_eq_ediv_of_nonneg (by omega)]; omega
  have e4 : binOp PP .quo 3 (.p (.int .i64 ((l : Nat) : Int))) (.p (.int .i64 4)) = some (.p (.int .i64 (IntKind.wrap .i64 (((l : Nat) : Int).tdiv 4)))) := Eq.trans rfl rfl
  rw [e4, e3, wrap_ok (by omega) (by omega)]
theorem mulC {a c : Nat} (h : a ≤ 1000000) (hc : c ≤ 3) : binOp PP .mul 3 (.p (.int .i64 (a : Nat))) (.p (.int .i64 (c : Nat))) = some (.p (.int .i64 ((a * c : Nat) : Int))) := by
  have : a * c ≤ 1000000 * 3 := Nat.mul_le_mul h hc
  rw [b_mul, wrap_ok (by have := Int.natCast_nonneg (a * c); rw [Int.natCast_mul] at this; omega) (by rw [← Int.natCast_mul]; omega)]
  rfl
theorem mul1 {a : Nat} (h : a ≤ 1000000) : binOp PP .mul 3 (.p (.int .i64 (a : Nat))) (.p (.int .i64 1)) = some (.p (.int .i64 ((a : Nat) : Int))) := (mulC (c := 1) h (by omega)).trans (by rw [Nat.mul_one])
theorem mulB {a : Nat} (h : a ≤ 1000000) : binOp PP .mul 3 (.p (.int .i64 (a : Nat))) (.p (.int .i64 2)) = some (.p (.int .i64 ((a * 2 : Nat) : Int))) := mulC (c := 2) h (by omega)
theorem mulD {a : Nat} (h : a ≤ 1000000) : binOp PP .mul 3 (.p (.int .i64 (a : Nat))) (.p (.int .i64 3)) = some (.p (.int .i64 ((a * 3 : Nat) : Int))) := mulC (c := 3) h (by omega)
theorem z3 : zeroOf PP 3 = some [.p (.int .i64 0)] := Eq.trans (by kernel_rfl) rfl
include hc in
theorem cp_ok (hr : r < σ.length) (hlo : lo ≤ r) (hn : n ≤ 100000) {a b : Nat} (hab : a + 12 < b) (hb : b ≤ n) {A : List E} (hA : A.length = n) :
    ∃ p h k', CC lo 129 [V r n, N a, N b, .fn cf []] (W σ r A) = some (.tuple [N p, .p (.int .i64 h)], Q σ r A k') ∧ a ≤ p ∧ p < b := by
  have hw : (W σ r A) ++ [Row.mix [.p (.int .i64 0)]] = Q σ r A 0 := W_snoc hr A _
  have hl : List.length (W σ r A) = σ.length := W_len _ _ _
  by_cases h50 : b - a < 50
  · obtain ⟨m, h, k', e1, h1⟩ := cp_J0 (lo := lo) hc hr hlo (i := a + (b - a) / 4) (j := a + (b - a) / 4 * 2) (l := a + (b - a) / 4 * 3) (by omega) (by omega) (by omega) hA 0 _ _ _ _ _ _ _ _ _ _ _ _ _ _ _ _ _ _ _ _ _ _ _ _ _ _ _ _ _ _ _ _ _ _ _ _ _ _ _
    refine ⟨m, h, k', F129_call ?_, by omega, by omega⟩
    rw [F129_eq]
    simp (disch := omega) only [V, N, subN, z3, quo4, mul1, mulB, mulD, addN, b_geq, geT, geF, gG, hw, hl]
    exact e1
  · obtain ⟨m1, k1, f1, g1⟩ := ma_ok hc hr hlo hn (i := a + (b - a) / 4) (by omega) (by omega) hA 0
    obtain ⟨m2, k2, f2, g2⟩ := ma_ok hc hr hlo hn (i := a + (b - a) / 4 * 2) (by omega) (by omega) hA k1
    obtain ⟨m3, k3, f3, g3⟩ := ma_ok hc hr hlo hn (i := a + (b - a) / 4 * 3) (by omega) (by omega) hA k2
    obtain ⟨m, h, k', e1, h1⟩ := cp_J0 (lo := lo) hc hr hlo (i := m1) (j := m2) (l := m3) (by omega) (by omega) (by omega) hA k3 _ _ _ _ _ _ _ _ _ _ _ _ _ _ _ _ _ _ _ _ _ _ _ _ _ _ _ _ _ _ _ _ _ _ _ _ _ _ _
    refine ⟨m, h, k', F129_call ?_, by omega, by omega⟩
    rw [F129_eq]
    simp only [V, N] at f1 f2 f3
    simp (disch := omega) only [V, N, subN, z3, quo4, mul1, mulB, mulD, addN, b_geq, geT, gG, hw, hl, plainFn_fn, List.append_nil]
    rw [f1]
    simp only [gG]
    rw [f2]
    simp only [gG]
    rw [f3]
    simp only [gG]
    exact e1
end
end Go.D.StS
end
/- The length of numbers in bits, the library's small random numbers, and the breaking of patterns. -/
section
set_option linter.unusedVariables false
set_option linter.unusedSimpArgs false
namespace Go.D.StS
open Go.D.Srt
theorem tab_ok : (List.range 256).all (fun m => match xstr0[m]? with | some b => decide (2 ^ b.toNat ≤ 2 * max m 1) && decide (b.toNat ≤ 8) | none => false) = true := by decide +kernel
theorem tab_at {m : Nat} (h : m < 256) : ∃ b, xstr0[m]? = some b ∧ 2 ^ b.toNat ≤ 2 * max m 1 ∧ b.toNat ≤ 8 := by
  have h1 := List.all_eq_true.1 tab_ok m (List.mem_range.2 h)
  cases e : xstr0[m]? with
  | none => rw [e] at h1; simp at h1
  | some b =>
    rw [e] at h1
    simp only [Bool.and_eq_true, decide_eq_true_eq] at h1
    exact ⟨b, rfl, h1⟩
theorem wrapU {x : Int} (h0 : 0 ≤ x) (h1 : x < 18446744073709551616) : IntKind.wrap .u64 x = x := by
  simp [IntKind.wrap, IntKind.signed, IntKind.bits]
  omega
theorem wrapB {x : Int} (h0 : 0 ≤ x) (h1 : x < 256) : IntKind.wrap .u8 x = x := by
  simp [IntKind.wrap, IntKind.signed, IntKind.bits]
  omega
abbrev U (i : Nat) : DV := .p (.int .u64 (i : Int))
theorem geqU (t : TypeId) (a b : Int) : binOp PP .geq t (.p (.int .u64 a)) (.p (.int .u64 b)) = some (.p (.bool (decide (a ≥ b)))) := Eq.trans rfl rfl
theorem shr16 (t : TypeId) (n : Nat) : binOp PP .shr t (.p (.int .u64 (n : Int))) (.p (.int .u64 16)) = some (.p (.int .u64 ((n / 65536 : Nat) : Int))) := by
  have e : binOp PP .shr t (.p (.int .u64 (n : Int))) (.p (.int .u64 16)) = some (.p (.int .u64 ((n : Int).fdiv (2 ^ 16)))) := Eq.trans rfl rfl
  rw [e, Int.fdiv_eq_ediv_of_nonneg _ (by decide)]
  congr 3
theorem shr8 (t : TypeId) (n : Nat) : binOp PP .shr t (.p (.int .u64 (n : Int))) (.p (.int .u64 8)) = some (.p (.int .u64 ((n / 256 : Nat) : Int))) := by
  have e : binOp PP .shr t (.p (.int .u64 (n : Int))) (.p (.int .u64 8)) = some (.p (.int .u64 ((n : Int).fdiv (2 ^ 8)))) := Eq.trans rfl rfl
  rw [e, Int.fdiv_eq_ediv_of_nonneg _ (by decide)]
  congr 3
theorem cv_ub {m : Nat} (h : m < 256) : convert PP 178 5 (.p (.int .u64 (m : Int))) = some (.p (.int .u8 (m : Int))) := by
  have e : convert PP 178 5 (.p (.int .u64 (m : Int))) = some (.p (.int .u8 (IntKind.wrap .u8 m))) := Eq.trans (by kernel_rfl) rfl
  rw [e, wrapB (by omega) (by omega)]
theorem cv_bi {m : Nat} (h : m < 256) : convert PP 5 3 (.p (.int .u8 (m : Int))) = some (.p (.int .i64 (m : Int))) := by
  have e : convert PP 5 3 (.p (.int .u8 (m : Int))) = some (.p (.int .i64 (IntKind.wrap .i64 m))) := Eq.trans (by kernel_rfl) rfl
  rw [e, wrap_ok (by omega) (by omega)]
theorem cv_iu {m : Nat} (h : m ≤ 1000000) : convert PP 3 165 (.p (.int .i64 (m : Int))) = some (.p (.int .u64 (m : Int))) := by
  have e : convert PP 3 165 (.p (.int .i64 (m : Int))) = some (.p (.int .u64 (IntKind.wrap .u64 m))) := Eq.trans (by kernel_rfl) rfl
  rw [e, wrapU (by omega) (by omega)]
theorem cv_ix {m : Nat} (h : m ≤ 1000000) : convert PP 3 185 (.p (.int .i64 (m : Int))) = some (.p (.int .u64 (m : Int))) := by
  have e : convert PP 3 185 (.p (.int .i64 (m : Int))) = some (.p (.int .u64 (IntKind.wrap .u64 m))) := Eq.trans (by kernel_rfl) rfl
  rw [e, wrapU (by omega) (by omega)]
theorem cv_ui {m : Nat} (h : m ≤ 1000000) : convert PP 165 3 (.p (.int .u64 (m : Int))) = some (.p (.int .i64 (m : Int))) := by
  have e : convert PP 165 3 (.p (.int .u64 (m : Int))) = some (.p (.int .i64 (IntKind.wrap .i64 m))) := Eq.trans (by kernel_rfl) rfl
  rw [e, wrap_ok (by omega) (by omega)]
theorem uTS : PP.underlying 9 = some .string := Eq.trans (by kernel_rfl) rfl
theorem idx_tab {m : Nat} {b : UInt8} (h : xstr0[m]? = some b) : index PP 9 (.p (.str xstr0)) (.p (.int .u8 (m : Int))) = some (.p (.int .u8 b.toNat)) := by
  have h0 : (0 : Int) ≤ (m : Int) := by omega
  simp only [index, uTS, h0, if_true, Int.toNat_natCast, h]
theorem L64_J2 {m c : Nat} (hm : m < 256) (hc : c ≤ 100) (x3 x4 x5 x6 x7 x8 x9 x10 x11 x12 x13 x14 x15 x16 x17 x18 : DV) (σ : Store) : ∃ b : Nat, f135_J2 guardT 0 (U m) (N c) x3 x4 x5 x6 x7 x8 x9 x10 x11 x12 x13 x14 x15 x16 x17 x18 σ = some (N (c + b), σ) ∧ 2 ^ b ≤ 2 * max m 1 ∧ b ≤ 8 := by
  obtain ⟨b, h1, h2, h3⟩ := tab_at hm
  refine ⟨b.toNat, ?_, h2, h3⟩
  rw [f135_J2_eq guardT]
  simp (disch := omega) only [U, N, cv_ub hm, idx_tab h1, gG]
  rw [cv_bi (by omega)]
  simp (disch := omega) only [addN, gG]
theorem L64_run {n : Nat} (hn : n ≤ 1000000) : ∃ b : Nat, F135 guardT 0 (U n) [] = some (N b, []) ∧ 2 ^ b ≤ 2 * max n 1 ∧ b ≤ 24 := by
  rw [F135_eq]
  have h0 : ¬ ((n : Int) ≥ 4294967296) := by omega
  have a8 : binOp PP .add 3 (.p (.int .i64 0)) (.p (.int .i64 8)) = some (N 8) := by rw [b_add]; rfl
  have a16 : binOp PP .add 3 (.p (.int .i64 0)) (.p (.int .i64 16)) = some (N 16) := by rw [b_add]; rfl
  by_cases h1 : n < 256
  · obtain ⟨b, e, h2, h3⟩ := L64_J2 (c := 0) h1 (by omega) _ _ _ _ _ _ _ _ _ _ _ _ _ _ _ _ []
    refine ⟨b, ?_, h2, by omega⟩
    simp (disch := omega) only [U, N, geqU, geF, gG, f135_J0_eq, f135_J1_eq]
    rw [Nat.zero_add] at e
    exact e
  · by_cases h4 : n < 65536
    · obtain ⟨b, e, h2, h3⟩ := L64_J2 (m := n / 256) (c := 8) (by omega) (by omega) _ _ _ _ _ _ _ _ _ _ _ _ _ _ _ _ []
      refine ⟨8 + b, ?_, ?_, by omega⟩
      · simp (disch := omega) only [U, N, geqU, geF, geT, gG, f135_J0_eq, f135_J1_eq, shr8, a8]
        exact e
      · rw [Nat.pow_add]; omega
    · obtain ⟨b, e, h2, h3⟩ := L64_J2 (m := n / 65536) (c := 16) (by omega) (by omega) _ _ _ _ _ _ _ _ _ _ _ _ _ _ _ _ []
      refine ⟨16 + b, ?_, ?_, by omega⟩
      · simp (disch := omega) only [U, N, geqU, geF, geT, gG, f135_J0_eq, f135_J1_eq, shr16, a16]
        exact e
      · rw [Nat.pow_add]; omega
theorem bl_ok {n : Nat} (hn : n ≤ 1000000) : ∃ b : Nat, (∀ σ, pureV CC 122 [U n] σ = some (N b)) ∧ 2 ^ b ≤ 2 * max n 1 ∧ b ≤ 24 := by
  obtain ⟨b, e, h2, h3⟩ := L64_run hn
  refine ⟨b, fun σ => ?_, h2, h3⟩
  have h1 : ∀ σ, pureV CC 135 [U n] σ = some (N b) := fun σ => pureV_free rfl rfl (F135_call e) rfl
  refine pureV_free rfl rfl (F122_call (r := (N b, [])) ?_) rfl
  rw [F122_eq]
  simp only [U, N] at h1
  simp only [U, N, gG, pureFn_fn, List.append_nil, h1]
theorem np_ok {n : Nat} (hn : n ≤ 1000000) : ∃ m : Nat, (∀ σ, pureV CC 147 [N n] σ = some (U m)) ∧ m ≤ 2 * max n 1 ∧ 1 ≤ m := by
  obtain ⟨b, e, h2, h3⟩ := bl_ok hn
  have hb : 2 ^ b ≤ 2 ^ 24 := Nat.pow_le_pow_right (by decide) h3
  refine ⟨2 ^ b, fun σ => pureV_free rfl rfl (F147_call (r := (U (2 ^ b), [])) ?_) rfl, h2, Nat.pos_of_ne_zero (by simp)⟩
  have e1 : binOp PP .shl 165 (.p (.int .u64 1)) (.p (.int .i64 (b : Nat))) = some (.p (.int .u64 ((2 ^ b : Nat) : Int))) := by
    have e2 : binOp PP .shl 165 (.p (.int .u64 1)) (.p (.int .i64 (b : Nat))) = some (.p (.int .u64 (IntKind.wrap .u64 (1 * 2 ^ (min b 64))))) := by
      have h0 : ¬ ((b : Nat) : Int) < 0 := by omega
      have e5 : IntKind.bits .u64 = 64 := rfl
      simp only [binOp, binShift, h0, if_false, Int.toNat_natCast, Option.map_some, e5]
    have e3 : (1 : Int) * 2 ^ (min b 64) = ((2 ^ b : Nat) : Int) := by rw [Nat.min_eq_left (by omega)]; simp
    have e6 : ((2 ^ b : Nat) : Int) < 18446744073709551616 := by omega
    rw [e2, e3, wrapU (Int.natCast_nonneg _) e6]
  simp only [U] at e
  rw [F147_eq]
  simp (disch := omega) only [U, N, cv_iu, gG, pureFn_fn, List.append_nil, e, e1]
def QU (σ : Store) (r : Nat) (A : List E) (k : Int) : Store := W (σ ++ [Row.mix [.p (.int .u64 k)]]) r A
section
variable {r n lo : Nat} {σ : Store}
theorem QU_load (hr : r < σ.length) (A : List E) (k : Int) : load PP 185 (.ptr σ.length 0) (QU σ r A k) = some (.p (.int .u64 k)) := by
  have e : ∀ x σ, load PP 185 x σ = load1 x σ := fun x σ => Eq.trans (by kernel_rfl) rfl
  rw [e, load1_ptr (off := 0) (cs := [.p (.int .u64 k)]) ?_ rfl]
  exact get_set_ne get_snoc (by omega)
theorem sX : size? PP 185 = some 1 := Eq.trans (by kernel_rfl) rfl
theorem QU_store (hr : r < σ.length) (hlo : lo ≤ r) (A : List E) (k k' : Int) : store PP lo 185 (.ptr σ.length 0) (.p (.int .u64 k')) (QU σ r A k) = some (QU σ r A k') := by
  have h1 : (QU σ r A k)[σ.length]? = some (.mix [.p (.int .u64 k)]) := get_set_ne get_snoc (by omega)
  have h2 : lo ≤ σ.length := by omega
  have h3 : (QU σ r A k).set σ.length (.mix [.p (.int .u64 k')]) = QU σ r A k' := by
    unfold QU
    rw [W, List.set_comm _ _ (by omega), List.set_append_right _ _ (Nat.le_refl _), Nat.sub_self]
    rfl
  simp only [store, sX, DV.cells, List.length_singleton, if_true, storeN, h2, h1]
  rw [← h3]
  rfl
theorem shlX (t : TypeId) (a : Int) : ∃ v, binOp PP .shl t (.p (.int .u64 a)) (.p (.int .u64 13)) = some (.p (.int .u64 v)) := ⟨_, Eq.trans rfl rfl⟩
theorem shrX (t : TypeId) (a : Int) : ∃ v, binOp PP .shr t (.p (.int .u64 a)) (.p (.int .u64 7)) = some (.p (.int .u64 v)) := ⟨_, Eq.trans rfl rfl⟩
theorem shlY (t : TypeId) (a : Int) : ∃ v, binOp PP .shl t (.p (.int .u64 a)) (.p (.int .u64 17)) = some (.p (.int .u64 v)) := ⟨_, Eq.trans rfl rfl⟩
theorem xorX (t : TypeId) (a b : Int) : ∃ v, binOp PP .xor t (.p (.int .u64 a)) (.p (.int .u64 b)) = some (.p (.int .u64 v)) := ⟨_, Eq.trans rfl rfl⟩
theorem andX (t : TypeId) (a : Int) {b : Nat} (hb : b < 18446744073709551616) : ∃ m : Nat, binOp PP .and t (.p (.int .u64 a)) (.p (.int .u64 (b : Int))) = some (.p (.int .u64 (m : Int))) ∧ m ≤ b := by
  have e : binOp PP .and t (.p (.int .u64 a)) (.p (.int .u64 (b : Int))) = some (.p (.int .u64 (IntKind.wrap .u64 (BitVec.ofInt 64 a &&& BitVec.ofInt 64 (b : Int)).toNat))) := Eq.trans rfl rfl
  have h : (BitVec.ofInt 64 a &&& BitVec.ofInt 64 (b : Int)).toNat ≤ b := by
    rw [BitVec.toNat_and]
    refine Nat.le_trans Nat.and_le_right ?_
    rw [BitVec.toNat_ofInt]
    omega
  exact ⟨_, by rw [e, wrapU (by omega) (by omega)], h⟩
theorem nx_ok (hr : r < σ.length) (hlo : lo ≤ r) (A : List E) (k : Int) : ∃ k', CC lo 148 [.ptr σ.length 0] (QU σ r A k) = some (.p (.int .u64 k'), QU σ r A k') := by
  obtain ⟨v1, h1⟩ := shlX 185 k
  obtain ⟨v2, h2⟩ := xorX 185 k v1
  obtain ⟨v3, h3⟩ := shrX 185 v2
  obtain ⟨v4, h4⟩ := xorX 185 v2 v3
  obtain ⟨v5, h5⟩ := shlY 185 v4
  obtain ⟨v6, h6⟩ := xorX 185 v4 v5
  refine ⟨v6, F148_call ?_⟩
  have e3 : ∀ s off, nilCheckV (.ptr s off) = some (.ptr s off) := fun _ _ => rfl
  rw [F148_eq]
  simp only [e3, gG, QU_load hr, h1, h2, h3, h4, h5, h6, QU_store hr hlo]
theorem bp_J0 (hr : r < σ.length) (hlo : lo ≤ r) (hn : n ≤ 100000) {a idx o : Nat} (h1 : idx < n) (h2 : a + o < n) {A : List E} (hA : A.length = n) (k : Int) (x8 x9 x10 x28 x29 x30 x31 x32 x33 x34 x35 x38 x39 x40 x41 x42 x43 x44 x45 x46 x47 x48 : DV) :
    f128_J0 guardT lo (V r n) (N a) x8 x9 x10 (N idx) (N o) x28 x29 x30 x31 x32 x33 x34 x35 x38 x39 x40 x41 x42 x43 x44 x45 x46 x47 x48 (QU σ r A k) = f128_L0 guardT lo (V r n) (N a) x8 x9 x10 (N (idx + 1)) (QU σ r (swp A idx (a + o)) k) := by
  have hr' : r < (σ ++ [Row.mix [.p (.int .u64 k)]]).length := by simp; omega
  have h3 : (A.set idx (ge A (a + o))).length = n := by rw [set_len]; exact hA
  rw [f128_J0_eq guardT]
  simp (disch := omega) only [V, N, QU, addN, idxL, ldW, stW, add1, gG, swp]
theorem bp_L0 (hr : r < σ.length) (hlo : lo ≤ r) (hn : n ≤ 100000) {a b m : Nat} (hab : a + 12 < b) (hb : b ≤ n) (hm : m ≤ 2 * (b - a)) (hm1 : 1 ≤ m) : ∀ (d idx : Nat) (A : List E) (k : Int), a + (b - a) / 4 * 2 + 2 - idx = d → a ≤ idx → A.length = n →
    ∃ B k', RP a b A B ∧ f128_L0 guardT lo (V r n) (N a) (N (b - a)) (.ptr σ.length 0) (U m) (N idx) (QU σ r A k) = some (.tuple [], QU σ r B k')
  | 0, idx, A, k, hd, hi, hA => by
    refine ⟨A, k, RP.refl _ _ _, ?_⟩
    rw [f128_L0_eq guardT rfl]
    simp (disch := omega) only [V, N, quo4, mulB, addN, add1, b_leq, leF, gG]
  | d + 1, idx, A, k, hd, hi, hA => by
    obtain ⟨k1, e1⟩ := nx_ok hr hlo A k
    obtain ⟨o, e2, h2⟩ := andX 165 k1 (b := m - 1) (by omega)
    have e3 : binOp PP .sub 165 (.p (.int .u64 (m : Int))) (.p (.int .u64 1)) = some (.p (.int .u64 ((m - 1 : Nat) : Int))) := by
      have e4 : binOp PP .sub 165 (.p (.int .u64 (m : Int))) (.p (.int .u64 1)) = some (.p (.int .u64 (IntKind.wrap .u64 ((m : Int) - 1)))) := Eq.trans rfl rfl
      rw [e4, wrapU (by omega) (by omega)]
      congr 3
      omega
    by_cases h : b - a ≤ o
    · obtain ⟨B, k', g1, g2⟩ := bp_L0 hr hlo hn hab hb hm hm1 d (idx + 1) (swp A idx (a + (o - (b - a)))) k1 (by omega) (by omega) (by rw [swp_len]; exact hA)
      refine ⟨B, k', (RP.swap (a := a) (b := b) (i := idx) (j := a + (o - (b - a))) ⟨hi, by omega⟩ ⟨by omega, by omega⟩ (by omega)).trans g1, ?_⟩
      rw [f128_L0_eq guardT rfl]
      simp (disch := omega) only [V, N, quo4, mulB, addN, add1, b_leq, leT, gG, plainFn_fn, List.append_nil, e1, U, e3, e2, cv_ui, b_geq, geT, subN]
      exact (bp_J0 hr hlo hn (by omega) (by omega) hA k1 _ _ _ _ _ _ _ _ _ _ _ _ _ _ _ _ _ _ _ _ _ _).trans g2
    · obtain ⟨B, k', g1, g2⟩ := bp_L0 hr hlo hn hab hb hm hm1 d (idx + 1) (swp A idx (a + o)) k1 (by omega) (by omega) (by rw [swp_len]; exact hA)
      refine ⟨B, k', (RP.swap (a := a) (b := b) (i := idx) (j := a + o) ⟨hi, by omega⟩ ⟨by omega, by omega⟩ (by omega)).trans g1, ?_⟩
      rw [f128_L0_eq guardT rfl]
      simp (disch := omega) only [V, N, quo4, mulB, addN, add1, b_leq, leT, gG, plainFn_fn, List.append_nil, e1, U, e3, e2, cv_ui, b_geq, geF]
      exact (bp_J0 hr hlo hn (by omega) (by omega) hA k1 _ _ _ _ _ _ _ _ _ _ _ _ _ _ _ _ _ _ _ _ _ _).trans g2
theorem zX : zeroOf PP 185 = some [.p (.int .u64 0)] := Eq.trans (by kernel_rfl) rfl
theorem bp_ok (hr : r < σ.length) (hlo : lo ≤ r) (hn : n ≤ 100000) {a b : Nat} (hab : a + 12 < b) (hb : b ≤ n) {A : List E} (hA : A.length = n) (y : DV) :
    ∃ B k', RP a b A B ∧ CC lo 128 [V r n, N a, N b, y] (W σ r A) = some (.tuple [], QU σ r B k') := by
  obtain ⟨m, e1, h1, h2⟩ := np_ok (n := b - a) (by omega)
  have hm : max (b - a) 1 = b - a := by omega
  rw [hm] at h1
  obtain ⟨B, k', g1, g2⟩ := bp_L0 hr hlo hn hab hb h1 h2 _ (a + (b - a) / 4 * 2 - 1) A ((b - a : Nat) : Int) rfl (by omega) hA
  refine ⟨B, k', g1, F128_call ?_⟩
  have hw : (W σ r A) ++ [Row.mix [.p (.int .u64 0)]] = QU σ r A 0 := W_snoc hr A _
  have hl : List.length (W σ r A) = σ.length := W_len _ _ _
  simp only [N, U] at e1
  rw [F128_eq]
  simp (disch := omega) only [V, N, subN, b_geq, geT, gG, cv_ix, zX, hw, hl, QU_store, pureFn_fn, List.append_nil, e1, quo4, mulB, addN, sub1]
  exact g2
end
end Go.D.StS
end
