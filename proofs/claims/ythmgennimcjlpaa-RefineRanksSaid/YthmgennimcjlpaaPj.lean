/- RefineRanks: for every pair and every list of ranks the law answers true and leaves its arguments as they were: the given statement, without conditions. -/
import Derived.Test.YthmgennimcjlpaaPi
import Derived.Test.YthmgennimcjlpaaPc
import Derived.Test.YthmgennimcjlpaaPh
/- The reference's ranks, round by round, and the ranks in the end: plain. -/
section
set_option linter.unusedVariables false
set_option linter.unusedSimpArgs false
namespace Go.D

section
variable {p : Pair} {n m : Nat}

theorem pairsA_nodup (m n : Nat) : (pairsA m n).Nodup := by
  unfold pairsA
  show List.Pairwise (· ≠ ·) _
  rw [List.pairwise_flatMap]
  refine ⟨fun s _ => List.Pairwise.map _ (fun a b h e => h (Prod.mk.inj e).2) List.nodup_range, ?_⟩
  refine List.Pairwise.imp ?_ (List.nodup_range (n := m))
  intro a b hab x h1 y h2
  simp only [List.mem_map] at h1 h2
  obtain ⟨u, _, rfl⟩ := h1
  obtain ⟨v, _, rfl⟩ := h2
  exact fun e => hab (Prod.mk.inj e).1
theorem len_filter_add {α : Type} (f : α → Bool) : ∀ l : List α, (l.filter f).length + (l.filter fun x => !f x).length = l.length
  | [] => rfl
  | a :: l => by
    have ih := len_filter_add f l
    rw [List.filter_cons, List.filter_cons]
    cases h : f a <;> simp <;> omega
theorem flatMap_congr' {α β : Type} {l : List α} {f g : α → List β} (h : ∀ a ∈ l, f a = g a) : l.flatMap f = l.flatMap g := by
  rw [List.flatMap_def, List.flatMap_def, List.map_congr_left h]
theorem al_nodup : ∀ k, (al p m n k).Nodup
  | 0 => pairsA_nodup m n
  | k + 1 => (al_nodup k).filter _
theorem al_mono {k : Nat} {q : NP} (h : q ∈ al p m n (k + 1)) : q ∈ al p m n k := (List.mem_filter.1 h).1

theorem rk_keep {j s u : Nat} (h : rkF p n j s u ≠ -1) : ∀ i, rkF p n (j + i) s u = rkF p n j s u
  | 0 => rfl
  | i + 1 => by
    have ih := rk_keep h i
    show FD (rkF p n (j + i)) ((j + i + 1 : Nat) : Int) _ s u = _
    unfold FD
    rw [if_neg (fun hh => h (by rw [← ih]; exact hh.1)), ih]
theorem rk_later {j s u : Nat} (h : rkF p n j s u = -1) : ∀ i, rkF p n (j + i) s u = -1 ∨ rkF p n (j + i) s u ≥ ((j + 1 : Nat) : Int)
  | 0 => .inl h
  | i + 1 => by
    have ih := rk_later h i
    show FD (rkF p n (j + i)) ((j + i + 1 : Nat) : Int) _ s u = -1 ∨ FD (rkF p n (j + i)) ((j + i + 1 : Nat) : Int) _ s u ≥ _
    unfold FD
    split
    · right; omega
    · exact ih
theorem rk_ge0 {j s u : Nat} (h : rkF p n j s u ≠ -1) : rkF p n j s u ≥ 0 := by
  have := rk_ge p n j s u
  omega

/-- What is left before round k: the pairs of no rank below k. -/
theorem al_open (hp : Nice p n m) {k t v : Nat} (hk : 1 ≤ k) (hk2 : k ≤ m * n) (ht : t < m) (hv : v < n) : (t, v) ∈ al p m n k ↔ openAt (rkE p m n) (k : Nat) t v = true := by
  obtain ⟨j, rfl⟩ : ∃ j, k = j + 1 := ⟨k - 1, by omega⟩
  rw [al_rk hp, List.mem_filter, mem_pairsA]
  simp only [decide_eq_true_eq, openAt, Bool.or_eq_true]
  have e : m * n = j + (m * n - j) := by omega
  constructor
  · rintro ⟨_, h⟩
    have := rk_later h (m * n - j)
    rw [← e] at this
    exact this
  · intro h
    refine ⟨⟨ht, hv⟩, ?_⟩
    by_cases h0 : rkF p n j t v = -1
    · exact h0
    · exfalso
      have h1 := rk_keep h0 (m * n - j)
      rw [← e] at h1
      have h2 := rk_le p n j t v
      have h3 := rk_ge0 h0
      unfold rkE at h
      rw [h1] at h
      omega

/-- A pair that falls out in round k has rank k. -/
theorem rank_of (hp : Nice p n m) {k : Nat} {q : NP} (h1 : q ∈ al p m n k) (h2 : q ∉ al p m n (k + 1)) : k ≤ m * n ∧ rkE p m n q.1 q.2 = (k : Nat) := by
  obtain ⟨hs, hu⟩ := al_sub k q h1
  have hk : k ≤ m * n := by
    rcases Nat.lt_or_ge (m * n) k with hlt | hge
    · exfalso
      have hf := al_fix (al_stable hp (stable_mn hp))
      have e1 := hf (k - (m * n + 1))
      have e2 := hf (k + 1 - (m * n + 1))
      rw [show m * n + 1 + (k - (m * n + 1)) = k by omega] at e1
      rw [show m * n + 1 + (k + 1 - (m * n + 1)) = k + 1 by omega] at e2
      rw [e2, ← e1] at h2
      exact h2 h1
    · exact hge
  refine ⟨hk, ?_⟩
  have hne : rkF p n k q.1 q.2 ≠ -1 := by
    intro e
    apply h2
    rw [al_rk hp]
    exact List.mem_filter.2 ⟨mem_pairsA.2 ⟨hs, hu⟩, by simpa using e⟩
  have hval : rkF p n k q.1 q.2 = (k : Nat) := by
    cases k with
    | zero =>
      unfold rkF rk0 at hne ⊢
      split
      · rename_i e; rw [if_pos e] at hne; exact absurd rfl hne
      · rfl
    | succ j =>
      rw [al_rk hp] at h1
      have h0 : rkF p n j q.1 q.2 = -1 := by simpa using (List.mem_filter.1 h1).2
      have : rkF p n (j + 1) q.1 q.2 = FD (rkF p n j) ((j + 1 : Nat) : Int) (Di p n (rkF p n j) ((j + 1 : Nat) : Int) (L p.lo.edges)) q.1 q.2 := rfl
      rw [this] at hne ⊢
      unfold FD at hne ⊢
      split
      · rfl
      · rename_i hc
        rw [if_neg hc] at hne
        exact absurd h0 hne
  have := rk_keep hne (m * n - k)
  rw [show k + (m * n - k) = m * n by omega] at this
  unfold rkE
  rw [this, hval]

/-- The first step that nothing left answers. -/
def refK (p : Pair) (n : Nat) (l : List NP) (q : NP) (e : Edg) : Bool := decide (e.f = (q.1 : Nat)) && !matchP p (prs l) n e.t (q.2 : Nat)
def stepK (p : Pair) (n k : Nat) (l : List NP) (q : NP) : Int := if k > 0 then idxFrom (refK p n l q) (L p.lo.edges) 0 else -1
def badK (p : Pair) (n k : Nat) (l : List NP) (q : NP) : Bool := decide (k = 0) && !labOk p (q.1 : Nat) (q.2 : Nat) || !decide (stepK p n k l q = -1)
def mvK (p : Pair) (n k : Nat) (l : List NP) (q : NP) : Mv := ⟨(q.1 : Nat), (q.2 : Nat), (k : Nat), stepK p n k l q⟩
def nowK (p : Pair) (n k : Nat) (l : List NP) : List Mv := (l.filter (badK p n k l)).map (mvK p n k l)
def foundK (p : Pair) (m n : Nat) : Nat → List Mv
  | 0 => []
  | k + 1 => foundK p m n k ++ nowK p n k (al p m n k)

theorem idx_neg {α : Type} (q : α → Bool) (l : List α) : decide (idxFrom q l 0 = -1) = !l.any q := by
  have h1 := idxFrom_ge q l 0
  have h2 : ∀ (l : List α) (i : Nat), idxFrom q l i ≥ -1 := by
    intro l
    induction l with
    | nil => intro i; simp [idxFrom]
    | cons a l ih =>
      intro i
      unfold idxFrom
      split
      · omega
      · exact ih _
  rw [← h1]
  have := h2 l 0
  by_cases e : idxFrom q l 0 = -1
  · have e2 : ¬ idxFrom q l 0 ≥ 0 := by omega
    rw [decide_eq_true e, decide_eq_false e2]; rfl
  · have e2 : idxFrom q l 0 ≥ 0 := by omega
    rw [decide_eq_false e, decide_eq_true e2]; rfl

theorem keep_bad (hp : Nice p n m) {k : Nat} {q : NP} (hq : q ∈ al p m n k) : keepQ p n (al p m n k) q = !badK p n k (al p m n k) q := by
  obtain ⟨hs, hu⟩ := al_sub k q hq
  have hany : (L p.lo.edges).any (refK p n (al p m n k) q) = !(L p.lo.edges).all (keepE p (prs (al p m n k)) n (q.1 : Nat) (q.2 : Nat)) := by
    rw [List.not_all_eq_any_not]
    congr 1
    funext e
    unfold refK keepE
    cases decide (e.f = (q.1 : Nat)) <;> simp
  unfold keepQ keepP badK
  cases k with
  | zero =>
    have hst : stepK p n 0 (al p m n 0) q = -1 := rfl
    have hm : (L p.lo.edges).all (keepE p (prs (al p m n 0)) n (q.1 : Nat) (q.2 : Nat)) = true := by
      rw [List.all_eq_true]
      intro e he
      obtain ⟨v1, v2, v3, v4⟩ := hp.ls e he
      have hmt : matchP p (prs (pairsA m n)) n e.t (q.2 : Nat) = true := by
        unfold matchP
        rw [anyFrom_iff]
        refine ⟨q.2, Nat.zero_le _, by omega, ?_⟩
        have hh : hasP (prs (pairsA m n)) (e.t.toNat : Nat) (q.2 : Nat) = true := hasP_iff.2 (mem_pairsA.2 ⟨by show e.t.toNat < m; omega, hu⟩)
        have ht : ((e.t.toNat : Nat) : Int) = e.t := by omega
        rw [ht] at hh
        rw [hh]
        simp [follows]
      show keepE p (prs (pairsA m n)) n (q.1 : Nat) (q.2 : Nat) e = true
      unfold keepE
      rw [hmt, Bool.or_true]
    rw [hm, hst]
    simp
  | succ j =>
    have hlab : labOk p (q.1 : Nat) (q.2 : Nat) = true := by
      rw [al_rk hp] at hq
      exact rk_lab (by simpa using (List.mem_filter.1 hq).2)
    have hst : decide (stepK p n (j + 1) (al p m n (j + 1)) q = -1) = !(L p.lo.edges).any (refK p n (al p m n (j + 1)) q) := by
      unfold stepK
      rw [if_pos (by omega), idx_neg]
    rw [hlab, hst, hany]
    simp
theorem al_succ_bad (hp : Nice p n m) (k : Nat) : al p m n (k + 1) = (al p m n k).filter fun q => !badK p n k (al p m n k) q := by
  show (al p m n k).filter (keepQ p n (al p m n k)) = _
  exact List.filter_congr fun q hq => keep_bad hp hq
theorem bad_iff (hp : Nice p n m) {k : Nat} {q : NP} (hq : q ∈ al p m n k) : badK p n k (al p m n k) q = true ↔ q ∉ al p m n (k + 1) := by
  rw [al_succ_bad hp, List.mem_filter]
  simp [hq]
theorem nowK_len (hp : Nice p n m) (k : Nat) : (nowK p n k (al p m n k)).length + (al p m n (k + 1)).length = (al p m n k).length := by
  rw [al_succ_bad hp]
  unfold nowK
  rw [List.length_map]
  exact len_filter_add _ _
theorem foundK_len (hp : Nice p n m) : ∀ k, (foundK p m n k).length + (al p m n k).length = m * n
  | 0 => by simp [foundK, al, pairsA_len]
  | k + 1 => by
    have h1 := foundK_len hp k
    have h2 := nowK_len hp k
    unfold foundK
    rw [List.length_append]
    omega

/-- What is found of a pair in round k is its move in the end. -/
theorem mv_eq (hp : Nice p n m) {k : Nat} {q : NP} (h1 : q ∈ al p m n k) (h2 : q ∉ al p m n (k + 1)) : mvK p n k (al p m n k) q = moveOf p n (rkE p m n) q := by
  obtain ⟨hk, hr⟩ := rank_of hp h1 h2
  obtain ⟨hs, hu⟩ := al_sub k q h1
  unfold mvK moveOf
  rw [hr]
  congr 1
  unfold stepK
  by_cases h0 : k > 0
  · have h0' : ((k : Nat) : Int) > 0 := by omega
    rw [if_pos h0, if_pos h0']
    have : ∀ e ∈ L p.lo.edges, refK p n (al p m n k) q e = refE p n (rkE p m n) q.1 q.2 e := by
      intro e he
      obtain ⟨v1, v2, v3, v4⟩ := hp.ls e he
      have ht : ((e.t.toNat : Nat) : Int) = e.t := by omega
      unfold refK refE matchP ansF
      rw [hr]
      congr 2
      refine anyFrom_congr fun v hv => ?_
      congr 1
      rw [← ht, Bool.eq_iff_iff, hasP_iff, Int.toNat_natCast]
      exact al_open hp h0 hk (by omega) hv
    have hidx : ∀ (l : List Edg) (i : Nat), (∀ e ∈ l, refK p n (al p m n k) q e = refE p n (rkE p m n) q.1 q.2 e) → idxFrom (refK p n (al p m n k) q) l i = idxFrom (refE p n (rkE p m n) q.1 q.2) l i := by
      intro l
      induction l with
      | nil => intros; rfl
      | cons a l ih =>
        intro i h
        unfold idxFrom
        rw [h a List.mem_cons_self, ih (i + 1) fun e he => h e (List.mem_cons_of_mem _ he)]
    exact hidx _ _ this
  · have h0' : ¬ ((k : Nat) : Int) > 0 := by omega
    rw [if_neg h0, if_neg h0']

def isQ (q : NP) (x : Mv) : Bool := decide (x.low = (q.1 : Nat)) && decide (x.up = (q.2 : Nat))
theorem isQ_mv {k : Nat} {l : List NP} {q q' : NP} : isQ q (mvK p n k l q') = decide (q' = q) := by
  unfold isQ mvK
  by_cases e : q' = q
  · subst e; simp
  · have : ¬ (((q'.1 : Nat) : Int) = (q.1 : Nat) ∧ ((q'.2 : Nat) : Int) = (q.2 : Nat)) := by
      rintro ⟨h1, h2⟩
      exact e (Prod.ext (by omega) (by omega))
    rw [decide_eq_false e]
    cases h : decide (((q'.1 : Nat) : Int) = (q.1 : Nat)) && decide (((q'.2 : Nat) : Int) = (q.2 : Nat)) with
    | false => rfl
    | true => exact absurd (by simpa using h) this
theorem filter_one {α : Type} [DecidableEq α] {l : List α} (hn : l.Nodup) (q : α) : l.filter (fun x => decide (x = q)) = if q ∈ l then [q] else [] := by
  induction l with
  | nil => rfl
  | cons a l ih =>
    rw [List.nodup_cons] at hn
    rw [List.filter_cons]
    by_cases e : a = q
    · subst e
      have : a ∉ l := hn.1
      rw [ih hn.2, if_neg this]
      simp
    · have e2 : ¬ q = a := fun h => e h.symm
      rw [ih hn.2]
      simp [e, e2]
theorem nowK_at (hp : Nice p n m) (k : Nat) (q : NP) : (nowK p n k (al p m n k)).filter (isQ q) = if q ∈ al p m n k ∧ q ∉ al p m n (k + 1) then [moveOf p n (rkE p m n) q] else [] := by
  unfold nowK
  rw [List.filter_map]
  have h1 : (isQ q ∘ mvK p n k (al p m n k)) = fun x => decide (x = q) := by funext x; exact isQ_mv
  rw [h1, filter_one ((al_nodup k).filter _) q]
  by_cases hq : q ∈ al p m n k
  · by_cases hb : q ∉ al p m n (k + 1)
    · rw [if_pos (List.mem_filter.2 ⟨hq, (bad_iff hp hq).2 hb⟩), if_pos ⟨hq, hb⟩, List.map_singleton, mv_eq hp hq hb]
    · rw [if_neg (fun h => hb ((bad_iff hp hq).1 (List.mem_filter.1 h).2)), if_neg (fun h => hb h.2)]
      rfl
  · rw [if_neg (fun h => hq (List.mem_filter.1 h).1), if_neg (fun h => hq h.1)]
    rfl
theorem foundK_at (hp : Nice p n m) (q : NP) (hq : q ∈ pairsA m n) : ∀ k, (foundK p m n k).filter (isQ q) = if q ∈ al p m n k then [] else [moveOf p n (rkE p m n) q]
  | 0 => by
    have : q ∈ al p m n 0 := hq
    rw [if_pos this]
    rfl
  | k + 1 => by
    unfold foundK
    rw [List.filter_append, foundK_at hp q hq k, nowK_at hp]
    by_cases h1 : q ∈ al p m n k
    · by_cases h2 : q ∈ al p m n (k + 1)
      · rw [if_pos h1, if_neg (fun h => h.2 h2), if_pos h2]; rfl
      · rw [if_pos h1, if_pos ⟨h1, h2⟩, if_neg h2]; rfl
    · have h2 : q ∉ al p m n (k + 1) := fun h => h1 (al_mono h)
      rw [if_neg h1, if_neg (fun h => h1 h.1), if_neg h2]; rfl
/-- The rounds end: what is found is what has a rank. -/
theorem found_end (hp : Nice p n m) {K : Nat} (h : al p m n K = simL p m n) : ((pairsA m n).flatMap fun q => (foundK p m n K).filter (isQ q)) = ranksL p m n := by
  have h1 : ((pairsA m n).flatMap fun q => (foundK p m n K).filter (isQ q)) = (pairsA m n).flatMap fun q => if hasR (rkE p m n) q then [moveOf p n (rkE p m n) q] else [] := by
    refine flatMap_congr' fun q hq => ?_
    rw [foundK_at hp q hq, h, simL_rk hp]
    obtain ⟨hs, hu⟩ := mem_pairsA.1 hq
    unfold hasR
    by_cases e : rkE p m n q.1 q.2 = -1
    · rw [if_pos (List.mem_filter.2 ⟨hq, by simpa using e⟩)]
      simp [e]
    · rw [if_neg (fun hh => e (by simpa using (List.mem_filter.1 hh).2))]
      simp [e]
  rw [h1]
  unfold ranksL msOf
  induction pairsA m n with
  | nil => rfl
  | cons a l ih =>
    rw [List.flatMap_cons, ih, List.filter_cons]
    by_cases e : hasR (rkE p m n) a = true
    · rw [if_pos e, if_pos e]; rfl
    · rw [if_neg e, if_neg e]; rfl
/-- Once a later round finds nothing, nothing is left to find. -/
theorem now_empty (hp : Nice p n m) {k : Nat} (h : (nowK p n k (al p m n k)).length = 0) : al p m n (k + 1) = simL p m n := by
  have h1 := nowK_len hp k
  have h2 := simL_of_len hp (k := k) (by omega)
  rw [← h2]
  exact al_len_fix (by omega)
theorem al_last (hp : Nice p n m) : al p m n (m * n + 1) = simL p m n := rfl

end
end Go.D
end
/- Equations of functions 33, printed by gen.py. -/
section
set_option linter.unusedVariables false
set_option maxRecDepth 10000
namespace Go.D
open _root_.Go.D.Code (fstC sndC)
open _root_.Go.D.Ann (left right)
noncomputable def c33_0 : Code := bodyOf Go.Proofs.Try.f33
noncomputable def a33_0 : Ann := (pol 33).ann
noncomputable def a33_9 : Ann := right (left (right (right (right a33_0))))
noncomputable def a33_10 : Ann := left a33_9
noncomputable def c33_11 : Code := fstC (fstC (sndC (fstC (sndC (sndC (sndC c33_0))))))
noncomputable def a33_18 : Ann := left (right (left a33_10))
noncomputable def a33_26 : Ann := right (left (right (right (left a33_18))))
noncomputable def a33_27 : Ann := left a33_26
noncomputable def c33_28 : Code := fstC (fstC (sndC (fstC (sndC (sndC (fstC (fstC (sndC c33_11))))))))
noncomputable def a33_35 : Ann := left (right (left a33_27))
noncomputable def a33_43 : Ann := right (left (right (right (left a33_35))))
noncomputable def a33_44 : Ann := left a33_43
noncomputable def c33_45 : Code := fstC (fstC (sndC (fstC (sndC (sndC (fstC (fstC (sndC c33_28))))))))
noncomputable def a33_52 : Ann := left (right (left a33_44))
noncomputable def c33_60 : Code := sndC (sndC c33_45)
noncomputable def a33_60 : Ann := right (right (left a33_44))
noncomputable def c33_61 : Code := sndC (sndC (sndC (fstC (fstC (sndC c33_28)))))
noncomputable def a33_61 : Ann := right (right (right (left a33_35)))
noncomputable def c33_66 : Code := sndC (sndC c33_28)
noncomputable def a33_66 : Ann := right (right (left a33_27))
noncomputable def c33_67 : Code := sndC (sndC (sndC (fstC (fstC (sndC c33_11)))))
noncomputable def a33_67 : Ann := right (right (right (left a33_18)))
noncomputable def c33_76 : Code := sndC (sndC c33_11)
noncomputable def a33_76 : Ann := right (right (left a33_10))
noncomputable def c33_77 : Code := sndC (sndC (sndC (sndC c33_0)))
noncomputable def a33_77 : Ann := right (right (right (right a33_0)))
noncomputable def a33_84 : Ann := right (left (right (right a33_77)))
noncomputable def a33_85 : Ann := left a33_84
noncomputable def c33_86 : Code := fstC (fstC (sndC (fstC (sndC (sndC c33_77)))))
noncomputable def a33_93 : Ann := left (right (left a33_85))
noncomputable def a33_96 : Ann := right (left a33_93)
noncomputable def a33_97 : Ann := left a33_96
noncomputable def c33_98 : Code := fstC (fstC (sndC (fstC (fstC (sndC c33_86)))))
noncomputable def a33_105 : Ann := left (right (left a33_97))
noncomputable def c33_111 : Code := sndC (sndC c33_98)
noncomputable def a33_111 : Ann := right (right (left a33_97))
noncomputable def c33_112 : Code := sndC (sndC c33_86)
noncomputable def a33_112 : Ann := right (right (left a33_85))
noncomputable def c33_113 : Code := sndC (sndC (sndC c33_77))
noncomputable def a33_113 : Ann := right (right (right a33_77))
noncomputable def f33_L0 (G : GuardT) (lo : Nat) (x1 x3 x4 x5 : DV) (σ : Store) : Option (DV × Store) :=
 codeF G PP (pol 33) CC lo (.loop c33_11) a33_10 [ud, x1, ud, x3, x4, x5, ud, ud, ud, ud, ud, ud, ud, ud, ud, ud, ud, ud, ud, ud, ud, ud, ud, ud, ud, ud, ud, ud, ud, ud, ud, ud, ud, ud, ud, ud, ud, ud, ud, ud, ud, ud, ud, ud, ud, ud, ud, ud, ud, ud, ud, ud, ud, ud, ud, ud, ud, ud, ud, ud, ud, ud, ud, ud, ud, ud, ud, ud, ud, ud, ud, ud, ud, ud, ud, ud, ud, ud, ud, ud, ud, ud, ud, ud, ud, ud, ud, ud, ud, ud, ud, ud, ud, ud, ud, ud, ud, ud, ud, ud, ud, ud, ud, ud, ud, ud, ud, ud, ud, ud, ud, ud, ud, ud, ud, ud, ud, ud, ud, ud, ud, ud, ud, ud, ud, ud, ud, ud, ud, ud, ud, ud, ud, ud, ud, ud, ud, ud, ud, ud, ud, ud, ud, ud, ud, ud, ud, ud, ud, ud, ud, ud, ud, ud, ud, ud, ud, ud, ud, ud, ud, ud, ud, ud, ud, ud, ud, ud, ud, ud, ud, ud, ud] σ
 (blockC 0 a33_9 (seqC G PP (pol 33) CC lo c33_77 a33_77 (finR PP Go.Proofs.Try.f33.results.toList)))
noncomputable def f33_L1 (G : GuardT) (lo : Nat) (x1 x3 x4 x5 x6 x7 x8 : DV) (σ : Store) : Option (DV × Store) :=
 codeF G PP (pol 33) CC lo (.loop c33_28) a33_27 [ud, x1, ud, x3, x4, x5, x6, x7, x8, ud, ud, ud, ud, ud, ud, ud, ud, ud, ud, ud, ud, ud, ud, ud, ud, ud, ud, ud, ud, ud, ud, ud, ud, ud, ud, ud, ud, ud, ud, ud, ud, ud, ud, ud, ud, ud, ud, ud, ud, ud, ud, ud, ud, ud, ud, ud, ud, ud, ud, ud, ud, ud, ud, ud, ud, ud, ud, ud, ud, ud, ud, ud, ud, ud, ud, ud, ud, ud, ud, ud, ud, ud, ud, ud, ud, ud, ud, ud, ud, ud, ud, ud, ud, ud, ud, ud, ud, ud, ud, ud, ud, ud, ud, ud, ud, ud, ud, ud, ud, ud, ud, ud, ud, ud, ud, ud, ud, ud, ud, ud, ud, ud, ud, ud, ud, ud, ud, ud, ud, ud, ud, ud, ud, ud, ud, ud, ud, ud, ud, ud, ud, ud, ud, ud, ud, ud, ud, ud, ud, ud, ud, ud, ud, ud, ud, ud, ud, ud, ud, ud, ud, ud, ud, ud, ud, ud, ud, ud, ud, ud, ud, ud, ud] σ
 (blockC 2 a33_26 (seqC G PP (pol 33) CC lo c33_67 a33_67 (blockC 1 a33_18 (seqC G PP (pol 33) CC lo c33_76 a33_76 (loopC G PP (pol 33) CC lo c33_11 a33_10 (blockC 0 a33_9 (seqC G PP (pol 33) CC lo c33_77 a33_77 (finR PP Go.Proofs.Try.f33.results.toList))))))))
noncomputable def f33_L2 (G : GuardT) (lo : Nat) (x1 x3 x4 x5 x6 x7 x8 x9 x10 x11 x12 : DV) (σ : Store) : Option (DV × Store) :=
 codeF G PP (pol 33) CC lo (.loop c33_45) a33_44 [ud, x1, ud, x3, x4, x5, x6, x7, x8, x9, x10, x11, x12, ud, ud, ud, ud, ud, ud, ud, ud, ud, ud, ud, ud, ud, ud, ud, ud, ud, ud, ud, ud, ud, ud, ud, ud, ud, ud, ud, ud, ud, ud, ud, ud, ud, ud, ud, ud, ud, ud, ud, ud, ud, ud, ud, ud, ud, ud, ud, ud, ud, ud, ud, ud, ud, ud, ud, ud, ud, ud, ud, ud, ud, ud, ud, ud, ud, ud, ud, ud, ud, ud, ud, ud, ud, ud, ud, ud, ud, ud, ud, ud, ud, ud, ud, ud, ud, ud, ud, ud, ud, ud, ud, ud, ud, ud, ud, ud, ud, ud, ud, ud, ud, ud, ud, ud, ud, ud, ud, ud, ud, ud, ud, ud, ud, ud, ud, ud, ud, ud, ud, ud, ud, ud, ud, ud, ud, ud, ud, ud, ud, ud, ud, ud, ud, ud, ud, ud, ud, ud, ud, ud, ud, ud, ud, ud, ud, ud, ud, ud, ud, ud, ud, ud, ud, ud, ud, ud, ud, ud, ud, ud] σ
 (blockC 4 a33_43 (seqC G PP (pol 33) CC lo c33_61 a33_61 (blockC 3 a33_35 (seqC G PP (pol 33) CC lo c33_66 a33_66 (loopC G PP (pol 33) CC lo c33_28 a33_27 (blockC 2 a33_26 (seqC G PP (pol 33) CC lo c33_67 a33_67 (blockC 1 a33_18 (seqC G PP (pol 33) CC lo c33_76 a33_76 (loopC G PP (pol 33) CC lo c33_11 a33_10 (blockC 0 a33_9 (seqC G PP (pol 33) CC lo c33_77 a33_77 (finR PP Go.Proofs.Try.f33.results.toList)))))))))))))
def f33_J0_fr (x1 x3 x4 x5 x6 x7 x8 x9 x10 x11 x12 x13 x52 x53 x54 x55 x56 x57 x60 x61 x62 x63 x64 x65 x66 x67 x68 x69 x70 x71 x72 x73 x74 x75 x76 x77 x78 x79 : DV) : Frame := [ud, x1, ud, x3, x4, x5, x6, x7, x8, x9, x10, x11, x12, x13, ud, ud, ud, ud, ud, ud, ud, ud, ud, ud, ud, ud, ud, ud, ud, ud, ud, ud, ud, ud, ud, ud, ud, ud, ud, ud, ud, ud, ud, ud, ud, ud, ud, ud, ud, ud, ud, ud, x52, x53, x54, x55, x56, x57, ud, ud, x60, x61, x62, x63, x64, x65, x66, x67, x68, x69, x70, x71, x72, x73, x74, x75, x76, x77, x78, x79, ud, ud, ud, ud, ud, ud, ud, ud, ud, ud, ud, ud, ud, ud, ud, ud, ud, ud, ud, ud, ud, ud, ud, ud, ud, ud, ud, ud, ud, ud, ud, ud, ud, ud, ud, ud, ud, ud, ud, ud, ud, ud, ud, ud, ud, ud, ud, ud, ud, ud, ud, ud, ud, ud, ud, ud, ud, ud, ud, ud, ud, ud, ud, ud, ud, ud, ud, ud, ud, ud, ud, ud, ud, ud, ud, ud, ud, ud, ud, ud, ud, ud, ud, ud, ud, ud, ud, ud, ud, ud, ud, ud, ud]
noncomputable def f33_J0 (G : GuardT) (lo : Nat) (x1 x3 x4 x5 x6 x7 x8 x9 x10 x11 x12 x13 x52 x53 x54 x55 x56 x57 x60 x61 x62 x63 x64 x65 x66 x67 x68 x69 x70 x71 x72 x73 x74 x75 x76 x77 x78 x79 : DV) (σ : Store) : Option (DV × Store) :=
 (blockC 5 a33_52 (seqC G PP (pol 33) CC lo c33_60 a33_60 (loopC G PP (pol 33) CC lo c33_45 a33_44 (blockC 4 a33_43 (seqC G PP (pol 33) CC lo c33_61 a33_61 (blockC 3 a33_35 (seqC G PP (pol 33) CC lo c33_66 a33_66 (loopC G PP (pol 33) CC lo c33_28 a33_27 (blockC 2 a33_26 (seqC G PP (pol 33) CC lo c33_67 a33_67 (blockC 1 a33_18 (seqC G PP (pol 33) CC lo c33_76 a33_76 (loopC G PP (pol 33) CC lo c33_11 a33_10 (blockC 0 a33_9 (seqC G PP (pol 33) CC lo c33_77 a33_77 (finR PP Go.Proofs.Try.f33.results.toList)))))))))))))))) .normal (f33_J0_fr x1 x3 x4 x5 x6 x7 x8 x9 x10 x11 x12 x13 x52 x53 x54 x55 x56 x57 x60 x61 x62 x63 x64 x65 x66 x67 x68 x69 x70 x71 x72 x73 x74 x75 x76 x77 x78 x79) σ
def f33_J1_fr (x1 x3 x4 x5 x6 x7 x8 x9 x10 x11 x80 x81 x82 x83 x84 x85 x86 x87 x88 x89 x90 x91 x92 x93 x94 x95 x96 x97 x98 x99 x100 x101 x102 x103 x104 x105 x106 x107 x108 x109 x110 x111 x112 x113 : DV) : Frame := [ud, x1, ud, x3, x4, x5, x6, x7, x8, x9, x10, x11, ud, ud, ud, ud, ud, ud, ud, ud, ud, ud, ud, ud, ud, ud, ud, ud, ud, ud, ud, ud, ud, ud, ud, ud, ud, ud, ud, ud, ud, ud, ud, ud, ud, ud, ud, ud, ud, ud, ud, ud, ud, ud, ud, ud, ud, ud, ud, ud, ud, ud, ud, ud, ud, ud, ud, ud, ud, ud, ud, ud, ud, ud, ud, ud, ud, ud, ud, ud, x80, x81, x82, x83, x84, x85, x86, x87, x88, x89, x90, x91, x92, x93, x94, x95, x96, x97, x98, x99, x100, x101, x102, x103, x104, x105, x106, x107, x108, x109, x110, x111, x112, x113, ud, ud, ud, ud, ud, ud, ud, ud, ud, ud, ud, ud, ud, ud, ud, ud, ud, ud, ud, ud, ud, ud, ud, ud, ud, ud, ud, ud, ud, ud, ud, ud, ud, ud, ud, ud, ud, ud, ud, ud, ud, ud, ud, ud, ud, ud, ud, ud, ud, ud, ud, ud, ud, ud, ud, ud, ud, ud, ud]
noncomputable def f33_J1 (G : GuardT) (lo : Nat) (x1 x3 x4 x5 x6 x7 x8 x9 x10 x11 x80 x81 x82 x83 x84 x85 x86 x87 x88 x89 x90 x91 x92 x93 x94 x95 x96 x97 x98 x99 x100 x101 x102 x103 x104 x105 x106 x107 x108 x109 x110 x111 x112 x113 : DV) (σ : Store) : Option (DV × Store) :=
 (blockC 3 a33_35 (seqC G PP (pol 33) CC lo c33_66 a33_66 (loopC G PP (pol 33) CC lo c33_28 a33_27 (blockC 2 a33_26 (seqC G PP (pol 33) CC lo c33_67 a33_67 (blockC 1 a33_18 (seqC G PP (pol 33) CC lo c33_76 a33_76 (loopC G PP (pol 33) CC lo c33_11 a33_10 (blockC 0 a33_9 (seqC G PP (pol 33) CC lo c33_77 a33_77 (finR PP Go.Proofs.Try.f33.results.toList))))))))))) .normal (f33_J1_fr x1 x3 x4 x5 x6 x7 x8 x9 x10 x11 x80 x81 x82 x83 x84 x85 x86 x87 x88 x89 x90 x91 x92 x93 x94 x95 x96 x97 x98 x99 x100 x101 x102 x103 x104 x105 x106 x107 x108 x109 x110 x111 x112 x113) σ
noncomputable def f33_L3 (G : GuardT) (lo : Nat) (x4 x14 x15 x16 : DV) (σ : Store) : Option (DV × Store) :=
 codeF G PP (pol 33) CC lo (.loop c33_86) a33_85 [ud, ud, ud, ud, x4, ud, ud, ud, ud, ud, ud, ud, ud, ud, x14, x15, x16, ud, ud, ud, ud, ud, ud, ud, ud, ud, ud, ud, ud, ud, ud, ud, ud, ud, ud, ud, ud, ud, ud, ud, ud, ud, ud, ud, ud, ud, ud, ud, ud, ud, ud, ud, ud, ud, ud, ud, ud, ud, ud, ud, ud, ud, ud, ud, ud, ud, ud, ud, ud, ud, ud, ud, ud, ud, ud, ud, ud, ud, ud, ud, ud, ud, ud, ud, ud, ud, ud, ud, ud, ud, ud, ud, ud, ud, ud, ud, ud, ud, ud, ud, ud, ud, ud, ud, ud, ud, ud, ud, ud, ud, ud, ud, ud, ud, ud, ud, ud, ud, ud, ud, ud, ud, ud, ud, ud, ud, ud, ud, ud, ud, ud, ud, ud, ud, ud, ud, ud, ud, ud, ud, ud, ud, ud, ud, ud, ud, ud, ud, ud, ud, ud, ud, ud, ud, ud, ud, ud, ud, ud, ud, ud, ud, ud, ud, ud, ud, ud, ud, ud, ud, ud, ud, ud] σ
 (blockC 6 a33_84 (seqC G PP (pol 33) CC lo c33_113 a33_113 (finR PP Go.Proofs.Try.f33.results.toList)))
noncomputable def f33_L4 (G : GuardT) (lo : Nat) (x4 x14 x15 x16 x17 : DV) (σ : Store) : Option (DV × Store) :=
 codeF G PP (pol 33) CC lo (.loop c33_98) a33_97 [ud, ud, ud, ud, x4, ud, ud, ud, ud, ud, ud, ud, ud, ud, x14, x15, x16, x17, ud, ud, ud, ud, ud, ud, ud, ud, ud, ud, ud, ud, ud, ud, ud, ud, ud, ud, ud, ud, ud, ud, ud, ud, ud, ud, ud, ud, ud, ud, ud, ud, ud, ud, ud, ud, ud, ud, ud, ud, ud, ud, ud, ud, ud, ud, ud, ud, ud, ud, ud, ud, ud, ud, ud, ud, ud, ud, ud, ud, ud, ud, ud, ud, ud, ud, ud, ud, ud, ud, ud, ud, ud, ud, ud, ud, ud, ud, ud, ud, ud, ud, ud, ud, ud, ud, ud, ud, ud, ud, ud, ud, ud, ud, ud, ud, ud, ud, ud, ud, ud, ud, ud, ud, ud, ud, ud, ud, ud, ud, ud, ud, ud, ud, ud, ud, ud, ud, ud, ud, ud, ud, ud, ud, ud, ud, ud, ud, ud, ud, ud, ud, ud, ud, ud, ud, ud, ud, ud, ud, ud, ud, ud, ud, ud, ud, ud, ud, ud, ud, ud, ud, ud, ud, ud] σ
 (blockC 8 a33_96 (blockC 7 a33_93 (seqC G PP (pol 33) CC lo c33_112 a33_112 (loopC G PP (pol 33) CC lo c33_86 a33_85 (blockC 6 a33_84 (seqC G PP (pol 33) CC lo c33_113 a33_113 (finR PP Go.Proofs.Try.f33.results.toList)))))))
def f33_J2_fr (x4 x14 x15 x16 x17 x133 x134 x135 x136 x139 x140 x141 x142 x143 x144 x145 x146 x147 x148 x149 x150 x151 x152 x153 x154 x155 x156 x157 x158 x159 x160 x161 x162 x163 x164 x165 x166 x167 x168 x169 x170 x171 : DV) : Frame := [ud, ud, ud, ud, x4, ud, ud, ud, ud, ud, ud, ud, ud, ud, x14, x15, x16, x17, ud, ud, ud, ud, ud, ud, ud, ud, ud, ud, ud, ud, ud, ud, ud, ud, ud, ud, ud, ud, ud, ud, ud, ud, ud, ud, ud, ud, ud, ud, ud, ud, ud, ud, ud, ud, ud, ud, ud, ud, ud, ud, ud, ud, ud, ud, ud, ud, ud, ud, ud, ud, ud, ud, ud, ud, ud, ud, ud, ud, ud, ud, ud, ud, ud, ud, ud, ud, ud, ud, ud, ud, ud, ud, ud, ud, ud, ud, ud, ud, ud, ud, ud, ud, ud, ud, ud, ud, ud, ud, ud, ud, ud, ud, ud, ud, ud, ud, ud, ud, ud, ud, ud, ud, ud, ud, ud, ud, ud, ud, ud, ud, ud, ud, ud, x133, x134, x135, x136, ud, ud, x139, x140, x141, x142, x143, x144, x145, x146, x147, x148, x149, x150, x151, x152, x153, x154, x155, x156, x157, x158, x159, x160, x161, x162, x163, x164, x165, x166, x167, x168, x169, x170, x171, ud]
noncomputable def f33_J2 (G : GuardT) (lo : Nat) (x4 x14 x15 x16 x17 x133 x134 x135 x136 x139 x140 x141 x142 x143 x144 x145 x146 x147 x148 x149 x150 x151 x152 x153 x154 x155 x156 x157 x158 x159 x160 x161 x162 x163 x164 x165 x166 x167 x168 x169 x170 x171 : DV) (σ : Store) : Option (DV × Store) :=
 (blockC 9 a33_105 (seqC G PP (pol 33) CC lo c33_111 a33_111 (loopC G PP (pol 33) CC lo c33_98 a33_97 (blockC 8 a33_96 (blockC 7 a33_93 (seqC G PP (pol 33) CC lo c33_112 a33_112 (loopC G PP (pol 33) CC lo c33_86 a33_85 (blockC 6 a33_84 (seqC G PP (pol 33) CC lo c33_113 a33_113 (finR PP Go.Proofs.Try.f33.results.toList)))))))))) .normal (f33_J2_fr x4 x14 x15 x16 x17 x133 x134 x135 x136 x139 x140 x141 x142 x143 x144 x145 x146 x147 x148 x149 x150 x151 x152 x153 x154 x155 x156 x157 x158 x159 x160 x161 x162 x163 x164 x165 x166 x167 x168 x169 x170 x171) σ
noncomputable def f33_L5 (G : GuardT) (lo : Nat) (x4 x14 x15 x16 : DV) (σ : Store) : Option (DV × Store) :=
 codeF G PP (pol 33) CC lo (.loop c33_86) a33_85 [ud, ud, ud, ud, x4, ud, ud, ud, ud, ud, ud, ud, ud, ud, x14, x15, x16, ud, ud, ud, ud, ud, ud, ud, ud, ud, ud, ud, ud, ud, ud, ud, ud, ud, ud, ud, ud, ud, ud, ud, ud, ud, ud, ud, ud, ud, ud, ud, ud, ud, ud, ud, ud, ud, ud, ud, ud, ud, ud, ud, ud, ud, ud, ud, ud, ud, ud, ud, ud, ud, ud, ud, ud, ud, ud, ud, ud, ud, ud, ud, ud, ud, ud, ud, ud, ud, ud, ud, ud, ud, ud, ud, ud, ud, ud, ud, ud, ud, ud, ud, ud, ud, ud, ud, ud, ud, ud, ud, ud, ud, ud, ud, ud, ud, ud, ud, ud, ud, ud, ud, ud, ud, ud, ud, ud, ud, ud, ud, ud, ud, ud, ud, ud, ud, ud, ud, ud, ud, ud, ud, ud, ud, ud, ud, ud, ud, ud, ud, ud, ud, ud, ud, ud, ud, ud, ud, ud, ud, ud, ud, ud, ud, ud, ud, ud, ud, ud, ud, ud, ud, ud, ud, ud] σ
 (blockC 6 a33_84 (seqC G PP (pol 33) CC lo c33_113 a33_113 (finR PP Go.Proofs.Try.f33.results.toList)))
noncomputable def f33_L6 (G : GuardT) (lo : Nat) (x4 x14 x15 x16 x17 : DV) (σ : Store) : Option (DV × Store) :=
 codeF G PP (pol 33) CC lo (.loop c33_98) a33_97 [ud, ud, ud, ud, x4, ud, ud, ud, ud, ud, ud, ud, ud, ud, x14, x15, x16, x17, ud, ud, ud, ud, ud, ud, ud, ud, ud, ud, ud, ud, ud, ud, ud, ud, ud, ud, ud, ud, ud, ud, ud, ud, ud, ud, ud, ud, ud, ud, ud, ud, ud, ud, ud, ud, ud, ud, ud, ud, ud, ud, ud, ud, ud, ud, ud, ud, ud, ud, ud, ud, ud, ud, ud, ud, ud, ud, ud, ud, ud, ud, ud, ud, ud, ud, ud, ud, ud, ud, ud, ud, ud, ud, ud, ud, ud, ud, ud, ud, ud, ud, ud, ud, ud, ud, ud, ud, ud, ud, ud, ud, ud, ud, ud, ud, ud, ud, ud, ud, ud, ud, ud, ud, ud, ud, ud, ud, ud, ud, ud, ud, ud, ud, ud, ud, ud, ud, ud, ud, ud, ud, ud, ud, ud, ud, ud, ud, ud, ud, ud, ud, ud, ud, ud, ud, ud, ud, ud, ud, ud, ud, ud, ud, ud, ud, ud, ud, ud, ud, ud, ud, ud, ud, ud] σ
 (blockC 8 a33_96 (blockC 7 a33_93 (seqC G PP (pol 33) CC lo c33_112 a33_112 (loopC G PP (pol 33) CC lo c33_86 a33_85 (blockC 6 a33_84 (seqC G PP (pol 33) CC lo c33_113 a33_113 (finR PP Go.Proofs.Try.f33.results.toList)))))))
def f33_J3_fr (x4 x14 x15 x16 x17 x133 x134 x135 x136 x139 x140 x141 x142 x143 x144 x145 x146 x147 x148 x149 x150 x151 x152 x153 x154 x155 x156 x157 x158 x159 x160 x161 x162 x163 x164 x165 x166 x167 x168 x169 x170 x171 : DV) : Frame := [ud, ud, ud, ud, x4, ud, ud, ud, ud, ud, ud, ud, ud, ud, x14, x15, x16, x17, ud, ud, ud, ud, ud, ud, ud, ud, ud, ud, ud, ud, ud, ud, ud, ud, ud, ud, ud, ud, ud, ud, ud, ud, ud, ud, ud, ud, ud, ud, ud, ud, ud, ud, ud, ud, ud, ud, ud, ud, ud, ud, ud, ud, ud, ud, ud, ud, ud, ud, ud, ud, ud, ud, ud, ud, ud, ud, ud, ud, ud, ud, ud, ud, ud, ud, ud, ud, ud, ud, ud, ud, ud, ud, ud, ud, ud, ud, ud, ud, ud, ud, ud, ud, ud, ud, ud, ud, ud, ud, ud, ud, ud, ud, ud, ud, ud, ud, ud, ud, ud, ud, ud, ud, ud, ud, ud, ud, ud, ud, ud, ud, ud, ud, ud, x133, x134, x135, x136, ud, ud, x139, x140, x141, x142, x143, x144, x145, x146, x147, x148, x149, x150, x151, x152, x153, x154, x155, x156, x157, x158, x159, x160, x161, x162, x163, x164, x165, x166, x167, x168, x169, x170, x171, ud]
noncomputable def f33_J3 (G : GuardT) (lo : Nat) (x4 x14 x15 x16 x17 x133 x134 x135 x136 x139 x140 x141 x142 x143 x144 x145 x146 x147 x148 x149 x150 x151 x152 x153 x154 x155 x156 x157 x158 x159 x160 x161 x162 x163 x164 x165 x166 x167 x168 x169 x170 x171 : DV) (σ : Store) : Option (DV × Store) :=
 (blockC 9 a33_105 (seqC G PP (pol 33) CC lo c33_111 a33_111 (loopC G PP (pol 33) CC lo c33_98 a33_97 (blockC 8 a33_96 (blockC 7 a33_93 (seqC G PP (pol 33) CC lo c33_112 a33_112 (loopC G PP (pol 33) CC lo c33_86 a33_85 (blockC 6 a33_84 (seqC G PP (pol 33) CC lo c33_113 a33_113 (finR PP Go.Proofs.Try.f33.results.toList)))))))))) .normal (f33_J3_fr x4 x14 x15 x16 x17 x133 x134 x135 x136 x139 x140 x141 x142 x143 x144 x145 x146 x147 x148 x149 x150 x151 x152 x153 x154 x155 x156 x157 x158 x159 x160 x161 x162 x163 x164 x165 x166 x167 x168 x169 x170 x171) σ
noncomputable def F33 (G : GuardT) (lo : Nat) (x0 : DV) (σ : Store) : Option (DV × Store) :=
 codeF G PP (pol 33) CC lo c33_0 a33_0 [x0, ud, ud, ud, ud, ud, ud, ud, ud, ud, ud, ud, ud, ud, ud, ud, ud, ud, ud, ud, ud, ud, ud, ud, ud, ud, ud, ud, ud, ud, ud, ud, ud, ud, ud, ud, ud, ud, ud, ud, ud, ud, ud, ud, ud, ud, ud, ud, ud, ud, ud, ud, ud, ud, ud, ud, ud, ud, ud, ud, ud, ud, ud, ud, ud, ud, ud, ud, ud, ud, ud, ud, ud, ud, ud, ud, ud, ud, ud, ud, ud, ud, ud, ud, ud, ud, ud, ud, ud, ud, ud, ud, ud, ud, ud, ud, ud, ud, ud, ud, ud, ud, ud, ud, ud, ud, ud, ud, ud, ud, ud, ud, ud, ud, ud, ud, ud, ud, ud, ud, ud, ud, ud, ud, ud, ud, ud, ud, ud, ud, ud, ud, ud, ud, ud, ud, ud, ud, ud, ud, ud, ud, ud, ud, ud, ud, ud, ud, ud, ud, ud, ud, ud, ud, ud, ud, ud, ud, ud, ud, ud, ud, ud, ud, ud, ud, ud, ud, ud, ud, ud, ud, ud] σ (finR PP Go.Proofs.Try.f33.results.toList)
theorem f33_L0_eq (G : GuardT) (hG : GuardOk G) (lo : Nat) (x1 x3 x4 x5 : DV) (σ : Store) : f33_L0 G lo x1 x3 x4 x5 σ =
 (len PP 51 x3 σ).bind fun x22 =>
 (len PP 61 x4 σ).bind fun x24 =>
 (binOp PP .add 3 x22 x24).bind fun x25 =>
 (binOp PP .leq 3 x5 x25).bind fun x26 =>
 condK x26
 (
 f33_L1 G lo x1 x3 x4 x5 (DV.p PV.nilsl) (DV.p PV.nilsl) (DV.p (PV.int IntKind.i64 (0))) σ
 )
 (
 (load PP 27 x1 σ).bind fun x125 =>
 (pureFn CC (DV.fn 61 []) [x125] σ).bind fun x126 =>
 f33_L5 G lo x4 (DV.p PV.nilsl) x126 (DV.p (PV.int IntKind.i64 (0))) σ
 ) := (loopF_eq G hG).trans (by kernel_rfl)
theorem f33_L1_eq (G : GuardT) (hG : GuardOk G) (lo : Nat) (x1 x3 x4 x5 x6 x7 x8 : DV) (σ : Store) : f33_L1 G lo x1 x3 x4 x5 x6 x7 x8 σ =
 (len PP 51 x3 σ).bind fun x31 =>
 (binOp PP .lss 3 x8 x31).bind fun x32 =>
 condK x32
 (
 (indexAddr PP 51 x3 x8).bind fun x37 =>
 (load PP 22 x37 σ).bind fun x38 =>
 (indexAddr PP 22 x38 (DV.p (PV.int IntKind.i64 (0)))).bind fun x39 =>
 (load PP 3 x39 σ).bind fun x40 =>
 (indexAddr PP 51 x3 x8).bind fun x43 =>
 (load PP 22 x43 σ).bind fun x44 =>
 (indexAddr PP 22 x44 (DV.p (PV.int IntKind.i64 (1)))).bind fun x45 =>
 (load PP 3 x45 σ).bind fun x46 =>
 (fieldAddr PP 27 x1 0).bind fun x47 =>
 (fieldAddr PP 25 x47 2).bind fun x48 =>
 (load PP 23 x48 σ).bind fun x49 =>
 (len PP 23 x49 σ).bind fun x50 =>
 (binOp PP .sub 3 x50 (DV.p (PV.int IntKind.i64 (1)))).bind fun x51 =>
 f33_L2 G lo x1 x3 x4 x5 x6 x7 x8 x40 x46 (DV.p (PV.int IntKind.i64 (-1))) x51 σ
 )
 (
 (append PP lo false 61 61 x4 x7 σ).bind fun r116_28 =>
 (binOp PP .gtr 3 x5 (DV.p (PV.int IntKind.i64 (0)))).bind fun x119 =>
 G _ x119 true (some (x7, r116_28.2)) r116_28.2 fun x121 σ29 =>
 G _ x119 true ((len PP 61 x121 σ29).bind fun v => some (v, σ29)) σ29 fun x122 σ30 =>
 G _ x119 true ((binOp PP .eql 3 x122 (DV.p (PV.int IntKind.i64 (0)))).bind fun v => some (v, σ30)) σ30 fun x123 σ31 =>
 (pickV x119 x123 (DV.p (PV.bool false))).bind fun x124 =>
 condK x124
 (
 (load PP 27 x1 σ31).bind fun x125 =>
 (pureFn CC (DV.fn 61 []) [x125] σ31).bind fun x126 =>
 f33_L3 G lo r116_28.1 (DV.p PV.nilsl) x126 (DV.p (PV.int IntKind.i64 (0))) σ31
 )
 (
 (binOp PP .add 3 x5 (DV.p (PV.int IntKind.i64 (1)))).bind fun x28 =>
 f33_L0 G lo x1 x6 r116_28.1 x28 σ31
 )
 ) := (loopF_eq G hG).trans (by kernel_rfl)
theorem f33_L2_eq (G : GuardT) (hG : GuardOk G) (lo : Nat) (x1 x3 x4 x5 x6 x7 x8 x9 x10 x11 x12 : DV) (σ : Store) : f33_L2 G lo x1 x3 x4 x5 x6 x7 x8 x9 x10 x11 x12 σ =
 (binOp PP .geq 3 x12 (DV.p (PV.int IntKind.i64 (0)))).bind fun x53 =>
 G _ x53 true (some (x5, σ)) σ fun x55 σ1 =>
 G _ x53 true ((binOp PP .gtr 3 x55 (DV.p (PV.int IntKind.i64 (0)))).bind fun v => some (v, σ1)) σ1 fun x56 σ2 =>
 (pickV x53 x56 (DV.p (PV.bool false))).bind fun x57 =>
 condK x57
 (
 (fieldAddr PP 27 x1 0).bind fun x60 =>
 (fieldAddr PP 25 x60 2).bind fun x61 =>
 (load PP 23 x61 σ2).bind fun x62 =>
 (indexAddr PP 23 x62 x12).bind fun x64 =>
 (load PP 100 x64 σ2).bind fun x65 =>
 (zeroOf PP 100).bind fun z13 =>
 (store PP lo 100 (DV.ptr (List.length σ2) 0) x65 (σ2 ++ [Row.mix z13])).bind fun σ3 =>
 (fieldAddr PP 100 (DV.ptr (List.length σ2) 0) 0).bind fun x66 =>
 (load PP 3 x66 σ3).bind fun x67 =>
 (binOp PP .eql 3 x67 x9).bind fun x69 =>
 G _ x69 true ((load PP 27 x1 σ3).bind fun v => some (v, σ3)) σ3 fun x71 σ4 =>
 G _ x69 true (some (x3, σ4)) σ4 fun x72 σ5 =>
 G _ x69 true ((fieldAddr PP 100 (DV.ptr (List.length σ2) 0) 1).bind fun v => some (v, σ5)) σ5 fun x73 σ6 =>
 G _ x69 true ((load PP 3 x73 σ6).bind fun v => some (v, σ6)) σ6 fun x74 σ7 =>
 G _ x69 true (some (x10, σ7)) σ7 fun x75 σ8 =>
 G _ x69 true ((pureFn CC (DV.fn 72 []) [x71, x72, x74, x75] σ8).bind fun v => some (v, σ8)) σ8 fun x76 σ9 =>
 G _ x69 true ((unOp .not x76).bind fun v => some (v, σ9)) σ9 fun x77 σ10 =>
 (pickV x69 x77 (DV.p (PV.bool false))).bind fun x78 =>
 condK x78
 (
 f33_J0 G lo x1 x3 x4 x5 x6 x7 x8 x9 x10 x12 x12 (DV.ptr (List.length σ2) 0) x12 x53 x53 x55 x56 x57 x60 x61 x62 x12 x64 x65 x66 x67 x9 x69 x69 x71 x72 x73 x74 x75 x76 x77 x78 x12 σ10
 )
 (
 f33_J0 G lo x1 x3 x4 x5 x6 x7 x8 x9 x10 x11 x12 (DV.ptr (List.length σ2) 0) x12 x53 x53 x55 x56 x57 x60 x61 x62 x12 x64 x65 x66 x67 x9 x69 x69 x71 x72 x73 x74 x75 x76 x77 x78 ud σ10
 )
 )
 (
 (binOp PP .eql 3 x5 (DV.p (PV.int IntKind.i64 (0)))).bind fun x81 =>
 G _ x81 true ((fieldAddr PP 27 x1 2).bind fun v => some (v, σ2)) σ2 fun x83 σ11 =>
 G _ x81 true ((load PP 22 x83 σ11).bind fun v => some (v, σ11)) σ11 fun x84 σ12 =>
 G _ x81 true (some (x9, σ12)) σ12 fun x85 σ13 =>
 G _ x81 true ((indexAddr PP 22 x84 x85).bind fun v => some (v, σ13)) σ13 fun x86 σ14 =>
 G _ x81 true ((load PP 3 x86 σ14).bind fun v => some (v, σ14)) σ14 fun x87 σ15 =>
 G _ x81 true ((fieldAddr PP 27 x1 3).bind fun v => some (v, σ15)) σ15 fun x88 σ16 =>
 G _ x81 true ((load PP 22 x88 σ16).bind fun v => some (v, σ16)) σ16 fun x89 σ17 =>
 G _ x81 true (some (x10, σ17)) σ17 fun x90 σ18 =>
 G _ x81 true ((indexAddr PP 22 x89 x90).bind fun v => some (v, σ18)) σ18 fun x91 σ19 =>
 G _ x81 true ((load PP 3 x91 σ19).bind fun v => some (v, σ19)) σ19 fun x92 σ20 =>
 G _ x81 true ((binOp PP .neq 3 x87 x92).bind fun v => some (v, σ20)) σ20 fun x93 σ21 =>
 (pickV x81 x93 (DV.p (PV.bool false))).bind fun x94 =>
 G _ x94 false (some (x11, σ21)) σ21 fun x96 σ22 =>
 G _ x94 false ((binOp PP .neq 3 x96 (DV.p (PV.int IntKind.i64 (-1)))).bind fun v => some (v, σ22)) σ22 fun x97 σ23 =>
 (pickV x94 (DV.p (PV.bool true)) x97).bind fun x98 =>
 condK x98
 (
 (build PP 77 [(0, x9), (1, x10), (2, x5), (3, x11)]).bind fun x104 =>
 (buildSlice PP none 61 1 [(0, x104)] σ23).bind fun r105_24 =>
 (append PP lo false 61 61 x7 r105_24.1 r105_24.2).bind fun r106_25 =>
 f33_J1 G lo x1 x3 x4 x5 x6 r106_25.1 x8 x9 x10 x11 x5 x81 x81 x83 x84 x85 x86 x87 x88 x89 x90 x91 x92 x93 x94 x94 x96 x97 x98 x7 x9 x10 x5 x11 x104 r105_24.1 r106_25.1 ud ud ud ud ud ud ud r106_25.2
 )
 (
 (indexAddr PP 51 x3 x8).bind fun x110 =>
 (load PP 22 x110 σ23).bind fun x111 =>
 (buildSlice PP none 51 1 [(0, x111)] σ23).bind fun r112_26 =>
 (append PP lo false 51 51 x6 r112_26.1 r112_26.2).bind fun r113_27 =>
 f33_J1 G lo x1 x3 x4 x5 r113_27.1 x7 x8 x9 x10 x11 x5 x81 x81 x83 x84 x85 x86 x87 x88 x89 x90 x91 x92 x93 x94 x94 x96 x97 x98 ud ud ud ud ud ud ud ud x6 x3 x8 x110 x111 r112_26.1 r113_27.1 r113_27.2
 )
 ) := (loopF_eq G hG).trans (by kernel_rfl)
theorem f33_J0_eq (G : GuardT) (lo : Nat) (x1 x3 x4 x5 x6 x7 x8 x9 x10 x11 x12 x13 x52 x53 x54 x55 x56 x57 x60 x61 x62 x63 x64 x65 x66 x67 x68 x69 x70 x71 x72 x73 x74 x75 x76 x77 x78 x79 : DV) (σ : Store) : f33_J0 G lo x1 x3 x4 x5 x6 x7 x8 x9 x10 x11 x12 x13 x52 x53 x54 x55 x56 x57 x60 x61 x62 x63 x64 x65 x66 x67 x68 x69 x70 x71 x72 x73 x74 x75 x76 x77 x78 x79 σ =
 (binOp PP .sub 3 x12 (DV.p (PV.int IntKind.i64 (1)))).bind fun x59 =>
 f33_L2 G lo x1 x3 x4 x5 x6 x7 x8 x9 x10 x11 x59 σ := by kernel_rfl
theorem f33_J1_eq (G : GuardT) (lo : Nat) (x1 x3 x4 x5 x6 x7 x8 x9 x10 x11 x80 x81 x82 x83 x84 x85 x86 x87 x88 x89 x90 x91 x92 x93 x94 x95 x96 x97 x98 x99 x100 x101 x102 x103 x104 x105 x106 x107 x108 x109 x110 x111 x112 x113 : DV) (σ : Store) : f33_J1 G lo x1 x3 x4 x5 x6 x7 x8 x9 x10 x11 x80 x81 x82 x83 x84 x85 x86 x87 x88 x89 x90 x91 x92 x93 x94 x95 x96 x97 x98 x99 x100 x101 x102 x103 x104 x105 x106 x107 x108 x109 x110 x111 x112 x113 σ =
 (binOp PP .add 3 x8 (DV.p (PV.int IntKind.i64 (1)))).bind fun x34 =>
 f33_L1 G lo x1 x3 x4 x5 x6 x7 x34 σ := by kernel_rfl
theorem f33_L3_eq (G : GuardT) (hG : GuardOk G) (lo : Nat) (x4 x14 x15 x16 : DV) (σ : Store) : f33_L3 G lo x4 x14 x15 x16 σ =
 (len PP 51 x15 σ).bind fun x129 =>
 (binOp PP .lss 3 x16 x129).bind fun x130 =>
 condK x130
 (
 f33_L4 G lo x4 x14 x15 x16 (DV.p (PV.int IntKind.i64 (0))) σ
 )
 (
 some (x14, σ)
 ) := (loopF_eq G hG).trans (by kernel_rfl)
theorem f33_L4_eq (G : GuardT) (hG : GuardOk G) (lo : Nat) (x4 x14 x15 x16 x17 : DV) (σ : Store) : f33_L4 G lo x4 x14 x15 x16 x17 σ =
 (len PP 61 x4 σ).bind fun x135 =>
 (binOp PP .lss 3 x17 x135).bind fun x136 =>
 condK x136
 (
 (indexAddr PP 61 x4 x17).bind fun x141 =>
 (fieldAddr PP 77 x141 0).bind fun x142 =>
 (load PP 3 x142 σ).bind fun x143 =>
 (indexAddr PP 51 x15 x16).bind fun x146 =>
 (load PP 22 x146 σ).bind fun x147 =>
 (indexAddr PP 22 x147 (DV.p (PV.int IntKind.i64 (0)))).bind fun x148 =>
 (load PP 3 x148 σ).bind fun x149 =>
 (binOp PP .eql 3 x143 x149).bind fun x150 =>
 G _ x150 true (some (x4, σ)) σ fun x152 σ32 =>
 G _ x150 true (some (x17, σ32)) σ32 fun x153 σ33 =>
 G _ x150 true ((indexAddr PP 61 x152 x153).bind fun v => some (v, σ33)) σ33 fun x154 σ34 =>
 G _ x150 true ((fieldAddr PP 77 x154 1).bind fun v => some (v, σ34)) σ34 fun x155 σ35 =>
 G _ x150 true ((load PP 3 x155 σ35).bind fun v => some (v, σ35)) σ35 fun x156 σ36 =>
 G _ x150 true (some (x15, σ36)) σ36 fun x157 σ37 =>
 G _ x150 true (some (x16, σ37)) σ37 fun x158 σ38 =>
 G _ x150 true ((indexAddr PP 51 x157 x158).bind fun v => some (v, σ38)) σ38 fun x159 σ39 =>
 G _ x150 true ((load PP 22 x159 σ39).bind fun v => some (v, σ39)) σ39 fun x160 σ40 =>
 G _ x150 true ((indexAddr PP 22 x160 (DV.p (PV.int IntKind.i64 (1)))).bind fun v => some (v, σ40)) σ40 fun x161 σ41 =>
 G _ x150 true ((load PP 3 x161 σ41).bind fun v => some (v, σ41)) σ41 fun x162 σ42 =>
 G _ x150 true ((binOp PP .eql 3 x156 x162).bind fun v => some (v, σ42)) σ42 fun x163 σ43 =>
 (pickV x150 x163 (DV.p (PV.bool false))).bind fun x164 =>
 condK x164
 (
 (indexAddr PP 61 x4 x17).bind fun x168 =>
 (load PP 77 x168 σ43).bind fun x169 =>
 (buildSlice PP none 61 1 [(0, x169)] σ43).bind fun r170_44 =>
 (append PP lo false 61 61 x14 r170_44.1 r170_44.2).bind fun r171_45 =>
 f33_J2 G lo x4 r171_45.1 x15 x16 x17 x17 x4 x135 x136 x4 x17 x141 x142 x143 x15 x16 x146 x147 x148 x149 x150 x150 x152 x153 x154 x155 x156 x157 x158 x159 x160 x161 x162 x163 x164 x14 x4 x17 x168 x169 r170_44.1 r171_45.1 r171_45.2
 )
 (
 f33_J2 G lo x4 x14 x15 x16 x17 x17 x4 x135 x136 x4 x17 x141 x142 x143 x15 x16 x146 x147 x148 x149 x150 x150 x152 x153 x154 x155 x156 x157 x158 x159 x160 x161 x162 x163 x164 ud ud ud ud ud ud ud σ43
 )
 )
 (
 (binOp PP .add 3 x16 (DV.p (PV.int IntKind.i64 (1)))).bind fun x132 =>
 f33_L3 G lo x4 x14 x15 x132 σ
 ) := (loopF_eq G hG).trans (by kernel_rfl)
theorem f33_J2_eq (G : GuardT) (lo : Nat) (x4 x14 x15 x16 x17 x133 x134 x135 x136 x139 x140 x141 x142 x143 x144 x145 x146 x147 x148 x149 x150 x151 x152 x153 x154 x155 x156 x157 x158 x159 x160 x161 x162 x163 x164 x165 x166 x167 x168 x169 x170 x171 : DV) (σ : Store) : f33_J2 G lo x4 x14 x15 x16 x17 x133 x134 x135 x136 x139 x140 x141 x142 x143 x144 x145 x146 x147 x148 x149 x150 x151 x152 x153 x154 x155 x156 x157 x158 x159 x160 x161 x162 x163 x164 x165 x166 x167 x168 x169 x170 x171 σ =
 (binOp PP .add 3 x17 (DV.p (PV.int IntKind.i64 (1)))).bind fun x138 =>
 f33_L4 G lo x4 x14 x15 x16 x138 σ := by kernel_rfl
theorem f33_L5_eq (G : GuardT) (hG : GuardOk G) (lo : Nat) (x4 x14 x15 x16 : DV) (σ : Store) : f33_L5 G lo x4 x14 x15 x16 σ =
 (len PP 51 x15 σ).bind fun x129 =>
 (binOp PP .lss 3 x16 x129).bind fun x130 =>
 condK x130
 (
 f33_L6 G lo x4 x14 x15 x16 (DV.p (PV.int IntKind.i64 (0))) σ
 )
 (
 some (x14, σ)
 ) := (loopF_eq G hG).trans (by kernel_rfl)
theorem f33_L6_eq (G : GuardT) (hG : GuardOk G) (lo : Nat) (x4 x14 x15 x16 x17 : DV) (σ : Store) : f33_L6 G lo x4 x14 x15 x16 x17 σ =
 (len PP 61 x4 σ).bind fun x135 =>
 (binOp PP .lss 3 x17 x135).bind fun x136 =>
 condK x136
 (
 (indexAddr PP 61 x4 x17).bind fun x141 =>
 (fieldAddr PP 77 x141 0).bind fun x142 =>
 (load PP 3 x142 σ).bind fun x143 =>
 (indexAddr PP 51 x15 x16).bind fun x146 =>
 (load PP 22 x146 σ).bind fun x147 =>
 (indexAddr PP 22 x147 (DV.p (PV.int IntKind.i64 (0)))).bind fun x148 =>
 (load PP 3 x148 σ).bind fun x149 =>
 (binOp PP .eql 3 x143 x149).bind fun x150 =>
 G _ x150 true (some (x4, σ)) σ fun x152 σ46 =>
 G _ x150 true (some (x17, σ46)) σ46 fun x153 σ47 =>
 G _ x150 true ((indexAddr PP 61 x152 x153).bind fun v => some (v, σ47)) σ47 fun x154 σ48 =>
 G _ x150 true ((fieldAddr PP 77 x154 1).bind fun v => some (v, σ48)) σ48 fun x155 σ49 =>
 G _ x150 true ((load PP 3 x155 σ49).bind fun v => some (v, σ49)) σ49 fun x156 σ50 =>
 G _ x150 true (some (x15, σ50)) σ50 fun x157 σ51 =>
 G _ x150 true (some (x16, σ51)) σ51 fun x158 σ52 =>
 G _ x150 true ((indexAddr PP 51 x157 x158).bind fun v => some (v, σ52)) σ52 fun x159 σ53 =>
 G _ x150 true ((load PP 22 x159 σ53).bind fun v => some (v, σ53)) σ53 fun x160 σ54 =>
 G _ x150 true ((indexAddr PP 22 x160 (DV.p (PV.int IntKind.i64 (1)))).bind fun v => some (v, σ54)) σ54 fun x161 σ55 =>
 G _ x150 true ((load PP 3 x161 σ55).bind fun v => some (v, σ55)) σ55 fun x162 σ56 =>
 G _ x150 true ((binOp PP .eql 3 x156 x162).bind fun v => some (v, σ56)) σ56 fun x163 σ57 =>
 (pickV x150 x163 (DV.p (PV.bool false))).bind fun x164 =>
 condK x164
 (
 (indexAddr PP 61 x4 x17).bind fun x168 =>
 (load PP 77 x168 σ57).bind fun x169 =>
 (buildSlice PP none 61 1 [(0, x169)] σ57).bind fun r170_58 =>
 (append PP lo false 61 61 x14 r170_58.1 r170_58.2).bind fun r171_59 =>
 f33_J3 G lo x4 r171_59.1 x15 x16 x17 x17 x4 x135 x136 x4 x17 x141 x142 x143 x15 x16 x146 x147 x148 x149 x150 x150 x152 x153 x154 x155 x156 x157 x158 x159 x160 x161 x162 x163 x164 x14 x4 x17 x168 x169 r170_58.1 r171_59.1 r171_59.2
 )
 (
 f33_J3 G lo x4 x14 x15 x16 x17 x17 x4 x135 x136 x4 x17 x141 x142 x143 x15 x16 x146 x147 x148 x149 x150 x150 x152 x153 x154 x155 x156 x157 x158 x159 x160 x161 x162 x163 x164 ud ud ud ud ud ud ud σ57
 )
 )
 (
 (binOp PP .add 3 x16 (DV.p (PV.int IntKind.i64 (1)))).bind fun x132 =>
 f33_L5 G lo x4 x14 x15 x132 σ
 ) := (loopF_eq G hG).trans (by kernel_rfl)
theorem f33_J3_eq (G : GuardT) (lo : Nat) (x4 x14 x15 x16 x17 x133 x134 x135 x136 x139 x140 x141 x142 x143 x144 x145 x146 x147 x148 x149 x150 x151 x152 x153 x154 x155 x156 x157 x158 x159 x160 x161 x162 x163 x164 x165 x166 x167 x168 x169 x170 x171 : DV) (σ : Store) : f33_J3 G lo x4 x14 x15 x16 x17 x133 x134 x135 x136 x139 x140 x141 x142 x143 x144 x145 x146 x147 x148 x149 x150 x151 x152 x153 x154 x155 x156 x157 x158 x159 x160 x161 x162 x163 x164 x165 x166 x167 x168 x169 x170 x171 σ =
 (binOp PP .add 3 x17 (DV.p (PV.int IntKind.i64 (1)))).bind fun x138 =>
 f33_L6 G lo x4 x14 x15 x16 x138 σ := by kernel_rfl
theorem F33_eq (G : GuardT) (lo : Nat) (x0 : DV) (σ : Store) : F33 G lo x0 σ =
 (boxV x0).bind fun z1 =>
 (load PP 27 (DV.ptr (List.length σ) 0) (σ ++ [Row.mix z1])).bind fun x18 =>
 (pureFn CC (DV.fn 61 []) [x18] (σ ++ [Row.mix z1])).bind fun x19 =>
 f33_L0 G lo (DV.ptr (List.length σ) 0) x19 (DV.p PV.nilsl) (DV.p (PV.int IntKind.i64 (0))) (σ ++ [Row.mix z1]) := by kernel_rfl
theorem F33_call {lo : Nat} {x0 : DV} {σ : Store} {r : DV × Store} (h : F33 guardT lo x0 σ = some r) : CC lo 33 [x0] σ = some r :=
 callL_run Go.Proofs.Try.func33 (by decide +kernel) rfl (by decide +kernel) h
end Go.D
end
/- The reference's ranks: what it builds. -/
section
set_option linter.unusedVariables false
set_option linter.unusedSimpArgs false
namespace Go.D

/-! ### Lists side by side -/
def rowOf : DV → Option Nat
  | .osl r _ _ _ _ => some r
  | _ => none
def Apart (x y : DV) : Prop := ∀ r, rowOf x = some r → rowOf y = some r → False
def Fresh (σ : Store) (x x' : DV) : Prop := ∀ r, rowOf x' = some r → rowOf x = some r ∨ r = σ.length
theorem Apart.symm {x y : DV} (h : Apart x y) : Apart y x := fun r a b => h r b a
theorem Apart.nil (y : DV) : Apart (.p .nilsl) y := fun r a _ => by simp [rowOf] at a
theorem Out.row_lt {σ : Store} {lo sz n : Nat} {cs : List PV} {x : DV} (ho : Out σ lo sz n cs x) {r : Nat} (h : rowOf x = some r) : r < σ.length := by
  rcases ho.2 with ⟨_, rfl⟩ | ⟨_, r', ver, rfl, h3, _⟩
  · simp [rowOf] at h
  · have : r' = r := by simpa [rowOf] using h
    rw [← this]; exact get_lt h3
theorem Apart.fresh {σ : Store} {lo sz n : Nat} {cs : List PV} {x x' y : DV} (h : Apart x y) (hf : Fresh σ x x') (hy : Out σ lo sz n cs y) : Apart x' y := by
  intro r a b
  rcases hf r a with h1 | h1
  · exact h r h1 b
  · have := hy.row_lt b
    omega
theorem Out.other {σ σ' : Store} {lo sz n : Nat} {cs : List PV} {x y : DV} (ho : Out σ lo sz n cs y) (h : Others σ σ' x) (ha : Apart x y) : Out σ' lo sz n cs y := by
  refine ⟨ho.1, ?_⟩
  rcases ho.2 with h1 | ⟨h1, r, ver, rfl, h3, h4⟩
  · exact .inl h1
  · refine .inr ⟨h1, r, ver, rfl, h r _ h3 ?_, h4⟩
    rintro r' ver' sz' n' cs' rfl e
    exact ha r (by rw [e]; rfl) rfl

theorem Out.pushF {σ : Store} {t e lo sz b n : Nat} {z : List DV} {cs vs : List PV} {x : DV} (hs : srcType PP t = true) (hu : PP.underlying t = some (.slice e)) (h1 : size? PP e = some sz) (h2 : bytes? PP e = some b) (h3 : zeroOf PP e = some z)
    (h4 : z.length = sz) (hz : 0 < sz) (hb : 0 < b) (hb2 : b ≤ 1000) (hv : vs.length = sz) (ho : Out σ lo sz n cs x) (hn : n ≤ 10000000) (hlo : lo ≤ σ.length) :
    ∃ x' σ', append PP lo false t t x (.p (.sl true 1 vs)) σ = some (x', σ') ∧ Out σ' lo sz (n + 1) (cs ++ vs) x' ∧ Others σ σ' x ∧ Fresh σ x x' := by
  have hsrc : source σ sz (.p (.sl true 1 vs)) = some (1, vs.map DV.p) := by simp [source, hv]
  have hz0 : ¬ (z.length ≠ sz ∨ sz = 0) := by omega
  obtain ⟨hc, ho⟩ := ho
  rcases ho with ⟨rfl, rfl⟩ | ⟨hn0, r, ver, rfl, hr, hl⟩
  · refine ⟨.osl σ.length 0 sz 1 vs, σ ++ [.tok 0], ?_, ⟨by simp [hc, hv], .inr ⟨by simp, σ.length, 0, ?_, get_snoc, hlo⟩⟩, ?_, ?_⟩
    · have : b ≤ 140737488355328 := by omega
      simp only [append, hs, hu, h1, h2, h3, hz0, hsrc, appNil]
      simp [this, hb, pures_map, h4, hz, Nat.ne_of_gt hz]
    · have : cs = [] := List.length_eq_zero_iff.1 (by simpa using hc)
      rw [this]; simp
    · intro i row hi _
      exact get_old hi
    · intro r h; right; simpa [rowOf] using h.symm
  · refine ⟨.osl r (ver + 1) sz (n + 1) (cs ++ vs), σ.set r (.tok (ver + 1)), ?_, ⟨by simp [hc, hv, Nat.add_mul], .inr ⟨by simp, r, ver + 1, rfl, ?_, hl⟩⟩, ?_, ?_⟩
    · have e1 : (n + 1) * b ≤ 140737488355328 := Nat.le_trans (Nat.mul_le_mul (show n + 1 ≤ 10000001 by omega) hb2) (by decide)
      have e2 : n + 1 ≤ 140737488355328 := by omega
      simp only [append, hs, hu, h1, h2, h3, hz0, hsrc, appTok]
      simp [e1, e2, hb, hc, hl, hr, pures_map, h4, Nat.ne_of_gt hz]
    · rw [List.getElem?_set_self (get_lt hr)]
    · intro i row hi hne
      rw [List.getElem?_set_ne (fun e => hne _ _ _ _ _ rfl e.symm)]
      exact hi
    · intro r' h; left; exact h
theorem Out.many61 {σ : Store} {n m : Nat} {cs ds : List PV} {x y : DV} (ho : Out σ 0 4 n cs x) (hy : Out σ 0 4 m ds y) (hn : n + m ≤ 10000000) :
    ∃ x' σ', append PP 0 false 61 61 x y σ = some (x', σ') ∧ Out σ' 0 4 (n + m) (cs ++ ds) x' ∧ Others σ σ' x ∧ Fresh σ x x' := by
  have hsrc : source σ 4 y = some (m, ds.map DV.p) := by
    rcases hy.2 with ⟨rfl, rfl⟩ | ⟨h1, r, ver, rfl, _, _⟩
    · have : ds = [] := List.length_eq_zero_iff.1 (by simpa using hy.1)
      rw [this]; rfl
    · simp [source, hy.1]
  have hd := hy.1
  obtain ⟨hc, ho⟩ := ho
  rcases ho with ⟨rfl, rfl⟩ | ⟨hn0, r, ver, rfl, hr, hl⟩
  · have hcs : cs = [] := List.length_eq_zero_iff.1 (by simpa using hc)
    by_cases hm : m = 0
    · have hds : ds = [] := List.length_eq_zero_iff.1 (by rw [hd, hm])
      refine ⟨.p .nilsl, σ, ?_, ⟨by simp [hcs, hds, hm], .inl ⟨by omega, rfl⟩⟩, fun i row hi _ => hi, fun r h => by simp [rowOf] at h⟩
      simp only [append, src61, u61, s77, bytes77, zero77, hsrc, appNil]
      simp [hm]
    · refine ⟨.osl σ.length 0 4 m ds, σ ++ [.tok 0], ?_, ⟨by simp [hcs, hd], .inr ⟨by omega, σ.length, 0, ?_, get_snoc, Nat.zero_le _⟩⟩, ?_, ?_⟩
      · have e1 : m * 32 ≤ 140737488355328 := by omega
        have e2 : m ≤ 140737488355328 := by omega
        simp only [append, src61, u61, s77, bytes77, zero77, hsrc, appNil]
        simp [hm, e1, e2, pures_map]
      · rw [hcs, List.nil_append, Nat.zero_add]
      · intro i row hi _
        exact get_old hi
      · intro r h; right; simpa [rowOf] using h.symm
  · refine ⟨.osl r (ver + 1) 4 (n + m) (cs ++ ds), σ.set r (.tok (ver + 1)), ?_, ⟨by simp [hc, hd]; omega, .inr ⟨by omega, r, ver + 1, rfl, ?_, hl⟩⟩, ?_, ?_⟩
    · have e1 : (n + m) * 32 ≤ 140737488355328 := by omega
      have e2 : n + m ≤ 140737488355328 := by omega
      simp only [append, src61, u61, s77, bytes77, zero77, hsrc, appTok]
      simp [e1, e2, hc, hl, hr, pures_map]
    · rw [List.getElem?_set_self (get_lt hr)]
    · intro i row hi hne
      rw [List.getElem?_set_ne (fun e => hne _ _ _ _ _ rfl e.symm)]
      exact hi
    · intro r' h; left; exact h

/-- A list of moves as it stands in a variable. -/
def MV (F : List Mv) (x : DV) : Prop := (F = [] ∧ x = .p .nilsl) ∨ (F ≠ [] ∧ ∃ r ver, x = .osl r ver 4 F.length (eMvs F))
theorem MV.of_out {σ : Store} {lo k : Nat} {F : List Mv} {x : DV} (h : Out σ lo 4 k (eMvs F) x) (hk : k = F.length) : MV F x := by
  subst hk
  rcases h.2 with ⟨h1, rfl⟩ | ⟨h1, r, ver, rfl, _, _⟩
  · exact .inl ⟨List.length_eq_zero_iff.1 h1, rfl⟩
  · exact .inr ⟨fun e => h1 (by rw [e]; rfl), r, ver, rfl⟩
theorem MV.len {F : List Mv} {x : DV} (h : MV F x) (σ : Store) : len PP 61 x σ = some (.p (pI (F.length : Nat))) := by
  rcases h with ⟨rfl, rfl⟩ | ⟨_, r, ver, rfl⟩
  · exact lenMs none σ
  · simp [Go.D.len, u61]
theorem MV.idx {F : List Mv} {x : DV} (h : MV F x) {i : Nat} (hi : i < F.length) : indexAddr PP 61 x (.p (pI (i : Nat))) = some (.pptr (eMvs F) (i * 4)) := by
  rcases h with ⟨rfl, rfl⟩ | ⟨_, r, ver, rfl⟩
  · simp at hi
  · have h2 : (0 : Int) ≤ (i : Int) ∧ (i : Int) < (F.length : Nat) := by omega
    simp [indexAddr, u61, s77, h2, hi]

structure RL (p : Pair) (σ : Store) (F : List Mv) (A : List NP) (N : List Mv) (x4 x6 x7 : DV) : Prop where
  h0 : σ[0]? = some (.mix (ePair p))
  o4 : Out σ 0 4 F.length (eMvs F) x4
  o6 : Out σ 0 1 A.length (A.map cN) x6
  o7 : Out σ 0 4 N.length (eMvs N) x7
  a46 : Apart x4 x6
  a47 : Apart x4 x7
  a67 : Apart x6 x7
theorem RL.snoc {p : Pair} {σ : Store} {F : List Mv} {A : List NP} {N : List Mv} {x4 x6 x7 : DV} (h : RL p σ F A N x4 x6 x7) (r : Row) : RL p (σ ++ [r]) F A N x4 x6 x7 :=
  ⟨get_old h.h0, h.o4.snoc r, h.o6.snoc r, h.o7.snoc r, h.a46, h.a47, h.a67⟩
theorem RL.push6 {p : Pair} {σ : Store} {F : List Mv} {A : List NP} {N : List Mv} {x4 x6 x7 : DV} (h : RL p σ F A N x4 x6 x7) (hn : A.length ≤ 10000000) (q : NP) :
    ∃ x' σ', append PP 0 false 51 51 x6 (.p (.sl true 1 [cN q])) σ = some (x', σ') ∧ RL p σ' F (A ++ [q]) N x4 x' x7 := by
  obtain ⟨x', σ', h1, h2, h3, h4⟩ := h.o6.pushF (vs := [cN q]) src51 u51 s22 bytes22 zero22 rfl (by decide) (by decide) (by decide) rfl hn (Nat.zero_le _)
  refine ⟨x', σ', h1, h3.mix h.o6 h.h0 (fun v => by simp), h.o4.other h3 h.a46.symm, ?_, h.o7.other h3 h.a67, (h.a46.symm.fresh h4 h.o4).symm, h.a47, h.a67.fresh h4 h.o7⟩
  rw [List.length_append, List.map_append]
  exact h2
theorem RL.push7 {p : Pair} {σ : Store} {F : List Mv} {A : List NP} {N : List Mv} {x4 x6 x7 : DV} (h : RL p σ F A N x4 x6 x7) (hn : N.length ≤ 10000000) (v : Mv) :
    ∃ x' σ', append PP 0 false 61 61 x7 (.p (.sl true 1 (eMv v))) σ = some (x', σ') ∧ RL p σ' F A (N ++ [v]) x4 x6 x' := by
  obtain ⟨x', σ', h1, h2, h3, h4⟩ := h.o7.pushF (vs := eMv v) src61 u61 s77 bytes77 zero77 rfl (by decide) (by decide) (by decide) rfl hn (Nat.zero_le _)
  refine ⟨x', σ', h1, h3.mix h.o7 h.h0 (fun v => by simp), h.o4.other h3 h.a47.symm, h.o6.other h3 h.a67.symm, ?_, h.a46, (h.a47.symm.fresh h4 h.o4).symm, (h.a67.symm.fresh h4 h.o6).symm⟩
  rw [List.length_append, eMvs_app]
  exact h2

section
variable {p : Pair} {n m : Nat}

theorem idxFrom_at {q : Edg → Bool} {l : List Edg} {j : Nat} (h : j < l.length) : idxFrom q (l.drop j) j = bif q l[j] then (j : Int) else idxFrom q (l.drop (j + 1)) (j + 1) := by
  rw [drop_cons h, idxFrom]
  cases q l[j] <;> rfl

theorem L33_2 (hp : Nice p n m) {l : List NP} {x3 : DV} (hl : LV l x3) (hlen : l.length ≤ 1000000) {q : NP} (hq : q ∈ l) (hs : q.1 < m) (hu : q.2 < n) {k i : Nat} (hk : k > 0) {F : List Mv} {A : List NP} {N : List Mv} {x4 x6 x7 : DV} :
    ∀ (j : Nat) (σ : Store), j ≤ (L p.lo.edges).length → RL p σ F A N x4 x6 x7 →
      ∃ σ', RL p σ' F A N x4 x6 x7 ∧
        f33_L2 guardT 0 (.ptr 0 0) x3 x4 (.p (pI (k : Nat))) x6 x7 (.p (pI (i : Nat))) (.p (pI (q.1 : Nat))) (.p (pI (q.2 : Nat))) (.p (pI (idxFrom (refK p n l q) ((L p.lo.edges).drop j) j))) (.p (pI ((j : Nat) - 1))) σ =
        f33_L2 guardT 0 (.ptr 0 0) x3 x4 (.p (pI (k : Nat))) x6 x7 (.p (pI (i : Nat))) (.p (pI (q.1 : Nat))) (.p (pI (q.2 : Nat))) (.p (pI (idxFrom (refK p n l q) (L p.lo.edges) 0))) (.p (pI (-1))) σ'
  | 0, σ, hj, hR => ⟨σ, hR, rfl⟩
  | j + 1, σ, hj, hR => by
    have h : j < (L p.lo.edges).length := by omega
    have hle := hp.sm.le
    have e : (((j + 1 : Nat) : Int) - 1) = (j : Nat) := by omega
    have w : IntKind.wrap .i64 ((j : Int) - 1) = (j : Nat) - 1 := wrap_ok (by omega) (by omega)
    have h0 : decide ((j : Int) ≥ 0) = true := by simp
    have hk' : decide ((k : Int) > 0) = true := by simp; omega
    have hx : (σ ++ [Row.mix (edgD (L p.lo.edges)[j])])[σ.length]? = some (.mix (edgD (L p.lo.edges)[j])) := get_snoc
    have hR1 := hR.snoc (Row.mix (edgD (L p.lo.edges)[j]))
    have hsn := store_new100 σ (L p.lo.edges)[j] [.p (pI 0), .p (pI 0), .p (pI 0)] rfl
    obtain ⟨σ', g1, g2⟩ := L33_2 hp hl hlen hq hs hu hk (i := i) j _ (by omega) hR1
    refine ⟨σ', g1, ?_⟩
    rw [← g2, idxFrom_at h]
    have hS : pureV CC 72 [.agg (ePair p), x3, .p (pI (L p.lo.edges)[j].t), .p (pI (q.2 : Nat))] (σ ++ [Row.mix (edgD (L p.lo.edges)[j])]) = some (.p (.bool (matchP p (prs l) n (L p.lo.edges)[j].t (q.2 : Nat)))) := by
      rw [pureV_view (args' := [.agg (ePair p), .p (eLs (lsO l)), .p (pI (L p.lo.edges)[j].t), .p (pI (q.2 : Nat))]) (by simp [pair_view, hl.view]; exact ⟨rfl, rfl⟩) (by simp [pair_view, ls_view]; exact ⟨rfl, rfl⟩)]
      exact S72 hp.un hp.n2 hp.sm.ue (L_lsO l) (by rw [prs_len']; omega)
    rw [f33_L2_eq guardT rfl, e]
    simp only [b_geq, obind, h0, guard_tt, b_gtr, hk', pickV_true, condK_true, fa27_0, fa25_2, shift_ptr, Nat.zero_add, Nat.add_zero, load23, pr_2 hR.h0, idx23 h, load100, load100_D h, getD_at _ h, zero100, hsn]
    generalize hρ : σ ++ [Row.mix (edgD (L p.lo.edges)[j])] = ρ at *
    simp only [fa100_0, fa100_1, shift_ptr, Nat.zero_add, load3, load1_ptr (off := 0) hx rfl, load1_ptr (off := 1) hx rfl, obind, b_eql, refK]
    cases e1 : decide ((L p.lo.edges)[j].f = (q.1 : Nat)) with
    | false => simp only [guard_ft, guard_sk, obind, pickV_false, condK_false, f33_J0_eq, b_sub, w, Bool.false_and, cond_false]
    | true =>
      simp only [guard_tt, load27, pr_all hR1.h0, omap, obind, load1_ptr (off := 1) hx rfl, pureFn_fn, List.append_nil, hS, not_bool, pickV_true, Bool.true_and]
      cases e2 : matchP p (prs l) n (L p.lo.edges)[j].t (q.2 : Nat) with
      | false => simp only [Bool.not_false, condK_true, f33_J0_eq, b_sub, obind, w, cond_true]
      | true => simp only [Bool.not_true, condK_false, f33_J0_eq, b_sub, obind, w, cond_false]

/-- What a pair is put to, once its step is known. -/
theorem L33_fin (hp : Nice p n m) {l : List NP} {x3 : DV} (hl : LV l x3) (hlen : l.length ≤ 1000000) {k i : Nat} (hi : i < l.length) (hs : l[i].1 < m) (hu : l[i].2 < n) {F : List Mv} {A : List NP} {N : List Mv} {x4 x6 x7 : DV} {σ : Store} (hR : RL p σ F A N x4 x6 x7) (hA : A.length ≤ 1000000) (hN : N.length ≤ 1000000) :
    ∃ σ' x6' x7', RL p σ' F (A ++ if badK p n k l l[i] then [] else [l[i]]) (N ++ if badK p n k l l[i] then [mvK p n k l l[i]] else []) x4 x6' x7' ∧
      f33_L2 guardT 0 (.ptr 0 0) x3 x4 (.p (pI (k : Nat))) x6 x7 (.p (pI (i : Nat))) (.p (pI (l[i].1 : Nat))) (.p (pI (l[i].2 : Nat))) (.p (pI (stepK p n k l l[i]))) (.p (pI (-1))) σ =
      f33_L1 guardT 0 (.ptr 0 0) x3 x4 (.p (pI (k : Nat))) x6' x7' (.p (pI (i + 1 : Nat))) σ' := by
  have w : IntKind.wrap .i64 ((i : Int) + 1) = ((i + 1 : Nat) : Int) := wrap_succ (by omega)
  have b1 : l[i].1 < (L p.ll).length := by rw [hp.ll]; exact hs
  have b2 : l[i].2 < (L p.ul).length := by rw [hp.ul]; exact hu
  have hlab : labOk p (l[i].1 : Nat) (l[i].2 : Nat) = decide ((L p.ll).getD l[i].1 0 = (L p.ul).getD l[i].2 0) := by unfold labOk; simp only [Int.toNat_natCast]
  have hk0 : decide ((k : Int) = 0) = decide (k = 0) := by simp only [decide_eq_decide]; omega
  have hbk : badK p n k l l[i] = (decide (k = 0) && !decide ((L p.ll).getD l[i].1 0 = (L p.ul).getD l[i].2 0) || !decide (stepK p n k l l[i] = -1)) := by unfold badK; rw [hlab]
  -- the second half
  have hrest : ∀ bad : Bool, bad = badK p n k l l[i] →
      ∃ σ' x6' x7', RL p σ' F (A ++ if badK p n k l l[i] then [] else [l[i]]) (N ++ if badK p n k l l[i] then [mvK p n k l l[i]] else []) x4 x6' x7' ∧
        condK (.p (.bool bad))
          ((buildSlice PP none 61 1 [(0, .agg (mvD (mvK p n k l l[i])))] σ).bind fun r => (append PP 0 false 61 61 x7 r.1 r.2).bind fun r2 => f33_L1 guardT 0 (.ptr 0 0) x3 x4 (.p (pI (k : Nat))) x6 r2.1 (.p (pI (i + 1 : Nat))) r2.2)
          ((buildSlice PP none 51 1 [(0, .p (cN l[i]))] σ).bind fun r => (append PP 0 false 51 51 x6 r.1 r.2).bind fun r2 => f33_L1 guardT 0 (.ptr 0 0) x3 x4 (.p (pI (k : Nat))) r2.1 x7 (.p (pI (i + 1 : Nat))) r2.2) =
        f33_L1 guardT 0 (.ptr 0 0) x3 x4 (.p (pI (k : Nat))) x6' x7' (.p (pI (i + 1 : Nat))) σ' := by
    intro bad hb
    rw [← hb]
    cases bad with
    | true =>
      obtain ⟨x', σ', h1, h2⟩ := hR.push7 (by omega) (mvK p n k l l[i])
      refine ⟨σ', x6, x', ?_, ?_⟩
      · rw [if_pos rfl, if_pos rfl, List.append_nil]; exact h2
      · simp only [condK_true, bs61_1, obind, h1]
    | false =>
      obtain ⟨x', σ', h1, h2⟩ := hR.push6 (by omega) l[i]
      refine ⟨σ', x', x7, ?_, ?_⟩
      · rw [if_neg (by simp), if_neg (by simp), List.append_nil]; exact h2
      · simp only [condK_false, bs51_1, obind, h1]
  have hbl := build77 (l[i].1 : Nat) (l[i].2 : Nat) (k : Nat) (stepK p n k l l[i])
  have hmv : mvD (mvK p n k l l[i]) = mvD ⟨(l[i].1 : Nat), (l[i].2 : Nat), (k : Nat), stepK p n k l l[i]⟩ := rfl
  have hcn : eSl (prO (toPR l[i])) = cN l[i] := rfl
  obtain ⟨σ', x6', x7', g1, g2⟩ := hrest _ rfl
  refine ⟨σ', x6', x7', g1, Eq.trans ?_ g2⟩
  rw [f33_L2_eq guardT rfl, hbk, hmv]
  have hm1 : decide ((-1 : Int) ≥ 0) = false := rfl
  simp only [b_geq, obind, hm1, guard_ft, guard_sk, pickV_false, condK_false, b_eql, hk0]
  cases e0 : decide (k = 0) <;> cases e1 : decide ((L p.ll).getD l[i].1 0 = (L p.ul).getD l[i].2 0) <;> cases e2 : decide (stepK p n k l l[i] = -1) <;>
    simp only [guard_ft, guard_tf, guard_ff, guard_tt, guard_sk, fa27_2, fa27_3, shift_ptr, Nat.zero_add, load22, pr_6 hR.h0, pr_7 hR.h0, idx22 b1, idx22 b2, load3, load1_getD b1, load1_getD b2, b_neq, e1, e2, obind, pickV_false, pickV_true, Bool.not_true, Bool.not_false, Bool.true_and, Bool.false_and, Bool.true_or, Bool.false_or, Bool.or_true, Bool.or_false, Bool.and_true, Bool.and_false, condK_true, condK_false, hbl, bs61_1, hl.idx hi, cN_ld hi, hcn, bs51_1, f33_J1_eq, b_add, w]

theorem L33_1 (hp : Nice p n m) {l : List NP} {x3 : DV} (hl : LV l x3) (hlen : l.length ≤ 1000000) (hsub : ∀ q ∈ l, q.1 < m ∧ q.2 < n) {k : Nat} (hk : k ≤ 10000000) {F : List Mv} {x4 : DV} :
    ∀ (d i : Nat) (x6 x7 : DV) (σ : Store), l.length - i = d → i ≤ l.length → RL p σ F ((l.take i).filter fun q => !badK p n k l q) (((l.take i).filter (badK p n k l)).map (mvK p n k l)) x4 x6 x7 →
      ∃ σ' x6' x7', RL p σ' F (l.filter fun q => !badK p n k l q) (nowK p n k l) x4 x6' x7' ∧
        f33_L1 guardT 0 (.ptr 0 0) x3 x4 (.p (pI (k : Nat))) x6 x7 (.p (pI (i : Nat))) σ = f33_L1 guardT 0 (.ptr 0 0) x3 x4 (.p (pI (k : Nat))) x6' x7' (.p (pI (l.length : Nat))) σ'
  | 0, i, x6, x7, σ, hd, hi, hR => by
    have : i = l.length := by omega
    subst this
    rw [List.take_length] at hR
    exact ⟨σ, x6, x7, hR, rfl⟩
  | d + 1, i, x6, x7, σ, hd, hi, hR => by
    have h : i < l.length := by omega
    have h' : (i : Int) < (l.length : Nat) := by omega
    obtain ⟨hs, hu⟩ := hsub _ (List.getElem_mem h)
    have hle := hp.sm.le
    have w1 : IntKind.wrap .i64 (((L p.lo.edges).length : Nat) - 1 : Int) = ((L p.lo.edges).length : Nat) - 1 := wrap_ok (by omega) (by omega)
    have hA : ((l.take i).filter fun q => !badK p n k l q).length ≤ 1000000 := Nat.le_trans (List.length_filter_le _ _) (by rw [List.length_take]; omega)
    have hN : (((l.take i).filter (badK p n k l)).map (mvK p n k l)).length ≤ 1000000 := by rw [List.length_map]; exact Nat.le_trans (List.length_filter_le _ _) (by rw [List.length_take]; omega)
    have hstep : ∃ σ1, RL p σ1 F ((l.take i).filter fun q => !badK p n k l q) (((l.take i).filter (badK p n k l)).map (mvK p n k l)) x4 x6 x7 ∧
        f33_L2 guardT 0 (.ptr 0 0) x3 x4 (.p (pI (k : Nat))) x6 x7 (.p (pI (i : Nat))) (.p (pI (l[i].1 : Nat))) (.p (pI (l[i].2 : Nat))) (.p (pI (-1))) (.p (pI (((L p.lo.edges).length : Nat) - 1))) σ =
        f33_L2 guardT 0 (.ptr 0 0) x3 x4 (.p (pI (k : Nat))) x6 x7 (.p (pI (i : Nat))) (.p (pI (l[i].1 : Nat))) (.p (pI (l[i].2 : Nat))) (.p (pI (stepK p n k l l[i]))) (.p (pI (-1))) σ1 := by
      by_cases hk0 : k > 0
      · obtain ⟨σ1, g1, g2⟩ := L33_2 hp hl hlen (List.getElem_mem h) hs hu hk0 (i := i) (L p.lo.edges).length σ (Nat.le_refl _) hR
        rw [List.drop_length] at g2
        refine ⟨σ1, g1, ?_⟩
        have : stepK p n k l l[i] = idxFrom (refK p n l l[i]) (L p.lo.edges) 0 := by unfold stepK; rw [if_pos hk0]
        rw [this]
        exact g2
      · refine ⟨σ, hR, ?_⟩
        have : stepK p n k l l[i] = -1 := by unfold stepK; rw [if_neg hk0]
        have hz : k = 0 := by omega
        rw [this, hz]
        have h0 : decide (((0 : Nat) : Int) > 0) = false := rfl
        have hm1 : decide ((-1 : Int) ≥ 0) = false := rfl
        rw [f33_L2_eq guardT rfl, f33_L2_eq guardT rfl]
        cases e : decide ((((L p.lo.edges).length : Nat) : Int) - 1 ≥ 0) <;>
          simp only [b_geq, obind, e, hm1, guard_tt, guard_ft, guard_sk, b_gtr, h0, pickV_true, pickV_false, condK_false]
    obtain ⟨σ1, hR1, g⟩ := hstep
    obtain ⟨σ2, x6', x7', hR2, g2⟩ := L33_fin (k := k) hp hl hlen h hs hu hR1 hA hN
    have ht : l.take (i + 1) = l.take i ++ [l[i]] := List.take_succ_eq_append_getElem h
    have e6 : ((l.take i).filter fun q => !badK p n k l q) ++ (if badK p n k l l[i] then [] else [l[i]]) = (l.take (i + 1)).filter fun q => !badK p n k l q := by
      rw [ht, List.filter_append]
      congr 1
      cases hb : badK p n k l l[i] <;> simp [hb]
    have e7 : (((l.take i).filter (badK p n k l)).map (mvK p n k l)) ++ (if badK p n k l l[i] then [mvK p n k l l[i]] else []) = ((l.take (i + 1)).filter (badK p n k l)).map (mvK p n k l) := by
      rw [ht, List.filter_append, List.map_append]
      congr 1
      cases hb : badK p n k l l[i] <;> simp [hb]
    rw [e6, e7] at hR2
    obtain ⟨σ', y6, y7, k1, k2⟩ := L33_1 hp hl hlen hsub hk d (i + 1) x6' x7' σ2 (by omega) (by omega) hR2
    refine ⟨σ', y6, y7, k1, ?_⟩
    rw [f33_L1_eq guardT rfl]
    simp only [hl.len, obind, b_lss, h', decide_true, condK_true, hl.idx h, load22, cN_ld h, pr_idx0, pr_idx1, load3, ii_ld0, ii_ld1, toPR, fa27_0, fa25_2, shift_ptr, Nat.zero_add, Nat.add_zero, load23, pr_2 hR.h0, len23, b_sub, w1]
    rw [g, g2, k2]

/-! ### The moves in the order of the pairs -/
theorem f33_L5_eq3 : @f33_L5 = @f33_L3 := rfl
theorem L33_4 {F : List Mv} {x4 : DV} (hF : MV F x4) (hFl : F.length ≤ 1000000) {ps : List NP} {i : Nat} (hi : i < ps.length) {O : List Mv} (hO : O.length ≤ 1000000) :
    ∀ (d j : Nat) (x14 : DV) (σ : Store), F.length - j = d → j ≤ F.length → Out σ 0 4 (O ++ (F.take j).filter (isQ ps[i])).length (eMvs (O ++ (F.take j).filter (isQ ps[i]))) x14 →
      ∃ x' σ', Out σ' 0 4 (O ++ F.filter (isQ ps[i])).length (eMvs (O ++ F.filter (isQ ps[i]))) x' ∧
        f33_L4 guardT 0 x4 x14 (.p (eLs (lsO ps))) (.p (pI (i : Nat))) (.p (pI (j : Nat))) σ = f33_L4 guardT 0 x4 x' (.p (eLs (lsO ps))) (.p (pI (i : Nat))) (.p (pI (F.length : Nat))) σ'
  | 0, j, x14, σ, hd, hj, ho => by
    have : j = F.length := by omega
    subst this
    rw [List.take_length] at ho
    exact ⟨x14, σ, ho, rfl⟩
  | d + 1, j, x14, σ, hd, hj, ho => by
    have h : j < F.length := by omega
    have h' : (j : Int) < (F.length : Nat) := by omega
    have w : IntKind.wrap .i64 ((j : Int) + 1) = ((j + 1 : Nat) : Int) := wrap_succ (by omega)
    have hb0 : i < (L (lsO ps)).length := by rw [lsO_len]; exact hi
    have hg : (L (lsO ps)).getD i none = prO (toPR ps[i]) := by rw [prs_get (L_lsO ps) (by rw [prs_len']; exact hi)]; simp [prs]
    have ht : F.take (j + 1) = F.take j ++ [F[j]] := List.take_succ_eq_append_getElem h
    have hfl : ((F.take j).filter (isQ ps[i])).length ≤ j := Nat.le_trans (List.length_filter_le _ _) (by rw [List.length_take]; omega)
    have hisq : isQ ps[i] F[j] = (decide (F[j].low = (ps[i].1 : Nat)) && decide (F[j].up = (ps[i].2 : Nat))) := rfl
    have hmd := load77_D h σ
    rw [f33_L4_eq guardT rfl]
    have hno : isQ ps[i] F[j] = false → Out σ 0 4 (O ++ (F.take (j + 1)).filter (isQ ps[i])).length (eMvs (O ++ (F.take (j + 1)).filter (isQ ps[i]))) x14 := by
      intro hf
      have : (F.take (j + 1)).filter (isQ ps[i]) = (F.take j).filter (isQ ps[i]) := by rw [ht, List.filter_append]; simp [hf]
      rw [this]; exact ho
    cases e1 : decide (F[j].low = (ps[i].1 : Nat)) with
    | false =>
      obtain ⟨x', σ', k1, k2⟩ := L33_4 hF hFl hi hO d (j + 1) x14 σ (by omega) (by omega) (hno (by rw [hisq, e1]; rfl))
      refine ⟨x', σ', k1, ?_⟩
      simp only [hF.len, obind, b_lss, h', decide_true, condK_true, hF.idx h, fm77_0, fm77_1, shift_pptr, Nat.add_zero, load3, ld_low h, idx51 hb0, load22, load1_ls hb0, hg, pr_idx0, ii_ld0, toPR, b_eql, e1, guard_ft, guard_sk, pickV_false, condK_false, f33_J2_eq, b_add, w]
      exact k2
    | true =>
      cases e2 : decide (F[j].up = (ps[i].2 : Nat)) with
      | false =>
        obtain ⟨x', σ', k1, k2⟩ := L33_4 hF hFl hi hO d (j + 1) x14 σ (by omega) (by omega) (hno (by rw [hisq, e1, e2]; rfl))
        refine ⟨x', σ', k1, ?_⟩
        simp only [hF.len, obind, b_lss, h', decide_true, condK_true, hF.idx h, fm77_0, fm77_1, shift_pptr, Nat.add_zero, load3, ld_low h, ld_up h, idx51 hb0, load22, load1_ls hb0, hg, pr_idx0, pr_idx1, ii_ld0, ii_ld1, toPR, b_eql, e1, e2, guard_tt, pickV_true, condK_false, f33_J2_eq, b_add, w]
        exact k2
      | true =>
        obtain ⟨y, ρ, g1, g2, g3, g4⟩ := ho.push61 (v := F[j]) (by rw [List.length_append]; omega) (Nat.zero_le _)
        have e3 : O ++ (F.take (j + 1)).filter (isQ ps[i]) = (O ++ (F.take j).filter (isQ ps[i])) ++ [F[j]] := by
          rw [ht, List.filter_append, List.append_assoc]
          have : isQ ps[i] F[j] = true := by rw [hisq, e1, e2]; rfl
          simp [this]
        have ho2 : Out ρ 0 4 (O ++ (F.take (j + 1)).filter (isQ ps[i])).length (eMvs (O ++ (F.take (j + 1)).filter (isQ ps[i]))) y := by
          rw [e3, eMvs_app, List.length_append]; exact g2
        obtain ⟨x', σ', k1, k2⟩ := L33_4 hF hFl hi hO d (j + 1) y ρ (by omega) (by omega) ho2
        refine ⟨x', σ', k1, ?_⟩
        simp only [hF.len, obind, b_lss, h', decide_true, condK_true, hF.idx h, fm77_0, fm77_1, shift_pptr, Nat.add_zero, load3, ld_low h, ld_up h, idx51 hb0, load22, load1_ls hb0, hg, pr_idx0, pr_idx1, ii_ld0, ii_ld1, toPR, b_eql, e1, e2, guard_tt, pickV_true, load77, hmd, bs61_1, g1, f33_J2_eq, b_add, w]
        exact k2

theorem L33_3 {F : List Mv} {x4 : DV} (hF : MV F x4) (hFl : F.length ≤ 1000000) {ps : List NP} (hps : ps.length ≤ 1000000) (hb : ∀ i, i ≤ ps.length → ((ps.take i).flatMap fun q => F.filter (isQ q)).length ≤ 1000000) :
    ∀ (d i : Nat) (x14 : DV) (σ : Store), ps.length - i = d → i ≤ ps.length → Out σ 0 4 ((ps.take i).flatMap fun q => F.filter (isQ q)).length (eMvs ((ps.take i).flatMap fun q => F.filter (isQ q))) x14 →
      ∃ x' σ', Out σ' 0 4 (ps.flatMap fun q => F.filter (isQ q)).length (eMvs (ps.flatMap fun q => F.filter (isQ q))) x' ∧
        f33_L3 guardT 0 x4 x14 (.p (eLs (lsO ps))) (.p (pI (i : Nat))) σ = some (x', σ')
  | 0, i, x14, σ, hd, hi, ho => by
    have : i = ps.length := by omega
    subst this
    have hlt : ¬ (ps.length : Int) < (ps.length : Nat) := by omega
    rw [List.take_length] at ho
    refine ⟨x14, σ, ho, ?_⟩
    rw [f33_L3_eq guardT rfl]
    simp only [len51, lsO_len, obind, b_lss, hlt, decide_false, condK_false]
  | d + 1, i, x14, σ, hd, hi, ho => by
    have h : i < ps.length := by omega
    have h' : (i : Int) < (ps.length : Nat) := by omega
    have w : IntKind.wrap .i64 ((i : Int) + 1) = ((i + 1 : Nat) : Int) := wrap_succ (by omega)
    obtain ⟨y, ρ, g1, g2⟩ := L33_4 hF hFl h (O := (ps.take i).flatMap fun q => F.filter (isQ q)) (hb i hi) _ 0 x14 σ rfl (Nat.zero_le _) (by simpa using ho)
    have e : ((ps.take (i + 1)).flatMap fun q => F.filter (isQ q)) = ((ps.take i).flatMap fun q => F.filter (isQ q)) ++ F.filter (isQ ps[i]) := by
      rw [List.take_succ_eq_append_getElem h, List.flatMap_append]
      simp
    rw [← e] at g1
    obtain ⟨x', σ', k1, k2⟩ := L33_3 hF hFl hps hb d (i + 1) y ρ (by omega) (by omega) g1
    have g2' : f33_L4 guardT 0 x4 x14 (.p (eLs (lsO ps))) (.p (pI (i : Nat))) (.p (pI 0)) σ = _ := g2
    have hnn : ¬ (F.length : Int) < (F.length : Nat) := by omega
    refine ⟨x', σ', k1, ?_⟩
    rw [f33_L3_eq guardT rfl]
    simp only [len51, lsO_len, obind, b_lss, h', decide_true, condK_true, g2']
    rw [f33_L4_eq guardT rfl]
    simp only [hF.len, obind, b_lss, hnn, decide_false, condK_false, b_add, w]
    exact k2

theorem foundK_bound (hp : Nice p n m) (k : Nat) : (foundK p m n k).length ≤ 1000000 := by
  have h1 : m * n ≤ 1000 * 1000 := Nat.mul_le_mul hp.m2 hp.n2
  have := foundK_len hp k
  omega
theorem flat_len (hp : Nice p n m) (K : Nat) : ∀ ps : List NP, (∀ q ∈ ps, q ∈ pairsA m n) → (ps.flatMap fun q => (foundK p m n K).filter (isQ q)).length ≤ ps.length
  | [], _ => by simp
  | q :: ps, h => by
    have ih := flat_len hp K ps fun q hq => h q (List.mem_cons_of_mem _ hq)
    rw [List.flatMap_cons, List.length_append, foundK_at hp q (h q List.mem_cons_self)]
    split <;> simp only [List.length_nil, List.length_cons] <;> omega

/-- The last part. -/
theorem L33_end (hp : Nice p n m) {K : Nat} (hK : al p m n K = simL p m n) {x4 : DV} {σ : Store} (h0 : σ[0]? = some (.mix (ePair p))) (ho : Out σ 0 4 (foundK p m n K).length (eMvs (foundK p m n K)) x4) :
    ∃ x' σ', Out σ' 0 4 (ranksL p m n).length (eMvs (ranksL p m n)) x' ∧
      ((load PP 27 (.ptr 0 0) σ).bind fun x125 => (pureFn CC (DV.fn 61 []) [x125] σ).bind fun x126 => f33_L3 guardT 0 x4 (DV.p PV.nilsl) x126 (DV.p (PV.int IntKind.i64 (0))) σ) = some (x', σ') := by
  have hmn : m * n ≤ 1000 * 1000 := Nat.mul_le_mul hp.m2 hp.n2
  have hpl : (pairsA m n).length ≤ 1000000 := by rw [pairsA_len]; omega
  have hb : ∀ i, i ≤ (pairsA m n).length → (((pairsA m n).take i).flatMap fun q => (foundK p m n K).filter (isQ q)).length ≤ 1000000 := by
    intro i hi
    refine Nat.le_trans (flat_len hp K _ fun q hq => List.mem_of_mem_take hq) ?_
    rw [List.length_take]; omega
  obtain ⟨x', σ', k1, k2⟩ := L33_3 (MV.of_out ho rfl) (foundK_bound hp K) hpl hb _ 0 (.p .nilsl) σ rfl (Nat.zero_le _) (by simpa [eMvs] using Out.zero)
  rw [found_end hp hK] at k1
  refine ⟨x', σ', k1, ?_⟩
  simp only [load27, pr_all h0, omap, obind, pureFn_fn, List.append_nil, S61 hp]
  exact k2

theorem L33_0 (hp : Nice p n m) :
    ∀ (c k : Nat) (x3 x4 : DV) (σ : Store), m * n + 1 - k = c → k ≤ m * n + 1 → LV (al p m n k) x3 → σ[0]? = some (.mix (ePair p)) → Out σ 0 4 (foundK p m n k).length (eMvs (foundK p m n k)) x4 →
      ∃ x' σ', Out σ' 0 4 (ranksL p m n).length (eMvs (ranksL p m n)) x' ∧ f33_L0 guardT 0 (.ptr 0 0) x3 x4 (.p (pI (k : Nat))) σ = some (x', σ')
  | 0, k, x3, x4, σ, hc, hk, hl, h0, ho => by
    have hkk : k = m * n + 1 := by omega
    have hmn : m * n ≤ 1000 * 1000 := Nat.mul_le_mul hp.m2 hp.n2
    have hfl := foundK_len hp k
    have w : IntKind.wrap .i64 (((al p m n k).length : Nat) + ((foundK p m n k).length : Nat) : Int) = ((m * n : Nat) : Int) := by rw [wrap_ok] <;> omega
    have hle : ¬ (k : Int) ≤ ((m * n : Nat) : Int) := by omega
    obtain ⟨x', σ', k1, k2⟩ := L33_end hp (K := k) (by rw [hkk]; rfl) h0 ho
    refine ⟨x', σ', k1, ?_⟩
    rw [f33_L0_eq guardT rfl, f33_L5_eq3]
    simp only [hl.len, (MV.of_out ho rfl).len, obind, b_add, w, b_leq, hle, decide_false, condK_false]
    exact k2
  | c + 1, k, x3, x4, σ, hc, hk, hl, h0, ho => by
    have hmn : m * n ≤ 1000 * 1000 := Nat.mul_le_mul hp.m2 hp.n2
    have hfl := foundK_len hp k
    have hall := al_len (p := p) (m := m) (n := n) k
    have w : IntKind.wrap .i64 (((al p m n k).length : Nat) + ((foundK p m n k).length : Nat) : Int) = ((m * n : Nat) : Int) := by rw [wrap_ok] <;> omega
    have wk : IntKind.wrap .i64 ((k : Int) + 1) = ((k + 1 : Nat) : Int) := by rw [wrap_ok] <;> omega
    have hle : (k : Int) ≤ ((m * n : Nat) : Int) := by omega
    have hR0 : RL p σ (foundK p m n k) (((al p m n k).take 0).filter fun q => !badK p n k (al p m n k) q) ((((al p m n k).take 0).filter (badK p n k (al p m n k))).map (mvK p n k (al p m n k))) x4 (.p .nilsl) (.p .nilsl) :=
      ⟨h0, ho, by simpa using Out.zero, by simpa [eMvs] using Out.zero, (Apart.nil _).symm, (Apart.nil _).symm, Apart.nil _⟩
    obtain ⟨σ1, x6, x7, hR1, g1⟩ := L33_1 hp hl (by omega) (al_sub k) (by omega) _ 0 _ _ σ rfl (Nat.zero_le _) hR0
    rw [← al_succ_bad hp] at hR1
    have hnl := nowK_len hp k
    obtain ⟨x4', σ2, g2, g3, g4, g5⟩ := hR1.o4.many61 hR1.o7 (by omega)
    have h02 : σ2[0]? = some (.mix (ePair p)) := g4.mix hR1.o4 hR1.h0 (fun v => by simp)
    have ho2 : Out σ2 0 4 (foundK p m n (k + 1)).length (eMvs (foundK p m n (k + 1))) x4' := by
      have ea : ∀ a b : List Mv, eMvs (a ++ b) = eMvs a ++ eMvs b := by
        intro a b
        induction a with
        | nil => rfl
        | cons x a ih => simp [eMvs, ih]
      unfold foundK
      rw [List.length_append, ea]
      exact g3
    have hl6 : LV (al p m n (k + 1)) x6 := LV.of_out hR1.o6
    have hm7 : MV (nowK p n k (al p m n k)) x7 := MV.of_out hR1.o7 rfl
    have g1' : f33_L1 guardT 0 (.ptr 0 0) x3 x4 (.p (pI (k : Nat))) (.p .nilsl) (.p .nilsl) (.p (pI 0)) σ = _ := g1
    have hnn : ¬ ((al p m n k).length : Int) < ((al p m n k).length : Nat) := by omega
    have hbody : f33_L0 guardT 0 (.ptr 0 0) x3 x4 (.p (pI (k : Nat))) σ =
        condK (.p (.bool (decide ((k : Int) > 0) && decide (((nowK p n k (al p m n k)).length : Int) = 0))))
          ((load PP 27 (.ptr 0 0) σ2).bind fun x125 => (pureFn CC (DV.fn 61 []) [x125] σ2).bind fun x126 => f33_L3 guardT 0 x4' (DV.p PV.nilsl) x126 (DV.p (PV.int IntKind.i64 (0))) σ2)
          (f33_L0 guardT 0 (.ptr 0 0) x6 x4' (.p (pI (k + 1 : Nat))) σ2) := by
      rw [f33_L0_eq guardT rfl]
      simp only [hl.len, (MV.of_out ho rfl).len, obind, b_add, w, b_leq, hle, decide_true, condK_true, g1']
      rw [f33_L1_eq guardT rfl]
      simp only [hl.len, obind, b_lss, hnn, decide_false, condK_false, g2, b_gtr]
      cases e : decide ((k : Int) > 0) with
      | false => simp only [guard_ft, guard_sk, obind, pickV_false, condK_false, b_add, wk, Bool.false_and]
      | true => simp only [guard_tt, hm7.len, obind, b_eql, pickV_true, b_add, wk, Bool.true_and]
    rw [hbody]
    cases e : decide ((k : Int) > 0) && decide (((nowK p n k (al p m n k)).length : Int) = 0) with
    | true =>
      have hn0 : (nowK p n k (al p m n k)).length = 0 := by
        rw [Bool.and_eq_true, decide_eq_true_eq, decide_eq_true_eq] at e
        omega
      obtain ⟨x', σ', k1, k2⟩ := L33_end hp (K := k + 1) (now_empty hp hn0) h02 ho2
      refine ⟨x', σ', k1, ?_⟩
      rw [condK_true]
      exact k2
    | false =>
      obtain ⟨x', σ', k1, k2⟩ := L33_0 hp c (k + 1) x6 x4' σ2 (by omega) (by omega) hl6 h02 ho2
      refine ⟨x', σ', k1, ?_⟩
      rw [condK_false]
      exact k2

theorem S33 (hp : Nice p n m) (σ : Store) : pureV CC 33 [.agg (ePair p)] σ = some (.p (eMs (msO (ranksL p m n)))) := by
  refine pureV_any (by simp [pair_view]) fun lo σ0 hs => ?_
  rcases hs with ⟨rfl, rfl, _⟩ | ⟨_, _, h⟩
  case inr => exact absurd h (by simp [rowFree, rowFree1, ePair])
  have g0 : ([Row.mix (ePair p)] : Store)[0]? = some (.mix (ePair p)) := rfl
  obtain ⟨x', σ', h1, h2⟩ := L33_0 hp _ 0 (.p (eLs (lsO (pairsA m n)))) (.p .nilsl) [Row.mix (ePair p)] rfl (Nat.zero_le _) (.inl rfl) rfl Out.zero
  refine ⟨x', σ', F33_call ?_, ?_⟩
  · rw [F33_eq]
    simp only [box_pair, obind, List.length_nil, List.nil_append, load27, pr_all g0, omap, pureFn_fn, List.append_nil, S61 hp]
    exact h2
  · have ht := out_ms_thaw h1 rfl
    rcases h1.2 with ⟨_, rfl⟩ | ⟨_, r, ver, rfl, _, _⟩ <;> exact ht

end
end Go.D
end
/- Equations of functions 7, 9, printed by gen.py. -/
section
set_option linter.unusedVariables false
set_option maxRecDepth 10000
namespace Go.D
open _root_.Go.D.Code (fstC sndC)
open _root_.Go.D.Ann (left right)
noncomputable def c7_0 : Code := bodyOf Go.Proofs.Try.f7
noncomputable def a7_0 : Ann := (pol 7).ann
noncomputable def F7 (G : GuardT) (lo : Nat) (x0 x1 : DV) (σ : Store) : Option (DV × Store) :=
 codeF G PP (pol 7) CC lo c7_0 a7_0 [x0, x1, ud, ud, ud, ud, ud, ud, ud, ud, ud, ud, ud, ud, ud, ud, ud, ud, ud, ud, ud, ud, ud, ud, ud, ud, ud, ud, ud, ud, ud, ud, ud, ud, ud, ud, ud, ud, ud, ud, ud, ud, ud, ud, ud, ud, ud, ud, ud, ud, ud, ud, ud, ud, ud, ud, ud, ud, ud, ud, ud, ud, ud, ud, ud, ud, ud, ud, ud, ud, ud, ud, ud, ud, ud, ud, ud, ud, ud, ud, ud, ud] σ (finR PP Go.Proofs.Try.f7.results.toList)
theorem F7_eq (G : GuardT) (lo : Nat) (x0 x1 : DV) (σ : Store) : F7 G lo x0 x1 σ =
 (boxV x0).bind fun z2 =>
 (pureFn CC (DV.fn 10 []) [] (σ ++ [Row.mix z2])).bind fun x12 =>
 (unOp .not x12).bind fun x13 =>
 condK x13
 (
 some ((DV.p (PV.bool false)), (σ ++ [Row.mix z2]))
 )
 (
 (load PP 27 (DV.ptr (List.length σ) 0) (σ ++ [Row.mix z2])).bind fun x14 =>
 (pureFn CC (DV.fn 11 []) [x14] (σ ++ [Row.mix z2])).bind fun x15 =>
 (unOp .not x15).bind fun x16 =>
 G _ x16 false (some (x1, (σ ++ [Row.mix z2]))) (σ ++ [Row.mix z2]) fun x18 σ1 =>
 G _ x16 false ((len PP 61 x18 σ1).bind fun v => some (v, σ1)) σ1 fun x19 σ2 =>
 G _ x16 false ((binOp PP .gtr 3 x19 (DV.p (PV.int IntKind.i64 (60)))).bind fun v => some (v, σ2)) σ2 fun x20 σ3 =>
 (pickV x16 (DV.p (PV.bool true)) x20).bind fun x21 =>
 condK x21
 (
 some ((DV.p (PV.bool true)), σ3)
 )
 (
 (load PP 27 (DV.ptr (List.length σ) 0) σ3).bind fun x23 =>
 (pureFn CC (DV.fn 13 []) [x23] σ3).bind fun x24 =>
 (pureFn CC (DV.fn 29 []) [x24] σ3).bind fun x25 =>
 (extractV x25 0).bind fun x26 =>
 (extractV x25 1).bind fun x27 =>
 (load PP 27 (DV.ptr (List.length σ) 0) σ3).bind fun x29 =>
 (pureFn CC (DV.fn 13 []) [x29] σ3).bind fun x30 =>
 (buildSlice PP none 61 0 [] σ3).bind fun r31_4 =>
 (append PP lo false 61 61 r31_4.1 x1 r31_4.2).bind fun r33_5 =>
 (pureFn CC (DV.fn 30 []) [x30, r33_5.1] r33_5.2).bind fun x34 =>
 (extractV x34 0).bind fun x35 =>
 (extractV x34 1).bind fun x36 =>
 (load PP 27 (DV.ptr (List.length σ) 0) r33_5.2).bind fun x37 =>
 (pureFn CC (DV.fn 15 []) [x37] r33_5.2).bind fun x38 =>
 (binOp PP .neq 3 x38 (DV.p (PV.int IntKind.i64 (0)))).bind fun x40 =>
 condK x40
 (
 (binOp PP .eql 3 x27 x38).bind fun x43 =>
 G _ x43 true (some (x36, r33_5.2)) r33_5.2 fun x45 σ6 =>
 G _ x43 true (some (x38, σ6)) σ6 fun x46 σ7 =>
 G _ x43 true ((binOp PP .eql 3 x45 x46).bind fun v => some (v, σ7)) σ7 fun x47 σ8 =>
 (pickV x43 x47 (DV.p (PV.bool false))).bind fun x48 =>
 G _ x48 true (some (x26, σ8)) σ8 fun x50 σ9 =>
 G _ x48 true ((len PP 61 x50 σ9).bind fun v => some (v, σ9)) σ9 fun x51 σ10 =>
 G _ x48 true ((binOp PP .eql 3 x51 (DV.p (PV.int IntKind.i64 (0)))).bind fun v => some (v, σ10)) σ10 fun x52 σ11 =>
 (pickV x48 x52 (DV.p (PV.bool false))).bind fun x53 =>
 G _ x53 true (some (x35, σ11)) σ11 fun x55 σ12 =>
 G _ x53 true ((binOp PP .eql 3 x55 (DV.p (PV.int IntKind.i64 (0)))).bind fun v => some (v, σ12)) σ12 fun x56 σ13 =>
 (pickV x53 x56 (DV.p (PV.bool false))).bind fun x57 =>
 some (x57, σ13)
 )
 (
 (load PP 27 (DV.ptr (List.length σ) 0) r33_5.2).bind fun x59 =>
 (pureFn CC (DV.fn 31 []) [x59, x1] r33_5.2).bind fun x61 =>
 (extractV x61 0).bind fun x62 =>
 (extractV x61 1).bind fun x63 =>
 (binOp PP .eql 30 x27 (DV.p (PV.int IntKind.i64 (0)))).bind fun x65 =>
 G _ x65 true (some (x26, r33_5.2)) r33_5.2 fun x67 σ14 =>
 G _ x65 true ((load PP 27 (DV.ptr (List.length σ) 0) σ14).bind fun v => some (v, σ14)) σ14 fun x68 σ15 =>
 G _ x65 true ((pureFn CC (DV.fn 33 []) [x68] σ15).bind fun v => some (v, σ15)) σ15 fun x69 σ16 =>
 G _ x65 true ((pureFn CC (DV.fn 32 []) [x67, x69] σ16).bind fun v => some (v, σ16)) σ16 fun x70 σ17 =>
 (pickV x65 x70 (DV.p (PV.bool false))).bind fun x71 =>
 G _ x71 true (some (x36, σ17)) σ17 fun x73 σ18 =>
 G _ x71 true (some (x63, σ18)) σ18 fun x74 σ19 =>
 G _ x71 true ((binOp PP .eql 3 x73 x74).bind fun v => some (v, σ19)) σ19 fun x75 σ20 =>
 (pickV x71 x75 (DV.p (PV.bool false))).bind fun x76 =>
 G _ x76 true (some (x35, σ20)) σ20 fun x78 σ21 =>
 G _ x76 true (some (x62, σ21)) σ21 fun x79 σ22 =>
 G _ x76 true ((binOp PP .eql 3 x78 x79).bind fun v => some (v, σ22)) σ22 fun x80 σ23 =>
 (pickV x76 x80 (DV.p (PV.bool false))).bind fun x81 =>
 some (x81, σ23)
 )
 )
 ) := by kernel_rfl
theorem F7_call {lo : Nat} {x0 x1 : DV} {σ : Store} {r : DV × Store} (h : F7 guardT lo x0 x1 σ = some r) : CC lo 7 [x0, x1] σ = some r :=
 callL_run Go.Proofs.Try.func7 (by decide +kernel) rfl (by decide +kernel) h
noncomputable def c9_0 : Code := bodyOf Go.Proofs.Try.f9
noncomputable def a9_0 : Ann := (pol 9).ann
noncomputable def a9_45 : Ann := right (left (right (right (right (right (right (right (right (right (right a9_0))))))))))
noncomputable def a9_46 : Ann := left a9_45
noncomputable def c9_47 : Code := fstC (fstC (sndC (fstC (sndC (sndC (sndC (sndC (sndC (sndC (sndC (sndC (sndC c9_0))))))))))))
noncomputable def a9_54 : Ann := left (right (left a9_46))
noncomputable def a9_57 : Ann := right (left a9_54)
noncomputable def a9_58 : Ann := left a9_57
noncomputable def c9_59 : Code := fstC (fstC (sndC (fstC (fstC (sndC c9_47)))))
noncomputable def c9_75 : Code := sndC (sndC c9_47)
noncomputable def a9_75 : Ann := right (right (left a9_46))
noncomputable def c9_76 : Code := sndC (sndC (sndC (sndC (sndC (sndC (sndC (sndC (sndC (sndC c9_0)))))))))
noncomputable def a9_76 : Ann := right (right (right (right (right (right (right (right (right (right a9_0)))))))))
noncomputable def f9_L0 (G : GuardT) (lo : Nat) (x3 x5 x11 : DV) (σ : Store) : Option (DV × Store) :=
 codeF G PP (pol 9) CC lo (.loop c9_47) a9_46 [ud, ud, ud, x3, ud, x5, ud, ud, ud, ud, ud, x11, ud, ud, ud, ud, ud, ud, ud, ud, ud, ud, ud, ud, ud, ud, ud, ud, ud, ud, ud, ud, ud, ud, ud, ud, ud, ud, ud, ud, ud, ud, ud, ud, ud, ud, ud, ud, ud, ud, ud, ud, ud, ud, ud, ud, ud, ud, ud, ud, ud, ud, ud, ud, ud, ud, ud, ud, ud, ud, ud, ud, ud, ud, ud, ud, ud, ud, ud, ud, ud, ud, ud, ud, ud, ud, ud, ud, ud, ud, ud, ud, ud, ud, ud, ud, ud, ud, ud, ud, ud, ud, ud, ud, ud, ud, ud, ud, ud, ud, ud, ud, ud, ud, ud, ud, ud, ud, ud, ud, ud, ud, ud, ud, ud] σ
 (blockC 0 a9_45 (seqC G PP (pol 9) CC lo c9_76 a9_76 (finR PP Go.Proofs.Try.f9.results.toList)))
noncomputable def f9_L1 (G : GuardT) (lo : Nat) (x3 x5 x11 x12 : DV) (σ : Store) : Option (DV × Store) :=
 codeF G PP (pol 9) CC lo (.loop c9_59) a9_58 [ud, ud, ud, x3, ud, x5, ud, ud, ud, ud, ud, x11, x12, ud, ud, ud, ud, ud, ud, ud, ud, ud, ud, ud, ud, ud, ud, ud, ud, ud, ud, ud, ud, ud, ud, ud, ud, ud, ud, ud, ud, ud, ud, ud, ud, ud, ud, ud, ud, ud, ud, ud, ud, ud, ud, ud, ud, ud, ud, ud, ud, ud, ud, ud, ud, ud, ud, ud, ud, ud, ud, ud, ud, ud, ud, ud, ud, ud, ud, ud, ud, ud, ud, ud, ud, ud, ud, ud, ud, ud, ud, ud, ud, ud, ud, ud, ud, ud, ud, ud, ud, ud, ud, ud, ud, ud, ud, ud, ud, ud, ud, ud, ud, ud, ud, ud, ud, ud, ud, ud, ud, ud, ud, ud, ud] σ
 (blockC 2 a9_57 (blockC 1 a9_54 (seqC G PP (pol 9) CC lo c9_75 a9_75 (loopC G PP (pol 9) CC lo c9_47 a9_46 (blockC 0 a9_45 (seqC G PP (pol 9) CC lo c9_76 a9_76 (finR PP Go.Proofs.Try.f9.results.toList)))))))
noncomputable def F9 (G : GuardT) (lo : Nat) (x0 : DV) (σ : Store) : Option (DV × Store) :=
 codeF G PP (pol 9) CC lo c9_0 a9_0 [x0, ud, ud, ud, ud, ud, ud, ud, ud, ud, ud, ud, ud, ud, ud, ud, ud, ud, ud, ud, ud, ud, ud, ud, ud, ud, ud, ud, ud, ud, ud, ud, ud, ud, ud, ud, ud, ud, ud, ud, ud, ud, ud, ud, ud, ud, ud, ud, ud, ud, ud, ud, ud, ud, ud, ud, ud, ud, ud, ud, ud, ud, ud, ud, ud, ud, ud, ud, ud, ud, ud, ud, ud, ud, ud, ud, ud, ud, ud, ud, ud, ud, ud, ud, ud, ud, ud, ud, ud, ud, ud, ud, ud, ud, ud, ud, ud, ud, ud, ud, ud, ud, ud, ud, ud, ud, ud, ud, ud, ud, ud, ud, ud, ud, ud, ud, ud, ud, ud, ud, ud, ud, ud, ud, ud] σ (finR PP Go.Proofs.Try.f9.results.toList)
theorem f9_L0_eq (G : GuardT) (hG : GuardOk G) (lo : Nat) (x3 x5 x11 : DV) (σ : Store) : f9_L0 G lo x3 x5 x11 σ =
 (len PP 51 x3 σ).bind fun x81 =>
 (binOp PP .lss 3 x11 x81).bind fun x82 =>
 condK x82
 (
 f9_L1 G lo x3 x5 x11 (DV.p (PV.int IntKind.i64 (0))) σ
 )
 (
 some ((DV.p (PV.bool true)), σ)
 ) := (loopF_eq G hG).trans (by kernel_rfl)
theorem f9_L1_eq (G : GuardT) (hG : GuardOk G) (lo : Nat) (x3 x5 x11 x12 : DV) (σ : Store) : f9_L1 G lo x3 x5 x11 x12 σ =
 (len PP 61 x5 σ).bind fun x87 =>
 (binOp PP .lss 3 x12 x87).bind fun x88 =>
 condK x88
 (
 (indexAddr PP 51 x3 x11).bind fun x93 =>
 (load PP 22 x93 σ).bind fun x94 =>
 (len PP 22 x94 σ).bind fun x95 =>
 (binOp PP .neq 3 x95 (DV.p (PV.int IntKind.i64 (2)))).bind fun x96 =>
 G _ x96 false (some (x3, σ)) σ fun x98 σ23 =>
 G _ x96 false (some (x11, σ23)) σ23 fun x99 σ24 =>
 G _ x96 false ((indexAddr PP 51 x98 x99).bind fun v => some (v, σ24)) σ24 fun x100 σ25 =>
 G _ x96 false ((load PP 22 x100 σ25).bind fun v => some (v, σ25)) σ25 fun x101 σ26 =>
 G _ x96 false ((indexAddr PP 22 x101 (DV.p (PV.int IntKind.i64 (0)))).bind fun v => some (v, σ26)) σ26 fun x102 σ27 =>
 G _ x96 false ((load PP 3 x102 σ27).bind fun v => some (v, σ27)) σ27 fun x103 σ28 =>
 G _ x96 false (some (x5, σ28)) σ28 fun x104 σ29 =>
 G _ x96 false (some (x12, σ29)) σ29 fun x105 σ30 =>
 G _ x96 false ((indexAddr PP 61 x104 x105).bind fun v => some (v, σ30)) σ30 fun x106 σ31 =>
 G _ x96 false ((fieldAddr PP 77 x106 0).bind fun v => some (v, σ31)) σ31 fun x107 σ32 =>
 G _ x96 false ((load PP 3 x107 σ32).bind fun v => some (v, σ32)) σ32 fun x108 σ33 =>
 G _ x96 false ((binOp PP .eql 3 x103 x108).bind fun v => some (v, σ33)) σ33 fun x109 σ34 =>
 G _ x96 false (some (x109, σ34)) σ34 fun x110 σ35 =>
 G _ x110 true (some (x3, σ35)) σ35 fun x111 σ36 =>
 G _ x110 true (some (x11, σ36)) σ36 fun x112 σ37 =>
 G _ x110 true ((indexAddr PP 51 x111 x112).bind fun v => some (v, σ37)) σ37 fun x113 σ38 =>
 G _ x110 true ((load PP 22 x113 σ38).bind fun v => some (v, σ38)) σ38 fun x114 σ39 =>
 G _ x110 true ((indexAddr PP 22 x114 (DV.p (PV.int IntKind.i64 (1)))).bind fun v => some (v, σ39)) σ39 fun x115 σ40 =>
 G _ x110 true ((load PP 3 x115 σ40).bind fun v => some (v, σ40)) σ40 fun x116 σ41 =>
 G _ x110 true (some (x5, σ41)) σ41 fun x117 σ42 =>
 G _ x110 true (some (x12, σ42)) σ42 fun x118 σ43 =>
 G _ x110 true ((indexAddr PP 61 x117 x118).bind fun v => some (v, σ43)) σ43 fun x119 σ44 =>
 G _ x110 true ((fieldAddr PP 77 x119 1).bind fun v => some (v, σ44)) σ44 fun x120 σ45 =>
 G _ x110 true ((load PP 3 x120 σ45).bind fun v => some (v, σ45)) σ45 fun x121 σ46 =>
 G _ x110 true ((binOp PP .eql 3 x116 x121).bind fun v => some (v, σ46)) σ46 fun x122 σ47 =>
 G _ x96 false ((pickV x110 x122 (DV.p (PV.bool false))).bind fun v => some (v, σ47)) σ47 fun x123 σ48 =>
 (pickV x96 (DV.p (PV.bool true)) x123).bind fun x124 =>
 condK x124
 (
 some ((DV.p (PV.bool false)), σ48)
 )
 (
 (binOp PP .add 3 x12 (DV.p (PV.int IntKind.i64 (1)))).bind fun x90 =>
 f9_L1 G lo x3 x5 x11 x90 σ48
 )
 )
 (
 (binOp PP .add 3 x11 (DV.p (PV.int IntKind.i64 (1)))).bind fun x84 =>
 f9_L0 G lo x3 x5 x84 σ
 ) := (loopF_eq G hG).trans (by kernel_rfl)
theorem F9_eq (G : GuardT) (lo : Nat) (x0 : DV) (σ : Store) : F9 G lo x0 σ =
 (boxV x0).bind fun z1 =>
 (pureFn CC (DV.fn 10 []) [] (σ ++ [Row.mix z1])).bind fun x13 =>
 (unOp .not x13).bind fun x14 =>
 condK x14
 (
 some ((DV.p (PV.bool false)), (σ ++ [Row.mix z1]))
 )
 (
 (load PP 27 (DV.ptr (List.length σ) 0) (σ ++ [Row.mix z1])).bind fun x15 =>
 (pureFn CC (DV.fn 11 []) [x15] (σ ++ [Row.mix z1])).bind fun x16 =>
 (unOp .not x16).bind fun x17 =>
 G _ x17 false ((load PP 27 (DV.ptr (List.length σ) 0) (σ ++ [Row.mix z1])).bind fun v => some (v, (σ ++ [Row.mix z1]))) (σ ++ [Row.mix z1]) fun x19 σ1 =>
 G _ x17 false ((pureFn CC (DV.fn 15 []) [x19] σ1).bind fun v => some (v, σ1)) σ1 fun x20 σ2 =>
 G _ x17 false ((binOp PP .neq 3 x20 (DV.p (PV.int IntKind.i64 (0)))).bind fun v => some (v, σ2)) σ2 fun x21 σ3 =>
 (pickV x17 (DV.p (PV.bool true)) x21).bind fun x22 =>
 condK x22
 (
 some ((DV.p (PV.bool true)), σ3)
 )
 (
 (load PP 27 (DV.ptr (List.length σ) 0) σ3).bind fun x24 =>
 (pureFn CC (DV.fn 13 []) [x24] σ3).bind fun x25 =>
 (pureFn CC (DV.fn 24 []) [x25] σ3).bind fun x26 =>
 (extractV x26 0).bind fun x27 =>
 (extractV x26 1).bind fun x28 =>
 (load PP 27 (DV.ptr (List.length σ) 0) σ3).bind fun x30 =>
 (pureFn CC (DV.fn 13 []) [x30] σ3).bind fun x31 =>
 (pureFn CC (DV.fn 29 []) [x31] σ3).bind fun x32 =>
 (extractV x32 0).bind fun x33 =>
 (extractV x32 1).bind fun x34 =>
 (binOp PP .neq 30 x28 (DV.p (PV.int IntKind.i64 (0)))).bind fun x36 =>
 G _ x36 false (some (x34, σ3)) σ3 fun x38 σ4 =>
 G _ x36 false ((binOp PP .neq 30 x38 (DV.p (PV.int IntKind.i64 (0)))).bind fun v => some (v, σ4)) σ4 fun x39 σ5 =>
 (pickV x36 (DV.p (PV.bool true)) x39).bind fun x40 =>
 condK x40
 (
 some ((DV.p (PV.bool false)), σ5)
 )
 (
 (load PP 27 (DV.ptr (List.length σ) 0) σ5).bind fun x42 =>
 (pureFn CC (DV.fn 13 []) [x42] σ5).bind fun x43 =>
 (pureFn CC (DV.fn 36 []) [x27] σ5).bind fun x45 =>
 (pureFn CC (DV.fn 35 []) [x43, x45] σ5).bind fun x46 =>
 (extractV x46 0).bind fun x47 =>
 (extractV x46 1).bind fun x48 =>
 (load PP 27 (DV.ptr (List.length σ) 0) σ5).bind fun x50 =>
 (pureFn CC (DV.fn 13 []) [x50] σ5).bind fun x51 =>
 (buildSlice PP none 61 0 [] σ5).bind fun r52_6 =>
 (append PP lo false 61 61 r52_6.1 x33 r52_6.2).bind fun r54_7 =>
 (pureFn CC (DV.fn 30 []) [x51, r54_7.1] r54_7.2).bind fun x55 =>
 (extractV x55 0).bind fun x56 =>
 (extractV x55 1).bind fun x57 =>
 (binOp PP .neq 30 x48 (DV.p (PV.int IntKind.i64 (0)))).bind fun x59 =>
 G _ x59 false (some (x57, r54_7.2)) r54_7.2 fun x61 σ8 =>
 G _ x59 false ((binOp PP .neq 30 x61 (DV.p (PV.int IntKind.i64 (0)))).bind fun v => some (v, σ8)) σ8 fun x62 σ9 =>
 (pickV x59 (DV.p (PV.bool true)) x62).bind fun x63 =>
 G _ x63 false (some (x27, σ9)) σ9 fun x65 σ10 =>
 G _ x63 false ((len PP 51 x65 σ10).bind fun v => some (v, σ10)) σ10 fun x66 σ11 =>
 G _ x63 false (some (x33, σ11)) σ11 fun x67 σ12 =>
 G _ x63 false ((len PP 61 x67 σ12).bind fun v => some (v, σ12)) σ12 fun x68 σ13 =>
 G _ x63 false ((binOp PP .add 3 x66 x68).bind fun v => some (v, σ13)) σ13 fun x69 σ14 =>
 G _ x63 false ((fieldAddr PP 27 (DV.ptr (List.length σ) 0) 0).bind fun v => some (v, σ14)) σ14 fun x70 σ15 =>
 G _ x63 false ((fieldAddr PP 25 x70 0).bind fun v => some (v, σ15)) σ15 fun x71 σ16 =>
 G _ x63 false ((load PP 3 x71 σ16).bind fun v => some (v, σ16)) σ16 fun x72 σ17 =>
 G _ x63 false ((fieldAddr PP 27 (DV.ptr (List.length σ) 0) 1).bind fun v => some (v, σ17)) σ17 fun x73 σ18 =>
 G _ x63 false ((fieldAddr PP 25 x73 0).bind fun v => some (v, σ18)) σ18 fun x74 σ19 =>
 G _ x63 false ((load PP 3 x74 σ19).bind fun v => some (v, σ19)) σ19 fun x75 σ20 =>
 G _ x63 false ((binOp PP .mul 3 x72 x75).bind fun v => some (v, σ20)) σ20 fun x76 σ21 =>
 G _ x63 false ((binOp PP .neq 3 x69 x76).bind fun v => some (v, σ21)) σ21 fun x77 σ22 =>
 (pickV x63 (DV.p (PV.bool true)) x77).bind fun x78 =>
 condK x78
 (
 some ((DV.p (PV.bool false)), σ22)
 )
 (
 f9_L0 G lo x27 x33 (DV.p (PV.int IntKind.i64 (0))) σ22
 )
 )
 )
 ) := by kernel_rfl
theorem F9_call {lo : Nat} {x0 : DV} {σ : Store} {r : DV × Store} (h : F9 guardT lo x0 σ = some r) : CC lo 9 [x0] σ = some r :=
 callL_run Go.Proofs.Try.func9 (by decide +kernel) rfl (by decide +kernel) h
end Go.D
end
/- RefineRanks: what the law answers, if awake answers true. -/
section
set_option linter.unusedVariables false
set_option linter.unusedSimpArgs false
namespace Go.D

theorem bs61_0 (σ : Store) : buildSlice PP none 61 0 [] σ = some (.p (.sl true 0 []), σ) := Eq.trans (by kernel_rfl) rfl
/-- A copy by append to an empty list. -/
theorem app61_lit (o : Option (List Mv)) (hl : (L o).length ≤ 10000000) (σ : Store) : ∃ y σ', append PP 0 false 61 61 (.p (.sl true 0 [])) (.p (eMs o)) σ = some (y, σ') ∧ view y = .p (eMs (some (L o))) ∧ Keeps σ σ' := by
  have hsrc : source σ 4 (.p (eMs o)) = some ((L o).length, (eMvs (L o)).map DV.p) := by
    cases o with
    | none => rfl
    | some l => simp [source, eMs, eMvs_length]
  by_cases hm : (L o).length = 0
  · have : L o = [] := List.length_eq_zero_iff.1 hm
    refine ⟨.p (.sl true 0 []), σ, ?_, ?_, Keeps.refl σ⟩
    · simp only [append, src61, u61, s77, bytes77, zero77, hsrc, appLit]
      simp [hm]
    · rw [this]; rfl
  · refine ⟨.osl σ.length 0 4 (L o).length (eMvs (L o)), σ ++ [.tok 0], ?_, ?_, Keeps.snoc _ _⟩
    · have e1 : (L o).length * 32 ≤ 140737488355328 := by omega
      have e2 : (L o).length ≤ 140737488355328 := by omega
      simp only [append, src61, u61, s77, bytes77, zero77, hsrc, appLit]
      simp [hm, e1, e2, pures_map]
    · simp only [view, viewCell, loosens_mvs, eMs]

section
variable {p : Pair} {n m : Nat}

theorem S30_view {σ : Store} {q : Pair} {o : Option (List Mv)} {y : DV} (hy : view y = .p (eMs (some (L o)))) : pureV CC 30 [.agg (ePair q), y] σ = pureV CC 30 [.agg (ePair q), .p (eMs (some (L o)))] σ :=
  pureV_view (by simp [pair_view, hy]) (by simp [pair_view, ms_view])

theorem rkE_own (p : Pair) (m n : Nat) : rkE (ownP p) m n = rkE p m n := rk_own p n _
theorem ranksL_own (p : Pair) (m n : Nat) : ranksL (ownP p) m n = ranksL p m n := by
  unfold ranksL
  rw [rkE_own]
  rfl
theorem relM_own (p : Pair) (n : Nat) (l : List Mv) : relM (ownP p) n l = relM p n l := rfl
theorem ranksL_len (hp : Nice p n m) : (ranksL p m n).length ≤ 1000000 := by
  have h1 : m * n ≤ 1000 * 1000 := Nat.mul_le_mul hp.m2 hp.n2
  have h2 : (ranksL p m n).length ≤ (pairsA m n).length := by
    unfold ranksL msOf
    rw [List.length_map]
    exact List.length_filter_le _ _
  rw [pairsA_len] at h2
  omega
theorem len61_nil (σ : Store) : len PP 61 (.p .nilsl) σ = some (.p (.int .i64 0)) := lenMs none σ

theorem law7 (hawake : ∀ σ, pureV CC 10 [] σ = some (.p (.bool true))) (p : Pair) (o : Option (List Mv)) : ∃ σ', F7 guardT 0 (.agg (ePair p)) (.p (eMs o)) [] = some (.p (.bool true), σ') := by
  have g0 : ([Row.mix (ePair p)] : Store)[0]? = some (.mix (ePair p)) := rfl
  rw [F7_eq]
  simp only [box_pair, obind, List.length_nil, List.nil_append, pureFn_fn, List.append_nil, hawake, not_bool, Bool.not_true, condK_false, load27, pr_all g0, omap, S11]
  cases hfew : fewP p with
  | false => exact ⟨_, by simp only [Bool.not_false, guard_tf, guard_sk, obind, pickV_true, condK_true]; rfl⟩
  | true =>
    have hp := small_of hfew
    by_cases hl : ((L o).length : Int) > 60
    · exact ⟨_, by simp only [Bool.not_true, guard_ff, obind, lenMs, b_gtr, hl, decide_true, pickV_false, condK_true]; rfl⟩
    · have hl' : (L o).length ≤ 1000 := by omega
      obtain ⟨y, σ1, h1, h2, h3⟩ := app61_lit o (by omega) [Row.mix (ePair p)]
      have g1 := h3.mix g0
      refine ⟨σ1, ?_⟩
      by_cases he : errP p = 0
      · have hn := nice_of hp he
        have heo : errP (ownP p) = 0 := he
        have hrl : (L (msO (ranksL p p.lo.n.toNat p.up.n.toNat))).length ≤ 1000000 := by rw [L_msO]; exact ranksL_len hn
        have hLo : L (some (L o)) = L o := rfl
        simp only [Bool.not_true, guard_ff, obind, lenMs, b_gtr, hl, decide_false, pickV_false, condK_false, load27, pr_all g0, omap, S13 hp, S29_ok (nice_own hn) heo, ex0, ex1, bs61_0, h1, pureFn_fn, List.append_nil, S30_view h2, S30_ok (nice_own hn) heo (show (L (some (L o))).length ≤ 1000 from hl'), ex_t0, ex_t1, pr_all g1, S15 hp, b_neq, he, decide_true, S31 hn hl', b_eql, guard_tt, S33 hn, ranksL_own, relM_own, S32 hrl, pickV_true, hLo]
      · have heo : errP (ownP p) ≠ 0 := he
        have heq : errP (ownP p) = errP p := rfl
        simp only [Bool.not_true, guard_ff, obind, lenMs, b_gtr, hl, decide_false, pickV_false, condK_false, load27, pr_all g0, omap, S13 hp, S29_bad (small_own hp) heo, ex0, ex1, bs61_0, h1, pureFn_fn, List.append_nil, S30_view h2, S30_bad (small_own hp) heo, ex_t0, ex_t1, pr_all g1, S15 hp, heq, b_neq, he, Bool.not_false, condK_true, b_eql, decide_true, guard_tt, pickV_true, len61_nil]

theorem call7 (hawake : ∀ σ, pureV CC 10 [] σ = some (.p (.bool true))) (p : Pair) (o : Option (List Mv)) : ∃ σ', CC 0 7 [.agg (ePair p), .p (eMs o)] [] = some (.p (.bool true), σ') := by
  obtain ⟨σ', h⟩ := law7 hawake p o
  exact ⟨σ', F7_call h⟩

end
end Go.D
end
/- Lists of moves as arguments. -/
section
set_option linter.unusedVariables false
set_option linter.unusedSimpArgs false
set_option maxRecDepth 100000
namespace Go.D
open Go.ChangeShapes Go.WideShapes Go.ChangeAt Go.RowKit

variable {H : Type} {enc : TypeId × Value → H} {W : World} {base : Nat}

theorem cells77 : PP.cellsOf 77 = 4 := by kernel_rfl
theorem read_mv {sp : Nat → Bool} {hd : Bool} {fuel : Nat} {cs : List Value} {x : DataW H × List MemPlace} (h : DataW.trod enc PP W 0 sp hd fuel 77 cs = some x) : ∃ e : Mv, cs = [.int .i64 e.low, .int .i64 e.up, .int .i64 e.rank, .int .i64 e.step] := by
  obtain ⟨xs, n, _, _, hl, hlen, hf⟩ := DataW.trod_struct Go.Proofs.Try.underlying77 h
  rw [cells77] at hl
  match cs, hl with
  | [a, b, c, d], _ =>
    match xs, hlen with
    | [y0, y1, y2, y3], _ =>
      have h0 : DataW.trod enc PP W 0 sp hd n 3 (List.take (PP.cellsOf 3) (List.drop 0 [a, b, c, d])) = some y0 := hf 0 _ rfl
      have h1 : DataW.trod enc PP W 0 sp hd n 3 (List.take (PP.cellsOf 3) (List.drop 1 [a, b, c, d])) = some y1 := hf 1 _ rfl
      have h2 : DataW.trod enc PP W 0 sp hd n 3 (List.take (PP.cellsOf 3) (List.drop 2 [a, b, c, d])) = some y2 := hf 2 _ rfl
      have h3 : DataW.trod enc PP W 0 sp hd n 3 (List.take (PP.cellsOf 3) (List.drop 3 [a, b, c, d])) = some y3 := hf 3 _ rfl
      rw [cells3] at h0 h1 h2 h3
      obtain ⟨p, rfl⟩ := read_int h0
      obtain ⟨q, rfl⟩ := read_int h1
      obtain ⟨r, rfl⟩ := read_int h2
      obtain ⟨s, rfl⟩ := read_int h3
      exact ⟨⟨p, q, r, s⟩, rfl⟩

theorem read_ms {r : Reach} {b0 : Nat} {hd : Bool} {fuel : Nat} {c : Value} {x : DataW H × List MemPlace} (hok : Cell.okWide PP W r b0 61 c) (h : DataW.trod enc PP W 0 (fun _ => true) hd fuel 61 [c] = some x) : ∃ o, PRel (memOf W) (eMs o) c := by
  rcases DataW.trod_slice u61 h with ⟨hc, _⟩ | ⟨a, len, cap, elems, rest, n, _, hc, _, _, hl, hm, hlen, hel, _, _⟩
  · injection hc with hc; subst hc
    exact ⟨none, .nilsl⟩
  · injection hc with hc; subst hc
    have hs := spot_of u61 hok
    rw [cells77] at hel
    have each : ∀ i, ∃ e : Mv, i < len → W.cell? ⟨a.block, a.off + i * 4, none⟩ = some (.int .i64 e.low) ∧ W.cell? ⟨a.block, a.off + i * 4 + 1, none⟩ = some (.int .i64 e.up) ∧ W.cell? ⟨a.block, a.off + i * 4 + 2, none⟩ = some (.int .i64 e.rank) ∧ W.cell? ⟨a.block, a.off + i * 4 + 3, none⟩ = some (.int .i64 e.step) := by
      intro i
      by_cases hi : i < len
      · have h1 := hel i hi
        rw [List.getElem?_eq_getElem (by omega)] at h1
        obtain ⟨cs, h2, h3⟩ := Option.bind_eq_some_iff.1 h1
        obtain ⟨e, rfl⟩ := read_mv h3
        obtain ⟨_, _, h4⟩ := World.cells?_some h2
        refine ⟨e, fun _ => ⟨?_, ?_, ?_, ?_⟩⟩
        · have := h4 0 (by omega); rw [addr_add hs, addr_add rfl] at this; exact this
        · have := h4 1 (by omega); rw [addr_add hs, addr_add rfl] at this; exact this
        · have := h4 2 (by omega); rw [addr_add hs, addr_add rfl] at this; exact this
        · have := h4 3 (by omega); rw [addr_add hs, addr_add rfl] at this; exact this
      · exact ⟨default, fun h => absurd h hi⟩
    obtain ⟨f, hf⟩ := Classical.axiomOfChoice each
    have hll : ((List.range len).map f).length = len := by simp
    refine ⟨some ((List.range len).map f), ?_⟩
    have e : eMs (some ((List.range len).map f)) = .sl false len (eMvs ((List.range len).map f)) := by simp only [eMs, hll]
    rw [e]
    have hget : ∀ i, i < len → (eMvs ((List.range len).map f))[i * 4]? = some (pI (f i).low) ∧ (eMvs ((List.range len).map f))[i * 4 + 1]? = some (pI (f i).up) ∧ (eMvs ((List.range len).map f))[i * 4 + 2]? = some (pI (f i).rank) ∧ (eMvs ((List.range len).map f))[i * 4 + 3]? = some (pI (f i).step) := by
      intro i hi
      have := eMvs_get ((List.range len).map f) i (by rw [hll]; exact hi)
      simpa using this
    have hcase : ∀ j, j < len * 4 → ∃ i, i < len ∧ (j = i * 4 ∨ j = i * 4 + 1 ∨ j = i * 4 + 2 ∨ j = i * 4 + 3) := fun j hj => ⟨j / 4, by omega, by omega⟩
    have both : ∀ j, j < (eMvs ((List.range len).map f)).length → ∃ z : Int, W.cell? ⟨a.block, a.off + j, none⟩ = some (.int .i64 z) ∧ (eMvs ((List.range len).map f))[j]? = some (pI z) := by
      intro j hj
      rw [eMvs_length, hll] at hj
      obtain ⟨i, hi, hc⟩ := hcase j hj
      obtain ⟨a0, a1, a2, a3⟩ := hf i hi
      obtain ⟨b0, b1, b2, b3⟩ := hget i hi
      rcases hc with rfl | rfl | rfl | rfl
      · exact ⟨_, a0, b0⟩
      · exact ⟨_, a1, b1⟩
      · exact ⟨_, a2, b2⟩
      · exact ⟨_, a3, b3⟩
    have hz : ∀ j, ∃ z : Int, j < (eMvs ((List.range len).map f)).length → W.cell? ⟨a.block, a.off + j, none⟩ = some (.int .i64 z) ∧ (eMvs ((List.range len).map f))[j]? = some (pI z) := by
      intro j
      by_cases hj : j < (eMvs ((List.range len).map f)).length
      · obtain ⟨z, h1, h2⟩ := both j hj
        exact ⟨z, fun _ => ⟨h1, h2⟩⟩
      · exact ⟨0, fun h => absurd h hj⟩
    obtain ⟨g, hg⟩ := Classical.axiomOfChoice hz
    refine .sl (fun j => .int .i64 (g j)) (fun _ => hs) hl (by simp) (fun j hj => (hg j hj).1) (fun j hj => ?_)
    have h2 := (hg j hj).2
    rw [List.getElem?_eq_getElem hj] at h2
    injection h2 with h2
    rw [h2]
    exact .int _ _

theorem read_moves {hd : Bool} {r : Reach} {b0 : Nat} {v : Value} {d : DataW H} {ps : List MemPlace} (hok : Value.okWide PP W r b0 61 v) (h : DataW.Trod enc PP W 0 (fun _ => true) hd 61 v d ps) :
    ∃ o, VRel (fun _ _ => none) (memOf W) (.p (eMs o)) v := by
  obtain ⟨a0, len, cap, rfl⟩ := okWide_slice u61 hok
  have hk : Cell.okWide PP W r b0 61 (.slice a0 len cap) := by simpa only [Value.okWide, u61] using hok
  obtain ⟨fuel, h⟩ := h
  obtain ⟨o, ho⟩ := read_ms hk (by simpa [Value.cells] using h)
  exact ⟨o, .p ho⟩

end Go.D
end
/- RefineRanks: for every pair and every list of ranks the law answers true and leaves its arguments as they were: the given statement, without conditions. -/
section
set_option linter.unusedVariables false
set_option linter.unusedSimpArgs false
set_option maxRecDepth 100000
namespace Go.D
open Go.ChangeShapes Go.WideShapes Go.ChangeAt Go.RowKit

theorem refineRanks_calls (hawake : Awake) {H : Type} {enc : TypeId × Value → H} {W : World} {base : Nat} {args : Array Value} {ds : List (DataW H)} {ps : List MemPlace}
    (hval : ∀ (j : Nat) t v, ([27, 61] : List TypeId).toArray[j]? = some t → args[j]? = some v → Value.okWide PP W .any base t v)
    (hA : DataW.TrodAll enc PP W 0 (fun _ => true) true [27, 61] args.toList ds ps) :
    Calls PP 7 args W fun e W' => e = .returned (.bool true) ∧ Below W.heap.size W W' := by
  obtain ⟨v0, v1, d0, d1, p0, p1, rfl, rfl, rfl, h0, h1⟩ := trodAll_two hA
  obtain ⟨p, hp⟩ := read_pair (hval 0 27 v0 rfl rfl) h0
  obtain ⟨o, ho⟩ := read_moves (hval 1 61 v1 rfl rfl) h1
  obtain ⟨σ', hc⟩ := call7 hawake p o
  refine calls_of hc ⟨rfl, fun j h1 h2 => ?_⟩
  match j, h1 with
  | 0, _ => exact hp
  | 1, _ => exact ho

end Go.D
namespace Go.Proofs.Ythmgennimcjlpaa
open Go.D Go.ChangeShapes Go.WideShapes Go.ChangeAt Go.RowKit

set_option maxRecDepth 100000 in
theorem refineRanks_lifted (hawake : Awake) (os : Os) (started : os.Started) (H : Type) (enc : TypeId × Value → H) :
    ReturnsInHanded {} Try.checked os 7 .any (Rows.refineRanksSpec.pre6 enc Try.prog Try.f7 Rows.refineRanksRow.domain false) (Rows.refineRanksSpec.post enc Try.prog Try.f7 false true false false) := by
  refine returnsInHanded_of_change_sized (C := Try.checked) own_ok started (by kernel_rfl) Try.func7
    (ChangeSpec.witness6 (enc := enc) (C := Try.checked) false ⟨#[], #[.agg #[.int .i64 0, .slice none 0 0, .slice none 0 0, .int .i64 0, .slice none 0 0, .slice none 0 0, .slice none 0 0, .slice none 0 0], .slice none 0 0], []⟩ 8 (by kernel_rfl) (by kernel_rfl) (by kernel_rfl) (by kernel_rfl)) ?_
  intro W base args ds gs before hval0 hW _ hsz0 _
  have hval : ∀ (j : Nat) t v, Try.f7.params[j]? = some t → args[j]? = some v → Value.okWide Try.prog W .any base t v := hval0
  have hW' := hW
  obtain ⟨p, q, hA0, hV, rfl, _, _⟩ := hW
  have hA : DataW.TrodAll enc Try.prog W 0 (fun _ => true) true Try.f7.params.toList args.toList ds p := hA0
  rw [Try.params7] at hA hval
  have hA2 := hA
  obtain ⟨v0, v1, d0, d1, p0, p1, rfl, rfl, rfl, h0, h1⟩ := trodAll_two hA
  obtain ⟨rfl, rfl⟩ := trodVars_none hV
  have hlt : ∀ x ∈ p0 ++ p1, x.block < W.heap.size := fun x hx => by
    have := hW'.lt x (by simpa using hx)
    exact this
  refine (refineRanks_calls hawake (base := base) hval hA2).mono ?_
  rintro e W2 ⟨rfl, hnx⟩
  refine ⟨_, rfl, _, _, _, [], p0 ++ p1, [], hW', ?_, ?_, rfl, hnx.frame _, fun h => by cases h⟩
  · exact trodAll_mk1 (shut_bool ul4 true)
  · exact trodAll_mk2 (Below.trod laidOut_ok (by kernel_rfl) (of_decide_eq_true (by kernel_rfl)) h0 hnx fun x hx => hlt x (List.mem_append_left _ hx)) (Below.trod laidOut_ok (by kernel_rfl) (of_decide_eq_true (by kernel_rfl)) h1 hnx fun x hx => hlt x (List.mem_append_right _ hx))

theorem refineRanks_holds : Rows.RefineRanksSaid :=
  OpenClaim.holds_of_wide 7 Try.f7 rfl rfl rfl rfl rfl rfl rfl ⟨rfl, rfl, rfl, rfl, rfl⟩ rfl rfl rfl rfl rfl (by kernel_rfl) Try.func7 (by kernel_rfl)
    (of_decide_eq_true (by kernel_rfl)) (by unfold Func.isWrapper; first | (rw [if_pos (by decide +kernel)]; kernel_rfl) | (rw [if_neg (by decide +kernel)]; exact ⟨rfl, rfl⟩))
    (fun os started H enc _ => refineRanks_lifted awake_true os started H enc)

end Go.Proofs.Ythmgennimcjlpaa
end
