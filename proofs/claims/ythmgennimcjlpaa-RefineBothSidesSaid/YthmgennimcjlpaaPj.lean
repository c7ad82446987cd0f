/- RefineBothSides: for every pair the law answers true and leaves its argument as it was: the given statement, without conditions. -/
import Derived.Test.YthmgennimcjlpaaPi
import Derived.Test.YthmgennimcjlpaaPc
import Derived.Test.YthmgennimcjlpaaPh
/- The reference's ranks, round by round, and the ranks in the end: plain. -/
section
set_option linter.unusedVariables false
set_option linter.unusedSimpArgs false
namespace Go.D

section
variable {p : Pair} {n m : Nat}

theorem pairsA_nodup (m n : Nat) : (pairsA m n).Nodup := by
  unfold pairsA
  show List.Pairwise (· ≠ ·) _
  rw [List.pairwise_flatMap]
  refine ⟨fun s _ => List.Pairwise.map _ (fun a b h e => h (Prod.mk.inj e).2) List.nodup_range, ?_⟩
  refine List.Pairwise.imp ?_ (List.nodup_range (n := m))
  intro a b hab x h1 y h2
  simp only [List.mem_map] at h1 h2
  obtain ⟨u, _, rfl⟩ := h1
  obtain ⟨v, _, rfl⟩ := h2
  exact fun e => hab (Prod.mk.inj e).1
theorem len_filter_add {α : Type} (f : α → Bool) : ∀ l : List α, (l.filter f).length + (l.filter fun x => !f x).length = l.length
  | [] => rfl
  | a :: l => by
    have ih := len_filter_add f l
    rw [List.filter_cons, List.filter_cons]
    cases h : f a <;> simp <;> omega
theorem flatMap_congr' {α β : Type} {l : List α} {f g : α → List β} (h : ∀ a ∈ l, f a = g a) : l.flatMap f = l.flatMap g := by
  rw [List.flatMap_def, List.flatMap_def, List.map_congr_left h]
theorem al_nodup : ∀ k, (al p m n k).Nodup
  | 0 => pairsA_nodup m n
  | k + 1 => (al_nodup k).filter _
theorem al_mono {k : Nat} {q : NP} (h : q ∈ al p m n (k + 1)) : q ∈ al p m n k := (List.mem_filter.1 h).1

theorem rk_keep {j s u : Nat} (h : rkF p n j s u ≠ -1) : ∀ i, rkF p n (j + i) s u = rkF p n j s u
  | 0 => rfl
  | i + 1 => by
    have ih := rk_keep h i
    show FD (rkF p n (j + i)) ((j + i + 1 : Nat) : Int) _ s u = _
    unfold FD
    rw [if_neg (fun hh => h (by rw [← ih]; exact hh.1)), ih]
theorem rk_later {j s u : Nat} (h : rkF p n j s u = -1) : ∀ i, rkF p n (j + i) s u = -1 ∨ rkF p n (j + i) s u ≥ ((j + 1 : Nat) : Int)
  | 0 => .inl h
  | i + 1 => by
    have ih := rk_later h i
    show FD (rkF p n (j + i)) ((j + i + 1 : Nat) : Int) _ s u = -1 ∨ FD (rkF p n (j + i)) ((j + i + 1 : Nat) : Int) _ s u ≥ _
    unfold FD
    split
    · right; omega
    · exact ih
theorem rk_ge0 {j s u : Nat} (h : rkF p n j s u ≠ -1) : rkF p n j s u ≥ 0 := by
  have := rk_ge p n j s u
  omega

/-- What is left before round k: the pairs of no rank below k. -/
theorem al_open (hp : Nice p n m) {k t v : Nat} (hk : 1 ≤ k) (hk2 : k ≤ m * n) (ht : t < m) (hv : v < n) : (t, v) ∈ al p m n k ↔ openAt (rkE p m n) (k : Nat) t v = true := by
  obtain ⟨j, rfl⟩ : ∃ j, k = j + 1 := ⟨k - 1, by omega⟩
  rw [al_rk hp, List.mem_filter, mem_pairsA]
  simp only [decide_eq_true_eq, openAt, Bool.or_eq_true]
  have e : m * n = j + (m * n - j) := by omega
  constructor
  · rintro ⟨_, h⟩
    have := rk_later h (m * n - j)
    rw [← e] at this
    exact this
  · intro h
    refine ⟨⟨ht, hv⟩, ?_⟩
    by_cases h0 : rkF p n j t v = -1
    · exact h0
    · exfalso
      have h1 := rk_keep h0 (m * n - j)
      rw [← e] at h1
      have h2 := rk_le p n j t v
      have h3 := rk_ge0 h0
      unfold rkE at h
      rw [h1] at h
      omega

/-- A pair that falls out in round k has rank k. -/
theorem rank_of (hp : Nice p n m) {k : Nat} {q : NP} (h1 : q ∈ al p m n k) (h2 : q ∉ al p m n (k + 1)) : k ≤ m * n ∧ rkE p m n q.1 q.2 = (k : Nat) := by
  obtain ⟨hs, hu⟩ := al_sub k q h1
  have hk : k ≤ m * n := by
    rcases Nat.lt_or_ge (m * n) k with hlt | hge
    · exfalso
      have hf := al_fix (al_stable hp (stable_mn hp))
      have e1 := hf (k - (m * n + 1))
      have e2 := hf (k + 1 - (m * n + 1))
      rw [show m * n + 1 + (k - (m * n + 1)) = k by omega] at e1
      rw [show m * n + 1 + (k + 1 - (m * n + 1)) = k + 1 by omega] at e2
      rw [e2, ← e1] at h2
      exact h2 h1
    · exact hge
  refine ⟨hk, ?_⟩
  have hne : rkF p n k q.1 q.2 ≠ -1 := by
    intro e
    apply h2
    rw [al_rk hp]
    exact List.mem_filter.2 ⟨mem_pairsA.2 ⟨hs, hu⟩, by simpa using e⟩
  have hval : rkF p n k q.1 q.2 = (k : Nat) := by
    cases k with
    | zero =>
      unfold rkF rk0 at hne ⊢
      split
      · rename_i e; rw [if_pos e] at hne; exact absurd rfl hne
      · rfl
    | succ j =>
      rw [al_rk hp] at h1
      have h0 : rkF p n j q.1 q.2 = -1 := by simpa using (List.mem_filter.1 h1).2
      have : rkF p n (j + 1) q.1 q.2 = FD (rkF p n j) ((j + 1 : Nat) : Int) (Di p n (rkF p n j) ((j + 1 : Nat) : Int) (L p.lo.edges)) q.1 q.2 := rfl
      rw [this] at hne ⊢
      unfold FD at hne ⊢
      split
      · rfl
      · rename_i hc
        rw [if_neg hc] at hne
        exact absurd h0 hne
  have := rk_keep hne (m * n - k)
  rw [show k + (m * n - k) = m * n by omega] at this
  unfold rkE
  rw [this, hval]

/-- The first step that nothing left answers. -/
def refK (p : Pair) (n : Nat) (l : List NP) (q : NP) (e : Edg) : Bool := decide (e.f = (q.1 : Nat)) && !matchP p (prs l) n e.t (q.2 : Nat)
def stepK (p : Pair) (n k : Nat) (l : List NP) (q : NP) : Int := if k > 0 then idxFrom (refK p n l q) (L p.lo.edges) 0 else -1
def badK (p : Pair) (n k : Nat) (l : List NP) (q : NP) : Bool := decide (k = 0) && !labOk p (q.1 : Nat) (q.2 : Nat) || !decide (stepK p n k l q = -1)
def mvK (p : Pair) (n k : Nat) (l : List NP) (q : NP) : Mv := ⟨(q.1 : Nat), (q.2 : Nat), (k : Nat), stepK p n k l q⟩
def nowK (p : Pair) (n k : Nat) (l : List NP) : List Mv := (l.filter (badK p n k l)).map (mvK p n k l)
def foundK (p : Pair) (m n : Nat) : Nat → List Mv
  | 0 => []
  | k + 1 => foundK p m n k ++ nowK p n k (al p m n k)

theorem idx_neg {α : Type} (q : α → Bool) (l : List α) : decide (idxFrom q l 0 = -1) = !l.any q := by
  have h1 := idxFrom_ge q l 0
  have h2 : ∀ (l : List α) (i : Nat), idxFrom q l i ≥ -1 := by
    intro l
    induction l with
    | nil => intro i; simp [idxFrom]
    | cons a l ih =>
      intro i
      unfold idxFrom
      split
      · omega
      · exact ih _
  rw [← h1]
  have := h2 l 0
  by_cases e : idxFrom q l 0 = -1
  · have e2 : ¬ idxFrom q l 0 ≥ 0 := by omega
    rw [decide_eq_true e, decide_eq_false e2]; rfl
  · have e2 : idxFrom q l 0 ≥ 0 := by omega
    rw [decide_eq_false e, decide_eq_true e2]; rfl

theorem keep_bad (hp : Nice p n m) {k : Nat} {q : NP} (hq : q ∈ al p m n k) : keepQ p n (al p m n k) q = !badK p n k (al p m n k) q := by
  obtain ⟨hs, hu⟩ := al_sub k q hq
  have hany : (L p.lo.edges).any (refK p n (al p m n k) q) = !(L p.lo.edges).all (keepE p (prs (al p m n k)) n (q.1 : Nat) (q.2 : Nat)) := by
    rw [List.not_all_eq_any_not]
    congr 1
    funext e
    unfold refK keepE
    cases decide (e.f = (q.1 : Nat)) <;> simp
  unfold keepQ keepP badK
  cases k with
  | zero =>
    have hst : stepK p n 0 (al p m n 0) q = -1 := rfl
    have hm : (L p.lo.edges).all (keepE p (prs (al p m n 0)) n (q.1 : Nat) (q.2 : Nat)) = true := by
      rw [List.all_eq_true]
      intro e he
      obtain ⟨v1, v2, v3, v4⟩ := hp.ls e he
      have hmt : matchP p (prs (pairsA m n)) n e.t (q.2 : Nat) = true := by
        unfold matchP
        rw [anyFrom_iff]
        refine ⟨q.2, Nat.zero_le _, by omega, ?_⟩
        have hh : hasP (prs (pairsA m n)) (e.t.toNat : Nat) (q.2 : Nat) = true := hasP_iff.2 (mem_pairsA.2 ⟨by show e.t.toNat < m; omega, hu⟩)
        have ht : ((e.t.toNat : Nat) : Int) = e.t := by omega
        rw [ht] at hh
        rw [hh]
        simp [follows]
      show keepE p (prs (pairsA m n)) n (q.1 : Nat) (q.2 : Nat) e = true
      unfold keepE
      rw [hmt, Bool.or_true]
    rw [hm, hst]
    simp
  | succ j =>
    have hlab : labOk p (q.1 : Nat) (q.2 : Nat) = true := by
      rw [al_rk hp] at hq
      exact rk_lab (by simpa using (List.mem_filter.1 hq).2)
    have hst : decide (stepK p n (j + 1) (al p m n (j + 1)) q = -1) = !(L p.lo.edges).any (refK p n (al p m n (j + 1)) q) := by
      unfold stepK
      rw [if_pos (by omega), idx_neg]
    rw [hlab, hst, hany]
    simp
theorem al_succ_bad (hp : Nice p n m) (k : Nat) : al p m n (k + 1) = (al p m n k).filter fun q => !badK p n k (al p m n k) q := by
  show (al p m n k).filter (keepQ p n (al p m n k)) = _
  exact List.filter_congr fun q hq => keep_bad hp hq
theorem bad_iff (hp : Nice p n m) {k : Nat} {q : NP} (hq : q ∈ al p m n k) : badK p n k (al p m n k) q = true ↔ q ∉ al p m n (k + 1) := by
  rw [al_succ_bad hp, List.mem_filter]
  simp [hq]
theorem nowK_len (hp : Nice p n m) (k : Nat) : (nowK p n k (al p m n k)).length + (al p m n (k + 1)).length = (al p m n k).length := by
  rw [al_succ_bad hp]
  unfold nowK
  rw [List.length_map]
  exact len_filter_add _ _
theorem foundK_len (hp : Nice p n m) : ∀ k, (foundK p m n k).length + (al p m n k).length = m * n
  | 0 => by simp [foundK, al, pairsA_len]
  | k + 1 => by
    have h1 := foundK_len hp k
    have h2 := nowK_len hp k
    unfold foundK
    rw [List.length_append]
    omega

/-- What is found of a pair in round k is its move in the end. -/
theorem mv_eq (hp : Nice p n m) {k : Nat} {q : NP} (h1 : q ∈ al p m n k) (h2 : q ∉ al p m n (k + 1)) : mvK p n k (al p m n k) q = moveOf p n (rkE p m n) q := by
  obtain ⟨hk, hr⟩ := rank_of hp h1 h2
  obtain ⟨hs, hu⟩ := al_sub k q h1
  unfold mvK moveOf
  rw [hr]
  congr 1
  unfold stepK
  by_cases h0 : k > 0
  · have h0' : ((k : Nat) : Int) > 0 := by omega
    rw [if_pos h0, if_pos h0']
    have : ∀ e ∈ L p.lo.edges, refK p n (al p m n k) q e = refE p n (rkE p m n) q.1 q.2 e := by
      intro e he
      obtain ⟨v1, v2, v3, v4⟩ := hp.ls e he
      have ht : ((e.t.toNat : Nat) : Int) = e.t := by omega
      unfold refK refE matchP ansF
      rw [hr]
      congr 2
      refine anyFrom_congr fun v hv => ?_
      congr 1
      rw [← ht, Bool.eq_iff_iff, hasP_iff, Int.toNat_natCast]
      exact al_open hp h0 hk (by omega) hv
    have hidx : ∀ (l : List Edg) (i : Nat), (∀ e ∈ l, refK p n (al p m n k) q e = refE p n (rkE p m n) q.1 q.2 e) → idxFrom (refK p n (al p m n k) q) l i = idxFrom (refE p n (rkE p m n) q.1 q.2) l i := by
      intro l
      induction l with
      | nil => intros; rfl
      | cons a l ih =>
        intro i h
        unfold idxFrom
        rw [h a List.mem_cons_self, ih (i + 1) fun e he => h e (List.mem_cons_of_mem _ he)]
    exact hidx _ _ this
  · have h0' : ¬ ((k : Nat) : Int) > 0 := by omega
    rw [if_neg h0, if_neg h0']

def isQ (q : NP) (x : Mv) : Bool := decide (x.low = (q.1 : Nat)) && decide (x.up = (q.2 : Nat))
theorem isQ_mv {k : Nat} {l : List NP} {q q' : NP} : isQ q (mvK p n k l q') = decide (q' = q) := by
  unfold isQ mvK
  by_cases e : q' = q
  · subst e; simp
  · have : ¬ (((q'.1 : Nat) : Int) = (q.1 : Nat) ∧ ((q'.2 : Nat) : Int) = (q.2 : Nat)) := by
      rintro ⟨h1, h2⟩
      exact e (Prod.ext (by omega) (by omega))
    rw [decide_eq_false e]
    cases h : decide (((q'.1 : Nat) : Int) = (q.1 : Nat)) && decide (((q'.2 : Nat) : Int) = (q.2 : Nat)) with
    | false => rfl
    | true => exact absurd (by simpa using h) this
theorem filter_one {α : Type} [DecidableEq α] {l : List α} (hn : l.Nodup) (q : α) : l.filter (fun x => decide (x = q)) = if q ∈ l then [q] else [] := by
  induction l with
  | nil => rfl
  | cons a l ih =>
    rw [List.nodup_cons] at hn
    rw [List.filter_cons]
    by_cases e : a = q
    · subst e
      have : a ∉ l := hn.1
      rw [ih hn.2, if_neg this]
      simp
    · have e2 : ¬ q = a := fun h => e h.symm
      rw [ih hn.2]
      simp [e, e2]
theorem nowK_at (hp : Nice p n m) (k : Nat) (q : NP) : (nowK p n k (al p m n k)).filter (isQ q) = if q ∈ al p m n k ∧ q ∉ al p m n (k + 1) then [moveOf p n (rkE p m n) q] else [] := by
  unfold nowK
  rw [List.filter_map]
  have h1 : (isQ q ∘ mvK p n k (al p m n k)) = fun x => decide (x = q) := by funext x; exact isQ_mv
  rw [h1, filter_one ((al_nodup k).filter _) q]
  by_cases hq : q ∈ al p m n k
  · by_cases hb : q ∉ al p m n (k + 1)
    · rw [if_pos (List.mem_filter.2 ⟨hq, (bad_iff hp hq).2 hb⟩), if_pos ⟨hq, hb⟩, List.map_singleton, mv_eq hp hq hb]
    · rw [if_neg (fun h => hb ((bad_iff hp hq).1 (List.mem_filter.1 h).2)), if_neg (fun h => hb h.2)]
      rfl
  · rw [if_neg (fun h => hq (List.mem_filter.1 h).1), if_neg (fun h => hq h.1)]
    rfl
theorem foundK_at (hp : Nice p n m) (q : NP) (hq : q ∈ pairsA m n) : ∀ k, (foundK p m n k).filter (isQ q) = if q ∈ al p m n k then [] else [moveOf p n (rkE p m n) q]
  | 0 => by
    have : q ∈ al p m n 0 := hq
    rw [if_pos this]
    rfl
  | k + 1 => by
    unfold foundK
    rw [List.filter_append, foundK_at hp q hq k, nowK_at hp]
    by_cases h1 : q ∈ al p m n k
    · by_cases h2 : q ∈ al p m n (k + 1)
      · rw [if_pos h1, if_neg (fun h => h.2 h2), if_pos h2]; rfl
      · rw [if_pos h1, if_pos ⟨h1, h2⟩, if_neg h2]; rfl
    · have h2 : q ∉ al p m n (k + 1) := fun h => h1 (al_mono h)
      rw [if_neg h1, if_neg (fun h => h1 h.1), if_neg h2]; rfl
/-- The rounds end: what is found is what has a rank. -/
theorem found_end (hp : Nice p n m) {K : Nat} (h : al p m n K = simL p m n) : ((pairsA m n).flatMap fun q => (foundK p m n K).filter (isQ q)) = ranksL p m n := by
  have h1 : ((pairsA m n).flatMap fun q => (foundK p m n K).filter (isQ q)) = (pairsA m n).flatMap fun q => if hasR (rkE p m n) q then [moveOf p n (rkE p m n) q] else [] := by
    refine flatMap_congr' fun q hq => ?_
    rw [foundK_at hp q hq, h, simL_rk hp]
    obtain ⟨hs, hu⟩ := mem_pairsA.1 hq
    unfold hasR
    by_cases e : rkE p m n q.1 q.2 = -1
    · rw [if_pos (List.mem_filter.2 ⟨hq, by simpa using e⟩)]
      simp [e]
    · rw [if_neg (fun hh => e (by simpa using (List.mem_filter.1 hh).2))]
      simp [e]
  rw [h1]
  unfold ranksL msOf
  induction pairsA m n with
  | nil => rfl
  | cons a l ih =>
    rw [List.flatMap_cons, ih, List.filter_cons]
    by_cases e : hasR (rkE p m n) a = true
    · rw [if_pos e, if_pos e]; rfl
    · rw [if_neg e, if_neg e]; rfl
/-- Once a later round finds nothing, nothing is left to find. -/
theorem now_empty (hp : Nice p n m) {k : Nat} (h : (nowK p n k (al p m n k)).length = 0) : al p m n (k + 1) = simL p m n := by
  have h1 := nowK_len hp k
  have h2 := simL_of_len hp (k := k) (by omega)
  rw [← h2]
  exact al_len_fix (by omega)
theorem al_last (hp : Nice p n m) : al p m n (m * n + 1) = simL p m n := rfl

end
end Go.D
end
/- Copies of lists of moves. -/
section
set_option linter.unusedVariables false
set_option linter.unusedSimpArgs false
namespace Go.D

theorem bs61_0 (σ : Store) : buildSlice PP none 61 0 [] σ = some (.p (.sl true 0 []), σ) := Eq.trans (by kernel_rfl) rfl
/-- A copy by append to an empty list. -/
theorem app61_lit (o : Option (List Mv)) (hl : (L o).length ≤ 10000000) (σ : Store) : ∃ y σ', append PP 0 false 61 61 (.p (.sl true 0 [])) (.p (eMs o)) σ = some (y, σ') ∧ view y = .p (eMs (some (L o))) ∧ Keeps σ σ' := by
  have hsrc : source σ 4 (.p (eMs o)) = some ((L o).length, (eMvs (L o)).map DV.p) := by
    cases o with
    | none => rfl
    | some l => simp [source, eMs, eMvs_length]
  by_cases hm : (L o).length = 0
  · have : L o = [] := List.length_eq_zero_iff.1 hm
    refine ⟨.p (.sl true 0 []), σ, ?_, ?_, Keeps.refl σ⟩
    · simp only [append, src61, u61, s77, bytes77, zero77, hsrc, appLit]
      simp [hm]
    · rw [this]; rfl
  · refine ⟨.osl σ.length 0 4 (L o).length (eMvs (L o)), σ ++ [.tok 0], ?_, ?_, Keeps.snoc _ _⟩
    · have e1 : (L o).length * 32 ≤ 140737488355328 := by omega
      have e2 : (L o).length ≤ 140737488355328 := by omega
      simp only [append, src61, u61, s77, bytes77, zero77, hsrc, appLit]
      simp [hm, e1, e2, pures_map]
    · simp only [view, viewCell, loosens_mvs, eMs]

section
variable {p : Pair} {n m : Nat}

theorem S30_view {σ : Store} {q : Pair} {o : Option (List Mv)} {y : DV} (hy : view y = .p (eMs (some (L o)))) : pureV CC 30 [.agg (ePair q), y] σ = pureV CC 30 [.agg (ePair q), .p (eMs (some (L o)))] σ :=
  pureV_view (by simp [pair_view, hy]) (by simp [pair_view, ms_view])

theorem rkE_own (p : Pair) (m n : Nat) : rkE (ownP p) m n = rkE p m n := rk_own p n _
theorem ranksL_own (p : Pair) (m n : Nat) : ranksL (ownP p) m n = ranksL p m n := by
  unfold ranksL
  rw [rkE_own]
  rfl
theorem relM_own (p : Pair) (n : Nat) (l : List Mv) : relM (ownP p) n l = relM p n l := rfl
theorem ranksL_len (hp : Nice p n m) : (ranksL p m n).length ≤ 1000000 := by
  have h1 : m * n ≤ 1000 * 1000 := Nat.mul_le_mul hp.m2 hp.n2
  have h2 : (ranksL p m n).length ≤ (pairsA m n).length := by
    unfold ranksL msOf
    rw [List.length_map]
    exact List.length_filter_le _ _
  rw [pairsA_len] at h2
  omega
theorem len61_nil (σ : Store) : len PP 61 (.p .nilsl) σ = some (.p (.int .i64 0)) := lenMs none σ

end
end Go.D
end
/- Equations of functions 7, 9, printed by gen.py. -/
section
set_option linter.unusedVariables false
set_option maxRecDepth 10000
namespace Go.D
open _root_.Go.D.Code (fstC sndC)
open _root_.Go.D.Ann (left right)
noncomputable def c7_0 : Code := bodyOf Go.Proofs.Try.f7
noncomputable def a7_0 : Ann := (pol 7).ann
noncomputable def F7 (G : GuardT) (lo : Nat) (x0 x1 : DV) (σ : Store) : Option (DV × Store) :=
 codeF G PP (pol 7) CC lo c7_0 a7_0 [x0, x1, ud, ud, ud, ud, ud, ud, ud, ud, ud, ud, ud, ud, ud, ud, ud, ud, ud, ud, ud, ud, ud, ud, ud, ud, ud, ud, ud, ud, ud, ud, ud, ud, ud, ud, ud, ud, ud, ud, ud, ud, ud, ud, ud, ud, ud, ud, ud, ud, ud, ud, ud, ud, ud, ud, ud, ud, ud, ud, ud, ud, ud, ud, ud, ud, ud, ud, ud, ud, ud, ud, ud, ud, ud, ud, ud, ud, ud, ud, ud, ud] σ (finR PP Go.Proofs.Try.f7.results.toList)
theorem F7_eq (G : GuardT) (lo : Nat) (x0 x1 : DV) (σ : Store) : F7 G lo x0 x1 σ =
 (boxV x0).bind fun z2 =>
 (pureFn CC (DV.fn 10 []) [] (σ ++ [Row.mix z2])).bind fun x12 =>
 (unOp .not x12).bind fun x13 =>
 condK x13
 (
 some ((DV.p (PV.bool false)), (σ ++ [Row.mix z2]))
 )
 (
 (load PP 27 (DV.ptr (List.length σ) 0) (σ ++ [Row.mix z2])).bind fun x14 =>
 (pureFn CC (DV.fn 11 []) [x14] (σ ++ [Row.mix z2])).bind fun x15 =>
 (unOp .not x15).bind fun x16 =>
 G _ x16 false (some (x1, (σ ++ [Row.mix z2]))) (σ ++ [Row.mix z2]) fun x18 σ1 =>
 G _ x16 false ((len PP 61 x18 σ1).bind fun v => some (v, σ1)) σ1 fun x19 σ2 =>
 G _ x16 false ((binOp PP .gtr 3 x19 (DV.p (PV.int IntKind.i64 (60)))).bind fun v => some (v, σ2)) σ2 fun x20 σ3 =>
 (pickV x16 (DV.p (PV.bool true)) x20).bind fun x21 =>
 condK x21
 (
 some ((DV.p (PV.bool true)), σ3)
 )
 (
 (load PP 27 (DV.ptr (List.length σ) 0) σ3).bind fun x23 =>
 (pureFn CC (DV.fn 13 []) [x23] σ3).bind fun x24 =>
 (pureFn CC (DV.fn 29 []) [x24] σ3).bind fun x25 =>
 (extractV x25 0).bind fun x26 =>
 (extractV x25 1).bind fun x27 =>
 (load PP 27 (DV.ptr (List.length σ) 0) σ3).bind fun x29 =>
 (pureFn CC (DV.fn 13 []) [x29] σ3).bind fun x30 =>
 (buildSlice PP none 61 0 [] σ3).bind fun r31_4 =>
 (append PP lo false 61 61 r31_4.1 x1 r31_4.2).bind fun r33_5 =>
 (pureFn CC (DV.fn 30 []) [x30, r33_5.1] r33_5.2).bind fun x34 =>
 (extractV x34 0).bind fun x35 =>
 (extractV x34 1).bind fun x36 =>
 (load PP 27 (DV.ptr (List.length σ) 0) r33_5.2).bind fun x37 =>
 (pureFn CC (DV.fn 15 []) [x37] r33_5.2).bind fun x38 =>
 (binOp PP .neq 3 x38 (DV.p (PV.int IntKind.i64 (0)))).bind fun x40 =>
 condK x40
 (
 (binOp PP .eql 3 x27 x38).bind fun x43 =>
 G _ x43 true (some (x36, r33_5.2)) r33_5.2 fun x45 σ6 =>
 G _ x43 true (some (x38, σ6)) σ6 fun x46 σ7 =>
 G _ x43 true ((binOp PP .eql 3 x45 x46).bind fun v => some (v, σ7)) σ7 fun x47 σ8 =>
 (pickV x43 x47 (DV.p (PV.bool false))).bind fun x48 =>
 G _ x48 true (some (x26, σ8)) σ8 fun x50 σ9 =>
 G _ x48 true ((len PP 61 x50 σ9).bind fun v => some (v, σ9)) σ9 fun x51 σ10 =>
 G _ x48 true ((binOp PP .eql 3 x51 (DV.p (PV.int IntKind.i64 (0)))).bind fun v => some (v, σ10)) σ10 fun x52 σ11 =>
 (pickV x48 x52 (DV.p (PV.bool false))).bind fun x53 =>
 G _ x53 true (some (x35, σ11)) σ11 fun x55 σ12 =>
 G _ x53 true ((binOp PP .eql 3 x55 (DV.p (PV.int IntKind.i64 (0)))).bind fun v => some (v, σ12)) σ12 fun x56 σ13 =>
 (pickV x53 x56 (DV.p (PV.bool false))).bind fun x57 =>
 some (x57, σ13)
 )
 (
 (load PP 27 (DV.ptr (List.length σ) 0) r33_5.2).bind fun x59 =>
 (pureFn CC (DV.fn 31 []) [x59, x1] r33_5.2).bind fun x61 =>
 (extractV x61 0).bind fun x62 =>
 (extractV x61 1).bind fun x63 =>
 (binOp PP .eql 30 x27 (DV.p (PV.int IntKind.i64 (0)))).bind fun x65 =>
 G _ x65 true (some (x26, r33_5.2)) r33_5.2 fun x67 σ14 =>
 G _ x65 true ((load PP 27 (DV.ptr (List.length σ) 0) σ14).bind fun v => some (v, σ14)) σ14 fun x68 σ15 =>
 G _ x65 true ((pureFn CC (DV.fn 33 []) [x68] σ15).bind fun v => some (v, σ15)) σ15 fun x69 σ16 =>
 G _ x65 true ((pureFn CC (DV.fn 32 []) [x67, x69] σ16).bind fun v => some (v, σ16)) σ16 fun x70 σ17 =>
 (pickV x65 x70 (DV.p (PV.bool false))).bind fun x71 =>
 G _ x71 true (some (x36, σ17)) σ17 fun x73 σ18 =>
 G _ x71 true (some (x63, σ18)) σ18 fun x74 σ19 =>
 G _ x71 true ((binOp PP .eql 3 x73 x74).bind fun v => some (v, σ19)) σ19 fun x75 σ20 =>
 (pickV x71 x75 (DV.p (PV.bool false))).bind fun x76 =>
 G _ x76 true (some (x35, σ20)) σ20 fun x78 σ21 =>
 G _ x76 true (some (x62, σ21)) σ21 fun x79 σ22 =>
 G _ x76 true ((binOp PP .eql 3 x78 x79).bind fun v => some (v, σ22)) σ22 fun x80 σ23 =>
 (pickV x76 x80 (DV.p (PV.bool false))).bind fun x81 =>
 some (x81, σ23)
 )
 )
 ) := by kernel_rfl
theorem F7_call {lo : Nat} {x0 x1 : DV} {σ : Store} {r : DV × Store} (h : F7 guardT lo x0 x1 σ = some r) : CC lo 7 [x0, x1] σ = some r :=
 callL_run Go.Proofs.Try.func7 (by decide +kernel) rfl (by decide +kernel) h
noncomputable def c9_0 : Code := bodyOf Go.Proofs.Try.f9
noncomputable def a9_0 : Ann := (pol 9).ann
noncomputable def a9_45 : Ann := right (left (right (right (right (right (right (right (right (right (right a9_0))))))))))
noncomputable def a9_46 : Ann := left a9_45
noncomputable def c9_47 : Code := fstC (fstC (sndC (fstC (sndC (sndC (sndC (sndC (sndC (sndC (sndC (sndC (sndC c9_0))))))))))))
noncomputable def a9_54 : Ann := left (right (left a9_46))
noncomputable def a9_57 : Ann := right (left a9_54)
noncomputable def a9_58 : Ann := left a9_57
noncomputable def c9_59 : Code := fstC (fstC (sndC (fstC (fstC (sndC c9_47)))))
noncomputable def c9_75 : Code := sndC (sndC c9_47)
noncomputable def a9_75 : Ann := right (right (left a9_46))
noncomputable def c9_76 : Code := sndC (sndC (sndC (sndC (sndC (sndC (sndC (sndC (sndC (sndC c9_0)))))))))
noncomputable def a9_76 : Ann := right (right (right (right (right (right (right (right (right (right a9_0)))))))))
noncomputable def f9_L0 (G : GuardT) (lo : Nat) (x3 x5 x11 : DV) (σ : Store) : Option (DV × Store) :=
 codeF G PP (pol 9) CC lo (.loop c9_47) a9_46 [ud, ud, ud, x3, ud, x5, ud, ud, ud, ud, ud, x11, ud, ud, ud, ud, ud, ud, ud, ud, ud, ud, ud, ud, ud, ud, ud, ud, ud, ud, ud, ud, ud, ud, ud, ud, ud, ud, ud, ud, ud, ud, ud, ud, ud, ud, ud, ud, ud, ud, ud, ud, ud, ud, ud, ud, ud, ud, ud, ud, ud, ud, ud, ud, ud, ud, ud, ud, ud, ud, ud, ud, ud, ud, ud, ud, ud, ud, ud, ud, ud, ud, ud, ud, ud, ud, ud, ud, ud, ud, ud, ud, ud, ud, ud, ud, ud, ud, ud, ud, ud, ud, ud, ud, ud, ud, ud, ud, ud, ud, ud, ud, ud, ud, ud, ud, ud, ud, ud, ud, ud, ud, ud, ud, ud] σ
 (blockC 0 a9_45 (seqC G PP (pol 9) CC lo c9_76 a9_76 (finR PP Go.Proofs.Try.f9.results.toList)))
noncomputable def f9_L1 (G : GuardT) (lo : Nat) (x3 x5 x11 x12 : DV) (σ : Store) : Option (DV × Store) :=
 codeF G PP (pol 9) CC lo (.loop c9_59) a9_58 [ud, ud, ud, x3, ud, x5, ud, ud, ud, ud, ud, x11, x12, ud, ud, ud, ud, ud, ud, ud, ud, ud, ud, ud, ud, ud, ud, ud, ud, ud, ud, ud, ud, ud, ud, ud, ud, ud, ud, ud, ud, ud, ud, ud, ud, ud, ud, ud, ud, ud, ud, ud, ud, ud, ud, ud, ud, ud, ud, ud, ud, ud, ud, ud, ud, ud, ud, ud, ud, ud, ud, ud, ud, ud, ud, ud, ud, ud, ud, ud, ud, ud, ud, ud, ud, ud, ud, ud, ud, ud, ud, ud, ud, ud, ud, ud, ud, ud, ud, ud, ud, ud, ud, ud, ud, ud, ud, ud, ud, ud, ud, ud, ud, ud, ud, ud, ud, ud, ud, ud, ud, ud, ud, ud, ud] σ
 (blockC 2 a9_57 (blockC 1 a9_54 (seqC G PP (pol 9) CC lo c9_75 a9_75 (loopC G PP (pol 9) CC lo c9_47 a9_46 (blockC 0 a9_45 (seqC G PP (pol 9) CC lo c9_76 a9_76 (finR PP Go.Proofs.Try.f9.results.toList)))))))
noncomputable def F9 (G : GuardT) (lo : Nat) (x0 : DV) (σ : Store) : Option (DV × Store) :=
 codeF G PP (pol 9) CC lo c9_0 a9_0 [x0, ud, ud, ud, ud, ud, ud, ud, ud, ud, ud, ud, ud, ud, ud, ud, ud, ud, ud, ud, ud, ud, ud, ud, ud, ud, ud, ud, ud, ud, ud, ud, ud, ud, ud, ud, ud, ud, ud, ud, ud, ud, ud, ud, ud, ud, ud, ud, ud, ud, ud, ud, ud, ud, ud, ud, ud, ud, ud, ud, ud, ud, ud, ud, ud, ud, ud, ud, ud, ud, ud, ud, ud, ud, ud, ud, ud, ud, ud, ud, ud, ud, ud, ud, ud, ud, ud, ud, ud, ud, ud, ud, ud, ud, ud, ud, ud, ud, ud, ud, ud, ud, ud, ud, ud, ud, ud, ud, ud, ud, ud, ud, ud, ud, ud, ud, ud, ud, ud, ud, ud, ud, ud, ud, ud] σ (finR PP Go.Proofs.Try.f9.results.toList)
theorem f9_L0_eq (G : GuardT) (hG : GuardOk G) (lo : Nat) (x3 x5 x11 : DV) (σ : Store) : f9_L0 G lo x3 x5 x11 σ =
 (len PP 51 x3 σ).bind fun x81 =>
 (binOp PP .lss 3 x11 x81).bind fun x82 =>
 condK x82
 (
 f9_L1 G lo x3 x5 x11 (DV.p (PV.int IntKind.i64 (0))) σ
 )
 (
 some ((DV.p (PV.bool true)), σ)
 ) := (loopF_eq G hG).trans (by kernel_rfl)
theorem f9_L1_eq (G : GuardT) (hG : GuardOk G) (lo : Nat) (x3 x5 x11 x12 : DV) (σ : Store) : f9_L1 G lo x3 x5 x11 x12 σ =
 (len PP 61 x5 σ).bind fun x87 =>
 (binOp PP .lss 3 x12 x87).bind fun x88 =>
 condK x88
 (
 (indexAddr PP 51 x3 x11).bind fun x93 =>
 (load PP 22 x93 σ).bind fun x94 =>
 (len PP 22 x94 σ).bind fun x95 =>
 (binOp PP .neq 3 x95 (DV.p (PV.int IntKind.i64 (2)))).bind fun x96 =>
 G _ x96 false (some (x3, σ)) σ fun x98 σ23 =>
 G _ x96 false (some (x11, σ23)) σ23 fun x99 σ24 =>
 G _ x96 false ((indexAddr PP 51 x98 x99).bind fun v => some (v, σ24)) σ24 fun x100 σ25 =>
 G _ x96 false ((load PP 22 x100 σ25).bind fun v => some (v, σ25)) σ25 fun x101 σ26 =>
 G _ x96 false ((indexAddr PP 22 x101 (DV.p (PV.int IntKind.i64 (0)))).bind fun v => some (v, σ26)) σ26 fun x102 σ27 =>
 G _ x96 false ((load PP 3 x102 σ27).bind fun v => some (v, σ27)) σ27 fun x103 σ28 =>
 G _ x96 false (some (x5, σ28)) σ28 fun x104 σ29 =>
 G _ x96 false (some (x12, σ29)) σ29 fun x105 σ30 =>
 G _ x96 false ((indexAddr PP 61 x104 x105).bind fun v => some (v, σ30)) σ30 fun x106 σ31 =>
 G _ x96 false ((fieldAddr PP 77 x106 0).bind fun v => some (v, σ31)) σ31 fun x107 σ32 =>
 G _ x96 false ((load PP 3 x107 σ32).bind fun v => some (v, σ32)) σ32 fun x108 σ33 =>
 G _ x96 false ((binOp PP .eql 3 x103 x108).bind fun v => some (v, σ33)) σ33 fun x109 σ34 =>
 G _ x96 false (some (x109, σ34)) σ34 fun x110 σ35 =>
 G _ x110 true (some (x3, σ35)) σ35 fun x111 σ36 =>
 G _ x110 true (some (x11, σ36)) σ36 fun x112 σ37 =>
 G _ x110 true ((indexAddr PP 51 x111 x112).bind fun v => some (v, σ37)) σ37 fun x113 σ38 =>
 G _ x110 true ((load PP 22 x113 σ38).bind fun v => some (v, σ38)) σ38 fun x114 σ39 =>
 G _ x110 true ((indexAddr PP 22 x114 (DV.p (PV.int IntKind.i64 (1)))).bind fun v => some (v, σ39)) σ39 fun x115 σ40 =>
 G _ x110 true ((load PP 3 x115 σ40).bind fun v => some (v, σ40)) σ40 fun x116 σ41 =>
 G _ x110 true (some (x5, σ41)) σ41 fun x117 σ42 =>
 G _ x110 true (some (x12, σ42)) σ42 fun x118 σ43 =>
 G _ x110 true ((indexAddr PP 61 x117 x118).bind fun v => some (v, σ43)) σ43 fun x119 σ44 =>
 G _ x110 true ((fieldAddr PP 77 x119 1).bind fun v => some (v, σ44)) σ44 fun x120 σ45 =>
 G _ x110 true ((load PP 3 x120 σ45).bind fun v => some (v, σ45)) σ45 fun x121 σ46 =>
 G _ x110 true ((binOp PP .eql 3 x116 x121).bind fun v => some (v, σ46)) σ46 fun x122 σ47 =>
 G _ x96 false ((pickV x110 x122 (DV.p (PV.bool false))).bind fun v => some (v, σ47)) σ47 fun x123 σ48 =>
 (pickV x96 (DV.p (PV.bool true)) x123).bind fun x124 =>
 condK x124
 (
 some ((DV.p (PV.bool false)), σ48)
 )
 (
 (binOp PP .add 3 x12 (DV.p (PV.int IntKind.i64 (1)))).bind fun x90 =>
 f9_L1 G lo x3 x5 x11 x90 σ48
 )
 )
 (
 (binOp PP .add 3 x11 (DV.p (PV.int IntKind.i64 (1)))).bind fun x84 =>
 f9_L0 G lo x3 x5 x84 σ
 ) := (loopF_eq G hG).trans (by kernel_rfl)
theorem F9_eq (G : GuardT) (lo : Nat) (x0 : DV) (σ : Store) : F9 G lo x0 σ =
 (boxV x0).bind fun z1 =>
 (pureFn CC (DV.fn 10 []) [] (σ ++ [Row.mix z1])).bind fun x13 =>
 (unOp .not x13).bind fun x14 =>
 condK x14
 (
 some ((DV.p (PV.bool false)), (σ ++ [Row.mix z1]))
 )
 (
 (load PP 27 (DV.ptr (List.length σ) 0) (σ ++ [Row.mix z1])).bind fun x15 =>
 (pureFn CC (DV.fn 11 []) [x15] (σ ++ [Row.mix z1])).bind fun x16 =>
 (unOp .not x16).bind fun x17 =>
 G _ x17 false ((load PP 27 (DV.ptr (List.length σ) 0) (σ ++ [Row.mix z1])).bind fun v => some (v, (σ ++ [Row.mix z1]))) (σ ++ [Row.mix z1]) fun x19 σ1 =>
 G _ x17 false ((pureFn CC (DV.fn 15 []) [x19] σ1).bind fun v => some (v, σ1)) σ1 fun x20 σ2 =>
 G _ x17 false ((binOp PP .neq 3 x20 (DV.p (PV.int IntKind.i64 (0)))).bind fun v => some (v, σ2)) σ2 fun x21 σ3 =>
 (pickV x17 (DV.p (PV.bool true)) x21).bind fun x22 =>
 condK x22
 (
 some ((DV.p (PV.bool true)), σ3)
 )
 (
 (load PP 27 (DV.ptr (List.length σ) 0) σ3).bind fun x24 =>
 (pureFn CC (DV.fn 13 []) [x24] σ3).bind fun x25 =>
 (pureFn CC (DV.fn 24 []) [x25] σ3).bind fun x26 =>
 (extractV x26 0).bind fun x27 =>
 (extractV x26 1).bind fun x28 =>
 (load PP 27 (DV.ptr (List.length σ) 0) σ3).bind fun x30 =>
 (pureFn CC (DV.fn 13 []) [x30] σ3).bind fun x31 =>
 (pureFn CC (DV.fn 29 []) [x31] σ3).bind fun x32 =>
 (extractV x32 0).bind fun x33 =>
 (extractV x32 1).bind fun x34 =>
 (binOp PP .neq 30 x28 (DV.p (PV.int IntKind.i64 (0)))).bind fun x36 =>
 G _ x36 false (some (x34, σ3)) σ3 fun x38 σ4 =>
 G _ x36 false ((binOp PP .neq 30 x38 (DV.p (PV.int IntKind.i64 (0)))).bind fun v => some (v, σ4)) σ4 fun x39 σ5 =>
 (pickV x36 (DV.p (PV.bool true)) x39).bind fun x40 =>
 condK x40
 (
 some ((DV.p (PV.bool false)), σ5)
 )
 (
 (load PP 27 (DV.ptr (List.length σ) 0) σ5).bind fun x42 =>
 (pureFn CC (DV.fn 13 []) [x42] σ5).bind fun x43 =>
 (pureFn CC (DV.fn 36 []) [x27] σ5).bind fun x45 =>
 (pureFn CC (DV.fn 35 []) [x43, x45] σ5).bind fun x46 =>
 (extractV x46 0).bind fun x47 =>
 (extractV x46 1).bind fun x48 =>
 (load PP 27 (DV.ptr (List.length σ) 0) σ5).bind fun x50 =>
 (pureFn CC (DV.fn 13 []) [x50] σ5).bind fun x51 =>
 (buildSlice PP none 61 0 [] σ5).bind fun r52_6 =>
 (append PP lo false 61 61 r52_6.1 x33 r52_6.2).bind fun r54_7 =>
 (pureFn CC (DV.fn 30 []) [x51, r54_7.1] r54_7.2).bind fun x55 =>
 (extractV x55 0).bind fun x56 =>
 (extractV x55 1).bind fun x57 =>
 (binOp PP .neq 30 x48 (DV.p (PV.int IntKind.i64 (0)))).bind fun x59 =>
 G _ x59 false (some (x57, r54_7.2)) r54_7.2 fun x61 σ8 =>
 G _ x59 false ((binOp PP .neq 30 x61 (DV.p (PV.int IntKind.i64 (0)))).bind fun v => some (v, σ8)) σ8 fun x62 σ9 =>
 (pickV x59 (DV.p (PV.bool true)) x62).bind fun x63 =>
 G _ x63 false (some (x27, σ9)) σ9 fun x65 σ10 =>
 G _ x63 false ((len PP 51 x65 σ10).bind fun v => some (v, σ10)) σ10 fun x66 σ11 =>
 G _ x63 false (some (x33, σ11)) σ11 fun x67 σ12 =>
 G _ x63 false ((len PP 61 x67 σ12).bind fun v => some (v, σ12)) σ12 fun x68 σ13 =>
 G _ x63 false ((binOp PP .add 3 x66 x68).bind fun v => some (v, σ13)) σ13 fun x69 σ14 =>
 G _ x63 false ((fieldAddr PP 27 (DV.ptr (List.length σ) 0) 0).bind fun v => some (v, σ14)) σ14 fun x70 σ15 =>
 G _ x63 false ((fieldAddr PP 25 x70 0).bind fun v => some (v, σ15)) σ15 fun x71 σ16 =>
 G _ x63 false ((load PP 3 x71 σ16).bind fun v => some (v, σ16)) σ16 fun x72 σ17 =>
 G _ x63 false ((fieldAddr PP 27 (DV.ptr (List.length σ) 0) 1).bind fun v => some (v, σ17)) σ17 fun x73 σ18 =>
 G _ x63 false ((fieldAddr PP 25 x73 0).bind fun v => some (v, σ18)) σ18 fun x74 σ19 =>
 G _ x63 false ((load PP 3 x74 σ19).bind fun v => some (v, σ19)) σ19 fun x75 σ20 =>
 G _ x63 false ((binOp PP .mul 3 x72 x75).bind fun v => some (v, σ20)) σ20 fun x76 σ21 =>
 G _ x63 false ((binOp PP .neq 3 x69 x76).bind fun v => some (v, σ21)) σ21 fun x77 σ22 =>
 (pickV x63 (DV.p (PV.bool true)) x77).bind fun x78 =>
 condK x78
 (
 some ((DV.p (PV.bool false)), σ22)
 )
 (
 f9_L0 G lo x27 x33 (DV.p (PV.int IntKind.i64 (0))) σ22
 )
 )
 )
 ) := by kernel_rfl
theorem F9_call {lo : Nat} {x0 : DV} {σ : Store} {r : DV × Store} (h : F9 guardT lo x0 σ = some r) : CC lo 9 [x0] σ = some r :=
 callL_run Go.Proofs.Try.func9 (by decide +kernel) rfl (by decide +kernel) h
end Go.D
end
/- RefineBothSides: the simulation and the ranks are right, and each pair is in one of both. -/
section
set_option linter.unusedVariables false
set_option linter.unusedSimpArgs false
namespace Go.D

theorem firstBad_all {f : Nat → Int} : ∀ {k i : Nat}, (∀ j, i ≤ j → j < i + k → f j = 0) → firstBad f i k = none
  | 0, i, _ => rfl
  | k + 1, i, h => by
    rw [firstBad_zero (h i (Nat.le_refl _) (by omega))]
    exact firstBad_all fun j h1 h2 => h j (by omega) (by omega)

section
variable {p : Pair} {n m : Nat}

/-! ### The order of the pairs -/
def ltN (a b : NP) : Prop := a.1 < b.1 ∨ (a.1 = b.1 ∧ a.2 < b.2)
theorem pairsA_sorted (m n : Nat) : (pairsA m n).Pairwise ltN := by
  unfold pairsA
  rw [List.pairwise_flatMap]
  refine ⟨fun s _ => List.Pairwise.map _ (fun a b h => .inr ⟨rfl, h⟩) List.pairwise_lt_range, ?_⟩
  refine List.Pairwise.imp ?_ (List.pairwise_lt_range (n := m))
  intro a b hab x h1 y h2
  simp only [List.mem_map] at h1 h2
  obtain ⟨u, _, rfl⟩ := h1
  obtain ⟨v, _, rfl⟩ := h2
  exact .inl hab
theorem sorted_adj {l : List NP} (h : l.Pairwise ltN) {i : Nat} (hi : i < l.length) (h0 : ¬ i = 0) : ltN (l[i - 1]'(by omega)) l[i] :=
  List.pairwise_iff_getElem.1 h (i - 1) i (by omega) hi (by omega)

/-! ### The simulation is accepted -/
theorem lists_lsO (l : List NP) : listsOf (lsO l) = l.map fun q => [(q.1 : Int), (q.2 : Int)] := by
  unfold listsOf
  rw [L_lsO]
  simp [prs, toPR, prO, List.map_map, Function.comp_def]
theorem sim_keeps (hp : Nice p n m) : ∀ q ∈ simL p m n, keepQ p n (simL p m n) q = true := by
  have h := al_stable hp (stable_mn hp)
  have h2 : (simL p m n).filter (keepQ p n (simL p m n)) = simL p m n := h
  exact List.filter_eq_self.1 h2
theorem sim_sub (hp : Nice p n m) : ∀ q ∈ simL p m n, q.1 < m ∧ q.2 < n := al_sub _
theorem sim_sorted (hp : Nice p n m) : (simL p m n).Pairwise ltN := by
  rw [simL_rk hp]
  exact (pairsA_sorted m n).filter _
theorem rel_sim (hp : Nice p n m) : relRes p n (listsOf (lsO (simL p m n))) = (0, 0) := by
  have pu : pred (n : Nat) = (n : Nat) - 1 := wrap_ok (by omega) (by have := hp.n2; omega)
  have pl : pred (m : Nat) = (m : Nat) - 1 := wrap_ok (by omega) (by have := hp.m2; omega)
  have hk := sim_keeps hp
  have hs := sim_sorted hp
  have hb := sim_sub hp
  generalize hl : simL p m n = l at *
  rw [lists_lsO]
  have hlen : (l.map fun q => [(q.1 : Int), (q.2 : Int)]).length = l.length := by simp
  have hget : ∀ i (h : i < l.length), (l.map fun q => [(q.1 : Int), (q.2 : Int)]).getD i [] = [(l[i].1 : Int), (l[i].2 : Int)] := by
    intro i h
    rw [getD_at _ (by simpa using h)]
    simp
  have hps : psOf (l.map fun q => [(q.1 : Int), (q.2 : Int)]) = prs l := by
    unfold psOf prs
    rw [List.map_map]
    rfl
  have h1 : firstBad (shapeAt p (l.map fun q => [(q.1 : Int), (q.2 : Int)])) 0 l.length = none := by
    refine firstBad_all fun i _ hi => ?_
    have h : i < l.length := by omega
    obtain ⟨b1, b2⟩ := hb _ (List.getElem_mem h)
    have e1 : inBoth p (l.map fun q => [(q.1 : Int), (q.2 : Int)]) i = true := by
      unfold inBoth x0 x1
      rw [hget i h]
      simp only [inR, hp.un, hp.ln, pu, pl, Bool.and_eq_true, decide_eq_true_eq]
      show ((l[i].1 : Int) ≥ 0 ∧ (l[i].1 : Int) ≤ (m : Nat) - 1) ∧ (l[i].2 : Int) ≥ 0 ∧ (l[i].2 : Int) ≤ (n : Nat) - 1
      omega
    have e2 : upAt (l.map fun q => [(q.1 : Int), (q.2 : Int)]) i = true := by
      unfold upAt
      by_cases h0 : i = 0
      · rw [decide_eq_true h0]; rfl
      · rw [hget i h, hget (i - 1) (by omega)]
        have := sorted_adj hs h h0
        unfold ltN at this
        rw [Bool.or_eq_true, decide_eq_true_eq, decide_eq_true_eq]
        right
        unfold cmpL cmpL cmpL cmpI
        rcases this with h3 | ⟨h3, h4⟩
        · have h5 : ¬ ((l[i - 1]'(by omega)).1 : Int) = (l[i].1 : Int) := by omega
          have h6 : ((l[i - 1]'(by omega)).1 : Int) < (l[i].1 : Int) := by omega
          simp [h5, h6]
        · have h5 : ((l[i - 1]'(by omega)).1 : Int) = (l[i].1 : Int) := by omega
          have h6 : ¬ ((l[i - 1]'(by omega)).2 : Int) = (l[i].2 : Int) := by omega
          have h7 : ((l[i - 1]'(by omega)).2 : Int) < (l[i].2 : Int) := by omega
          simp [h5, h6, h7]
    unfold shapeAt
    rw [hget i h, e1, e2]
    rfl
  have h2 : firstBad (brokenAt p (l.map fun q => [(q.1 : Int), (q.2 : Int)]) n) 0 l.length = none := by
    refine firstBad_all fun i _ hi => ?_
    have h : i < l.length := by omega
    have := hk _ (List.getElem_mem h)
    unfold brokenAt x0 x1
    rw [hps, hget i h]
    have e : keepP p (prs l) n ([(l[i].1 : Int), (l[i].2 : Int)].getD 0 0) ([(l[i].1 : Int), (l[i].2 : Int)].getD 1 0) = true := this
    rw [e]
    rfl
  unfold relRes
  rw [hlen, h1, h2]
  rfl

/-! ### The ranks are accepted -/
theorem idx_spec {α : Type} (q : α → Bool) : ∀ (l : List α) (i : Nat), idxFrom q l i ≠ -1 → ∃ j, ∃ h : j < l.length, idxFrom q l i = ((i + j : Nat) : Int) ∧ q l[j] = true
  | [], i, h => absurd rfl h
  | a :: l, i, h => by
    unfold idxFrom at h ⊢
    cases e : q a with
    | true => exact ⟨0, by simp, by simp, e⟩
    | false =>
      rw [e] at h
      simp only [Bool.false_eq_true, if_false] at h ⊢
      obtain ⟨j, h1, h2, h3⟩ := idx_spec q l (i + 1) h
      exact ⟨j + 1, by simpa using h1, by rw [h2]; congr 1; omega, by simpa using h3⟩
theorem rank_mem (hp : Nice p n m) {q : NP} (hq : q ∈ pairsA m n) {k : Nat} (hk : rkE p m n q.1 q.2 = (k : Nat)) : k ≤ m * n ∧ q ∈ al p m n k ∧ q ∉ al p m n (k + 1) := by
  obtain ⟨hs, hu⟩ := mem_pairsA.1 hq
  have hle := rk_le p n (m * n) q.1 q.2
  have hk2 : k ≤ m * n := by unfold rkE at hk; omega
  refine ⟨hk2, ?_, ?_⟩
  · rcases Nat.eq_zero_or_pos k with h0 | h0
    · subst h0; exact hq
    · have := (al_open hp h0 hk2 hs hu).2
      apply this
      unfold openAt
      rw [hk]
      simp
  · intro h
    rw [al_rk hp] at h
    have h0 : rkF p n k q.1 q.2 = -1 := by simpa using (List.mem_filter.1 h).2
    have := rk_later h0 (m * n - k)
    rw [show k + (m * n - k) = m * n by omega] at this
    unfold rkE at hk
    rw [hk] at this
    omega
theorem ranks_mem (hp : Nice p n m) {t v : Nat} (ht : t < m) (hv : v < n) {k : Int} (h1 : rkE p m n t v ≠ -1) (h2 : rkE p m n t v < k) : lowerM (ranksL p m n) (t : Nat) (v : Nat) k = true := by
  unfold lowerM
  rw [List.any_eq_true]
  refine ⟨moveOf p n (rkE p m n) (t, v), ?_, ?_⟩
  · unfold ranksL msOf
    refine List.mem_map.2 ⟨(t, v), List.mem_filter.2 ⟨mem_pairsA.2 ⟨ht, hv⟩, ?_⟩, rfl⟩
    unfold hasR
    simpa using h1
  · simp [moveOf, h2]
theorem expl_ranks (hp : Nice p n m) {q : NP} (hq : q ∈ pairsA m n) (hne : rkE p m n q.1 q.2 ≠ -1) : explM p (ranksL p m n) n (moveOf p n (rkE p m n) q) = true := by
  obtain ⟨hs, hu⟩ := mem_pairsA.1 hq
  have hge : rkE p m n q.1 q.2 ≥ 0 := rk_ge0 hne
  obtain ⟨k, hk⟩ : ∃ k : Nat, rkE p m n q.1 q.2 = (k : Nat) := ⟨_, (Int.toNat_of_nonneg hge).symm⟩
  obtain ⟨hkm, h1, h2⟩ := rank_mem hp hq hk
  have hbad := (bad_iff hp h1).2 h2
  have hmv := mv_eq hp h1 h2
  have hstep : (moveOf p n (rkE p m n) q).step = stepK p n k (al p m n k) q := by rw [← hmv]; rfl
  have hlow : (moveOf p n (rkE p m n) q).low = (q.1 : Nat) := rfl
  have hup : (moveOf p n (rkE p m n) q).up = (q.2 : Nat) := rfl
  have hrank : (moveOf p n (rkE p m n) q).rank = (k : Nat) := hk
  have hle := hp.sm.le
  unfold explM
  rw [hrank, hlow, hup]
  rcases Nat.eq_zero_or_pos k with h0 | h0
  · subst h0
    have e : decide (((0 : Nat) : Int) > 0) = false := rfl
    have hs0 : stepK p n 0 (al p m n 0) q = -1 := rfl
    rw [e, hstep, hs0]
    unfold badK at hbad
    rw [hs0] at hbad
    simpa using hbad
  · have e : decide (((k : Nat) : Int) > 0) = true := by simp; omega
    have hne2 : idxFrom (refE p n (rkE p m n) q.1 q.2) (L p.lo.edges) 0 ≠ -1 := by
      have h3 : (moveOf p n (rkE p m n) q).step = idxFrom (refE p n (rkE p m n) q.1 q.2) (L p.lo.edges) 0 := by
        show (if rkE p m n q.1 q.2 > 0 then _ else _) = _
        rw [if_pos (by rw [hk]; omega)]
      rw [← h3, hstep]
      unfold badK at hbad
      have hk0 : decide (k = 0) = false := by simp; omega
      rw [hk0] at hbad
      simpa using hbad
    obtain ⟨j, hj, h3, h4⟩ := idx_spec _ _ _ hne2
    have hst : (moveOf p n (rkE p m n) q).step = (j : Nat) := by
      show (if rkE p m n q.1 q.2 > 0 then _ else _) = _
      rw [if_pos (by rw [hk]; omega), h3, Nat.zero_add]
    have hea : edgeAt p ((j : Nat) : Int) = (L p.lo.edges)[j] := by unfold edgeAt; rw [Int.toNat_natCast]; exact getD_at _ hj
    rw [e, hst, hea]
    unfold refE at h4
    rw [Bool.and_eq_true, decide_eq_true_eq] at h4
    obtain ⟨h5, h6⟩ := h4
    obtain ⟨v1, v2, v3, v4⟩ := hp.ls _ (List.getElem_mem hj)
    have ht : (((L p.lo.edges)[j].t.toNat : Nat) : Int) = (L p.lo.edges)[j].t := by omega
    have hin : inR ((j : Nat) : Int) 0 (pred ((L p.lo.edges).length : Nat)) = true := by
      rw [pred_len hle]
      simp only [inR, Bool.and_eq_true, decide_eq_true_eq]
      omega
    have hno : noAns p (ranksL p m n) n (L p.lo.edges)[j].t (q.2 : Nat) (k : Nat) = true := by
      unfold noAns
      cases hany : anyFrom (fun v => follows p.up (q.2 : Nat) (v : Nat) && !lowerM (ranksL p m n) (L p.lo.edges)[j].t (v : Nat) (k : Nat)) 0 n with
      | false => rfl
      | true =>
        exfalso
        obtain ⟨v, _, hv, hc⟩ := (anyFrom_iff _ _ _).1 hany
        rw [Bool.and_eq_true] at hc
        obtain ⟨c1, c2⟩ := hc
        have hans : ansF p n (rkE p m n) (rkE p m n q.1 q.2) (L p.lo.edges)[j].t.toNat q.2 = true := by
          unfold ansF
          rw [anyFrom_iff]
          refine ⟨v, Nat.zero_le _, hv, ?_⟩
          rw [c1, Bool.true_and]
          cases ho : openAt (rkE p m n) (rkE p m n q.1 q.2) (L p.lo.edges)[j].t.toNat v with
          | true => rfl
          | false =>
            exfalso
            unfold openAt at ho
            rw [Bool.or_eq_false_iff, decide_eq_false_iff_not, decide_eq_false_iff_not] at ho
            have hlow2 := ranks_mem hp (t := (L p.lo.edges)[j].t.toNat) (v := v) (k := (k : Nat)) (by omega) (by omega) ho.1 (by rw [hk] at ho; omega)
            rw [ht] at hlow2
            rw [hlow2] at c2
            exact absurd c2 (by simp)
        rw [hans] at h6
        exact absurd h6 (by simp)
    rw [hin, hno, h5]
    simp
theorem hasR_ne {f : RF} {q : NP} (h : hasR f q = true) : f q.1 q.2 ≠ -1 := by
  unfold hasR at h
  simpa using h
theorem rel_ranks (hp : Nice p n m) : relM p n (ranksL p m n) = (0, 0) := by
  have pu : pred (n : Nat) = (n : Nat) - 1 := wrap_ok (by omega) (by have := hp.n2; omega)
  have pl : pred (m : Nat) = (m : Nat) - 1 := wrap_ok (by omega) (by have := hp.m2; omega)
  have hsrt : ((pairsA m n).filter (hasR (rkE p m n))).Pairwise ltN := (pairsA_sorted m n).filter _
  have hlen : (ranksL p m n).length = ((pairsA m n).filter (hasR (rkE p m n))).length := by simp [ranksL, msOf]
  have hget : ∀ i (h : i < ((pairsA m n).filter (hasR (rkE p m n))).length), mAt (ranksL p m n) i = moveOf p n (rkE p m n) ((pairsA m n).filter (hasR (rkE p m n)))[i] := by
    intro i h
    rw [mAt_get (by rw [hlen]; exact h)]
    simp [ranksL, msOf]
  have hmem : ∀ i (h : i < ((pairsA m n).filter (hasR (rkE p m n))).length), ((pairsA m n).filter (hasR (rkE p m n)))[i] ∈ pairsA m n ∧ rkE p m n ((pairsA m n).filter (hasR (rkE p m n)))[i].1 ((pairsA m n).filter (hasR (rkE p m n)))[i].2 ≠ -1 := by
    intro i h
    have := List.mem_filter.1 (List.getElem_mem h)
    exact ⟨this.1, hasR_ne this.2⟩
  generalize hl : (pairsA m n).filter (hasR (rkE p m n)) = l at *
  have h1 : firstBad (shapeM p (ranksL p m n)) 0 (ranksL p m n).length = none := by
    refine firstBad_all fun i _ hi => ?_
    have h : i < l.length := by omega
    obtain ⟨hq, hne⟩ := hmem i h
    obtain ⟨b1, b2⟩ := mem_pairsA.1 hq
    have hge : rkE p m n l[i].1 l[i].2 ≥ 0 := rk_ge0 hne
    have e1 : rangeM p (mAt (ranksL p m n) i) = true := by
      rw [hget i h]
      simp only [rangeM, inR, hp.un, hp.ln, pu, pl, Bool.and_eq_true, decide_eq_true_eq]
      show ((((l[i].1 : Nat) : Int) ≥ 0 ∧ ((l[i].1 : Nat) : Int) ≤ (m : Nat) - 1) ∧ (((l[i].2 : Nat) : Int) ≥ 0 ∧ ((l[i].2 : Nat) : Int) ≤ (n : Nat) - 1)) ∧ rkE p m n l[i].1 l[i].2 ≥ 0
      exact ⟨by omega, hge⟩
    have e2 : upM (ranksL p m n) i = true := by
      unfold upM
      by_cases h0 : i = 0
      · rw [decide_eq_true h0]; rfl
      · have hlt : ltM (mAt (ranksL p m n) (i - 1)) (mAt (ranksL p m n) i) = true := by
          rw [hget i h, hget (i - 1) (by omega), ltM_iff]
          have := sorted_adj hsrt h h0
          unfold ltN at this
          show (((l[i - 1]'(by omega)).1 : Nat) : Int) < ((l[i].1 : Nat) : Int) ∨ ((((l[i - 1]'(by omega)).1 : Nat) : Int) = ((l[i].1 : Nat) : Int) ∧ (((l[i - 1]'(by omega)).2 : Nat) : Int) < ((l[i].2 : Nat) : Int))
          omega
        rw [hlt, Bool.or_true]
    unfold shapeM
    rw [e1, e2]
    rfl
  have h2 : firstBad (brokenM p (ranksL p m n) n) 0 (ranksL p m n).length = none := by
    refine firstBad_all fun i _ hi => ?_
    have h : i < l.length := by omega
    obtain ⟨hq, hne⟩ := hmem i h
    unfold brokenM
    rw [hget i h, expl_ranks hp hq hne]
    rfl
  unfold relM
  rw [h1, h2]
  rfl

theorem both_len (hp : Nice p n m) : (simL p m n).length + (ranksL p m n).length = m * n := by
  rw [simL_rk hp]
  unfold ranksL msOf
  rw [List.length_map, ← pairsA_len m n]
  exact len_filter_add _ _

/-! ### The loops of the law -/
theorem L9_1 (hp : Nice p n m) {lo : Nat} {σ : Store} {i : Nat} (hi : i < (simL p m n).length) :
    ∀ (d k : Nat), (ranksL p m n).length - k = d → k ≤ (ranksL p m n).length →
      f9_L1 guardT lo (.p (eLs (lsO (simL p m n)))) (.p (eMs (msO (ranksL p m n)))) (.p (pI (i : Nat))) (.p (pI (k : Nat))) σ =
      f9_L1 guardT lo (.p (eLs (lsO (simL p m n)))) (.p (eMs (msO (ranksL p m n)))) (.p (pI (i : Nat))) (.p (pI ((ranksL p m n).length : Nat))) σ
  | 0, k, hd, hk => by
    have : k = (ranksL p m n).length := by omega
    rw [this]
  | d + 1, k, hd, hk => by
    have h : k < (ranksL p m n).length := by omega
    have h' : (k : Int) < ((ranksL p m n).length : Nat) := by omega
    have hrl := ranksL_len hp
    have w : IntKind.wrap .i64 ((k : Int) + 1) = ((k + 1 : Nat) : Int) := wrap_succ (by omega)
    have hb0 : i < (L (lsO (simL p m n))).length := by rw [lsO_len]; exact hi
    have hg : (L (lsO (simL p m n))).getD i none = prO (toPR (simL p m n)[i]) := by rw [prs_get (L_lsO _) (by rw [prs_len']; exact hi)]; simp [prs]
    have hL := L_msO (ranksL p m n)
    have hk2 : k < (L (msO (ranksL p m n))).length := by rw [hL]; exact h
    have hlow : ∀ σ, load1 (.pptr (eMvs (L (msO (ranksL p m n)))) (k * 4)) σ = some (.p (pI ((ranksL p m n)[k]).low)) := by rw [hL]; exact ld_low h
    have hup : ∀ σ, load1 (.pptr (eMvs (L (msO (ranksL p m n)))) (k * 4 + 1)) σ = some (.p (pI ((ranksL p m n)[k]).up)) := by rw [hL]; exact ld_up h
    have hl2 : ((L (prO (((simL p m n)[i].1 : Int), ((simL p m n)[i].2 : Int)))).length : Int) = 2 := rfl
    have hlen : ((L (msO (ranksL p m n))).length : Int) = ((ranksL p m n).length : Nat) := by rw [hL]
    have hdis : ¬ ((((simL p m n)[i].1 : Nat) : Int) = ((ranksL p m n)[k]).low ∧ (((simL p m n)[i].2 : Nat) : Int) = ((ranksL p m n)[k]).up) := by
      rintro ⟨c1, c2⟩
      have m2 : rkE p m n (simL p m n)[i].1 (simL p m n)[i].2 = -1 := by
        have := List.getElem_mem hi
        have h3 : (simL p m n)[i] ∈ (pairsA m n).filter fun q => decide (rkE p m n q.1 q.2 = -1) := by rw [← simL_rk hp]; exact this
        simpa using (List.mem_filter.1 h3).2
      have m3 := List.getElem_mem h
      have m4 : (ranksL p m n)[k] ∈ ((pairsA m n).filter (hasR (rkE p m n))).map (moveOf p n (rkE p m n)) := m3
      obtain ⟨q, hq1, hq2⟩ := List.mem_map.1 m4
      have hq3 := hasR_ne (List.mem_filter.1 hq1).2
      rw [← hq2] at c1 c2
      have c3 : (((simL p m n)[i].1 : Nat) : Int) = ((q.1 : Nat) : Int) := c1
      have c4 : (((simL p m n)[i].2 : Nat) : Int) = ((q.2 : Nat) : Int) := c2
      have c5 : (simL p m n)[i].1 = q.1 := by omega
      have c6 : (simL p m n)[i].2 = q.2 := by omega
      rw [c5, c6] at m2
      exact hq3 m2
    have ih := L9_1 hp (lo := lo) (σ := σ) hi d (k + 1) (by omega) (by omega)
    rw [← ih, f9_L1_eq guardT rfl]
    cases e1 : decide ((((simL p m n)[i].1 : Nat) : Int) = ((ranksL p m n)[k]).low) with
    | false =>
      simp only [lenMs, hlen, obind, b_lss, h', decide_true, condK_true, idx51 hb0, load22, load1_ls hb0, hg, toPR, len22, hl2, b_neq, decide_true, Bool.not_true, guard_ff, pr_idx0, load3, ii_ld0, toPR, idx61 hk2, fm77_0, shift_pptr, Nat.add_zero, hlow, b_eql, e1, guard_ft, guard_sk, pickV_false, condK_false, b_add, w]
    | true =>
      have e2 : decide ((((simL p m n)[i].2 : Nat) : Int) = ((ranksL p m n)[k]).up) = false := by
        rw [decide_eq_false_iff_not]
        exact fun h => hdis ⟨of_decide_eq_true e1, h⟩
      simp only [lenMs, hlen, obind, b_lss, h', decide_true, condK_true, idx51 hb0, load22, load1_ls hb0, hg, toPR, len22, hl2, b_neq, decide_true, Bool.not_true, guard_ff, pr_idx0, pr_idx1, load3, ii_ld0, ii_ld1, toPR, idx61 hk2, fm77_0, fm77_1, shift_pptr, Nat.add_zero, hlow, hup, b_eql, e1, e2, guard_tt, pickV_true, pickV_false, condK_false, b_add, w]

theorem L9_0 (hp : Nice p n m) {lo : Nat} {σ : Store} :
    ∀ (d i : Nat), (simL p m n).length - i = d → i ≤ (simL p m n).length → f9_L0 guardT lo (.p (eLs (lsO (simL p m n)))) (.p (eMs (msO (ranksL p m n)))) (.p (pI (i : Nat))) σ = some (.p (.bool true), σ)
  | 0, i, hd, hi => by
    have : ¬ (i : Int) < ((simL p m n).length : Nat) := by omega
    rw [f9_L0_eq guardT rfl]
    simp only [len51, lsO_len, obind, b_lss, this, decide_false, condK_false]
  | d + 1, i, hd, hi => by
    have h : i < (simL p m n).length := by omega
    have h' : (i : Int) < ((simL p m n).length : Nat) := by omega
    have hsl := simL_len hp
    have w : IntKind.wrap .i64 ((i : Int) + 1) = ((i + 1 : Nat) : Int) := wrap_succ (by omega)
    have g := L9_1 hp (lo := lo) (σ := σ) h _ 0 rfl (Nat.zero_le _)
    have g' : f9_L1 guardT lo (.p (eLs (lsO (simL p m n)))) (.p (eMs (msO (ranksL p m n)))) (.p (pI (i : Nat))) (.p (pI 0)) σ = _ := g
    have hlen : ((L (msO (ranksL p m n))).length : Int) = ((ranksL p m n).length : Nat) := by rw [L_msO]
    have hnn : ¬ ((ranksL p m n).length : Int) < ((ranksL p m n).length : Nat) := by omega
    rw [f9_L0_eq guardT rfl]
    simp only [len51, lsO_len, obind, b_lss, h', decide_true, condK_true, g']
    rw [f9_L1_eq guardT rfl]
    simp only [lenMs, hlen, obind, b_lss, hnn, decide_false, condK_false, b_add, w]
    exact L9_0 hp d (i + 1) (by omega) (by omega)

theorem few_small {p : Pair} (h : fewP p = true) (he : errP p = 0) : p.lo.n.toNat * p.up.n.toNat ≤ 49 := by
  have h2 : e2P p = 0 := orL_zero he _ (by simp)
  have h4 : p.lo.n ≤ 40 ∧ p.up.n ≤ 40 := by
    unfold e2P at h2
    split at h2
    · rename_i h; simpa using h
    · omega
  simp only [fewP, smallG, Bool.and_eq_true, Bool.or_eq_true, decide_eq_true_eq] at h
  have a1 : p.lo.n.toNat ≤ 7 := by omega
  have a2 : p.up.n.toNat ≤ 7 := by omega
  exact Nat.le_trans (Nat.mul_le_mul a1 a2) (by decide)

theorem law9 (hawake : ∀ σ, pureV CC 10 [] σ = some (.p (.bool true))) (p : Pair) : ∃ σ', F9 guardT 0 (.agg (ePair p)) [] = some (.p (.bool true), σ') := by
  have g0 : ([Row.mix (ePair p)] : Store)[0]? = some (.mix (ePair p)) := rfl
  rw [F9_eq]
  simp only [box_pair, obind, List.length_nil, List.nil_append, pureFn_fn, List.append_nil, hawake, not_bool, Bool.not_true, condK_false, load27, pr_all g0, omap, S11]
  cases hfew : fewP p with
  | false => exact ⟨_, by simp only [Bool.not_false, guard_tf, guard_sk, obind, pickV_true, condK_true]; rfl⟩
  | true =>
    have hp := small_of hfew
    by_cases he : errP p = 0
    · have hn := nice_of hp he
      have hmn := few_small hfew he
      have heo : errP (ownP p) = 0 := he
      have hbl := both_len hn
      have hx : ∀ x ∈ L (lsO (simL p p.lo.n.toNat p.up.n.toNat)), (L x).length ≤ 1000 := by
        intro x hx
        rw [L_lsO] at hx
        obtain ⟨q, _, rfl⟩ := List.mem_map.1 hx
        show (2 : Nat) ≤ 1000
        omega
      have hl : (L (lsO (simL p p.lo.n.toNat p.up.n.toNat))).length ≤ 1000 := by rw [lsO_len]; omega
      have hl2 : (L (ownLs (lsO (simL p p.lo.n.toNat p.up.n.toNat)))).length ≤ 1000 := by rw [L_own, List.length_map]; exact hl
      have hx2 : ∀ x ∈ L (ownLs (lsO (simL p p.lo.n.toNat p.up.n.toNat))), (L x).length ≤ 1000 := by
        intro x h
        rw [L_own] at h
        obtain ⟨y, hy, rfl⟩ := List.mem_map.1 h
        exact hx y hy
      have hres : resS (ownP p) (ownLs (lsO (simL p p.lo.n.toNat p.up.n.toNat))) = (0, 0) := by
        rw [resS_own]
        unfold resS
        rw [if_pos he, rel_sim hn]
      obtain ⟨y, σ1, h1, h2, h3⟩ := app61_lit (msO (ranksL p p.lo.n.toNat p.up.n.toNat)) (by rw [L_msO]; omega) [Row.mix (ePair p)]
      have g1 := h3.mix g0
      have hLm : L (some (L (msO (ranksL p p.lo.n.toNat p.up.n.toNat)))) = ranksL p p.lo.n.toNat p.up.n.toNat := L_msO _
      have hl3 : (L (some (L (msO (ranksL p p.lo.n.toNat p.up.n.toNat))))).length ≤ 1000 := by rw [hLm]; omega
      have hrelM : relM (ownP p) p.up.n.toNat (ranksL p p.lo.n.toNat p.up.n.toNat) = (0, 0) := rel_ranks hn
      have hlen : ((L (msO (ranksL p p.lo.n.toNat p.up.n.toNat))).length : Int) = ((ranksL p p.lo.n.toNat p.up.n.toNat).length : Nat) := by rw [L_msO]
      have hmul : IntKind.wrap .i64 (p.lo.n * p.up.n) = IntKind.wrap .i64 (((simL p p.lo.n.toNat p.up.n.toNat).length : Nat) + ((ranksL p p.lo.n.toNat p.up.n.toNat).length : Nat) : Int) := by
        have e1 : p.lo.n * p.up.n = ((p.lo.n.toNat * p.up.n.toNat : Nat) : Int) := by rw [Int.natCast_mul, ← hn.ln, ← hn.un]
        rw [e1, ← hbl, Int.natCast_add]
      have hL9 := L9_0 hn (lo := 0) (σ := σ1) _ 0 rfl (Nat.zero_le _)
      have hL9' : f9_L0 guardT 0 (.p (eLs (lsO (simL p p.lo.n.toNat p.up.n.toNat)))) (.p (eMs (msO (ranksL p p.lo.n.toNat p.up.n.toNat)))) (.p (pI 0)) σ1 = some (.p (.bool true), σ1) := hL9
      refine ⟨σ1, ?_⟩
      simp only [Bool.not_true, guard_ff, obind, load27, pr_all g0, omap, pureFn_fn, List.append_nil, S15 hp, he, b_neq, decide_true, pickV_false, condK_false, S13 hp, S24_ok (nice_own hn) heo, S29_ok (nice_own hn) heo, simL_own, ranksL_own, ex0, ex1, S36 hl hx, S35 (small_own hp) hl2 hx2, hres, ex_t0, ex_t1, bs61_0, h1, S30_view h2, S30_ok (nice_own hn) heo hl3, hLm, hrelM, len51, lsO_len, lenMs, hlen, b_add, fa27_0, fa27_1, fa25_0, shift_ptr, Nat.zero_add, Nat.add_zero, load3, pr_0 g1, pr_3 g1, b_mul, hmul, hL9']
    · exact ⟨_, by simp only [Bool.not_true, guard_ff, obind, load27, pr_all g0, omap, pureFn_fn, List.append_nil, S15 hp, b_neq, he, decide_false, Bool.not_false, pickV_false, condK_true]; rfl⟩

theorem call9 (hawake : ∀ σ, pureV CC 10 [] σ = some (.p (.bool true))) (p : Pair) : ∃ σ', CC 0 9 [.agg (ePair p)] [] = some (.p (.bool true), σ') := by
  obtain ⟨σ', h⟩ := law9 hawake p
  exact ⟨σ', F9_call h⟩

end
end Go.D
end
/- RefineBothSides: for every pair the law answers true and leaves its argument as it was: the given statement, without conditions. -/
section
set_option linter.unusedVariables false
set_option linter.unusedSimpArgs false
set_option maxRecDepth 100000
namespace Go.D
open Go.ChangeShapes Go.WideShapes Go.ChangeAt Go.RowKit

theorem refineBothSides_calls (hawake : Awake) {H : Type} {enc : TypeId × Value → H} {W : World} {base : Nat} {args : Array Value} {ds : List (DataW H)} {ps : List MemPlace}
    (hval : ∀ (j : Nat) t v, ([27] : List TypeId).toArray[j]? = some t → args[j]? = some v → Value.okWide PP W .any base t v)
    (hA : DataW.TrodAll enc PP W 0 (fun _ => true) true [27] args.toList ds ps) :
    Calls PP 9 args W fun e W' => e = .returned (.bool true) ∧ Below W.heap.size W W' := by
  obtain ⟨v0, d0, rfl, rfl, h0⟩ := trodAll_one hA
  obtain ⟨p, hp⟩ := read_pair (hval 0 27 v0 rfl rfl) h0
  obtain ⟨σ', hc⟩ := call9 hawake p
  refine calls_of hc ⟨rfl, fun j h1 h2 => ?_⟩
  match j, h1 with
  | 0, _ => exact hp

end Go.D
namespace Go.Proofs.Ythmgennimcjlpaa
open Go.D Go.ChangeShapes Go.WideShapes Go.ChangeAt Go.RowKit

set_option maxRecDepth 100000 in
theorem refineBothSides_lifted (hawake : Awake) (os : Os) (started : os.Started) (H : Type) (enc : TypeId × Value → H) :
    ReturnsInHanded {} Try.checked os 9 .any (Rows.refineBothSidesSpec.pre6 enc Try.prog Try.f9 Rows.refineBothSidesRow.domain false) (Rows.refineBothSidesSpec.post enc Try.prog Try.f9 false true false false) := by
  refine returnsInHanded_of_change_sized (C := Try.checked) own_ok started (by kernel_rfl) Try.func9
    (ChangeSpec.witness6 (enc := enc) (C := Try.checked) false ⟨#[], #[.agg #[.int .i64 0, .slice none 0 0, .slice none 0 0, .int .i64 0, .slice none 0 0, .slice none 0 0, .slice none 0 0, .slice none 0 0]], []⟩ 8 (by kernel_rfl) (by kernel_rfl) (by kernel_rfl) (by kernel_rfl)) ?_
  intro W base args ds gs before hval0 hW _ hsz0 _
  have hval : ∀ (j : Nat) t v, Try.f9.params[j]? = some t → args[j]? = some v → Value.okWide Try.prog W .any base t v := hval0
  have hW' := hW
  obtain ⟨p, q, hA0, hV, rfl, _, _⟩ := hW
  have hA : DataW.TrodAll enc Try.prog W 0 (fun _ => true) true Try.f9.params.toList args.toList ds p := hA0
  rw [Try.params9] at hA hval
  have hA2 := hA
  obtain ⟨v0, d0, rfl, rfl, h0⟩ := trodAll_one hA
  obtain ⟨rfl, rfl⟩ := trodVars_none hV
  have hlt : ∀ x ∈ p, x.block < W.heap.size := fun x hx => by
    have := hW'.lt x (by simpa using hx)
    exact this
  refine (refineBothSides_calls hawake (base := base) hval hA2).mono ?_
  rintro e W2 ⟨rfl, hnx⟩
  refine ⟨_, rfl, _, _, _, [], p, [], hW', ?_, ?_, rfl, hnx.frame _, fun h => by cases h⟩
  · exact trodAll_mk1 (shut_bool ul4 true)
  · exact trodAll_mk1 (Below.trod laidOut_ok (by kernel_rfl) (of_decide_eq_true (by kernel_rfl)) h0 hnx fun x hx => hlt x hx)

theorem refineBothSides_holds : Rows.RefineBothSidesSaid :=
  OpenClaim.holds_of_wide 9 Try.f9 rfl rfl rfl rfl rfl rfl rfl ⟨rfl, rfl, rfl, rfl, rfl⟩ rfl rfl rfl rfl rfl (by kernel_rfl) Try.func9 (by kernel_rfl)
    (of_decide_eq_true (by kernel_rfl)) (by unfold Func.isWrapper; first | (rw [if_pos (by decide +kernel)]; kernel_rfl) | (rw [if_neg (by decide +kernel)]; exact ⟨rfl, rfl⟩))
    (fun os started H enc _ => refineBothSides_lifted awake_true os started H enc)

end Go.Proofs.Ythmgennimcjlpaa
end
