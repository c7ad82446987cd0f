/- RefineSimulations: for every pair the law answers true and leaves its argument as it was: the given statement, without conditions. -/
import Derived.Test.YthmgennimcjlpaaPh
/- ranked: the rounds, up to the one that changes nothing. -/
section
set_option linter.unusedVariables false
set_option linter.unusedSimpArgs false
namespace Go.D

def FD (f0 : RF) (k : Int) (D : Nat → Nat → Bool) : RF := fun s u => if f0 s u = -1 ∧ D s u = true then k else f0 s u

theorem S86 {n q t v : Nat} {σ : Store} {R : Nat} {rs : List Nat} {f : RF} {k : Int} (hI : RInv n σ R rs f) (hq : σ[q]? = some (.mix [.p (pI k)])) (ht : t < rs.length) (hv : v < n) :
    pureV CC 86 [.p (pI (t : Nat)), .p (pI (v : Nat)), .ptr 0 0, .ptr q 0] σ = some (.p (.bool (openAt f k t v))) := by
  refine pureV_rows rfl rfl (F86_call (r := (.p (.bool (openAt f k t v)), σ)) ?_) rfl
  obtain ⟨h1, h2, h3⟩ := hI.load ht hv
  rw [F86_eq]
  simp only [load101, h1, obind, idx101_r ht, Nat.zero_add, load22, h2, rowV, idx22_r hv, load3, h3, b_eql, openAt]
  cases e : decide (f t v = -1) with
  | true => simp only [guard_tf, guard_sk, obind, pickV_true, Bool.true_or]
  | false => simp only [guard_ff, obind, idx101_r ht, Nat.zero_add, h2, rowV, idx22_r hv, h3, load1_ptr (off := 0) hq rfl, b_geq, pickV_false, Bool.false_or]

theorem openAt_FD (f0 : RF) (k : Int) (D : Nat → Nat → Bool) (t v : Nat) : openAt (FD f0 k D) k t v = openAt f0 k t v := by
  unfold openAt FD
  by_cases h : f0 t v = -1 ∧ D t v = true
  · rw [if_pos h, h.1]; simp
  · rw [if_neg h]
theorem ansF_FD (p : Pair) (n : Nat) (f0 : RF) (k : Int) (D : Nat → Nat → Bool) (t u : Nat) : ansF p n (FD f0 k D) k t u = ansF p n f0 k t u := by
  unfold ansF
  simp only [openAt_FD]

/-- Something has changed. -/
def Chg (n m : Nat) (f0 f : RF) (a : Bool) : Prop := a = true ↔ ∃ s u, s < m ∧ u < n ∧ f s u ≠ f0 s u
theorem Chg.congr {n m : Nat} {f0 f f' : RF} {a : Bool} (h : Chg n m f0 f a) (he : ∀ s u, s < m → u < n → f s u = f' s u) : Chg n m f0 f' a := by
  refine h.trans ⟨?_, ?_⟩
  · rintro ⟨s, u, h1, h2, h3⟩; exact ⟨s, u, h1, h2, by rw [← he s u h1 h2]; exact h3⟩
  · rintro ⟨s, u, h1, h2, h3⟩; exact ⟨s, u, h1, h2, by rw [he s u h1 h2]; exact h3⟩

section
variable {p : Pair} {n m : Nat}

def Dj (p : Pair) (n : Nat) (f0 : RF) (k : Int) (D : Nat → Nat → Bool) (s t j : Nat) : Nat → Nat → Bool := fun a c => D a c || (decide (a = s) && decide (c < j) && !ansF p n f0 k t c)

theorem FD_keep {f0 : RF} {k : Int} {D : Nat → Nat → Bool} {s t j : Nat} (h : FD f0 k (Dj p n f0 k D s t j) s j ≠ -1 ∨ ansF p n f0 k t j = true) : FD f0 k (Dj p n f0 k D s t (j + 1)) = FD f0 k (Dj p n f0 k D s t j) := by
  funext a c
  by_cases hac : a = s ∧ c = j
  · obtain ⟨rfl, rfl⟩ := hac
    have e1 : Dj p n f0 k D a t (c + 1) a c = (D a c || !ansF p n f0 k t c) := by simp [Dj]
    have e2 : Dj p n f0 k D a t c a c = D a c := by simp [Dj]
    unfold FD at h ⊢
    rw [e2] at h
    rw [e1, e2]
    rcases h with h | h
    · by_cases h0 : f0 a c = -1
      · by_cases hd : D a c = true
        · simp [h0, hd]
        · rw [if_neg (fun hh => hd hh.2)] at h
          exact absurd h0 h
      · simp [h0]
    · simp [h]
  · have e : Dj p n f0 k D s t (j + 1) a c = Dj p n f0 k D s t j a c := by
      unfold Dj
      by_cases ha : a = s
      · have hc : ¬ c = j := fun h => hac ⟨ha, h⟩
        have : decide (c < j + 1) = decide (c < j) := by simp only [decide_eq_decide]; omega
        rw [this]
      · simp [ha]
    unfold FD
    rw [e]
theorem FD_upd {f0 : RF} {k : Int} {D : Nat → Nat → Bool} {s t j : Nat} (h0 : f0 s j = -1) (ha : ansF p n f0 k t j = false) : FD f0 k (Dj p n f0 k D s t (j + 1)) = upd (FD f0 k (Dj p n f0 k D s t j)) s j k := by
  funext a c
  unfold upd
  by_cases hac : a = s ∧ c = j
  · rw [if_pos hac]
    obtain ⟨rfl, rfl⟩ := hac
    have e1 : Dj p n f0 k D a t (c + 1) a c = true := by simp [Dj, ha]
    unfold FD
    rw [e1, if_pos ⟨h0, rfl⟩]
  · rw [if_neg hac]
    have e : Dj p n f0 k D s t (j + 1) a c = Dj p n f0 k D s t j a c := by
      unfold Dj
      by_cases ha : a = s
      · have hc : ¬ c = j := fun h => hac ⟨ha, h⟩
        have : decide (c < j + 1) = decide (c < j) := by simp only [decide_eq_decide]; omega
        rw [this]
      · simp [ha]
    unfold FD
    rw [e]
theorem FD_neg {f0 : RF} {k : Int} {D : Nat → Nat → Bool} {s u : Nat} (hk : 1 ≤ k) (h : FD f0 k D s u = -1) : f0 s u = -1 := by
  unfold FD at h
  split at h
  · omega
  · exact h

theorem L58_4 (hp : Nice p n m) {R : Nat} {rs : List Nat} {f0 : RF} {q b : Nat} {k : Int} {e : Edg} {s t : Nat} (hes : e.f = (s : Nat)) (het : e.t = (t : Nat)) (hs : s < m) (ht : t < m) (hrs : rs.length = m) (hk : 1 ≤ k) {i : Nat} {D : Nat → Nat → Bool} :
    ∀ (d j : Nat) (a : Bool) (σ : Store), n - j = d → j ≤ n → RInv n σ R rs (FD f0 k (Dj p n f0 k D s t j)) → σ[q]? = some (.mix [.p (pI k)]) → σ[b]? = some (.mix (edgD e)) → Chg n m f0 (FD f0 k (Dj p n f0 k D s t j)) a →
      ∃ σ' a', RInv n σ' R rs (FD f0 k (Dj p n f0 k D s t n)) ∧ σ'[q]? = some (.mix [.p (pI k)]) ∧ Chg n m f0 (FD f0 k (Dj p n f0 k D s t n)) a' ∧
        f58_L4 guardT 0 (.pptr (graphsV p n) 0) (.ptr 0 0) (.ptr q 0) (.p (.bool a)) (.fn 86 [.ptr 0 0, .ptr q 0]) (.ptr b 0) (.p (eEs p.lo.edges)) (.p (pI ((L p.lo.edges).length : Nat))) (.p (pI (i : Nat))) (.p (pI (n : Nat))) (.p (pI (j : Nat))) σ =
        f58_L4 guardT 0 (.pptr (graphsV p n) 0) (.ptr 0 0) (.ptr q 0) (.p (.bool a')) (.fn 86 [.ptr 0 0, .ptr q 0]) (.ptr b 0) (.p (eEs p.lo.edges)) (.p (pI ((L p.lo.edges).length : Nat))) (.p (pI (i : Nat))) (.p (pI (n : Nat))) (.p (pI (n : Nat))) σ'
  | 0, j, a, σ, hd, hj, hI, hq, hb, hc => by
    have : j = n := by omega
    subst this
    exact ⟨σ, a, hI, hq, hc, rfl⟩
  | d + 1, j, a, σ, hd, hj, hI, hq, hb, hc => by
    have h : j < n := by omega
    have h' : (j : Int) < (n : Nat) := by omega
    have hn2 := hp.n2
    have w : IntKind.wrap .i64 ((j : Int) + 1) = ((j + 1 : Nat) : Int) := wrap_succ (by omega)
    have hs' : s < rs.length := by omega
    obtain ⟨l1, l2, l3⟩ := hI.load hs' h
    have hb0 : load1 (.ptr b 0) σ = some (.p (pI (s : Nat))) := by rw [← hes]; exact load1_ptr hb rfl
    have hb1 : load1 (.ptr b 1) σ = some (.p (pI (t : Nat))) := by rw [← het]; exact load1_ptr hb rfl
    have hS : pureV CC 66 [.pptr (graphsV p n) 0, .p (pI (t : Nat)), .p (pI (j : Nat)), .fn 86 [.ptr 0 0, .ptr q 0]] σ = some (.p (.bool (ansF p n f0 k t j))) := by
      rw [← ansF_FD p n f0 k (Dj p n f0 k D s t j)]
      refine S66 hp.un h hp.n2 rfl fun σ0 hat v hv => ?_
      rcases hat with ⟨_, hf⟩ | rfl
      · exact absurd hf (by simp [rowFree1])
      · exact S86 hI hq (by omega) hv
    rw [f58_L4_eq guardT rfl]
    simp only [b_lss, obind, h', decide_true, condK_true, load101, l1, fa100_0, fa100_1, shift_ptr, Nat.zero_add, load3, hb0, idx101_r hs', load22, l2]
    simp only [rowV, idx22_r h, obind, Nat.zero_add, l3, b_eql]
    cases e1 : decide (FD f0 k (Dj p n f0 k D s t j) s j = -1) with
    | false =>
      simp only [guard_ft, guard_sk, obind, pickV_false, condK_false, f58_J1_eq, b_add, w]
      have hkeep := FD_keep (p := p) (n := n) (f0 := f0) (k := k) (D := D) (s := s) (t := t) (j := j) (.inl (by simpa using e1))
      rw [← hkeep] at hI hc
      exact L58_4 hp hes het hs ht hrs hk d (j + 1) a σ (by omega) (by omega) hI hq hb hc
    | true =>
      simp only [guard_tt, hb1, obind, pureFn_fn, List.append_nil, hS, not_bool, pickV_true]
      cases e2 : ansF p n f0 k t j with
      | true =>
        simp only [Bool.not_true, condK_false, f58_J1_eq, b_add, obind, w]
        have hkeep := FD_keep (p := p) (n := n) (f0 := f0) (k := k) (D := D) (s := s) (t := t) (j := j) (.inr e2)
        rw [← hkeep] at hI hc
        exact L58_4 hp hes het hs ht hrs hk d (j + 1) a σ (by omega) (by omega) hI hq hb hc
      | false =>
        have hneg : FD f0 k (Dj p n f0 k D s t j) s j = -1 := by simpa using e1
        have h0 := FD_neg hk hneg
        have hupd := FD_upd (p := p) (n := n) (f0 := f0) (k := k) (D := D) (s := s) (t := t) (j := j) h0 e2
        have hI' := hI.set (u := j) hs' k
        have hst := st3i (b := k) (hI.row s hs') (t := j) (by rw [rowF_len]; exact h)
        rw [← hupd] at hI'
        simp only [Bool.not_false, condK_true, l1, hb0, l2, obind, idx101_r hs', rowV, load1_ptr (off := 0) hq rfl, idx22_r h, Nat.zero_add, hst, f58_J1_eq, b_add, w]
        refine L58_4 hp hes het hs ht hrs hk d (j + 1) true _ (by omega) (by omega) hI' (get_set_ne hq (hI.ne hs' hq)) (get_set_ne hb (hI.ne hs' hb)) ⟨fun _ => ⟨s, j, hs, h, ?_⟩, fun _ => rfl⟩
        rw [hupd, h0]
        simp [upd]
        omega

/-- What the steps before i refute in a round. -/
def Di (p : Pair) (n : Nat) (f0 : RF) (k : Int) (l : List Edg) : Nat → Nat → Bool := fun a c => l.any fun e => decide (e.f = (a : Nat)) && !ansF p n f0 k e.t.toNat c

theorem L58_3 (hp : Nice p n m) {R : Nat} {rs : List Nat} {f0 : RF} {q : Nat} {k : Int} (hrs : rs.length = m) (hk : 1 ≤ k) :
    ∀ (d i : Nat) (a : Bool) (σ : Store), (L p.lo.edges).length - i = d → i ≤ (L p.lo.edges).length → RInv n σ R rs (FD f0 k (Di p n f0 k ((L p.lo.edges).take i))) → σ[q]? = some (.mix [.p (pI k)]) → Chg n m f0 (FD f0 k (Di p n f0 k ((L p.lo.edges).take i))) a →
      ∃ σ' a', RInv n σ' R rs (FD f0 k (Di p n f0 k (L p.lo.edges))) ∧ σ'[q]? = some (.mix [.p (pI k)]) ∧ Chg n m f0 (FD f0 k (Di p n f0 k (L p.lo.edges))) a' ∧
        f58_L3 guardT 0 (.pptr (graphsV p n) 0) (.ptr 0 0) (.ptr q 0) (.p (.bool a)) (.fn 86 [.ptr 0 0, .ptr q 0]) (.p (eEs p.lo.edges)) (.p (pI ((L p.lo.edges).length : Nat))) (.p (pI (i : Nat))) σ =
        f58_L3 guardT 0 (.pptr (graphsV p n) 0) (.ptr 0 0) (.ptr q 0) (.p (.bool a')) (.fn 86 [.ptr 0 0, .ptr q 0]) (.p (eEs p.lo.edges)) (.p (pI ((L p.lo.edges).length : Nat))) (.p (pI ((L p.lo.edges).length : Nat))) σ'
  | 0, i, a, σ, hd, hi, hI, hq, hc => by
    have : i = (L p.lo.edges).length := by omega
    subst this
    rw [List.take_length] at hI hc
    exact ⟨σ, a, hI, hq, hc, rfl⟩
  | d + 1, i, a, σ, hd, hi, hI, hq, hc => by
    have h : i < (L p.lo.edges).length := by omega
    have h' : (i : Int) < ((L p.lo.edges).length : Nat) := by omega
    have hle := hp.sm.le
    have w : IntKind.wrap .i64 ((i : Int) + 1) = ((i + 1 : Nat) : Int) := wrap_succ (by omega)
    obtain ⟨v1, v2, v3, v4⟩ := hp.ls _ (List.getElem_mem h)
    obtain ⟨s, hs⟩ : ∃ s : Nat, (L p.lo.edges)[i].f = (s : Nat) := ⟨_, (Int.toNat_of_nonneg v1).symm⟩
    obtain ⟨t, ht⟩ : ∃ t : Nat, (L p.lo.edges)[i].t = (t : Nat) := ⟨_, (Int.toNat_of_nonneg v3).symm⟩
    have e0 : Dj p n f0 k (Di p n f0 k ((L p.lo.edges).take i)) s t 0 = Di p n f0 k ((L p.lo.edges).take i) := by funext a c; simp [Dj]
    have en : ∀ a c, c < n → Dj p n f0 k (Di p n f0 k ((L p.lo.edges).take i)) s t n a c = Di p n f0 k ((L p.lo.edges).take (i + 1)) a c := by
      intro a c hcn
      have htn : (L p.lo.edges)[i].t.toNat = t := by omega
      have has : decide (a = s) = decide ((s : Int) = (a : Nat)) := by simp only [decide_eq_decide]; omega
      unfold Dj Di
      rw [List.take_succ_eq_append_getElem h, List.any_append]
      simp [hcn, hs, htn, has]
    have eF : ∀ a c, a < m → c < n → FD f0 k (Dj p n f0 k (Di p n f0 k ((L p.lo.edges).take i)) s t n) a c = FD f0 k (Di p n f0 k ((L p.lo.edges).take (i + 1))) a c := by
      intro a c _ hcn
      unfold FD
      rw [en a c hcn]
    rw [f58_L3_eq guardT rfl]
    simp only [b_lss, obind, h', decide_true, condK_true, idx23 h, load100, load100_D h, getD_at _ h, zero100, store_new100 σ (L p.lo.edges)[i] [.p (pI 0), .p (pI 0), .p (pI 0)] rfl, nil_pptr, fa118_0, fa27_1, fa25_0, shift_pptr, Nat.zero_add, Nat.add_zero, load3, load1_pptr (gv_3 p n), hp.un]
    obtain ⟨σ1, a1, h1, h2, h3, h4⟩ := L58_4 (i := i) (a := a) (j := 0) hp hs ht (by omega) (by omega) hrs hk n _ rfl (Nat.zero_le _) (by rw [e0]; exact hI.snoc (Row.mix (edgD (L p.lo.edges)[i]))) (get_old hq) get_snoc (by rw [e0]; exact hc)
    have h4' : f58_L4 guardT 0 (.pptr (graphsV p n) 0) (.ptr 0 0) (.ptr q 0) (.p (.bool a)) (.fn 86 [.ptr 0 0, .ptr q 0]) (.ptr σ.length 0) (.p (eEs p.lo.edges)) (.p (pI ((L p.lo.edges).length : Nat))) (.p (pI (i : Nat))) (.p (pI (n : Nat))) (.p (pI 0)) (σ ++ [Row.mix (edgD (L p.lo.edges)[i])]) = _ := h4
    have hnn : ¬ (n : Int) < (n : Nat) := by omega
    rw [h4', f58_L4_eq guardT rfl]
    simp only [b_lss, obind, hnn, decide_false, condK_false, b_add, w]
    exact L58_3 hp hrs hk d (i + 1) a1 σ1 (by omega) (by omega) (h1.congr fun a c ha hcn => eF a c (by omega) hcn) h2 (h3.congr fun a c ha hcn => eF a c ha hcn)

/-- The ranks after j rounds. -/
def rkF (p : Pair) (n : Nat) : Nat → RF
  | 0 => rk0 p
  | j + 1 => FD (rkF p n j) ((j + 1 : Nat) : Int) (Di p n (rkF p n j) ((j + 1 : Nat) : Int) (L p.lo.edges))
def pairsA (m n : Nat) : List (Nat × Nat) := (List.range m).flatMap fun s => (List.range n).map fun u => (s, u)
theorem mem_pairsA {m n : Nat} {q : Nat × Nat} : q ∈ pairsA m n ↔ q.1 < m ∧ q.2 < n := by
  obtain ⟨s, u⟩ := q
  simp [pairsA]
theorem pairsA_len (m n : Nat) : (pairsA m n).length = m * n := by
  simp [pairsA, List.length_flatMap, List.map_const', List.sum_replicate_nat]
def cntF (m n : Nat) (f : RF) : Nat := (pairsA m n).countP fun q => decide (f q.1 q.2 = -1)
theorem countP_lt {α : Type} {P Q : α → Bool} : ∀ {l : List α}, (∀ x ∈ l, P x = true → Q x = true) → (∃ x ∈ l, Q x = true ∧ P x = false) → l.countP P < l.countP Q
  | [], _, h => by obtain ⟨x, hx, _⟩ := h; simp at hx
  | a :: l, h1, h2 => by
    have hle : l.countP P ≤ l.countP Q := List.countP_mono_left fun x hx => h1 x (List.mem_cons_of_mem _ hx)
    simp only [List.countP_cons]
    obtain ⟨x, hx, h3, h4⟩ := h2
    rcases List.mem_cons.1 hx with rfl | hx
    · simp only [h3, h4, if_true, Bool.false_eq_true, if_false]; omega
    · have := countP_lt (P := P) (Q := Q) (fun x hx => h1 x (List.mem_cons_of_mem _ hx)) ⟨x, hx, h3, h4⟩
      have h5 := h1 a List.mem_cons_self
      cases hP : P a with
      | true => simp only [h5 hP, if_true]; omega
      | false => simp only [Bool.false_eq_true, if_false]; omega

/-- Nothing changes in the next round. -/
def StableF (p : Pair) (n m K : Nat) : Prop := ∀ s u, s < m → u < n → rkF p n (K + 1) s u = rkF p n K s u

theorem L58_2 (hp : Nice p n m) {rs : List Nat} {R : Nat} (hrs : rs.length = m) :
    ∀ (c j : Nat) (σ : Store) (q : Nat), cntF m n (rkF p n j) ≤ c → j + c ≤ 10000000 → RInv n σ R rs (rkF p n j) → σ[q]? = some (.mix [.p (pI ((j + 1 : Nat) : Int))]) →
      ∃ K σ', K ≤ j + c ∧ StableF p n m K ∧ RInv n σ' R rs (rkF p n K) ∧
        f58_L2 guardT 0 (.pptr (graphsV p n) 0) (.ptr 0 0) (.ptr q 0) (.p (.bool true)) σ = some (if rs = [] then .p .nilsl else .rsl R 1 0 rs.length, σ') := by
  intro c
  induction c with
  | zero =>
    intro j σ q hc hb hI hq
    have hI0 : RInv n σ R rs (FD (rkF p n j) ((j + 1 : Nat) : Int) (Di p n (rkF p n j) ((j + 1 : Nat) : Int) ((L p.lo.edges).take 0))) := by
      refine hI.congr fun s u _ _ => ?_
      simp [FD, Di]
    have hc0 : Chg n m (rkF p n j) (FD (rkF p n j) ((j + 1 : Nat) : Int) (Di p n (rkF p n j) ((j + 1 : Nat) : Int) ((L p.lo.edges).take 0))) false := by
      refine ⟨fun h => absurd h (by simp), fun ⟨s, u, _, _, h⟩ => absurd ?_ h⟩
      simp [FD, Di]
    obtain ⟨σ1, a1, h1, h2, h3, h4⟩ := L58_3 hp hrs (by omega) _ 0 false σ rfl (Nat.zero_le _) hI0 hq hc0
    have ha1 : a1 = false := by
      cases h : a1 with
      | false => rfl
      | true =>
        obtain ⟨s, u, hs, hu, hne⟩ := h3.1 h
        exfalso
        apply hne
        have hz : ¬ rkF p n j s u = -1 := by
          intro e
          have : 0 < cntF m n (rkF p n j) := List.countP_pos_iff.2 ⟨(s, u), mem_pairsA.2 ⟨hs, hu⟩, by simpa using e⟩
          omega
        unfold FD
        rw [if_neg fun hh => hz hh.1]
    subst ha1
    have hst : StableF p n m j := by
      intro s u hs hu
      by_cases e : rkF p n (j + 1) s u = rkF p n j s u
      · exact e
      · exact absurd (h3.2 ⟨s, u, hs, hu, e⟩) (by simp)
    have hlt : ¬ ((L p.lo.edges).length : Int) < ((L p.lo.edges).length : Nat) := by omega
    have wk : IntKind.wrap .i64 (((j + 1 : Nat) : Int) + 1) = ((j + 1 + 1 : Nat) : Int) := by rw [wrap_ok] <;> omega
    have hI2 := h1.snoc (.mix [.p (pI ((j + 1 + 1 : Nat) : Int))])
    have h4' : f58_L3 guardT 0 (.pptr (graphsV p n) 0) (.ptr 0 0) (.ptr q 0) (.p (.bool false)) (.fn 86 [.ptr 0 0, .ptr q 0]) (.p (eEs p.lo.edges)) (.p (pI ((L p.lo.edges).length : Nat))) (.p (pI 0)) σ = _ := h4
    refine ⟨j, σ1 ++ [.mix [.p (pI ((j + 1 + 1 : Nat) : Int))]], by omega, hst, hI2.congr fun s u hs hu => hst s u (by omega) hu, ?_⟩
    rw [f58_L2_eq guardT rfl]
    simp only [condK_true, nil_pptr, obind, fa118_0, fa27_0, fa25_2, shift_pptr, Nat.zero_add, Nat.add_zero, load23, load1_pptr (gv_2 p n), len23, h4']
    rw [f58_L3_eq guardT rfl]
    simp only [b_lss, obind, hlt, decide_false, condK_false, load3, load1_ptr (off := 0) h2 rfl, zero3, st3_new]
    have hx : load1 (.ptr σ1.length 0) (σ1 ++ [Row.mix [.p (pI ((j + 1 : Nat) : Int))]]) = some (.p (pI ((j + 1 : Nat) : Int))) := load1_ptr get_snoc rfl
    simp only [hx, obind, b_add, wk, st3_new]
    rw [f58_L2_eq guardT rfl]
    simp only [condK_false, load101, load1_ptr (off := 0) hI2.h0 rfl, obind]
  | succ c ih =>
    intro j σ q hc hb hI hq
    have hI0 : RInv n σ R rs (FD (rkF p n j) ((j + 1 : Nat) : Int) (Di p n (rkF p n j) ((j + 1 : Nat) : Int) ((L p.lo.edges).take 0))) := by
      refine hI.congr fun s u _ _ => ?_
      simp [FD, Di]
    have hc0 : Chg n m (rkF p n j) (FD (rkF p n j) ((j + 1 : Nat) : Int) (Di p n (rkF p n j) ((j + 1 : Nat) : Int) ((L p.lo.edges).take 0))) false := by
      refine ⟨fun h => absurd h (by simp), fun ⟨s, u, _, _, h⟩ => absurd ?_ h⟩
      simp [FD, Di]
    obtain ⟨σ1, a1, h1, h2, h3, h4⟩ := L58_3 hp hrs (by omega) _ 0 false σ rfl (Nat.zero_le _) hI0 hq hc0
    have hlt : ¬ ((L p.lo.edges).length : Int) < ((L p.lo.edges).length : Nat) := by omega
    have wk : IntKind.wrap .i64 (((j + 1 : Nat) : Int) + 1) = ((j + 1 + 1 : Nat) : Int) := by rw [wrap_ok] <;> omega
    have hI2 := h1.snoc (.mix [.p (pI ((j + 1 + 1 : Nat) : Int))])
    have h4' : f58_L3 guardT 0 (.pptr (graphsV p n) 0) (.ptr 0 0) (.ptr q 0) (.p (.bool false)) (.fn 86 [.ptr 0 0, .ptr q 0]) (.p (eEs p.lo.edges)) (.p (pI ((L p.lo.edges).length : Nat))) (.p (pI 0)) σ = _ := h4
    have hx : load1 (.ptr σ1.length 0) (σ1 ++ [Row.mix [.p (pI ((j + 1 : Nat) : Int))]]) = some (.p (pI ((j + 1 : Nat) : Int))) := load1_ptr get_snoc rfl
    have hbody : f58_L2 guardT 0 (.pptr (graphsV p n) 0) (.ptr 0 0) (.ptr q 0) (.p (.bool true)) σ = f58_L2 guardT 0 (.pptr (graphsV p n) 0) (.ptr 0 0) (.ptr σ1.length 0) (.p (.bool a1)) (σ1 ++ [.mix [.p (pI ((j + 1 + 1 : Nat) : Int))]]) := by
      rw [f58_L2_eq guardT rfl]
      simp only [condK_true, nil_pptr, obind, fa118_0, fa27_0, fa25_2, shift_pptr, Nat.zero_add, Nat.add_zero, load23, load1_pptr (gv_2 p n), len23, h4']
      rw [f58_L3_eq guardT rfl]
      simp only [b_lss, obind, hlt, decide_false, condK_false, load3, load1_ptr (off := 0) h2 rfl, zero3, st3_new, hx, b_add, wk]
    rw [hbody]
    cases ha : a1 with
    | false =>
      subst ha
      have hst : StableF p n m j := by
        intro s u hs hu
        by_cases e : rkF p n (j + 1) s u = rkF p n j s u
        · exact e
        · exact absurd (h3.2 ⟨s, u, hs, hu, e⟩) (by simp)
      refine ⟨j, _, by omega, hst, hI2.congr fun s u hs hu => hst s u (by omega) hu, ?_⟩
      rw [f58_L2_eq guardT rfl]
      simp only [condK_false, load101, load1_ptr (off := 0) hI2.h0 rfl, obind]
    | true =>
      obtain ⟨s, u, hs, hu, hne⟩ := h3.1 ha
      have hcl : cntF m n (rkF p n (j + 1)) < cntF m n (rkF p n j) := by
        refine countP_lt (fun q _ hq => ?_) ⟨(s, u), mem_pairsA.2 ⟨hs, hu⟩, ?_⟩
        · have h5 : rkF p n (j + 1) q.1 q.2 = -1 := by simpa using hq
          have : FD (rkF p n j) ((j + 1 : Nat) : Int) (Di p n (rkF p n j) ((j + 1 : Nat) : Int) (L p.lo.edges)) q.1 q.2 = -1 := h5
          simpa using FD_neg (by omega) this
        · have h0 : rkF p n j s u = -1 := by
            by_cases e : rkF p n j s u = -1
            · exact e
            · exact absurd (by unfold FD; rw [if_neg fun hh => e hh.1]) hne
          refine ⟨by simpa using h0, ?_⟩
          have : ¬ rkF p n (j + 1) s u = -1 := fun e => hne (e.trans h0.symm)
          simpa using this
      obtain ⟨K, σ', g1, g2, g3, g4⟩ := ih (j + 1) _ σ1.length (by omega) (by omega) hI2 get_snoc
      exact ⟨K, σ', by omega, g2, g3, g4⟩

/-! ### What ranked returns -/
def rowsO (m n : Nat) (f : RF) : Option (List OI) := if m = 0 then none else some ((List.range m).map fun s => some (rowF n (f s)))
theorem thaw_rowsI {σ : Store} {n d : Nat} : ∀ (rs : List Nat) (M : List (List Int)), M.length = rs.length → (∀ j (h : j < rs.length) (h2 : j < M.length), σ[rs[j]]? = some (.arr (eInts M[j]))) → (∀ r ∈ M, r.length = n) →
    mapO (thawP 0 σ (d + 1)) (rs.map (rowV n)) = some (M.map fun r => eSl (some r))
  | [], M, h1, h2, h3 => by
    have : M = [] := List.length_eq_zero_iff.1 h1
    subst this; rfl
  | r :: rs, [], h1, h2, h3 => by simp at h1
  | r :: rs, m :: M, h1, h2, h3 => by
    have hr := h2 0 (by simp) (by simp)
    have hm : m.length = n := h3 m List.mem_cons_self
    have ih := thaw_rowsI (σ := σ) (n := n) (d := d) rs M (by simpa using h1) (fun j a b => by have := h2 (j + 1) (by simpa using a) (by simpa using b); simpa using this) (fun r hr => h3 r (List.mem_cons_of_mem _ hr))
    simp only [List.getElem_cons_zero] at hr
    have ht : (List.take n (eInts m)) = eInts m := List.take_of_length_le (by rw [ints_length]; omega)
    have hle : n ≤ (eInts m).length := by rw [ints_length]; omega
    have h0 : thawP 0 σ (d + 1) (rowV n r) = some (eSl (some m)) := by
      simp [thawP, rowV, hr, hle, ht, loosens_ints, eSl, hm]
    simp only [List.map_cons, mapO, h0, ih]

theorem S58 (hp : Nice p n m) : ∃ K, K ≤ m * n ∧ StableF p n m K ∧ ∀ σ, pureV CC 58 [.pptr (graphsV p n) 0] σ = some (.p (eLs (rowsO m n (rkF p n K)))) := by
  have hI0 : RInv n [Row.mix [.p .nilsl]] 0 [] (rk0 p) :=
    ⟨rfl, fun h => absurd rfl h, fun j h => absurd h (by simp), List.nodup_nil, fun r h => absurd h (by simp), fun h => absurd rfl h⟩
  have hn2 := hp.n2
  have hm2 := hp.m2
  have hmn : m * n ≤ 1000 * 1000 := Nat.mul_le_mul hm2 hn2
  obtain ⟨σ1, R, rs, q, hrs, hI1, hq, hL0⟩ := L58_0 hp m 0 _ 0 [] (by omega) rfl (Nat.zero_le _) hI0
  have hcnt : cntF m n (rkF p n 0) ≤ m * n := by rw [← pairsA_len m n]; exact List.countP_le_length
  obtain ⟨K, σ2, hK, hst, hI2, hL2⟩ := L58_2 hp hrs (m * n) 0 σ1 q hcnt (by omega) hI1 hq
  refine ⟨K, by omega, hst, fun σ => ?_⟩
  refine pureV_any rfl fun lo σ0 hs => ?_
  rcases hs with ⟨rfl, rfl, _⟩ | ⟨_, _, h⟩
  case inr => exact absurd h (by simp [rowFree, rowFree1])
  refine ⟨if rs = [] then .p .nilsl else .rsl R 1 0 rs.length, σ2, F58_call ?_, ?_⟩
  · rw [F58_eq]
    simp only [zero101, obind, nil_pptr, fa118_0, fa27_0, fa25_0, shift_pptr, Nat.zero_add, Nat.add_zero, load3, load1_pptr (gv_0 p n), hp.ln, List.length_nil, List.nil_append]
    have e : f58_L0 guardT 0 (.pptr (graphsV p n) 0) (.ptr 0 0) (.p (pI (m : Nat))) (.p (pI 0)) [Row.mix [.p .nilsl]] = _ := hL0
    rw [e, hL2]
  · by_cases he : rs = []
    · have hm0 : m = 0 := by rw [← hrs, he]; rfl
      simp only [he, if_true, rowsO, hm0, eLs]
      rfl
    · obtain ⟨hR, hR2⟩ := hI2.hR he
      have hm0 : ¬ m = 0 := fun e => he (List.length_eq_zero_iff.1 (by omega))
      have ht := thaw_rowsI (σ := σ2) (n := n) (d := 2) rs ((List.range m).map fun s => rowF n (rkF p n K s)) (by simp [hrs]) (fun j h1 h2 => by rw [hI2.row j h1]; simp) (fun r hr => by simp at hr; obtain ⟨u, _, e⟩ := hr; rw [← e]; exact rowF_len _ _)
      have e1 : List.take (rs.length * 1) (List.drop 0 (rs.map (rowV n))) = rs.map (rowV n) := List.take_of_length_le (by simp)
      have e2 : 0 + rs.length * 1 ≤ (rs.map (rowV n)).length := by simp
      simp only [he, if_false, thawAll, thawPart, thaw, thaw1, thawP, Nat.zero_le, if_true, hR, e1, e2, ht, omap, rowsO, hm0, eLs]
      simp [hrs]

end
end Go.D
end
/- The greatest simulation, as what is left of all pairs, and as the pairs without rank. -/
section
set_option linter.unusedVariables false
set_option linter.unusedSimpArgs false
namespace Go.D

abbrev NP := Nat × Nat
def toPR (q : NP) : PR := ((q.1 : Nat), (q.2 : Nat))
def prs (l : List NP) : List PR := l.map toPR
def prN (q : NP) : OI := prO (toPR q)
def lsO (l : List NP) : Option (List OI) := if l = [] then none else some (l.map prN)
theorem L_lsO (l : List NP) : L (lsO l) = (prs l).map prO := by
  unfold lsO
  split
  · rename_i h; rw [h]; rfl
  · simp [prs, prN, List.map_map, Function.comp_def]
theorem lsO_len (l : List NP) : (L (lsO l)).length = l.length := by rw [L_lsO]; simp [prs]
theorem prs_len' (l : List NP) : (prs l).length = l.length := by simp [prs]

theorem anyFrom_iff (q : Nat → Bool) : ∀ d v, anyFrom q v d = true ↔ ∃ w, v ≤ w ∧ w < v + d ∧ q w = true
  | 0, v => by simp [anyFrom]; omega
  | d + 1, v => by
    unfold anyFrom
    rw [Bool.or_eq_true, anyFrom_iff q d (v + 1)]
    constructor
    · rintro (h | ⟨w, h1, h2, h3⟩)
      · exact ⟨v, Nat.le_refl _, by omega, h⟩
      · exact ⟨w, by omega, by omega, h3⟩
    · rintro ⟨w, h1, h2, h3⟩
      by_cases e : w = v
      · subst e; exact .inl h3
      · exact .inr ⟨w, by omega, by omega, h3⟩
theorem anyFrom_congr {q q' : Nat → Bool} {n : Nat} (h : ∀ v, v < n → q v = q' v) : anyFrom q 0 n = anyFrom q' 0 n := by
  rw [Bool.eq_iff_iff, anyFrom_iff, anyFrom_iff]
  constructor
  · rintro ⟨w, h1, h2, h3⟩; exact ⟨w, h1, h2, by rw [← h w (by omega)]; exact h3⟩
  · rintro ⟨w, h1, h2, h3⟩; exact ⟨w, h1, h2, by rw [h w (by omega)]; exact h3⟩

theorem hasP_iff {l : List NP} {t v : Nat} : hasP (prs l) (t : Nat) (v : Nat) = true ↔ (t, v) ∈ l := by
  simp only [hasP, prs, toPR, List.any_map, List.any_eq_true, Function.comp, Bool.and_eq_true, decide_eq_true_eq]
  constructor
  · rintro ⟨⟨a, b⟩, h1, h2, h3⟩
    have e1 : a = t := by have := of_decide_eq_true h2; exact Int.ofNat.inj this
    have e2 : b = v := by have := of_decide_eq_true h3; exact Int.ofNat.inj this
    rw [← e1, ← e2]; exact h1
  · intro h
    exact ⟨(t, v), h, decide_eq_true rfl, decide_eq_true rfl⟩

section
variable {p : Pair} {n m : Nat}

def al (p : Pair) (m n : Nat) : Nat → List NP
  | 0 => pairsA m n
  | k + 1 => (al p m n k).filter fun q => keepP p (prs (al p m n k)) n (q.1 : Nat) (q.2 : Nat)
theorem al_sub : ∀ k, ∀ q ∈ al p m n k, q.1 < m ∧ q.2 < n
  | 0, q, h => mem_pairsA.1 h
  | k + 1, q, h => al_sub k q (List.mem_filter.1 h).1
theorem al_len : ∀ k, (al p m n k).length ≤ m * n
  | 0 => by simp [al, pairsA_len]
  | k + 1 => Nat.le_trans (List.length_filter_le _ _) (al_len k)
theorem al_fix {k : Nat} (h : al p m n (k + 1) = al p m n k) : ∀ j, al p m n (k + j) = al p m n k
  | 0 => rfl
  | j + 1 => by
    have ih := al_fix h j
    show (al p m n (k + j)).filter (fun q => keepP p (prs (al p m n (k + j))) n (q.1 : Nat) (q.2 : Nat)) = _
    rw [ih]
    exact h
theorem al_len_fix {k : Nat} (h : (al p m n (k + 1)).length = (al p m n k).length) : al p m n (k + 1) = al p m n k := by
  show (al p m n k).filter _ = _
  rw [List.filter_eq_self]
  exact List.length_filter_eq_length_iff.1 h

theorem rk_le (p : Pair) (n : Nat) : ∀ j s u, rkF p n j s u ≤ j
  | 0, s, u => by unfold rkF rk0; split <;> omega
  | j + 1, s, u => by
    have := rk_le p n j s u
    unfold rkF FD
    split
    · omega
    · omega
theorem rk_ge (p : Pair) (n : Nat) : ∀ j s u, rkF p n j s u ≥ -1
  | 0, s, u => by unfold rkF rk0; split <;> omega
  | j + 1, s, u => by
    have := rk_ge p n j s u
    unfold rkF FD
    split
    · omega
    · omega
theorem rk_neg {j s u : Nat} (h : rkF p n (j + 1) s u = -1) : rkF p n j s u = -1 := FD_neg (by omega) h
theorem rk_lab : ∀ {j s u : Nat}, rkF p n j s u = -1 → labOk p (s : Nat) (u : Nat) = true
  | 0, s, u, h => by
    unfold rkF rk0 at h
    split at h
    · rename_i e
      simpa [labOk] using e
    · omega
  | j + 1, s, u, h => rk_lab (rk_neg h)
theorem open_rk {j t v : Nat} : openAt (rkF p n j) ((j + 1 : Nat) : Int) t v = decide (rkF p n j t v = -1) := by
  have := rk_le p n j t v
  unfold openAt
  have e : decide (rkF p n j t v ≥ ((j + 1 : Nat) : Int)) = false := by simp; omega
  rw [e, Bool.or_false]

theorem al_rk (hp : Nice p n m) : ∀ j, al p m n (j + 1) = (pairsA m n).filter fun q => decide (rkF p n j q.1 q.2 = -1)
  | 0 => by
    show (pairsA m n).filter _ = _
    refine List.filter_congr fun q hq => ?_
    obtain ⟨h1, h2⟩ := mem_pairsA.1 hq
    have hm : ∀ e ∈ L p.lo.edges, keepE p (prs (pairsA m n)) n (q.1 : Nat) (q.2 : Nat) e = true := by
      intro e he
      obtain ⟨v1, v2, v3, v4⟩ := hp.ls e he
      have hmt : matchP p (prs (pairsA m n)) n e.t (q.2 : Nat) = true := by
        unfold matchP
        rw [anyFrom_iff]
        refine ⟨q.2, Nat.zero_le _, by omega, ?_⟩
        have hh : hasP (prs (pairsA m n)) (e.t.toNat : Nat) (q.2 : Nat) = true := hasP_iff.2 (mem_pairsA.2 ⟨by show e.t.toNat < m; omega, h2⟩)
        have ht : ((e.t.toNat : Nat) : Int) = e.t := by omega
        rw [ht] at hh
        rw [hh]
        simp [follows]
      unfold keepE
      rw [hmt, Bool.or_true]
    have : keepP p (prs (al p m n 0)) n (q.1 : Nat) (q.2 : Nat) = labOk p (q.1 : Nat) (q.2 : Nat) := by
      show (labOk p (q.1 : Nat) (q.2 : Nat) && (L p.lo.edges).all (keepE p (prs (pairsA m n)) n (q.1 : Nat) (q.2 : Nat))) = _
      rw [List.all_eq_true.2 hm, Bool.and_true]
    rw [this]
    unfold labOk rkF rk0
    simp only [Int.toNat_natCast]
    by_cases e : (L p.ll).getD q.1 0 = (L p.ul).getD q.2 0
    · rw [if_pos e, decide_eq_true e]; rfl
    · rw [if_neg e, decide_eq_false e]; rfl
  | j + 1 => by
    have ih := al_rk hp j
    show (al p m n (j + 1)).filter _ = _
    rw [ih, List.filter_filter]
    refine List.filter_congr fun q hq => ?_
    obtain ⟨h1, h2⟩ := mem_pairsA.1 hq
    have hmem : ∀ t v, t < m → v < n → hasP (prs ((pairsA m n).filter fun q => decide (rkF p n j q.1 q.2 = -1))) (t : Nat) (v : Nat) = decide (rkF p n j t v = -1) := by
      intro t v ht hv
      rw [Bool.eq_iff_iff, hasP_iff, List.mem_filter]
      simp [mem_pairsA, ht, hv]
    have hans : ∀ e ∈ L p.lo.edges, matchP p (prs ((pairsA m n).filter fun q => decide (rkF p n j q.1 q.2 = -1))) n e.t (q.2 : Nat) = ansF p n (rkF p n j) ((j + 1 : Nat) : Int) e.t.toNat q.2 := by
      intro e he
      obtain ⟨v1, v2, v3, v4⟩ := hp.ls e he
      have ht : ((e.t.toNat : Nat) : Int) = e.t := by omega
      unfold matchP ansF
      refine anyFrom_congr fun v hv => ?_
      rw [open_rk, ← hmem e.t.toNat v (by omega) hv, ht]
    by_cases h0 : rkF p n j q.1 q.2 = -1
    · have hlab := rk_lab h0
      have hk : keepP p (prs ((pairsA m n).filter fun q => decide (rkF p n j q.1 q.2 = -1))) n (q.1 : Nat) (q.2 : Nat) = !Di p n (rkF p n j) ((j + 1 : Nat) : Int) (L p.lo.edges) q.1 q.2 := by
        unfold keepP Di
        rw [hlab, Bool.true_and, List.not_any_eq_all_not]
        rw [Bool.eq_iff_iff, List.all_eq_true, List.all_eq_true]
        have each : ∀ e ∈ L p.lo.edges, keepE p (prs ((pairsA m n).filter fun q => decide (rkF p n j q.1 q.2 = -1))) n (q.1 : Nat) (q.2 : Nat) e = !(decide (e.f = (q.1 : Nat)) && !ansF p n (rkF p n j) ((j + 1 : Nat) : Int) e.t.toNat q.2) := by
          intro e he
          unfold keepE
          rw [hans e he]
          cases decide (e.f = (q.1 : Nat)) <;> simp
        constructor
        · intro h e he; rw [← each e he]; exact h e he
        · intro h e he; rw [each e he]; exact h e he
      rw [hk]
      show (_ && decide (rkF p n j q.1 q.2 = -1)) = decide (FD (rkF p n j) ((j + 1 : Nat) : Int) (Di p n (rkF p n j) ((j + 1 : Nat) : Int) (L p.lo.edges)) q.1 q.2 = -1)
      unfold FD
      cases hd : Di p n (rkF p n j) ((j + 1 : Nat) : Int) (L p.lo.edges) q.1 q.2 with
      | true =>
        rw [if_pos ⟨h0, rfl⟩]
        simp
        omega
      | false =>
        rw [if_neg (fun hh => absurd hh.2 (by simp))]
        simp [h0]
    · have h1 : decide (rkF p n j q.1 q.2 = -1) = false := by simpa using h0
      have h2 : decide (rkF p n (j + 1) q.1 q.2 = -1) = false := by
        have : ¬ rkF p n (j + 1) q.1 q.2 = -1 := fun e => h0 (rk_neg e)
        simpa using this
      rw [h1, h2, Bool.and_false]

/-- Stable ranks: nothing changes ever. -/
theorem al_stable (hp : Nice p n m) {K : Nat} (h : StableF p n m K) : al p m n (K + 2) = al p m n (K + 1) := by
  rw [al_rk hp, al_rk hp]
  refine List.filter_congr fun q hq => ?_
  obtain ⟨h1, h2⟩ := mem_pairsA.1 hq
  rw [h _ _ h1 h2]
theorem rk_stable (hp : Nice p n m) {K : Nat} (h : StableF p n m K) : ∀ j s u, s < m → u < n → rkF p n (K + j) s u = rkF p n K s u
  | 0, s, u, _, _ => rfl
  | j + 1, s, u, hs, hu => by
    have ih := rk_stable hp h j s u hs hu
    have hf := al_fix (al_stable hp h)
    have e1 : al p m n (K + j + 1) = al p m n (K + 1) := by have := hf j; rwa [show K + 1 + j = K + j + 1 by omega] at this
    have e2 : al p m n (K + j + 1 + 1) = al p m n (K + 1) := by have := hf (j + 1); rwa [show K + 1 + (j + 1) = K + j + 1 + 1 by omega] at this
    rw [← ih]
    show FD (rkF p n (K + j)) ((K + j + 1 : Nat) : Int) _ s u = _
    unfold FD
    split
    · rename_i hc
      exfalso
      have hin : (s, u) ∈ al p m n (K + j + 1) := by
        rw [al_rk hp]
        exact List.mem_filter.2 ⟨mem_pairsA.2 ⟨hs, hu⟩, by simpa using hc.1⟩
      rw [e1, ← e2, al_rk hp] at hin
      have := (List.mem_filter.1 hin).2
      have h3 : rkF p n (K + j + 1) s u = -1 := by simpa using this
      have h4 : rkF p n (K + j + 1) s u = ((K + j + 1 : Nat) : Int) := by
        show FD (rkF p n (K + j)) ((K + j + 1 : Nat) : Int) _ s u = _
        unfold FD
        exact if_pos hc
      omega
    · rfl

/-- The ranks in the end; the greatest simulation. -/
def rkE (p : Pair) (m n : Nat) : RF := rkF p n (m * n)
def simL (p : Pair) (m n : Nat) : List NP := al p m n (m * n + 1)
theorem simL_rk (hp : Nice p n m) : simL p m n = (pairsA m n).filter fun q => decide (rkE p m n q.1 q.2 = -1) := al_rk hp _
theorem rowsO_congr {f f' : RF} (h : ∀ s u, s < m → u < n → f s u = f' s u) : rowsO m n f = rowsO m n f' := by
  unfold rowsO
  split
  · rfl
  · congr 1
    refine List.map_congr_left fun s hs => ?_
    rw [rowF_congr fun u hu => h s u (List.mem_range.1 hs) hu]
theorem stable_mn (hp : Nice p n m) : StableF p n m (m * n) := by
  obtain ⟨K, hK, hst, _⟩ := S58 hp
  intro s u hs hu
  have h1 := rk_stable hp hst (m * n - K) s u hs hu
  have h2 := rk_stable hp hst (m * n - K + 1) s u hs hu
  rw [show K + (m * n - K) = m * n by omega] at h1
  rw [show K + (m * n - K + 1) = m * n + 1 by omega] at h2
  rw [h1, h2]
theorem S58' (hp : Nice p n m) (σ : Store) : pureV CC 58 [.pptr (graphsV p n) 0] σ = some (.p (eLs (rowsO m n (rkE p m n)))) := by
  obtain ⟨K, hK, hst, h⟩ := S58 hp
  rw [h σ]
  have : rowsO m n (rkF p n K) = rowsO m n (rkE p m n) := by
    refine rowsO_congr fun s u hs hu => ?_
    have h1 := rk_stable hp hst (m * n - K) s u hs hu
    rw [show K + (m * n - K) = m * n by omega] at h1
    exact h1.symm
  rw [this]
theorem simL_of_len (hp : Nice p n m) {k : Nat} (h : (al p m n (k + 1)).length = (al p m n k).length) : al p m n k = simL p m n := by
  have h1 := al_fix (al_len_fix h) (m * n + 1)
  have h2 := al_fix (al_stable hp (stable_mn hp)) k
  unfold simL
  rw [← h1, ← h2]
  congr 1
  omega

end
end Go.D
end
/- Lists of pairs that are built: all, Simulation, SimulationOf. -/
section
set_option linter.unusedVariables false
set_option linter.unusedSimpArgs false
namespace Go.D

theorem bs22p (x y : Int) (σ : Store) : buildSlice PP none 22 2 [(0, .p (pI x)), (1, .p (pI y))] σ = some (.p (.sl true 2 (eInts [x, y])), σ) := Eq.trans (by kernel_rfl) rfl
def cE (q : NP) : PV := .sl true 2 (eInts [(q.1 : Nat), (q.2 : Nat)])
def cN (q : NP) : PV := eSl (prN q)
theorem loosens_cE (l : List NP) : loosens (l.map cE) = (l.map prN).map eSl := by
  induction l with
  | nil => rfl
  | cons a l ih => simp only [List.map_cons, loosens, ih]; rfl
theorem loosens_cN (l : List NP) : loosens (l.map cN) = (l.map prN).map eSl := by
  have : l.map cN = (l.map prN).map eSl := by simp [cN]
  rw [this, loosens_ls]
theorem map_cN (l : List NP) : l.map cN = (l.map prN).map eSl := by simp [cN]
theorem eLs_lsO (l : List NP) : eLs (lsO l) = if l.length = 0 then .nilsl else .sl false l.length ((l.map prN).map eSl) := by
  unfold lsO
  by_cases h : l = []
  · subst h; rfl
  · have : ¬ l.length = 0 := fun e => h (List.length_eq_zero_iff.1 e)
    rw [if_neg h, if_neg this]
    simp [eLs]

/-- A list of pairs as it stands in a variable. -/
def LV (l : List NP) (x : DV) : Prop := x = .p (eLs (lsO l)) ∨ (l ≠ [] ∧ ∃ r ver, x = .osl r ver 1 l.length (l.map cN))
theorem LV.of_out {σ : Store} {lo : Nat} {l : List NP} {x : DV} (h : Out σ lo 1 l.length (l.map cN) x) : LV l x := by
  rcases h.2 with ⟨h1, rfl⟩ | ⟨h1, r, ver, rfl, _, _⟩
  · have : l = [] := List.length_eq_zero_iff.1 h1
    subst this
    exact .inl rfl
  · exact .inr ⟨fun e => h1 (by rw [e]; rfl), r, ver, rfl⟩
theorem LV.len {l : List NP} {x : DV} (h : LV l x) (σ : Store) : len PP 51 x σ = some (.p (pI (l.length : Nat))) := by
  rcases h with rfl | ⟨_, r, ver, rfl⟩
  · rw [len51, lsO_len]
  · simp [Go.D.len, u51]
theorem LV.idx {l : List NP} {x : DV} (h : LV l x) {i : Nat} (hi : i < l.length) : indexAddr PP 51 x (.p (pI (i : Nat))) = some (.pptr (l.map cN) i) := by
  rcases h with rfl | ⟨_, r, ver, rfl⟩
  · have hne : ¬ l = [] := fun e => by rw [e] at hi; simp at hi
    have := idx51 (o := lsO l) (i := i) (by rw [lsO_len]; exact hi)
    refine this.trans ?_
    have e : (L (lsO l)).map eSl = l.map cN := by
      rw [L_lsO, map_cN]
      simp [prs, prN, List.map_map, Function.comp_def]
    rw [e]
  · have h2 : (0 : Int) ≤ (i : Int) ∧ (i : Int) < (l.length : Nat) := by omega
    simp [indexAddr, u51, s22, h2, hi]
theorem LV.view {l : List NP} {x : DV} (h : LV l x) : view x = .p (eLs (lsO l)) := by
  rcases h with rfl | ⟨h1, r, ver, rfl⟩
  · exact ls_view _
  · have : ¬ l.length = 0 := fun e => h1 (List.length_eq_zero_iff.1 e)
    rw [eLs_lsO, if_neg this]
    simp only [Go.D.view, viewCell, loosens_cN]
theorem LV.thaw {l : List NP} {x : DV} (h : LV l x) (k : Nat) (σ : Store) : thawAll k σ x = some (.p (eLs (lsO l))) := by
  rcases h with rfl | ⟨h1, r, ver, rfl⟩
  · simp only [thawAll, thawPart, Go.D.thaw, thaw1, thawP, loosen_ls, omap]
  · have : ¬ l.length = 0 := fun e => h1 (List.length_eq_zero_iff.1 e)
    rw [eLs_lsO, if_neg this]
    simp only [thawAll, thawPart, Go.D.thaw, thaw1, thawP, loosens_cN, omap]
theorem cN_ld {l : List NP} {i : Nat} (hi : i < l.length) (σ : Store) : load1 (.pptr (l.map cN) i) σ = some (.p (eSl (prO (toPR l[i])))) := load1_pptr (by simp [hi, cN, prN]) σ

/-! ### Rows of pairs, filtered -/
def rowP (P : NP → Bool) (s u : Nat) : List NP := ((List.range u).map fun v => (s, v)).filter P
def colP (P : NP → Bool) (n s : Nat) : List NP := (List.range s).flatMap fun a => rowP P a n
theorem rowP_zero (P : NP → Bool) (s : Nat) : rowP P s 0 = [] := rfl
theorem rowP_succ (P : NP → Bool) (s u : Nat) : rowP P s (u + 1) = rowP P s u ++ if P (s, u) then [(s, u)] else [] := by
  unfold rowP
  rw [List.range_succ, List.map_append, List.filter_append]
  congr 1
  show List.filter P [(s, u)] = _
  by_cases h : P (s, u) = true
  · rw [if_pos h, List.filter_cons_of_pos h]; rfl
  · rw [if_neg h, List.filter_cons_of_neg h]; rfl
theorem colP_succ (P : NP → Bool) (n s : Nat) : colP P n (s + 1) = colP P n s ++ rowP P s n := by
  unfold colP
  rw [List.range_succ, List.flatMap_append]
  simp
theorem colP_all (P : NP → Bool) (m n : Nat) : colP P n m = (pairsA m n).filter P := by
  unfold colP pairsA rowP
  rw [List.filter_flatMap]
theorem rowP_len (P : NP → Bool) (s u : Nat) : (rowP P s u).length ≤ u := by
  refine Nat.le_trans (List.length_filter_le _ _) ?_
  simp
theorem colP_len (P : NP → Bool) (n : Nat) : ∀ s, (colP P n s).length ≤ s * n
  | 0 => by simp [colP]
  | s + 1 => by
    rw [colP_succ, List.length_append]
    have h1 := colP_len P n s
    have h2 := rowP_len P s n
    rw [Nat.add_mul]
    omega
theorem len_bound {P : NP → Bool} {s u n : Nat} (hs : s ≤ 1000) (hu : u ≤ n) (hn : n ≤ 1000) : (colP P n s ++ rowP P s u).length ≤ 1000000 + 1000 := by
  rw [List.length_append]
  have h1 := colP_len P n s
  have h2 := rowP_len P s u
  have h3 : s * n ≤ 1000 * 1000 := Nat.mul_le_mul hs hn
  omega

theorem Out.push51' {σ : Store} {lo n : Nat} {cs : List PV} {v : PV} {x : DV} (ho : Out σ lo 1 n cs x) (hn : n ≤ 10000000) (hlo : lo ≤ σ.length) :
    ∃ x' σ', append PP lo false 51 51 x (.p (.sl true 1 [v])) σ = some (x', σ') ∧ Out σ' lo 1 (n + 1) (cs ++ [v]) x' ∧ Others σ σ' x ∧ σ.length ≤ σ'.length := by
  have hsrc : source σ 1 (.p (.sl true 1 [v])) = some (1, [DV.p v]) := by simp [source]
  obtain ⟨hc, ho⟩ := ho
  rcases ho with ⟨rfl, rfl⟩ | ⟨hn0, r, ver, rfl, hr, hl⟩
  · refine ⟨.osl σ.length 0 1 1 [v], σ ++ [.tok 0], ?_, ⟨by simp [hc], .inr ⟨by simp, σ.length, 0, ?_, get_snoc, hlo⟩⟩, ?_, by simp⟩
    · simp only [append, src51, u51, s22, bytes22, zero22, hsrc, appNil]
      simp [pures, DV.pure?]
    · have : cs = [] := List.length_eq_zero_iff.1 (by simpa using hc)
      rw [this]; rfl
    · intro i row hi _
      exact get_old hi
  · refine ⟨.osl r (ver + 1) 1 (n + 1) (cs ++ [v]), σ.set r (.tok (ver + 1)), ?_, ⟨by simp [hc], .inr ⟨by simp, r, ver + 1, rfl, ?_, hl⟩⟩, ?_, by simp⟩
    · have e1 : (n + 1) * 24 ≤ 140737488355328 := by omega
      have e2 : n + 1 ≤ 140737488355328 := by omega
      simp only [append, src51, u51, s22, bytes22, zero22, hsrc, appTok]
      simp [e1, e2, hc, hl, hr, pures, DV.pure?]
    · rw [List.getElem?_set_self (get_lt hr)]
    · intro i row hi hne
      rw [List.getElem?_set_ne (fun e => hne _ _ _ _ _ rfl e.symm)]
      exact hi

section
variable {p : Pair} {n m : Nat}

/-! ### all -/
theorem L61_1 (hp : Nice p n m) {s : Nat} (hs : s < m) {l : List NP} (hl : l.length ≤ 1000000) :
    ∀ (d u : Nat) (x : DV) (σ : Store), n - u = d → u ≤ n → σ[0]? = some (.mix (ePair p)) → Out σ 0 1 (l ++ rowP (fun _ => true) s u).length ((l ++ rowP (fun _ => true) s u).map cE) x →
      ∃ x' σ', σ'[0]? = some (.mix (ePair p)) ∧ Out σ' 0 1 (l ++ rowP (fun _ => true) s n).length ((l ++ rowP (fun _ => true) s n).map cE) x' ∧
        f61_L1 guardT 0 (.ptr 0 0) x (.p (pI (s : Nat))) (.p (pI (u : Nat))) σ = f61_L1 guardT 0 (.ptr 0 0) x' (.p (pI (s : Nat))) (.p (pI (n : Nat))) σ'
  | 0, u, x, σ, hd, hu, h0, ho => by
    have : u = n := by omega
    subst this
    exact ⟨x, σ, h0, ho, rfl⟩
  | d + 1, u, x, σ, hd, hu, h0, ho => by
    have h : u < n := by omega
    have h' : (u : Int) < (n : Nat) := by omega
    have hn2 := hp.n2
    have w : IntKind.wrap .i64 ((u : Int) + 1) = ((u + 1 : Nat) : Int) := wrap_succ (by omega)
    have hlen := rowP_len (fun _ => true) s u
    obtain ⟨x', σ', g1, g2, g3, g4⟩ := ho.push51' (v := cE (s, u)) (by rw [List.length_append]; omega) (Nat.zero_le _)
    have h0' := g3.mix ho h0 (fun v => by simp)
    have e : (l ++ rowP (fun _ => true) s (u + 1)) = (l ++ rowP (fun _ => true) s u) ++ [(s, u)] := by rw [rowP_succ]; simp
    rw [f61_L1_eq guardT rfl]
    simp only [fa27_1, fa25_0, shift_ptr, Nat.zero_add, Nat.add_zero, load3, pr_3 h0, obind, hp.un, b_lss, h', decide_true, condK_true, bs22p, bs51_1]
    have g1' : append PP 0 false 51 51 x (.p (.sl true 1 [PV.sl true 2 (eInts [(s : Int), (u : Int)])])) σ = some (x', σ') := g1
    simp only [g1', obind, b_add, w]
    refine L61_1 hp hs hl d (u + 1) x' σ' (by omega) (by omega) h0' ?_
    rw [e, List.map_append, List.length_append]
    exact g2

theorem L61_0 (hp : Nice p n m) :
    ∀ (d s : Nat) (x : DV) (σ : Store), m - s = d → s ≤ m → σ[0]? = some (.mix (ePair p)) → Out σ 0 1 (colP (fun _ => true) n s).length ((colP (fun _ => true) n s).map cE) x →
      ∃ x' σ', Out σ' 0 1 (pairsA m n).length ((pairsA m n).map cE) x' ∧ f61_L0 guardT 0 (.ptr 0 0) x (.p (pI (s : Nat))) σ = some (x', σ')
  | 0, s, x, σ, hd, hs, h0, ho => by
    have : s = m := by omega
    subst this
    have hlt : ¬ (s : Int) < (s : Nat) := by omega
    rw [colP_all, List.filter_eq_self.2 (fun _ _ => rfl)] at ho
    refine ⟨x, σ, ho, ?_⟩
    rw [f61_L0_eq guardT rfl]
    simp only [fa27_0, fa25_0, shift_ptr, Nat.zero_add, Nat.add_zero, load3, pr_0 h0, obind, hp.ln, b_lss, hlt, decide_false, condK_false]
  | d + 1, s, x, σ, hd, hs, h0, ho => by
    have h : s < m := by omega
    have h' : (s : Int) < (m : Nat) := by omega
    have hn2 := hp.n2
    have hm2 := hp.m2
    have w : IntKind.wrap .i64 ((s : Int) + 1) = ((s + 1 : Nat) : Int) := wrap_succ (by omega)
    have hcl := colP_len (fun _ => true) n s
    have hmn : s * n ≤ 1000 * 1000 := Nat.mul_le_mul (by omega) hn2
    obtain ⟨x1, σ1, g1, g2, g3⟩ := L61_1 hp h (l := colP (fun _ => true) n s) (by omega) n 0 x σ rfl (Nat.zero_le _) h0 (by rw [rowP_zero, List.append_nil]; exact ho)
    rw [← colP_succ] at g2
    have hnn : ¬ (n : Int) < (n : Nat) := by omega
    have g3' : f61_L1 guardT 0 (.ptr 0 0) x (.p (pI (s : Nat))) (.p (pI 0)) σ = _ := g3
    rw [f61_L0_eq guardT rfl]
    simp only [fa27_0, fa25_0, shift_ptr, Nat.zero_add, Nat.add_zero, load3, pr_0 h0, obind, hp.ln, b_lss, h', decide_true, condK_true, g3']
    rw [f61_L1_eq guardT rfl]
    simp only [fa27_1, fa25_0, shift_ptr, Nat.zero_add, Nat.add_zero, load3, pr_3 g1, obind, hp.un, b_lss, hnn, decide_false, condK_false, b_add, w]
    exact L61_0 hp d (s + 1) x1 σ1 (by omega) (by omega) g1 g2

theorem out_cE_thaw {σ : Store} {l : List NP} {x : DV} (ho : Out σ 0 1 l.length (l.map cE) x) : thawAll 0 σ x = some (.p (eLs (lsO l))) := by
  rw [ho.twAll, eLs_lsO, loosens_cE]
theorem S61 (hp : Nice p n m) (σ : Store) : pureV CC 61 [.agg (ePair p)] σ = some (.p (eLs (lsO (pairsA m n)))) := by
  refine pureV_any (by simp [pair_view]) fun lo σ0 hs => ?_
  rcases hs with ⟨rfl, rfl, _⟩ | ⟨_, _, h⟩
  case inr => exact absurd h (by simp [rowFree, rowFree1, ePair])
  obtain ⟨x', σ', h1, h2⟩ := L61_0 hp m 0 (.p .nilsl) [Row.mix (ePair p)] rfl (Nat.zero_le _) rfl (by simpa [colP] using Out.zero)
  refine ⟨x', σ', F61_call ?_, out_cE_thaw h1⟩
  rw [F61_eq]
  simp only [box_pair, obind, List.length_nil, List.nil_append]
  exact h2

/-! ### Simulation -/
def keepQ (p : Pair) (n : Nat) (l : List NP) (q : NP) : Bool := keepP p (prs l) n (q.1 : Nat) (q.2 : Nat)
theorem L28_1 (hp : Nice p n m) {l : List NP} {x3 : DV} (hl : LV l x3) (hsub : ∀ q ∈ l, q.1 < m ∧ q.2 < n) (hlen : l.length ≤ 1000000) :
    ∀ (d i : Nat) (x : DV) (σ : Store), l.length - i = d → i ≤ l.length → σ[0]? = some (.mix (ePair p)) → Out σ 0 1 ((l.take i).filter (keepQ p n l)).length (((l.take i).filter (keepQ p n l)).map cN) x →
      ∃ x' σ', σ'[0]? = some (.mix (ePair p)) ∧ Out σ' 0 1 (l.filter (keepQ p n l)).length ((l.filter (keepQ p n l)).map cN) x' ∧
        f28_L1 guardT 0 (.ptr 0 0) x3 x (.p (pI (i : Nat))) σ = f28_L1 guardT 0 (.ptr 0 0) x3 x' (.p (pI (l.length : Nat))) σ'
  | 0, i, x, σ, hd, hi, h0, ho => by
    have : i = l.length := by omega
    subst this
    rw [List.take_length] at ho
    exact ⟨x, σ, h0, ho, rfl⟩
  | d + 1, i, x, σ, hd, hi, h0, ho => by
    have h : i < l.length := by omega
    have h' : (i : Int) < (l.length : Nat) := by omega
    have w : IntKind.wrap .i64 ((i : Int) + 1) = ((i + 1 : Nat) : Int) := wrap_succ (by omega)
    obtain ⟨hs, hu⟩ := hsub _ (List.getElem_mem h)
    have hS : pureV CC 62 [.agg (ePair p), x3, .p (pI (l[i].1 : Nat)), .p (pI (l[i].2 : Nat))] σ = some (.p (.bool (keepQ p n l l[i]))) := by
      rw [pureV_view (args' := [.agg (ePair p), .p (eLs (lsO l)), .p (pI (l[i].1 : Nat)), .p (pI (l[i].2 : Nat))]) (by simp [pair_view, hl.view]; exact ⟨rfl, rfl⟩) (by simp [pair_view, ls_view]; exact ⟨rfl, rfl⟩)]
      exact S62 hp (L_lsO l) (by rw [prs_len']; omega) (by omega) (by omega)
    have ht : l.take (i + 1) = l.take i ++ [l[i]] := List.take_succ_eq_append_getElem h
    have hfl : ((l.take i).filter (keepQ p n l)).length ≤ i := Nat.le_trans (List.length_filter_le _ _) (by rw [List.length_take]; omega)
    rw [f28_L1_eq guardT rfl]
    simp only [hl.len, obind, b_lss, h', decide_true, condK_true, load27, pr_all h0, omap, hl.idx h, load22, cN_ld h, pr_idx0, pr_idx1, load3, ii_ld0, ii_ld1, pureFn_fn, List.append_nil, toPR, hS]
    cases e : keepQ p n l l[i] with
    | true =>
      obtain ⟨x', σ', g1, g2, g3, g4⟩ := ho.push51' (v := cN l[i]) (by omega) (Nat.zero_le _)
      have h0' := g3.mix ho h0 (fun v => by simp)
      have g1' : append PP 0 false 51 51 x (.p (.sl true 1 [eSl (prO ((l[i].1 : Int), (l[i].2 : Int)))])) σ = some (x', σ') := g1
      simp only [condK_true, bs51_1, obind, g1', f28_J0_eq, b_add, w]
      refine L28_1 hp hl hsub hlen d (i + 1) x' σ' (by omega) (by omega) h0' ?_
      have : (l.take (i + 1)).filter (keepQ p n l) = (l.take i).filter (keepQ p n l) ++ [l[i]] := by rw [ht, List.filter_append]; simp [e]
      rw [this, List.map_append, List.length_append]
      exact g2
    | false =>
      simp only [condK_false, f28_J0_eq, b_add, obind, w]
      refine L28_1 hp hl hsub hlen d (i + 1) x σ (by omega) (by omega) h0 ?_
      have : (l.take (i + 1)).filter (keepQ p n l) = (l.take i).filter (keepQ p n l) := by rw [ht, List.filter_append]; simp [e]
      rw [this]
      exact ho

theorem L28_0 (hp : Nice p n m) :
    ∀ (c k : Nat) (x3 : DV) (σ : Store), (al p m n k).length ≤ c → LV (al p m n k) x3 → σ[0]? = some (.mix (ePair p)) →
      ∃ x' σ', LV (simL p m n) x' ∧ f28_L0 guardT 0 (.ptr 0 0) x3 σ = some (x', σ') := by
  intro c
  induction c with
  | zero =>
    intro k x3 σ hc hl h0
    have hmn : m * n ≤ 1000 * 1000 := Nat.mul_le_mul hp.m2 hp.n2
    have hal := al_len (p := p) (m := m) (n := n) k
    obtain ⟨x1, σ1, g1, g2, g3⟩ := L28_1 hp hl (al_sub k) (by omega) _ 0 (.p .nilsl) σ rfl (Nat.zero_le _) h0 (by simpa using Out.zero)
    have hf : (al p m n k).filter (keepQ p n (al p m n k)) = al p m n (k + 1) := rfl
    rw [hf] at g2
    have hl2 := LV.of_out g2
    have hle : (al p m n (k + 1)).length ≤ (al p m n k).length := List.length_filter_le _ _
    have hlt : ¬ ((al p m n k).length : Int) < ((al p m n k).length : Nat) := by omega
    have heq : ((al p m n (k + 1)).length : Int) = ((al p m n k).length : Nat) := by omega
    have g3' : f28_L1 guardT 0 (.ptr 0 0) x3 (.p .nilsl) (.p (pI 0)) σ = _ := g3
    refine ⟨x3, σ1, ?_, ?_⟩
    · rw [← simL_of_len hp (show (al p m n (k + 1)).length = (al p m n k).length by omega)]; exact hl
    · rw [f28_L0_eq guardT rfl]
      rw [g3', f28_L1_eq guardT rfl]
      simp only [hl.len, hl2.len, obind, b_lss, hlt, decide_false, condK_false, b_eql, heq, decide_true, condK_true]
  | succ c ih =>
    intro k x3 σ hc hl h0
    have hmn : m * n ≤ 1000 * 1000 := Nat.mul_le_mul hp.m2 hp.n2
    have hal := al_len (p := p) (m := m) (n := n) k
    obtain ⟨x1, σ1, g1, g2, g3⟩ := L28_1 hp hl (al_sub k) (by omega) _ 0 (.p .nilsl) σ rfl (Nat.zero_le _) h0 (by simpa using Out.zero)
    have hf : (al p m n k).filter (keepQ p n (al p m n k)) = al p m n (k + 1) := rfl
    rw [hf] at g2
    have hl2 := LV.of_out g2
    have hle : (al p m n (k + 1)).length ≤ (al p m n k).length := List.length_filter_le _ _
    have hlt : ¬ ((al p m n k).length : Int) < ((al p m n k).length : Nat) := by omega
    have g3' : f28_L1 guardT 0 (.ptr 0 0) x3 (.p .nilsl) (.p (pI 0)) σ = _ := g3
    by_cases he : (al p m n (k + 1)).length = (al p m n k).length
    · have heq : ((al p m n (k + 1)).length : Int) = ((al p m n k).length : Nat) := by omega
      refine ⟨x3, σ1, ?_, ?_⟩
      · rw [← simL_of_len hp he]; exact hl
      · rw [f28_L0_eq guardT rfl]
        rw [g3', f28_L1_eq guardT rfl]
        simp only [hl.len, hl2.len, obind, b_lss, hlt, decide_false, condK_false, b_eql, heq, decide_true, condK_true]
    · have heq : ¬ ((al p m n (k + 1)).length : Int) = ((al p m n k).length : Nat) := by omega
      obtain ⟨x', σ', h1, h2⟩ := ih (k + 1) x1 σ1 (by omega) hl2 g1
      refine ⟨x', σ', h1, ?_⟩
      rw [f28_L0_eq guardT rfl]
      rw [g3', f28_L1_eq guardT rfl]
      simp only [hl.len, hl2.len, obind, b_lss, hlt, decide_false, condK_false, b_eql, heq]
      exact h2

theorem S28 (hp : Nice p n m) (σ : Store) : pureV CC 28 [.agg (ePair p)] σ = some (.p (eLs (lsO (simL p m n)))) := by
  refine pureV_any (by simp [pair_view]) fun lo σ0 hs => ?_
  rcases hs with ⟨rfl, rfl, _⟩ | ⟨_, _, h⟩
  case inr => exact absurd h (by simp [rowFree, rowFree1, ePair])
  have g0 : ([Row.mix (ePair p)] : Store)[0]? = some (.mix (ePair p)) := rfl
  obtain ⟨x', σ', h1, h2⟩ := L28_0 hp _ 0 (.p (eLs (lsO (pairsA m n)))) [Row.mix (ePair p)] (Nat.le_refl _) (.inl rfl) rfl
  refine ⟨x', σ', F28_call ?_, h1.thaw _ _⟩
  rw [F28_eq]
  simp only [box_pair, obind, List.length_nil, List.nil_append, load27, pr_all g0, omap, pureFn_fn, List.append_nil, S61 hp]
  exact h2

/-! ### SimulationOf -/
theorem len101 (o : Option (List OI)) (σ : Store) : len PP 101 (.p (eLs o)) σ = some (.p (pI ((L o).length : Nat))) := by cases o <;> simp [len, u101, eLs]
theorem idx101 {o : Option (List OI)} {i : Nat} (h : i < (L o).length) : indexAddr PP 101 (.p (eLs o)) (.p (.int .i64 (i : Nat))) = some (.pptr ((L o).map eSl) i) := by
  cases o with
  | none => simp at h
  | some l =>
    have h2 : (0 : Int) ≤ (i : Int) ∧ (i : Int) < (l.length : Nat) := by simp at h; omega
    simp [indexAddr, u101, s22, eLs, h2]
theorem rowsO_len (m n : Nat) (f : RF) : (L (rowsO m n f)).length = m := by
  unfold rowsO
  split
  · rename_i h; subst h; rfl
  · simp
theorem rowsO_get {m n : Nat} {f : RF} {s : Nat} (h : s < m) : (L (rowsO m n f)).getD s none = some (rowF n (f s)) := by
  have hm : ¬ m = 0 := by omega
  have e : L (rowsO m n f) = (List.range m).map fun s => some (rowF n (f s)) := by unfold rowsO; rw [if_neg hm]; rfl
  rw [e, getD_at _ (by simpa using h)]
  simp

theorem L24_1 (hp : Nice p n m) {f : RF} {o : Option (List OI)} {s : Nat} (hs : s < m) {l : List NP} (hl : l.length ≤ 1000000) {P : NP → Bool} (hP : P = fun q => decide (f q.1 q.2 = -1)) :
    ∀ (d u : Nat) (x : DV) (σ : Store), n - u = d → u ≤ n → Out σ 0 1 (l ++ rowP P s u).length ((l ++ rowP P s u).map cE) x →
      ∃ x' σ', Out σ' 0 1 (l ++ rowP P s n).length ((l ++ rowP P s n).map cE) x' ∧
        f24_L1 guardT 0 x (.p (pI (s : Nat))) (.p (eLs o)) (.p (pI (m : Nat))) (.p (pI (s : Nat))) (.p (eSl (some (rowF n (f s))))) (.p (pI (n : Nat))) (.p (pI (u : Nat))) σ =
        f24_L1 guardT 0 x' (.p (pI (s : Nat))) (.p (eLs o)) (.p (pI (m : Nat))) (.p (pI (s : Nat))) (.p (eSl (some (rowF n (f s))))) (.p (pI (n : Nat))) (.p (pI (n : Nat))) σ'
  | 0, u, x, σ, hd, hu, ho => by
    have : u = n := by omega
    subst this
    exact ⟨x, σ, ho, rfl⟩
  | d + 1, u, x, σ, hd, hu, ho => by
    have h : u < n := by omega
    have h' : (u : Int) < (n : Nat) := by omega
    have hn2 := hp.n2
    have w : IntKind.wrap .i64 ((u : Int) + 1) = ((u + 1 : Nat) : Int) := wrap_succ (by omega)
    have hlen := rowP_len P s u
    have hi : u < (L (some (rowF n (f s)))).length := by show u < (rowF n (f s)).length; rw [rowF_len]; exact h
    have hld : load1 (.pptr (eInts (L (some (rowF n (f s))))) u) σ = some (.p (pI (f s u))) := by
      rw [load1_getD hi]
      show some (DV.p (pI ((rowF n (f s)).getD u 0))) = _
      rw [rowF_get h]
    have e := rowP_succ P s u
    rw [f24_L1_eq guardT rfl]
    simp only [b_lss, obind, h', decide_true, condK_true, idx22 hi, load3, hld, b_eql]
    cases e1 : decide (f s u = -1) with
    | true =>
      obtain ⟨x', σ', g1, g2, g3, g4⟩ := ho.push51' (v := cE (s, u)) (by rw [List.length_append]; omega) (Nat.zero_le _)
      have g1' : append PP 0 false 51 51 x (.p (.sl true 1 [PV.sl true 2 (eInts [(s : Int), (u : Int)])])) σ = some (x', σ') := g1
      have hPu : P (s, u) = true := by rw [hP]; exact e1
      rw [if_pos hPu] at e
      simp only [condK_true, bs22p, bs51_1, obind, g1', f24_J0_eq, b_add, w]
      refine L24_1 hp hs hl hP d (u + 1) x' σ' (by omega) (by omega) ?_
      rw [e, ← List.append_assoc, List.map_append, List.length_append]
      exact g2
    | false =>
      have hPu : ¬ P (s, u) = true := by rw [hP]; show ¬ decide (f s u = -1) = true; rw [e1]; simp
      rw [if_neg hPu, List.append_nil] at e
      simp only [condK_false, f24_J0_eq, b_add, obind, w]
      refine L24_1 hp hs hl hP d (u + 1) x σ (by omega) (by omega) ?_
      rw [e]
      exact ho

theorem L24_0 (hp : Nice p n m) {f : RF} {P : NP → Bool} (hP : P = fun q => decide (f q.1 q.2 = -1)) :
    ∀ (d s : Nat) (x : DV) (σ : Store), m - s = d → s ≤ m → Out σ 0 1 (colP P n s).length ((colP P n s).map cE) x →
      ∃ x' σ', Out σ' 0 1 ((pairsA m n).filter P).length (((pairsA m n).filter P).map cE) x' ∧
        f24_L0 guardT 0 x (.p (eLs (rowsO m n f))) (.p (pI (m : Nat))) (.p (pI (s : Nat))) σ = some (.tuple [x', .p (pI 0)], σ')
  | 0, s, x, σ, hd, hs, ho => by
    have : s = m := by omega
    subst this
    have hlt : ¬ (s : Int) < (s : Nat) := by omega
    rw [colP_all] at ho
    refine ⟨x, σ, ho, ?_⟩
    rw [f24_L0_eq guardT rfl]
    simp only [b_lss, obind, hlt, decide_false, condK_false]
  | d + 1, s, x, σ, hd, hs, ho => by
    have h : s < m := by omega
    have h' : (s : Int) < (m : Nat) := by omega
    have hn2 := hp.n2
    have hm2 := hp.m2
    have w : IntKind.wrap .i64 ((s : Int) + 1) = ((s + 1 : Nat) : Int) := wrap_succ (by omega)
    have hcl := colP_len P n s
    have hmn : s * n ≤ 1000 * 1000 := Nat.mul_le_mul (by omega) hn2
    have hi : s < (L (rowsO m n f)).length := by rw [rowsO_len]; exact h
    have hlr : ((L (some (rowF n (f s)))).length : Int) = (n : Nat) := by show (((rowF n (f s)).length : Nat) : Int) = _; rw [rowF_len]
    obtain ⟨x1, σ1, g2, g3⟩ := L24_1 hp (f := f) (o := rowsO m n f) h (l := colP P n s) (by omega) hP n 0 x σ rfl (Nat.zero_le _) (by rw [rowP_zero, List.append_nil]; exact ho)
    rw [← colP_succ] at g2
    have hnn : ¬ (n : Int) < (n : Nat) := by omega
    have g3' : f24_L1 guardT 0 x (.p (pI (s : Nat))) (.p (eLs (rowsO m n f))) (.p (pI (m : Nat))) (.p (pI (s : Nat))) (.p (eSl (some (rowF n (f s))))) (.p (pI (n : Nat))) (.p (pI 0)) σ = _ := g3
    rw [f24_L0_eq guardT rfl]
    simp only [b_lss, obind, h', decide_true, condK_true, idx101 hi, load22, load1_ls hi, rowsO_get h, len22, hlr, g3']
    rw [f24_L1_eq guardT rfl]
    simp only [b_lss, obind, hnn, decide_false, condK_false, b_add, w]
    exact L24_0 hp hP d (s + 1) x1 σ1 (by omega) (by omega) g2

theorem S24_ok {σ : Store} (hp : Nice p n m) (he : errP p = 0) : pureV CC 24 [.agg (ePair p)] σ = some (.tuple [.p (eLs (lsO (simL p m n))), .p (pI 0)]) := by
  refine pureV_any (by simp [pair_view]) fun lo σ0 hs => ?_
  rcases hs with ⟨rfl, rfl, _⟩ | ⟨_, _, h⟩
  case inr => exact absurd h (by simp [rowFree, rowFree1, ePair])
  have g0 : ([Row.mix (ePair p)] : Store)[0]? = some (.mix (ePair p)) := rfl
  obtain ⟨x', σ', h1, h2⟩ := L24_0 hp (f := rkE p m n) rfl m 0 (.p .nilsl) [Row.mix (ePair p)] rfl (Nat.zero_le _) (by simpa [colP] using Out.zero)
  rw [← simL_rk hp] at h1
  refine ⟨.tuple [x', .p (pI 0)], σ', F24_call ?_, ?_⟩
  · rw [F24_eq]
    simp only [box_pair, obind, List.length_nil, List.nil_append, load27, pr_all g0, omap, pureFn_fn, List.append_nil, S41 hp.sm, he, b_neq, decide_true, Bool.not_true, condK_false, S43 hp.sm hp.un hp.n2 hp.us, S58' hp, len101, rowsO_len]
    exact h2
  · have ht : thawPart 0 σ' x' = some (.p (eLs (lsO (simL p m n)))) := by
      have := out_cE_thaw h1
      rcases h1.2 with ⟨_, rfl⟩ | ⟨_, r, ver, rfl, _, _⟩ <;> exact this
    have ht2 : thawPart 0 σ' (.p (pI 0)) = some (.p (pI 0)) := rfl
    simp only [thawAll, mapO, ht, ht2, omap]

theorem S24_bad {σ : Store} (hp : Small p) (he : errP p ≠ 0) : pureV CC 24 [.agg (ePair p)] σ = some (.tuple [.p .nilsl, .p (pI (errP p))]) := by
  refine pureV_any (by simp [pair_view]) fun lo σ0 hs => ⟨.tuple [.p .nilsl, .p (pI (errP p))], σ0 ++ [.mix (ePair p)], F24_call ?_, rfl⟩
  rw [F24_eq]
  have g0 : (σ0 ++ [Row.mix (ePair p)])[σ0.length]? = some (.mix (ePair p)) := get_snoc
  simp only [box_pair, obind, load27, pr_all g0, omap, pureFn_fn, List.append_nil, S41 hp, b_neq, he, decide_false, Bool.not_false, condK_true]

end
end Go.D
end
/- RefineSimulations: what the law answers, if awake answers true. -/
section
set_option linter.unusedVariables false
set_option linter.unusedSimpArgs false
namespace Go.D

/-! ### ContainsFunc, of what stands in the list -/
theorem L83' {o : Option (List Int)} {f : FuncId} {caps : List DV} {σ : Store} {lo : Nat} {q : Int → Bool} (hl : (L o).length ≤ 1000) (hq : ∀ v ∈ L o, pureV CC f (.p (pI v) :: caps) σ = some (.p (.bool (q v)))) :
    ∀ (k i : Nat), (L o).length - i = k → i ≤ (L o).length → f83_L0 guardT lo (.p (eSl o)) (.fn f caps) (.p (pI ((L o).length : Nat))) (.p (pI (i : Nat))) σ = some (.p (pI (idxFrom q ((L o).drop i) i)), σ)
  | 0, i, hk, hi => by
    have : i = (L o).length := by omega
    rw [f83_L0_eq guardT rfl]
    subst this
    simp [b_lss, condK_false, idxFrom]
  | k + 1, i, hk, hi => by
    have h : i < (L o).length := by omega
    have h' : (i : Int) < ((L o).length : Nat) := by omega
    rw [f83_L0_eq guardT rfl]
    simp only [b_lss, obind, h', decide_true, condK_true, idx22 h, load3, load1_ints h, pureFn_fn, List.singleton_append, hq _ (List.getElem_mem h)]
    rw [drop_cons h]
    cases hqv : q (L o)[i] with
    | true => simp [condK_true, idxFrom, hqv]
    | false =>
      simp only [condK_false, b_add, obind, wrap_succ (show i ≤ 1000000 by omega), idxFrom, hqv, Bool.false_eq_true, if_false]
      exact L83' hl hq k (i + 1) (by omega) (by omega)
theorem S83' {o : Option (List Int)} {f : FuncId} {caps : List DV} {σ : Store} {q : Int → Bool} (hl : (L o).length ≤ 1000) (hq : ∀ σ0, AtSt caps σ σ0 → ∀ v ∈ L o, pureV CC f (.p (pI v) :: caps) σ0 = some (.p (.bool (q v)))) :
    pureV CC 83 [.p (eSl o), .fn f caps] σ = some (.p (pI (idxFrom q (L o) 0))) := by
  refine pureV_any (by simp [sl_view, fn_view]) fun lo σ0 hs => ⟨_, σ0, F83_call (r := (.p (pI (idxFrom q (L o) 0)), σ0)) ?_, rfl⟩
  have hat : AtSt caps σ σ0 := by
    rcases hs with ⟨h1, _, h3⟩ | ⟨h1, _, _⟩
    · exact .inl ⟨h1, by simpa [rowFree] using (by simpa [rowFree] using h3 : _ ∧ _).2⟩
    · exact .inr h1
  rw [F83_eq]
  simp only [len22, obind]
  have := L83' (lo := lo) hl (hq σ0 hat) _ 0 rfl (Nat.zero_le _)
  simpa using this
theorem S51' {o : Option (List Int)} {f : FuncId} {caps : List DV} {σ : Store} {q : Int → Bool} (hl : (L o).length ≤ 1000) (hq : ∀ σ0, AtSt caps σ σ0 → ∀ v ∈ L o, pureV CC f (.p (pI v) :: caps) σ0 = some (.p (.bool (q v)))) :
    pureV CC 51 [.p (eSl o), .fn f caps] σ = some (.p (.bool ((L o).any q))) := by
  refine pureV_any (by simp [sl_view, fn_view]) fun lo σ0 hs => ⟨_, σ0, F51_call (r := (.p (.bool ((L o).any q)), σ0)) ?_, rfl⟩
  have hat : ∀ σ1, AtSt caps σ0 σ1 → AtSt caps σ σ1 := by
    intro σ1 h
    rcases hs with ⟨h1, _, h3⟩ | ⟨h1, _, _⟩
    · rcases h with h | h
      · exact .inl h
      · exact .inl ⟨h.trans h1, by simpa [rowFree] using (by simpa [rowFree] using h3 : _ ∧ _).2⟩
    · rw [← h1]; exact h
  rw [F51_eq]
  simp only [pureFn_fn, List.append_nil, S83' hl fun σ1 h => hq σ1 (hat σ1 h), obind, b_geq, idxFrom_ge]

/-! ### First states -/
structure Inits (p : Pair) (n m : Nat) : Prop where
  lo : ∀ s ∈ L p.lo.init, 0 ≤ s ∧ s < m
  up : ∀ u ∈ L p.up.init, 0 ≤ u ∧ u < n
theorem inits_of {p : Pair} (he : errP p = 0) : Inits p p.up.n.toNat p.lo.n.toNat := by
  have h1 : e1P p = 0 := orL_zero he _ (by simp)
  have g1 : isG p.lo = true ∧ isG p.up = true := by
    unfold e1P at h1
    split at h1
    · rename_i h; simpa using h
    · omega
  have hup := g1.2
  have hlo := g1.1
  simp only [isG, Bool.and_eq_true, decide_eq_true_eq] at hup hlo
  have nu : 0 ≤ p.up.n ∧ p.up.n ≤ 400 := by simpa [inR] using hup.1.1.1
  have nl : 0 ≤ p.lo.n ∧ p.lo.n ≤ 400 := by simpa [inR] using hlo.1.1.1
  have pu : pred p.up.n = p.up.n - 1 := wrap_ok (by omega) (by omega)
  have pl : pred p.lo.n = p.lo.n - 1 := wrap_ok (by omega) (by omega)
  constructor
  · intro s hm
    obtain ⟨i, hi, rfl⟩ := List.getElem_of_mem hm
    have := (allFrom_iff _ _).1 hlo.1.2 i (Nat.zero_le _) (by omega)
    have eg : (L p.lo.init).getD i 0 = (L p.lo.init)[i] := by rw [List.getD_eq_getElem?_getD, List.getElem?_eq_getElem hi]; rfl
    simp only [okI, eg, pl, inR, Bool.and_eq_true, decide_eq_true_eq] at this
    omega
  · intro s hm
    obtain ⟨i, hi, rfl⟩ := List.getElem_of_mem hm
    have := (allFrom_iff _ _).1 hup.1.2 i (Nat.zero_le _) (by omega)
    have eg : (L p.up.init).getD i 0 = (L p.up.init)[i] := by rw [List.getD_eq_getElem?_getD, List.getElem?_eq_getElem hi]; rfl
    simp only [okI, eg, pu, inR, Bool.and_eq_true, decide_eq_true_eq] at this
    omega

section
variable {p : Pair} {n m : Nat}

/-- Is a first state simulated by a first one? -/
def simB (p : Pair) (m n : Nat) (s : Int) : Bool := (L p.up.init).any fun u => decide (rkE p m n s.toNat u.toNat = -1)
def simFrom (q : Int → Bool) : List Int → Bool × Int
  | [] => (true, 0)
  | s :: l => if q s = true then simFrom q l else (false, s)
theorem simFrom_true {q : Int → Bool} {s : Int} {l : List Int} (h : q s = true) : simFrom q (s :: l) = simFrom q l := by simp [simFrom, h]
theorem simFrom_false {q : Int → Bool} {s : Int} {l : List Int} (h : q s = false) : simFrom q (s :: l) = (false, s) := by simp [simFrom, h]

theorem S59 {f : RF} {σ : Store} {b q : Nat} {s u : Int} (hb : σ[b]? = some (.mix [.p (eLs (rowsO m n f))])) (hq : σ[q]? = some (.mix [.p (pI s)])) (hs : 0 ≤ s ∧ s < m) (hu : 0 ≤ u ∧ u < n) :
    pureV CC 59 [.p (pI u), .ptr b 0, .ptr q 0] σ = some (.p (.bool (decide (f s.toNat u.toNat = -1)))) := by
  refine pureV_rows rfl rfl (F59_call (r := (.p (.bool (decide (f s.toNat u.toNat = -1))), σ)) ?_) rfl
  have e1 : ((s.toNat : Nat) : Int) = s := by omega
  have e2 : ((u.toNat : Nat) : Int) = u := by omega
  have h1 : s.toNat < m := by omega
  have h2 : u.toNat < n := by omega
  have hi : s.toNat < (L (rowsO m n f)).length := by rw [rowsO_len]; exact h1
  have hj : u.toNat < (L (some (rowF n (f s.toNat)))).length := by show u.toNat < (rowF n (f s.toNat)).length; rw [rowF_len]; exact h2
  have hld : load1 (.pptr (eInts (L (some (rowF n (f s.toNat))))) u.toNat) σ = some (.p (pI (f s.toNat u.toNat))) := by
    rw [load1_getD hj]
    show some (DV.p (pI ((rowF n (f s.toNat)).getD u.toNat 0))) = _
    rw [rowF_get h2]
  have i1 := idx101 hi
  rw [e1] at i1
  have i2 := idx22 hj
  rw [e2] at i2
  rw [F59_eq]
  simp only [load101, load1_ptr (off := 0) hb rfl, obind, load3, load1_ptr (off := 0) hq rfl, i1, load22, load1_ls hi, rowsO_get h1, i2, hld, b_eql]

theorem L25 (hp : Nice p n m) (hi : Inits p n m) :
    ∀ (k i : Nat) (σ : Store), (L p.lo.init).length - i = k → i ≤ (L p.lo.init).length → σ[0]? = some (.mix (ePair p)) → σ[1]? = some (.mix [.p (eLs (rowsO m n (rkE p m n)))]) →
      ∃ σ', f25_L0 guardT 0 (.ptr 0 0) (.ptr 1 0) (.p (eSl p.lo.init)) (.p (pI ((L p.lo.init).length : Nat))) (.p (pI (i : Nat))) σ =
        some (.tuple [.p (.bool (simFrom (simB p m n) ((L p.lo.init).drop i)).1), .p (pI (simFrom (simB p m n) ((L p.lo.init).drop i)).2), .p (pI 0)], σ')
  | 0, i, σ, hk, hl, h0, h1 => by
    have : ¬ (i : Int) < ((L p.lo.init).length : Nat) := by omega
    have hd : (L p.lo.init).drop i = [] := List.drop_eq_nil_of_le (by omega)
    refine ⟨σ, ?_⟩
    rw [f25_L0_eq guardT rfl, hd]
    simp only [b_lss, obind, this, decide_false, condK_false, simFrom]
  | k + 1, i, σ, hk, hl, h0, h1 => by
    have h : i < (L p.lo.init).length := by omega
    have h' : (i : Int) < ((L p.lo.init).length : Nat) := by omega
    have hli := hp.sm.li
    have hui := hp.sm.ui
    have w : IntKind.wrap .i64 ((i : Int) + 1) = ((i + 1 : Nat) : Int) := wrap_succ (by omega)
    have g0 : (σ ++ [Row.mix [.p (pI (L p.lo.init)[i])]])[0]? = some (.mix (ePair p)) := get_old h0
    have g1 : (σ ++ [Row.mix [.p (pI (L p.lo.init)[i])]])[1]? = some (.mix [.p (eLs (rowsO m n (rkE p m n)))]) := get_old h1
    have gq : (σ ++ [Row.mix [.p (pI (L p.lo.init)[i])]])[σ.length]? = some (.mix [.p (pI (L p.lo.init)[i])]) := get_snoc
    have hS : pureV CC 51 [.p (eSl p.up.init), .fn 59 [.ptr 1 0, .ptr σ.length 0]] (σ ++ [Row.mix [.p (pI (L p.lo.init)[i])]]) = some (.p (.bool (simB p m n (L p.lo.init)[i]))) := by
      refine S51' hui fun σ0 hat u hu => ?_
      rcases hat with ⟨_, hf⟩ | rfl
      · exact absurd hf (by simp [rowFree1])
      · exact S59 g1 gq (hi.lo _ (List.getElem_mem h)) (hi.up _ hu)
    obtain ⟨σ', ih⟩ := L25 hp hi k (i + 1) _ (by omega) (by omega) g0 g1
    rw [f25_L0_eq guardT rfl, drop_cons h]
    simp only [b_lss, obind, h', decide_true, condK_true, idx22 h, load3, load1_ints h, zero3, st3_new, fa27_1, fa25_1, shift_ptr, Nat.zero_add, load22, pr_4 g0, pureFn_fn, List.append_nil, hS, not_bool]
    cases e : simB p m n (L p.lo.init)[i] with
    | false =>
      rw [simFrom_false e]
      exact ⟨_, by simp only [Bool.not_false, condK_true, load1_ptr (off := 0) gq rfl, obind]; rfl⟩
    | true =>
      rw [simFrom_true e]
      refine ⟨σ', ?_⟩
      simp only [Bool.not_true, condK_false, b_add, obind, w]
      exact ih

def resI (q : Bool × Int) (e : Int) : DV := .tuple [.p (.bool q.1), .p (pI q.2), .p (pI e)]
theorem S25_ok {σ : Store} (hp : Nice p n m) (hi : Inits p n m) (he : errP p = 0) : pureV CC 25 [.agg (ePair p)] σ = some (resI (simFrom (simB p m n) (L p.lo.init)) 0) := by
  refine pureV_any (by simp [pair_view]) fun lo σ0 hs => ?_
  rcases hs with ⟨rfl, rfl, _⟩ | ⟨_, _, h⟩
  case inr => exact absurd h (by simp [rowFree, rowFree1, ePair])
  have g0 : ([Row.mix (ePair p)] : Store)[0]? = some (.mix (ePair p)) := rfl
  have g0' : ([Row.mix (ePair p), Row.mix [.p (eLs (rowsO m n (rkE p m n)))]] : Store)[0]? = some (.mix (ePair p)) := rfl
  obtain ⟨σ', h1⟩ := L25 hp hi _ 0 [Row.mix (ePair p), Row.mix [.p (eLs (rowsO m n (rkE p m n)))]] rfl (Nat.zero_le _) rfl rfl
  rw [List.drop_zero] at h1
  have hst : store PP 0 101 (.ptr 1 0) (.p (eLs (rowsO m n (rkE p m n)))) [Row.mix (ePair p), Row.mix [.p .nilsl]] = some [Row.mix (ePair p), Row.mix [.p (eLs (rowsO m n (rkE p m n)))]] := by
    simp [store, s101, DV.cells, storeN, DV.one, splice]
  refine ⟨_, σ', F25_call (r := (resI (simFrom (simB p m n) (L p.lo.init)) 0, σ')) ?_, rfl⟩
  rw [F25_eq]
  simp only [box_pair, obind, List.length_nil, List.nil_append, List.length_cons, List.cons_append, Nat.zero_add, load27, pr_all g0, omap, pureFn_fn, List.append_nil, S41 hp.sm, he, b_neq, decide_true, Bool.not_true, condK_false, S43 hp.sm hp.un hp.n2 hp.us, S58' hp, zero101, hst, fa27_0, fa25_1, shift_ptr, load22, pr_1 g0', len22]
  exact h1
theorem S25_bad {σ : Store} (hp : Small p) (he : errP p ≠ 0) : pureV CC 25 [.agg (ePair p)] σ = some (resI (false, 0) (errP p)) := by
  refine pureV_any (by simp [pair_view]) fun lo σ0 hs => ⟨resI (false, 0) (errP p), σ0 ++ [.mix (ePair p)], F25_call ?_, rfl⟩
  rw [F25_eq]
  have g0 : (σ0 ++ [Row.mix (ePair p)])[σ0.length]? = some (.mix (ePair p)) := get_snoc
  simp only [box_pair, obind, load27, pr_all g0, omap, pureFn_fn, List.append_nil, S41 hp, b_neq, he, decide_false, Bool.not_false, condK_true, resI]

/-! ### Simulated -/
theorem hasP_sim (hp : Nice p n m) {s u : Int} (hs : 0 ≤ s ∧ s < m) (hu : 0 ≤ u ∧ u < n) : hasP (prs (simL p m n)) s u = decide (rkE p m n s.toNat u.toNat = -1) := by
  have e1 : ((s.toNat : Nat) : Int) = s := by omega
  have e2 : ((u.toNat : Nat) : Int) = u := by omega
  have : hasP (prs (simL p m n)) (s.toNat : Nat) (u.toNat : Nat) = decide (rkE p m n s.toNat u.toNat = -1) := by
    rw [Bool.eq_iff_iff, hasP_iff, simL_rk hp, List.mem_filter, mem_pairsA]
    simp only [decide_eq_true_eq]
    exact ⟨fun h => h.2, fun h => ⟨⟨by show s.toNat < m; omega, by show u.toNat < n; omega⟩, h⟩⟩
  rw [e1, e2] at this
  exact this
theorem simL_len (hp : Nice p n m) : (simL p m n).length ≤ 1000000 := by
  have h1 : m * n ≤ 1000 * 1000 := Nat.mul_le_mul hp.m2 hp.n2
  have := al_len (p := p) (m := m) (n := n) (m * n + 1)
  unfold simL
  omega

theorem L26_1 (hp : Nice p n m) (hi : Inits p n m) {σ : Store} (h0 : σ[0]? = some (.mix (ePair p))) {i : Nat} (hil : i < (L p.lo.init).length) :
    ∀ (d k : Nat) (b : Bool), (L p.up.init).length - k = d → k ≤ (L p.up.init).length →
      f26_L1 guardT 0 (.ptr 0 0) (.p (eLs (lsO (simL p m n)))) (.p (pI (i : Nat))) (.p (.bool b)) (.p (pI (k : Nat))) σ =
      f26_L1 guardT 0 (.ptr 0 0) (.p (eLs (lsO (simL p m n)))) (.p (pI (i : Nat))) (.p (.bool (b || ((L p.up.init).drop k).any fun u => decide (rkE p m n ((L p.lo.init)[i]).toNat u.toNat = -1)))) (.p (pI ((L p.up.init).length : Nat))) σ
  | 0, k, b, hd, hk => by
    have e : k = (L p.up.init).length := by omega
    have hd : (L p.up.init).drop k = [] := List.drop_eq_nil_of_le (by omega)
    rw [hd, e, List.any_nil, Bool.or_false]
  | d + 1, k, b, hd, hk => by
    have h : k < (L p.up.init).length := by omega
    have h' : (k : Int) < ((L p.up.init).length : Nat) := by omega
    have hui := hp.sm.ui
    have w : IntKind.wrap .i64 ((k : Int) + 1) = ((k + 1 : Nat) : Int) := wrap_succ (by omega)
    rw [f26_L1_eq guardT rfl, drop_cons h, List.any_cons]
    simp only [fa27_1, fa25_1, shift_ptr, Nat.zero_add, load22, pr_4 h0, obind, len22, b_lss, h', decide_true, condK_true]
    cases b with
    | true =>
      simp only [guard_tf, guard_sk, obind, pickV_true, b_add, w, Bool.true_or]
      rw [L26_1 hp hi h0 hil d (k + 1) true (by omega) (by omega), Bool.true_or]
    | false =>
      simp only [guard_ff, fa27_0, fa27_1, fa25_1, shift_ptr, Nat.zero_add, obind, pr_1 h0, pr_4 h0, idx22 hil, idx22 h, load3, load1_ints hil, load1_ints h, pureFn_fn, List.append_nil, S60 (L_lsO (simL p m n)) (by rw [prs_len']; exact simL_len hp), hasP_sim hp (hi.lo _ (List.getElem_mem hil)) (hi.up _ (List.getElem_mem h)), pickV_false, b_add, w, Bool.false_or]
      rw [L26_1 hp hi h0 hil d (k + 1) _ (by omega) (by omega)]

theorem L26_0 (hp : Nice p n m) (hi : Inits p n m) {σ : Store} (h0 : σ[0]? = some (.mix (ePair p))) :
    ∀ (d i : Nat), (L p.lo.init).length - i = d → i ≤ (L p.lo.init).length →
      f26_L0 guardT 0 (.ptr 0 0) (.p (eLs (lsO (simL p m n)))) (.p (pI (i : Nat))) σ = some (.tuple [.p (.bool (simFrom (simB p m n) ((L p.lo.init).drop i)).1), .p (pI (simFrom (simB p m n) ((L p.lo.init).drop i)).2)], σ)
  | 0, i, hd, hk => by
    have : ¬ (i : Int) < ((L p.lo.init).length : Nat) := by omega
    have hd : (L p.lo.init).drop i = [] := List.drop_eq_nil_of_le (by omega)
    rw [f26_L0_eq guardT rfl, hd]
    simp only [fa27_0, fa25_1, shift_ptr, Nat.zero_add, load22, pr_1 h0, obind, len22, b_lss, this, decide_false, condK_false, simFrom]
  | d + 1, i, hd, hk => by
    have h : i < (L p.lo.init).length := by omega
    have h' : (i : Int) < ((L p.lo.init).length : Nat) := by omega
    have hli := hp.sm.li
    have w : IntKind.wrap .i64 ((i : Int) + 1) = ((i + 1 : Nat) : Int) := wrap_succ (by omega)
    have hL1 := L26_1 hp hi h0 h _ 0 false rfl (Nat.zero_le _)
    rw [List.drop_zero, Bool.false_or] at hL1
    have hL1' : f26_L1 guardT 0 (.ptr 0 0) (.p (eLs (lsO (simL p m n)))) (.p (pI (i : Nat))) (.p (.bool false)) (.p (pI 0)) σ = f26_L1 guardT 0 (.ptr 0 0) (.p (eLs (lsO (simL p m n)))) (.p (pI (i : Nat))) (.p (.bool (simB p m n (L p.lo.init)[i]))) (.p (pI ((L p.up.init).length : Nat))) σ := hL1
    have hnn : ¬ ((L p.up.init).length : Int) < ((L p.up.init).length : Nat) := by omega
    rw [f26_L0_eq guardT rfl, drop_cons h]
    simp only [fa27_0, fa25_1, shift_ptr, Nat.zero_add, load22, pr_1 h0, obind, len22, b_lss, h', decide_true, condK_true, hL1']
    rw [f26_L1_eq guardT rfl]
    simp only [fa27_0, fa27_1, fa25_1, shift_ptr, Nat.zero_add, load22, pr_4 h0, pr_1 h0, obind, len22, b_lss, hnn, decide_false, condK_false, not_bool]
    cases e : simB p m n (L p.lo.init)[i] with
    | false =>
      rw [simFrom_false e]
      simp only [Bool.not_false, condK_true, idx22 h, obind, load3, load1_ints h]
    | true =>
      rw [simFrom_true e]
      simp only [Bool.not_true, condK_false, b_add, obind, w]
      exact L26_0 hp hi h0 d (i + 1) (by omega) (by omega)

theorem S26 {σ : Store} (hp : Nice p n m) (hi : Inits p n m) : pureV CC 26 [.agg (ePair p)] σ = some (.tuple [.p (.bool (simFrom (simB p m n) (L p.lo.init)).1), .p (pI (simFrom (simB p m n) (L p.lo.init)).2)]) := by
  refine pureV_any (by simp [pair_view]) fun lo σ0 hs => ?_
  rcases hs with ⟨rfl, rfl, _⟩ | ⟨_, _, h⟩
  case inr => exact absurd h (by simp [rowFree, rowFree1, ePair])
  have g0 : ([Row.mix (ePair p)] : Store)[0]? = some (.mix (ePair p)) := rfl
  have h1 := L26_0 hp hi g0 _ 0 rfl (Nat.zero_le _)
  rw [List.drop_zero] at h1
  refine ⟨.tuple [.p (.bool (simFrom (simB p m n) (L p.lo.init)).1), .p (pI (simFrom (simB p m n) (L p.lo.init)).2)], [Row.mix (ePair p)], F26_call ?_, rfl⟩
  rw [F26_eq]
  simp only [box_pair, obind, List.length_nil, List.nil_append, load27, pr_all g0, omap, pureFn_fn, List.append_nil, S28 hp]
  exact h1

/-! ### Lists that are the same -/
theorem L27 {o : Option (List OI)} {lo : Nat} {σ : Store} (hl : (L o).length ≤ 1000000) (hx : ∀ x ∈ L o, (L x).length ≤ 1000) :
    ∀ (k i : Nat), (L o).length - i = k → i ≤ (L o).length → f27_L0 guardT lo (.p (eLs o)) (.p (eLs o)) (.p (pI (i : Nat))) σ = some (.p (.bool true), σ)
  | 0, i, hk, hi => by
    have : ¬ (i : Int) < ((L o).length : Nat) := by omega
    rw [f27_L0_eq guardT rfl]
    simp only [len51, b_lss, obind, this, decide_false, condK_false]
  | k + 1, i, hk, hi => by
    have h : i < (L o).length := by omega
    have h' : (i : Int) < ((L o).length : Nat) := by omega
    have hxi : (L ((L o).getD i none)).length ≤ 1000 := by rw [getD_at _ h]; exact hx _ (List.getElem_mem h)
    rw [f27_L0_eq guardT rfl]
    simp only [len51, b_lss, obind, h', decide_true, condK_true, idx51 h, load22, load1_ls h, pureFn_fn, List.append_nil, S18 (rfl : L ((L o).getD i none) = L ((L o).getD i none)) hxi, not_bool, Bool.not_true, condK_false, b_add, wrap_succ (show i ≤ 1000000 by omega)]
    exact L27 hl hx k (i + 1) (by omega) (by omega)
theorem S27 {o : Option (List OI)} {σ : Store} (hl : (L o).length ≤ 1000000) (hx : ∀ x ∈ L o, (L x).length ≤ 1000) : pureV CC 27 [.p (eLs o), .p (eLs o)] σ = some (.p (.bool true)) := by
  refine pureV_any (by simp [ls_view]) fun lo σ0 hs => ⟨_, σ0, F27_call (r := (.p (.bool true), σ0)) ?_, rfl⟩
  rw [F27_eq]
  simp only [len51, obind, b_neq, decide_true, Bool.not_true, condK_false]
  exact L27 hl hx _ 0 rfl (Nat.zero_le _)

/-! ### Copies -/
theorem rk_own (p : Pair) (n : Nat) : ∀ j, rkF (ownP p) n j = rkF p n j
  | 0 => rfl
  | j + 1 => by
    unfold rkF
    rw [rk_own p n j]
    rfl
theorem al_own (p : Pair) (m n : Nat) : ∀ j, al (ownP p) m n j = al p m n j
  | 0 => rfl
  | j + 1 => by
    unfold al
    rw [al_own p m n j]
    rfl
theorem simL_own (p : Pair) (m n : Nat) : simL (ownP p) m n = simL p m n := al_own p m n _
theorem simB_own (p : Pair) (m n : Nat) : simB (ownP p) m n = simB p m n := by
  funext s
  unfold simB rkE
  rw [rk_own]
  rfl
theorem nice_own (hp : Nice p n m) : Nice (ownP p) n m := ⟨small_own hp.sm, hp.un, hp.n2, hp.ln, hp.m2, hp.ll, hp.ul, hp.us, hp.ls⟩
theorem inits_own (hi : Inits p n m) : Inits (ownP p) n m := ⟨hi.lo, hi.up⟩

theorem ex3_0 (a b c : DV) : extractV (.tuple [a, b, c]) 0 = some a := Eq.trans rfl rfl
theorem ex3_1 (a b c : DV) : extractV (.tuple [a, b, c]) 1 = some b := Eq.trans rfl rfl
theorem ex3_2 (a b c : DV) : extractV (.tuple [a, b, c]) 2 = some c := Eq.trans rfl rfl
theorem b_eql4 (a b : Bool) : binOp PP .eql 4 (.p (.bool a)) (.p (.bool b)) = some (.p (.bool (a == b))) := Eq.trans (by cases a <;> cases b <;> kernel_rfl) rfl
theorem len51_nil (σ : Store) : len PP 51 (.p .nilsl) σ = some (.p (.int .i64 0)) := len51 none σ

theorem law5 (hawake : ∀ σ, pureV CC 10 [] σ = some (.p (.bool true))) (p : Pair) : ∃ σ', F5 guardT 0 (.agg (ePair p)) [] = some (.p (.bool true), σ') := by
  have g0 : ([Row.mix (ePair p)] : Store)[0]? = some (.mix (ePair p)) := rfl
  refine ⟨[Row.mix (ePair p)], ?_⟩
  rw [F5_eq]
  simp only [box_pair, obind, List.length_nil, List.nil_append, pureFn_fn, List.append_nil, hawake, not_bool, Bool.not_true, condK_false, load27, pr_all g0, omap, S11]
  cases hfew : fewP p with
  | false => simp only [Bool.not_false, condK_true]
  | true =>
    have hp := small_of hfew
    simp only [Bool.not_true, condK_false, S13 hp, obind, S15 hp, b_neq]
    by_cases he : errP p = 0
    · have hn := nice_of hp he
      have hi := inits_of he
      have heo : errP (ownP p) = 0 := he
      have hx : ∀ x ∈ L (lsO (simL p p.lo.n.toNat p.up.n.toNat)), (L x).length ≤ 1000 := by
        intro x hx
        rw [L_lsO] at hx
        obtain ⟨q, _, rfl⟩ := List.mem_map.1 hx
        show (2 : Nat) ≤ 1000
        omega
      have hl : (L (lsO (simL p p.lo.n.toNat p.up.n.toNat))).length ≤ 1000000 := by rw [lsO_len]; exact simL_len hn
      have hio : L (ownP p).lo.init = L p.lo.init := rfl
      simp only [S24_ok (nice_own hn) heo, S25_ok (nice_own hn) (inits_own hi) heo, simL_own, simB_own, hio, resI, ex0, ex1, ex3_0, ex3_1, ex3_2, obind, he, decide_true, Bool.not_true, condK_false, S26 hn hi, b_eql, guard_tt, load27, pr_all g0, omap, pureFn_fn, List.append_nil, S28 hn, S27 hl hx, pickV_true, b_eql4, beq_self_eq_true]
    · have heo : errP (ownP p) ≠ 0 := he
      have heq : errP (ownP p) = errP p := rfl
      simp only [S24_bad (small_own hp) heo, S25_bad (small_own hp) heo, heq, resI, ex0, ex1, ex3_0, ex3_1, ex3_2, obind, he, decide_false, Bool.not_false, condK_true, b_eql, decide_true, guard_tt, pickV_true, len51_nil, not_bool]

theorem call5 (hawake : ∀ σ, pureV CC 10 [] σ = some (.p (.bool true))) (p : Pair) : ∃ σ', CC 0 5 [.agg (ePair p)] [] = some (.p (.bool true), σ') := by
  obtain ⟨σ', h⟩ := law5 hawake p
  exact ⟨σ', F5_call h⟩

end
end Go.D
end
/- RefineSimulations: for every pair the law answers true and leaves its argument as it was: the given statement, without conditions. -/
section
set_option linter.unusedVariables false
set_option linter.unusedSimpArgs false
set_option maxRecDepth 100000
namespace Go.D
open Go.ChangeShapes Go.WideShapes Go.ChangeAt Go.RowKit

theorem refineSimulations_calls (hawake : Awake) {H : Type} {enc : TypeId × Value → H} {W : World} {base : Nat} {args : Array Value} {ds : List (DataW H)} {ps : List MemPlace}
    (hval : ∀ (j : Nat) t v, ([27] : List TypeId).toArray[j]? = some t → args[j]? = some v → Value.okWide PP W .any base t v)
    (hA : DataW.TrodAll enc PP W 0 (fun _ => true) true [27] args.toList ds ps) :
    Calls PP 5 args W fun e W' => e = .returned (.bool true) ∧ Below W.heap.size W W' := by
  obtain ⟨v0, d0, rfl, rfl, h0⟩ := trodAll_one hA
  obtain ⟨p, hp⟩ := read_pair (hval 0 27 v0 rfl rfl) h0
  obtain ⟨σ', hc⟩ := call5 hawake p
  refine calls_of hc ⟨rfl, fun j h1 h2 => ?_⟩
  match j, h1 with
  | 0, _ => exact hp

end Go.D
namespace Go.Proofs.Ythmgennimcjlpaa
open Go.D Go.ChangeShapes Go.WideShapes Go.ChangeAt Go.RowKit

set_option maxRecDepth 100000 in
theorem refineSimulations_lifted (hawake : Awake) (os : Os) (started : os.Started) (H : Type) (enc : TypeId × Value → H) :
    ReturnsInHanded {} Try.checked os 5 .any (Rows.refineSimulationsSpec.pre6 enc Try.prog Try.f5 Rows.refineSimulationsRow.domain false) (Rows.refineSimulationsSpec.post enc Try.prog Try.f5 false true false false) := by
  refine returnsInHanded_of_change_sized (C := Try.checked) own_ok started (by kernel_rfl) Try.func5
    (ChangeSpec.witness6 (enc := enc) (C := Try.checked) false ⟨#[], #[.agg #[.int .i64 0, .slice none 0 0, .slice none 0 0, .int .i64 0, .slice none 0 0, .slice none 0 0, .slice none 0 0, .slice none 0 0]], []⟩ 8 (by kernel_rfl) (by kernel_rfl) (by kernel_rfl) (by kernel_rfl)) ?_
  intro W base args ds gs before hval0 hW _ hsz0 _
  have hval : ∀ (j : Nat) t v, Try.f5.params[j]? = some t → args[j]? = some v → Value.okWide Try.prog W .any base t v := hval0
  have hW' := hW
  obtain ⟨p, q, hA0, hV, rfl, _, _⟩ := hW
  have hA : DataW.TrodAll enc Try.prog W 0 (fun _ => true) true Try.f5.params.toList args.toList ds p := hA0
  rw [Try.params5] at hA hval
  have hA2 := hA
  obtain ⟨v0, d0, rfl, rfl, h0⟩ := trodAll_one hA
  obtain ⟨rfl, rfl⟩ := trodVars_none hV
  have hlt : ∀ x ∈ p, x.block < W.heap.size := fun x hx => by
    have := hW'.lt x (by simpa using hx)
    exact this
  refine (refineSimulations_calls hawake (base := base) hval hA2).mono ?_
  rintro e W2 ⟨rfl, hnx⟩
  refine ⟨_, rfl, _, _, _, [], p, [], hW', ?_, ?_, rfl, hnx.frame _, fun h => by cases h⟩
  · exact trodAll_mk1 (shut_bool ul4 true)
  · exact trodAll_mk1 (Below.trod laidOut_ok (by kernel_rfl) (of_decide_eq_true (by kernel_rfl)) h0 hnx fun x hx => hlt x hx)

theorem refineSimulations_holds : Rows.RefineSimulationsSaid :=
  OpenClaim.holds_of_wide 5 Try.f5 rfl rfl rfl rfl rfl rfl rfl ⟨rfl, rfl, rfl, rfl, rfl⟩ rfl rfl rfl rfl rfl (by kernel_rfl) Try.func5 (by kernel_rfl)
    (of_decide_eq_true (by kernel_rfl)) (by unfold Func.isWrapper; first | (rw [if_pos (by decide +kernel)]; kernel_rfl) | (rw [if_neg (by decide +kernel)]; exact ⟨rfl, rfl⟩))
    (fun os started H enc _ => refineSimulations_lifted awake_true os started H enc)

end Go.Proofs.Ythmgennimcjlpaa
end
