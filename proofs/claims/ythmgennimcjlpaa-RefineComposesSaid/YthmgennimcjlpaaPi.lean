/- ranked: the rounds, up to the one that changes nothing. -/
import Derived.Test.YthmgennimcjlpaaPh
import Derived.Test.YthmgennimcjlpaaPc
section
set_option linter.unusedVariables false
set_option linter.unusedSimpArgs false
namespace Go.D

def FD (f0 : RF) (k : Int) (D : Nat → Nat → Bool) : RF := fun s u => if f0 s u = -1 ∧ D s u = true then k else f0 s u

theorem S86 {n q t v : Nat} {σ : Store} {R : Nat} {rs : List Nat} {f : RF} {k : Int} (hI : RInv n σ R rs f) (hq : σ[q]? = some (.mix [.p (pI k)])) (ht : t < rs.length) (hv : v < n) :
    pureV CC 86 [.p (pI (t : Nat)), .p (pI (v : Nat)), .ptr 0 0, .ptr q 0] σ = some (.p (.bool (openAt f k t v))) := by
  refine pureV_rows rfl rfl (F86_call (r := (.p (.bool (openAt f k t v)), σ)) ?_) rfl
  obtain ⟨h1, h2, h3⟩ := hI.load ht hv
  rw [F86_eq]
  simp only [load101, h1, obind, idx101_r ht, Nat.zero_add, load22, h2, rowV, idx22_r hv, load3, h3, b_eql, openAt]
  cases e : decide (f t v = -1) with
  | true => simp only [guard_tf, guard_sk, obind, pickV_true, Bool.true_or]
  | false => simp only [guard_ff, obind, idx101_r ht, Nat.zero_add, h2, rowV, idx22_r hv, h3, load1_ptr (off := 0) hq rfl, b_geq, pickV_false, Bool.false_or]

theorem openAt_FD (f0 : RF) (k : Int) (D : Nat → Nat → Bool) (t v : Nat) : openAt (FD f0 k D) k t v = openAt f0 k t v := by
  unfold openAt FD
  by_cases h : f0 t v = -1 ∧ D t v = true
  · rw [if_pos h, h.1]; simp
  · rw [if_neg h]
theorem ansF_FD (p : Pair) (n : Nat) (f0 : RF) (k : Int) (D : Nat → Nat → Bool) (t u : Nat) : ansF p n (FD f0 k D) k t u = ansF p n f0 k t u := by
  unfold ansF
  simp only [openAt_FD]

/-- Something has changed. -/
def Chg (n m : Nat) (f0 f : RF) (a : Bool) : Prop := a = true ↔ ∃ s u, s < m ∧ u < n ∧ f s u ≠ f0 s u
theorem Chg.congr {n m : Nat} {f0 f f' : RF} {a : Bool} (h : Chg n m f0 f a) (he : ∀ s u, s < m → u < n → f s u = f' s u) : Chg n m f0 f' a := by
  refine h.trans ⟨?_, ?_⟩
  · rintro ⟨s, u, h1, h2, h3⟩; exact ⟨s, u, h1, h2, by rw [← he s u h1 h2]; exact h3⟩
  · rintro ⟨s, u, h1, h2, h3⟩; exact ⟨s, u, h1, h2, by rw [he s u h1 h2]; exact h3⟩

section
variable {p : Pair} {n m : Nat}

def Dj (p : Pair) (n : Nat) (f0 : RF) (k : Int) (D : Nat → Nat → Bool) (s t j : Nat) : Nat → Nat → Bool := fun a c => D a c || (decide (a = s) && decide (c < j) && !ansF p n f0 k t c)

theorem FD_keep {f0 : RF} {k : Int} {D : Nat → Nat → Bool} {s t j : Nat} (h : FD f0 k (Dj p n f0 k D s t j) s j ≠ -1 ∨ ansF p n f0 k t j = true) : FD f0 k (Dj p n f0 k D s t (j + 1)) = FD f0 k (Dj p n f0 k D s t j) := by
  funext a c
  by_cases hac : a = s ∧ c = j
  · obtain ⟨rfl, rfl⟩ := hac
    have e1 : Dj p n f0 k D a t (c + 1) a c = (D a c || !ansF p n f0 k t c) := by simp [Dj]
    have e2 : Dj p n f0 k D a t c a c = D a c := by simp [Dj]
    unfold FD at h ⊢
    rw [e2] at h
    rw [e1, e2]
    rcases h with h | h
    · by_cases h0 : f0 a c = -1
      · by_cases hd : D a c = true
        · simp [h0, hd]
        · rw [if_neg (fun hh => hd hh.2)] at h
          exact absurd h0 h
      · simp [h0]
    · simp [h]
  · have e : Dj p n f0 k D s t (j + 1) a c = Dj p n f0 k D s t j a c := by
      unfold Dj
      by_cases ha : a = s
      · have hc : ¬ c = j := fun h => hac ⟨ha, h⟩
        have : decide (c < j + 1) = decide (c < j) := by simp only [decide_eq_decide]; omega
        rw [this]
      · simp [ha]
    unfold FD
    rw [e]
theorem FD_upd {f0 : RF} {k : Int} {D : Nat → Nat → Bool} {s t j : Nat} (h0 : f0 s j = -1) (ha : ansF p n f0 k t j = false) : FD f0 k (Dj p n f0 k D s t (j + 1)) = upd (FD f0 k (Dj p n f0 k D s t j)) s j k := by
  funext a c
  unfold upd
  by_cases hac : a = s ∧ c = j
  · rw [if_pos hac]
    obtain ⟨rfl, rfl⟩ := hac
    have e1 : Dj p n f0 k D a t (c + 1) a c = true := by simp [Dj, ha]
    unfold FD
    rw [e1, if_pos ⟨h0, rfl⟩]
  · rw [if_neg hac]
    have e : Dj p n f0 k D s t (j + 1) a c = Dj p n f0 k D s t j a c := by
      unfold Dj
      by_cases ha : a = s
      · have hc : ¬ c = j := fun h => hac ⟨ha, h⟩
        have : decide (c < j + 1) = decide (c < j) := by simp only [decide_eq_decide]; omega
        rw [this]
      · simp [ha]
    unfold FD
    rw [e]
theorem FD_neg {f0 : RF} {k : Int} {D : Nat → Nat → Bool} {s u : Nat} (hk : 1 ≤ k) (h : FD f0 k D s u = -1) : f0 s u = -1 := by
  unfold FD at h
  split at h
  · omega
  · exact h

theorem L58_4 (hp : Nice p n m) {R : Nat} {rs : List Nat} {f0 : RF} {q b : Nat} {k : Int} {e : Edg} {s t : Nat} (hes : e.f = (s : Nat)) (het : e.t = (t : Nat)) (hs : s < m) (ht : t < m) (hrs : rs.length = m) (hk : 1 ≤ k) {i : Nat} {D : Nat → Nat → Bool} :
    ∀ (d j : Nat) (a : Bool) (σ : Store), n - j = d → j ≤ n → RInv n σ R rs (FD f0 k (Dj p n f0 k D s t j)) → σ[q]? = some (.mix [.p (pI k)]) → σ[b]? = some (.mix (edgD e)) → Chg n m f0 (FD f0 k (Dj p n f0 k D s t j)) a →
      ∃ σ' a', RInv n σ' R rs (FD f0 k (Dj p n f0 k D s t n)) ∧ σ'[q]? = some (.mix [.p (pI k)]) ∧ Chg n m f0 (FD f0 k (Dj p n f0 k D s t n)) a' ∧
        f58_L4 guardT 0 (.pptr (graphsV p n) 0) (.ptr 0 0) (.ptr q 0) (.p (.bool a)) (.fn 86 [.ptr 0 0, .ptr q 0]) (.ptr b 0) (.p (eEs p.lo.edges)) (.p (pI ((L p.lo.edges).length : Nat))) (.p (pI (i : Nat))) (.p (pI (n : Nat))) (.p (pI (j : Nat))) σ =
        f58_L4 guardT 0 (.pptr (graphsV p n) 0) (.ptr 0 0) (.ptr q 0) (.p (.bool a')) (.fn 86 [.ptr 0 0, .ptr q 0]) (.ptr b 0) (.p (eEs p.lo.edges)) (.p (pI ((L p.lo.edges).length : Nat))) (.p (pI (i : Nat))) (.p (pI (n : Nat))) (.p (pI (n : Nat))) σ'
  | 0, j, a, σ, hd, hj, hI, hq, hb, hc => by
    have : j = n := by omega
    subst this
    exact ⟨σ, a, hI, hq, hc, rfl⟩
  | d + 1, j, a, σ, hd, hj, hI, hq, hb, hc => by
    have h : j < n := by omega
    have h' : (j : Int) < (n : Nat) := by omega
    have hn2 := hp.n2
    have w : IntKind.wrap .i64 ((j : Int) + 1) = ((j + 1 : Nat) : Int) := wrap_succ (by omega)
    have hs' : s < rs.length := by omega
    obtain ⟨l1, l2, l3⟩ := hI.load hs' h
    have hb0 : load1 (.ptr b 0) σ = some (.p (pI (s : Nat))) := by rw [← hes]; exact load1_ptr hb rfl
    have hb1 : load1 (.ptr b 1) σ = some (.p (pI (t : Nat))) := by rw [← het]; exact load1_ptr hb rfl
    have hS : pureV CC 66 [.pptr (graphsV p n) 0, .p (pI (t : Nat)), .p (pI (j : Nat)), .fn 86 [.ptr 0 0, .ptr q 0]] σ = some (.p (.bool (ansF p n f0 k t j))) := by
      rw [← ansF_FD p n f0 k (Dj p n f0 k D s t j)]
      refine S66 hp.un h hp.n2 rfl fun σ0 hat v hv => ?_
      rcases hat with ⟨_, hf⟩ | rfl
      · exact absurd hf (by simp [rowFree1])
      · exact S86 hI hq (by omega) hv
    rw [f58_L4_eq guardT rfl]
    simp only [b_lss, obind, h', decide_true, condK_true, load101, l1, fa100_0, fa100_1, shift_ptr, Nat.zero_add, load3, hb0, idx101_r hs', load22, l2]
    simp only [rowV, idx22_r h, obind, Nat.zero_add, l3, b_eql]
    cases e1 : decide (FD f0 k (Dj p n f0 k D s t j) s j = -1) with
    | false =>
      simp only [guard_ft, guard_sk, obind, pickV_false, condK_false, f58_J1_eq, b_add, w]
      have hkeep := FD_keep (p := p) (n := n) (f0 := f0) (k := k) (D := D) (s := s) (t := t) (j := j) (.inl (by simpa using e1))
      rw [← hkeep] at hI hc
      exact L58_4 hp hes het hs ht hrs hk d (j + 1) a σ (by omega) (by omega) hI hq hb hc
    | true =>
      simp only [guard_tt, hb1, obind, pureFn_fn, List.append_nil, hS, not_bool, pickV_true]
      cases e2 : ansF p n f0 k t j with
      | true =>
        simp only [Bool.not_true, condK_false, f58_J1_eq, b_add, obind, w]
        have hkeep := FD_keep (p := p) (n := n) (f0 := f0) (k := k) (D := D) (s := s) (t := t) (j := j) (.inr e2)
        rw [← hkeep] at hI hc
        exact L58_4 hp hes het hs ht hrs hk d (j + 1) a σ (by omega) (by omega) hI hq hb hc
      | false =>
        have hneg : FD f0 k (Dj p n f0 k D s t j) s j = -1 := by simpa using e1
        have h0 := FD_neg hk hneg
        have hupd := FD_upd (p := p) (n := n) (f0 := f0) (k := k) (D := D) (s := s) (t := t) (j := j) h0 e2
        have hI' := hI.set (u := j) hs' k
        have hst := st3i (b := k) (hI.row s hs') (t := j) (by rw [rowF_len]; exact h)
        rw [← hupd] at hI'
        simp only [Bool.not_false, condK_true, l1, hb0, l2, obind, idx101_r hs', rowV, load1_ptr (off := 0) hq rfl, idx22_r h, Nat.zero_add, hst, f58_J1_eq, b_add, w]
        refine L58_4 hp hes het hs ht hrs hk d (j + 1) true _ (by omega) (by omega) hI' (get_set_ne hq (hI.ne hs' hq)) (get_set_ne hb (hI.ne hs' hb)) ⟨fun _ => ⟨s, j, hs, h, ?_⟩, fun _ => rfl⟩
        rw [hupd, h0]
        simp [upd]
        omega

/-- What the steps before i refute in a round. -/
def Di (p : Pair) (n : Nat) (f0 : RF) (k : Int) (l : List Edg) : Nat → Nat → Bool := fun a c => l.any fun e => decide (e.f = (a : Nat)) && !ansF p n f0 k e.t.toNat c

theorem L58_3 (hp : Nice p n m) {R : Nat} {rs : List Nat} {f0 : RF} {q : Nat} {k : Int} (hrs : rs.length = m) (hk : 1 ≤ k) :
    ∀ (d i : Nat) (a : Bool) (σ : Store), (L p.lo.edges).length - i = d → i ≤ (L p.lo.edges).length → RInv n σ R rs (FD f0 k (Di p n f0 k ((L p.lo.edges).take i))) → σ[q]? = some (.mix [.p (pI k)]) → Chg n m f0 (FD f0 k (Di p n f0 k ((L p.lo.edges).take i))) a →
      ∃ σ' a', RInv n σ' R rs (FD f0 k (Di p n f0 k (L p.lo.edges))) ∧ σ'[q]? = some (.mix [.p (pI k)]) ∧ Chg n m f0 (FD f0 k (Di p n f0 k (L p.lo.edges))) a' ∧
        f58_L3 guardT 0 (.pptr (graphsV p n) 0) (.ptr 0 0) (.ptr q 0) (.p (.bool a)) (.fn 86 [.ptr 0 0, .ptr q 0]) (.p (eEs p.lo.edges)) (.p (pI ((L p.lo.edges).length : Nat))) (.p (pI (i : Nat))) σ =
        f58_L3 guardT 0 (.pptr (graphsV p n) 0) (.ptr 0 0) (.ptr q 0) (.p (.bool a')) (.fn 86 [.ptr 0 0, .ptr q 0]) (.p (eEs p.lo.edges)) (.p (pI ((L p.lo.edges).length : Nat))) (.p (pI ((L p.lo.edges).length : Nat))) σ'
  | 0, i, a, σ, hd, hi, hI, hq, hc => by
    have : i = (L p.lo.edges).length := by omega
    subst this
    rw [List.take_length] at hI hc
    exact ⟨σ, a, hI, hq, hc, rfl⟩
  | d + 1, i, a, σ, hd, hi, hI, hq, hc => by
    have h : i < (L p.lo.edges).length := by omega
    have h' : (i : Int) < ((L p.lo.edges).length : Nat) := by omega
    have hle := hp.sm.le
    have w : IntKind.wrap .i64 ((i : Int) + 1) = ((i + 1 : Nat) : Int) := wrap_succ (by omega)
    obtain ⟨v1, v2, v3, v4⟩ := hp.ls _ (List.getElem_mem h)
    obtain ⟨s, hs⟩ : ∃ s : Nat, (L p.lo.edges)[i].f = (s : Nat) := ⟨_, (Int.toNat_of_nonneg v1).symm⟩
    obtain ⟨t, ht⟩ : ∃ t : Nat, (L p.lo.edges)[i].t = (t : Nat) := ⟨_, (Int.toNat_of_nonneg v3).symm⟩
    have e0 : Dj p n f0 k (Di p n f0 k ((L p.lo.edges).take i)) s t 0 = Di p n f0 k ((L p.lo.edges).take i) := by funext a c; simp [Dj]
    have en : ∀ a c, c < n → Dj p n f0 k (Di p n f0 k ((L p.lo.edges).take i)) s t n a c = Di p n f0 k ((L p.lo.edges).take (i + 1)) a c := by
      intro a c hcn
      have htn : (L p.lo.edges)[i].t.toNat = t := by omega
      have has : decide (a = s) = decide ((s : Int) = (a : Nat)) := by simp only [decide_eq_decide]; omega
      unfold Dj Di
      rw [List.take_succ_eq_append_getElem h, List.any_append]
      simp [hcn, hs, htn, has]
    have eF : ∀ a c, a < m → c < n → FD f0 k (Dj p n f0 k (Di p n f0 k ((L p.lo.edges).take i)) s t n) a c = FD f0 k (Di p n f0 k ((L p.lo.edges).take (i + 1))) a c := by
      intro a c _ hcn
      unfold FD
      rw [en a c hcn]
    rw [f58_L3_eq guardT rfl]
    simp only [b_lss, obind, h', decide_true, condK_true, idx23 h, load100, load100_D h, getD_at _ h, zero100, store_new100 σ (L p.lo.edges)[i] [.p (pI 0), .p (pI 0), .p (pI 0)] rfl, nil_pptr, fa118_0, fa27_1, fa25_0, shift_pptr, Nat.zero_add, Nat.add_zero, load3, load1_pptr (gv_3 p n), hp.un]
    obtain ⟨σ1, a1, h1, h2, h3, h4⟩ := L58_4 (i := i) (a := a) (j := 0) hp hs ht (by omega) (by omega) hrs hk n _ rfl (Nat.zero_le _) (by rw [e0]; exact hI.snoc (Row.mix (edgD (L p.lo.edges)[i]))) (get_old hq) get_snoc (by rw [e0]; exact hc)
    have h4' : f58_L4 guardT 0 (.pptr (graphsV p n) 0) (.ptr 0 0) (.ptr q 0) (.p (.bool a)) (.fn 86 [.ptr 0 0, .ptr q 0]) (.ptr σ.length 0) (.p (eEs p.lo.edges)) (.p (pI ((L p.lo.edges).length : Nat))) (.p (pI (i : Nat))) (.p (pI (n : Nat))) (.p (pI 0)) (σ ++ [Row.mix (edgD (L p.lo.edges)[i])]) = _ := h4
    have hnn : ¬ (n : Int) < (n : Nat) := by omega
    rw [h4', f58_L4_eq guardT rfl]
    simp only [b_lss, obind, hnn, decide_false, condK_false, b_add, w]
    exact L58_3 hp hrs hk d (i + 1) a1 σ1 (by omega) (by omega) (h1.congr fun a c ha hcn => eF a c (by omega) hcn) h2 (h3.congr fun a c ha hcn => eF a c ha hcn)

/-- The ranks after j rounds. -/
def rkF (p : Pair) (n : Nat) : Nat → RF
  | 0 => rk0 p
  | j + 1 => FD (rkF p n j) ((j + 1 : Nat) : Int) (Di p n (rkF p n j) ((j + 1 : Nat) : Int) (L p.lo.edges))
def pairsA (m n : Nat) : List (Nat × Nat) := (List.range m).flatMap fun s => (List.range n).map fun u => (s, u)
theorem mem_pairsA {m n : Nat} {q : Nat × Nat} : q ∈ pairsA m n ↔ q.1 < m ∧ q.2 < n := by
  obtain ⟨s, u⟩ := q
  simp [pairsA]
theorem pairsA_len (m n : Nat) : (pairsA m n).length = m * n := by
  simp [pairsA, List.length_flatMap, List.map_const', List.sum_replicate_nat]
def cntF (m n : Nat) (f : RF) : Nat := (pairsA m n).countP fun q => decide (f q.1 q.2 = -1)
theorem countP_lt {α : Type} {P Q : α → Bool} : ∀ {l : List α}, (∀ x ∈ l, P x = true → Q x = true) → (∃ x ∈ l, Q x = true ∧ P x = false) → l.countP P < l.countP Q
  | [], _, h => by obtain ⟨x, hx, _⟩ := h; simp at hx
  | a :: l, h1, h2 => by
    have hle : l.countP P ≤ l.countP Q := List.countP_mono_left fun x hx => h1 x (List.mem_cons_of_mem _ hx)
    simp only [List.countP_cons]
    obtain ⟨x, hx, h3, h4⟩ := h2
    rcases List.mem_cons.1 hx with rfl | hx
    · simp only [h3, h4, if_true, Bool.false_eq_true, if_false]; omega
    · have := countP_lt (P := P) (Q := Q) (fun x hx => h1 x (List.mem_cons_of_mem _ hx)) ⟨x, hx, h3, h4⟩
      have h5 := h1 a List.mem_cons_self
      cases hP : P a with
      | true => simp only [h5 hP, if_true]; omega
      | false => simp only [Bool.false_eq_true, if_false]; omega

/-- Nothing changes in the next round. -/
def StableF (p : Pair) (n m K : Nat) : Prop := ∀ s u, s < m → u < n → rkF p n (K + 1) s u = rkF p n K s u

theorem L58_2 (hp : Nice p n m) {rs : List Nat} {R : Nat} (hrs : rs.length = m) :
    ∀ (c j : Nat) (σ : Store) (q : Nat), cntF m n (rkF p n j) ≤ c → j + c ≤ 10000000 → RInv n σ R rs (rkF p n j) → σ[q]? = some (.mix [.p (pI ((j + 1 : Nat) : Int))]) →
      ∃ K σ', K ≤ j + c ∧ StableF p n m K ∧ RInv n σ' R rs (rkF p n K) ∧
        f58_L2 guardT 0 (.pptr (graphsV p n) 0) (.ptr 0 0) (.ptr q 0) (.p (.bool true)) σ = some (if rs = [] then .p .nilsl else .rsl R 1 0 rs.length, σ') := by
  intro c
  induction c with
  | zero =>
    intro j σ q hc hb hI hq
    have hI0 : RInv n σ R rs (FD (rkF p n j) ((j + 1 : Nat) : Int) (Di p n (rkF p n j) ((j + 1 : Nat) : Int) ((L p.lo.edges).take 0))) := by
      refine hI.congr fun s u _ _ => ?_
      simp [FD, Di]
    have hc0 : Chg n m (rkF p n j) (FD (rkF p n j) ((j + 1 : Nat) : Int) (Di p n (rkF p n j) ((j + 1 : Nat) : Int) ((L p.lo.edges).take 0))) false := by
      refine ⟨fun h => absurd h (by simp), fun ⟨s, u, _, _, h⟩ => absurd ?_ h⟩
      simp [FD, Di]
    obtain ⟨σ1, a1, h1, h2, h3, h4⟩ := L58_3 hp hrs (by omega) _ 0 false σ rfl (Nat.zero_le _) hI0 hq hc0
    have ha1 : a1 = false := by
      cases h : a1 with
      | false => rfl
      | true =>
        obtain ⟨s, u, hs, hu, hne⟩ := h3.1 h
        exfalso
        apply hne
        have hz : ¬ rkF p n j s u = -1 := by
          intro e
          have : 0 < cntF m n (rkF p n j) := List.countP_pos_iff.2 ⟨(s, u), mem_pairsA.2 ⟨hs, hu⟩, by simpa using e⟩
          omega
        unfold FD
        rw [if_neg fun hh => hz hh.1]
    subst ha1
    have hst : StableF p n m j := by
      intro s u hs hu
      by_cases e : rkF p n (j + 1) s u = rkF p n j s u
      · exact e
      · exact absurd (h3.2 ⟨s, u, hs, hu, e⟩) (by simp)
    have hlt : ¬ ((L p.lo.edges).length : Int) < ((L p.lo.edges).length : Nat) := by omega
    have wk : IntKind.wrap .i64 (((j + 1 : Nat) : Int) + 1) = ((j + 1 + 1 : Nat) : Int) := by rw [wrap_ok] <;> omega
    have hI2 := h1.snoc (.mix [.p (pI ((j + 1 + 1 : Nat) : Int))])
    have h4' : f58_L3 guardT 0 (.pptr (graphsV p n) 0) (.ptr 0 0) (.ptr q 0) (.p (.bool false)) (.fn 86 [.ptr 0 0, .ptr q 0]) (.p (eEs p.lo.edges)) (.p (pI ((L p.lo.edges).length : Nat))) (.p (pI 0)) σ = _ := h4
    refine ⟨j, σ1 ++ [.mix [.p (pI ((j + 1 + 1 : Nat) : Int))]], by omega, hst, hI2.congr fun s u hs hu => hst s u (by omega) hu, ?_⟩
    rw [f58_L2_eq guardT rfl]
    simp only [condK_true, nil_pptr, obind, fa118_0, fa27_0, fa25_2, shift_pptr, Nat.zero_add, Nat.add_zero, load23, load1_pptr (gv_2 p n), len23, h4']
    rw [f58_L3_eq guardT rfl]
    simp only [b_lss, obind, hlt, decide_false, condK_false, load3, load1_ptr (off := 0) h2 rfl, zero3, st3_new]
    have hx : load1 (.ptr σ1.length 0) (σ1 ++ [Row.mix [.p (pI ((j + 1 : Nat) : Int))]]) = some (.p (pI ((j + 1 : Nat) : Int))) := load1_ptr get_snoc rfl
    simp only [hx, obind, b_add, wk, st3_new]
    rw [f58_L2_eq guardT rfl]
    simp only [condK_false, load101, load1_ptr (off := 0) hI2.h0 rfl, obind]
  | succ c ih =>
    intro j σ q hc hb hI hq
    have hI0 : RInv n σ R rs (FD (rkF p n j) ((j + 1 : Nat) : Int) (Di p n (rkF p n j) ((j + 1 : Nat) : Int) ((L p.lo.edges).take 0))) := by
      refine hI.congr fun s u _ _ => ?_
      simp [FD, Di]
    have hc0 : Chg n m (rkF p n j) (FD (rkF p n j) ((j + 1 : Nat) : Int) (Di p n (rkF p n j) ((j + 1 : Nat) : Int) ((L p.lo.edges).take 0))) false := by
      refine ⟨fun h => absurd h (by simp), fun ⟨s, u, _, _, h⟩ => absurd ?_ h⟩
      simp [FD, Di]
    obtain ⟨σ1, a1, h1, h2, h3, h4⟩ := L58_3 hp hrs (by omega) _ 0 false σ rfl (Nat.zero_le _) hI0 hq hc0
    have hlt : ¬ ((L p.lo.edges).length : Int) < ((L p.lo.edges).length : Nat) := by omega
    have wk : IntKind.wrap .i64 (((j + 1 : Nat) : Int) + 1) = ((j + 1 + 1 : Nat) : Int) := by rw [wrap_ok] <;> omega
    have hI2 := h1.snoc (.mix [.p (pI ((j + 1 + 1 : Nat) : Int))])
    have h4' : f58_L3 guardT 0 (.pptr (graphsV p n) 0) (.ptr 0 0) (.ptr q 0) (.p (.bool false)) (.fn 86 [.ptr 0 0, .ptr q 0]) (.p (eEs p.lo.edges)) (.p (pI ((L p.lo.edges).length : Nat))) (.p (pI 0)) σ = _ := h4
    have hx : load1 (.ptr σ1.length 0) (σ1 ++ [Row.mix [.p (pI ((j + 1 : Nat) : Int))]]) = some (.p (pI ((j + 1 : Nat) : Int))) := load1_ptr get_snoc rfl
    have hbody : f58_L2 guardT 0 (.pptr (graphsV p n) 0) (.ptr 0 0) (.ptr q 0) (.p (.bool true)) σ = f58_L2 guardT 0 (.pptr (graphsV p n) 0) (.ptr 0 0) (.ptr σ1.length 0) (.p (.bool a1)) (σ1 ++ [.mix [.p (pI ((j + 1 + 1 : Nat) : Int))]]) := by
      rw [f58_L2_eq guardT rfl]
      simp only [condK_true, nil_pptr, obind, fa118_0, fa27_0, fa25_2, shift_pptr, Nat.zero_add, Nat.add_zero, load23, load1_pptr (gv_2 p n), len23, h4']
      rw [f58_L3_eq guardT rfl]
      simp only [b_lss, obind, hlt, decide_false, condK_false, load3, load1_ptr (off := 0) h2 rfl, zero3, st3_new, hx, b_add, wk]
    rw [hbody]
    cases ha : a1 with
    | false =>
      subst ha
      have hst : StableF p n m j := by
        intro s u hs hu
        by_cases e : rkF p n (j + 1) s u = rkF p n j s u
        · exact e
        · exact absurd (h3.2 ⟨s, u, hs, hu, e⟩) (by simp)
      refine ⟨j, _, by omega, hst, hI2.congr fun s u hs hu => hst s u (by omega) hu, ?_⟩
      rw [f58_L2_eq guardT rfl]
      simp only [condK_false, load101, load1_ptr (off := 0) hI2.h0 rfl, obind]
    | true =>
      obtain ⟨s, u, hs, hu, hne⟩ := h3.1 ha
      have hcl : cntF m n (rkF p n (j + 1)) < cntF m n (rkF p n j) := by
        refine countP_lt (fun q _ hq => ?_) ⟨(s, u), mem_pairsA.2 ⟨hs, hu⟩, ?_⟩
        · have h5 : rkF p n (j + 1) q.1 q.2 = -1 := by simpa using hq
          have : FD (rkF p n j) ((j + 1 : Nat) : Int) (Di p n (rkF p n j) ((j + 1 : Nat) : Int) (L p.lo.edges)) q.1 q.2 = -1 := h5
          simpa using FD_neg (by omega) this
        · have h0 : rkF p n j s u = -1 := by
            by_cases e : rkF p n j s u = -1
            · exact e
            · exact absurd (by unfold FD; rw [if_neg fun hh => e hh.1]) hne
          refine ⟨by simpa using h0, ?_⟩
          have : ¬ rkF p n (j + 1) s u = -1 := fun e => hne (e.trans h0.symm)
          simpa using this
      obtain ⟨K, σ', g1, g2, g3, g4⟩ := ih (j + 1) _ σ1.length (by omega) (by omega) hI2 get_snoc
      exact ⟨K, σ', by omega, g2, g3, g4⟩

/-! ### What ranked returns -/
def rowsO (m n : Nat) (f : RF) : Option (List OI) := if m = 0 then none else some ((List.range m).map fun s => some (rowF n (f s)))
theorem thaw_rowsI {σ : Store} {n d : Nat} : ∀ (rs : List Nat) (M : List (List Int)), M.length = rs.length → (∀ j (h : j < rs.length) (h2 : j < M.length), σ[rs[j]]? = some (.arr (eInts M[j]))) → (∀ r ∈ M, r.length = n) →
    mapO (thawP 0 σ (d + 1)) (rs.map (rowV n)) = some (M.map fun r => eSl (some r))
  | [], M, h1, h2, h3 => by
    have : M = [] := List.length_eq_zero_iff.1 h1
    subst this; rfl
  | r :: rs, [], h1, h2, h3 => by simp at h1
  | r :: rs, m :: M, h1, h2, h3 => by
    have hr := h2 0 (by simp) (by simp)
    have hm : m.length = n := h3 m List.mem_cons_self
    have ih := thaw_rowsI (σ := σ) (n := n) (d := d) rs M (by simpa using h1) (fun j a b => by have := h2 (j + 1) (by simpa using a) (by simpa using b); simpa using this) (fun r hr => h3 r (List.mem_cons_of_mem _ hr))
    simp only [List.getElem_cons_zero] at hr
    have ht : (List.take n (eInts m)) = eInts m := List.take_of_length_le (by rw [ints_length]; omega)
    have hle : n ≤ (eInts m).length := by rw [ints_length]; omega
    have h0 : thawP 0 σ (d + 1) (rowV n r) = some (eSl (some m)) := by
      simp [thawP, rowV, hr, hle, ht, loosens_ints, eSl, hm]
    simp only [List.map_cons, mapO, h0, ih]

theorem S58 (hp : Nice p n m) : ∃ K, K ≤ m * n ∧ StableF p n m K ∧ ∀ σ, pureV CC 58 [.pptr (graphsV p n) 0] σ = some (.p (eLs (rowsO m n (rkF p n K)))) := by
  have hI0 : RInv n [Row.mix [.p .nilsl]] 0 [] (rk0 p) :=
    ⟨rfl, fun h => absurd rfl h, fun j h => absurd h (by simp), List.nodup_nil, fun r h => absurd h (by simp), fun h => absurd rfl h⟩
  have hn2 := hp.n2
  have hm2 := hp.m2
  have hmn : m * n ≤ 1000 * 1000 := Nat.mul_le_mul hm2 hn2
  obtain ⟨σ1, R, rs, q, hrs, hI1, hq, hL0⟩ := L58_0 hp m 0 _ 0 [] (by omega) rfl (Nat.zero_le _) hI0
  have hcnt : cntF m n (rkF p n 0) ≤ m * n := by rw [← pairsA_len m n]; exact List.countP_le_length
  obtain ⟨K, σ2, hK, hst, hI2, hL2⟩ := L58_2 hp hrs (m * n) 0 σ1 q hcnt (by omega) hI1 hq
  refine ⟨K, by omega, hst, fun σ => ?_⟩
  refine pureV_any rfl fun lo σ0 hs => ?_
  rcases hs with ⟨rfl, rfl, _⟩ | ⟨_, _, h⟩
  case inr => exact absurd h (by simp [rowFree, rowFree1])
  refine ⟨if rs = [] then .p .nilsl else .rsl R 1 0 rs.length, σ2, F58_call ?_, ?_⟩
  · rw [F58_eq]
    simp only [zero101, obind, nil_pptr, fa118_0, fa27_0, fa25_0, shift_pptr, Nat.zero_add, Nat.add_zero, load3, load1_pptr (gv_0 p n), hp.ln, List.length_nil, List.nil_append]
    have e : f58_L0 guardT 0 (.pptr (graphsV p n) 0) (.ptr 0 0) (.p (pI (m : Nat))) (.p (pI 0)) [Row.mix [.p .nilsl]] = _ := hL0
    rw [e, hL2]
  · by_cases he : rs = []
    · have hm0 : m = 0 := by rw [← hrs, he]; rfl
      simp only [he, if_true, rowsO, hm0, eLs]
      rfl
    · obtain ⟨hR, hR2⟩ := hI2.hR he
      have hm0 : ¬ m = 0 := fun e => he (List.length_eq_zero_iff.1 (by omega))
      have ht := thaw_rowsI (σ := σ2) (n := n) (d := 2) rs ((List.range m).map fun s => rowF n (rkF p n K s)) (by simp [hrs]) (fun j h1 h2 => by rw [hI2.row j h1]; simp) (fun r hr => by simp at hr; obtain ⟨u, _, e⟩ := hr; rw [← e]; exact rowF_len _ _)
      have e1 : List.take (rs.length * 1) (List.drop 0 (rs.map (rowV n))) = rs.map (rowV n) := List.take_of_length_le (by simp)
      have e2 : 0 + rs.length * 1 ≤ (rs.map (rowV n)).length := by simp
      simp only [he, if_false, thawAll, thawPart, thaw, thaw1, thawP, Nat.zero_le, if_true, hR, e1, e2, ht, omap, rowsO, hm0, eLs]
      simp [hrs]

end
end Go.D
end
/- The greatest simulation, as what is left of all pairs, and as the pairs without rank. -/
section
set_option linter.unusedVariables false
set_option linter.unusedSimpArgs false
namespace Go.D

abbrev NP := Nat × Nat
def toPR (q : NP) : PR := ((q.1 : Nat), (q.2 : Nat))
def prs (l : List NP) : List PR := l.map toPR
def prN (q : NP) : OI := prO (toPR q)
def lsO (l : List NP) : Option (List OI) := if l = [] then none else some (l.map prN)
theorem L_lsO (l : List NP) : L (lsO l) = (prs l).map prO := by
  unfold lsO
  split
  · rename_i h; rw [h]; rfl
  · simp [prs, prN, List.map_map, Function.comp_def]
theorem lsO_len (l : List NP) : (L (lsO l)).length = l.length := by rw [L_lsO]; simp [prs]
theorem prs_len' (l : List NP) : (prs l).length = l.length := by simp [prs]

theorem anyFrom_iff (q : Nat → Bool) : ∀ d v, anyFrom q v d = true ↔ ∃ w, v ≤ w ∧ w < v + d ∧ q w = true
  | 0, v => by simp [anyFrom]; omega
  | d + 1, v => by
    unfold anyFrom
    rw [Bool.or_eq_true, anyFrom_iff q d (v + 1)]
    constructor
    · rintro (h | ⟨w, h1, h2, h3⟩)
      · exact ⟨v, Nat.le_refl _, by omega, h⟩
      · exact ⟨w, by omega, by omega, h3⟩
    · rintro ⟨w, h1, h2, h3⟩
      by_cases e : w = v
      · subst e; exact .inl h3
      · exact .inr ⟨w, by omega, by omega, h3⟩
theorem anyFrom_congr {q q' : Nat → Bool} {n : Nat} (h : ∀ v, v < n → q v = q' v) : anyFrom q 0 n = anyFrom q' 0 n := by
  rw [Bool.eq_iff_iff, anyFrom_iff, anyFrom_iff]
  constructor
  · rintro ⟨w, h1, h2, h3⟩; exact ⟨w, h1, h2, by rw [← h w (by omega)]; exact h3⟩
  · rintro ⟨w, h1, h2, h3⟩; exact ⟨w, h1, h2, by rw [h w (by omega)]; exact h3⟩

theorem hasP_iff {l : List NP} {t v : Nat} : hasP (prs l) (t : Nat) (v : Nat) = true ↔ (t, v) ∈ l := by
  simp only [hasP, prs, toPR, List.any_map, List.any_eq_true, Function.comp, Bool.and_eq_true, decide_eq_true_eq]
  constructor
  · rintro ⟨⟨a, b⟩, h1, h2, h3⟩
    have e1 : a = t := by have := of_decide_eq_true h2; exact Int.ofNat.inj this
    have e2 : b = v := by have := of_decide_eq_true h3; exact Int.ofNat.inj this
    rw [← e1, ← e2]; exact h1
  · intro h
    exact ⟨(t, v), h, decide_eq_true rfl, decide_eq_true rfl⟩

section
variable {p : Pair} {n m : Nat}

def al (p : Pair) (m n : Nat) : Nat → List NP
  | 0 => pairsA m n
  | k + 1 => (al p m n k).filter fun q => keepP p (prs (al p m n k)) n (q.1 : Nat) (q.2 : Nat)
theorem al_sub : ∀ k, ∀ q ∈ al p m n k, q.1 < m ∧ q.2 < n
  | 0, q, h => mem_pairsA.1 h
  | k + 1, q, h => al_sub k q (List.mem_filter.1 h).1
theorem al_len : ∀ k, (al p m n k).length ≤ m * n
  | 0 => by simp [al, pairsA_len]
  | k + 1 => Nat.le_trans (List.length_filter_le _ _) (al_len k)
theorem al_fix {k : Nat} (h : al p m n (k + 1) = al p m n k) : ∀ j, al p m n (k + j) = al p m n k
  | 0 => rfl
  | j + 1 => by
    have ih := al_fix h j
    show (al p m n (k + j)).filter (fun q => keepP p (prs (al p m n (k + j))) n (q.1 : Nat) (q.2 : Nat)) = _
    rw [ih]
    exact h
theorem al_len_fix {k : Nat} (h : (al p m n (k + 1)).length = (al p m n k).length) : al p m n (k + 1) = al p m n k := by
  show (al p m n k).filter _ = _
  rw [List.filter_eq_self]
  exact List.length_filter_eq_length_iff.1 h

theorem rk_le (p : Pair) (n : Nat) : ∀ j s u, rkF p n j s u ≤ j
  | 0, s, u => by unfold rkF rk0; split <;> omega
  | j + 1, s, u => by
    have := rk_le p n j s u
    unfold rkF FD
    split
    · omega
    · omega
theorem rk_ge (p : Pair) (n : Nat) : ∀ j s u, rkF p n j s u ≥ -1
  | 0, s, u => by unfold rkF rk0; split <;> omega
  | j + 1, s, u => by
    have := rk_ge p n j s u
    unfold rkF FD
    split
    · omega
    · omega
theorem rk_neg {j s u : Nat} (h : rkF p n (j + 1) s u = -1) : rkF p n j s u = -1 := FD_neg (by omega) h
theorem rk_lab : ∀ {j s u : Nat}, rkF p n j s u = -1 → labOk p (s : Nat) (u : Nat) = true
  | 0, s, u, h => by
    unfold rkF rk0 at h
    split at h
    · rename_i e
      simpa [labOk] using e
    · omega
  | j + 1, s, u, h => rk_lab (rk_neg h)
theorem open_rk {j t v : Nat} : openAt (rkF p n j) ((j + 1 : Nat) : Int) t v = decide (rkF p n j t v = -1) := by
  have := rk_le p n j t v
  unfold openAt
  have e : decide (rkF p n j t v ≥ ((j + 1 : Nat) : Int)) = false := by simp; omega
  rw [e, Bool.or_false]

theorem al_rk (hp : Nice p n m) : ∀ j, al p m n (j + 1) = (pairsA m n).filter fun q => decide (rkF p n j q.1 q.2 = -1)
  | 0 => by
    show (pairsA m n).filter _ = _
    refine List.filter_congr fun q hq => ?_
    obtain ⟨h1, h2⟩ := mem_pairsA.1 hq
    have hm : ∀ e ∈ L p.lo.edges, keepE p (prs (pairsA m n)) n (q.1 : Nat) (q.2 : Nat) e = true := by
      intro e he
      obtain ⟨v1, v2, v3, v4⟩ := hp.ls e he
      have hmt : matchP p (prs (pairsA m n)) n e.t (q.2 : Nat) = true := by
        unfold matchP
        rw [anyFrom_iff]
        refine ⟨q.2, Nat.zero_le _, by omega, ?_⟩
        have hh : hasP (prs (pairsA m n)) (e.t.toNat : Nat) (q.2 : Nat) = true := hasP_iff.2 (mem_pairsA.2 ⟨by show e.t.toNat < m; omega, h2⟩)
        have ht : ((e.t.toNat : Nat) : Int) = e.t := by omega
        rw [ht] at hh
        rw [hh]
        simp [follows]
      unfold keepE
      rw [hmt, Bool.or_true]
    have : keepP p (prs (al p m n 0)) n (q.1 : Nat) (q.2 : Nat) = labOk p (q.1 : Nat) (q.2 : Nat) := by
      show (labOk p (q.1 : Nat) (q.2 : Nat) && (L p.lo.edges).all (keepE p (prs (pairsA m n)) n (q.1 : Nat) (q.2 : Nat))) = _
      rw [List.all_eq_true.2 hm, Bool.and_true]
    rw [this]
    unfold labOk rkF rk0
    simp only [Int.toNat_natCast]
    by_cases e : (L p.ll).getD q.1 0 = (L p.ul).getD q.2 0
    · rw [if_pos e, decide_eq_true e]; rfl
    · rw [if_neg e, decide_eq_false e]; rfl
  | j + 1 => by
    have ih := al_rk hp j
    show (al p m n (j + 1)).filter _ = _
    rw [ih, List.filter_filter]
    refine List.filter_congr fun q hq => ?_
    obtain ⟨h1, h2⟩ := mem_pairsA.1 hq
    have hmem : ∀ t v, t < m → v < n → hasP (prs ((pairsA m n).filter fun q => decide (rkF p n j q.1 q.2 = -1))) (t : Nat) (v : Nat) = decide (rkF p n j t v = -1) := by
      intro t v ht hv
      rw [Bool.eq_iff_iff, hasP_iff, List.mem_filter]
      simp [mem_pairsA, ht, hv]
    have hans : ∀ e ∈ L p.lo.edges, matchP p (prs ((pairsA m n).filter fun q => decide (rkF p n j q.1 q.2 = -1))) n e.t (q.2 : Nat) = ansF p n (rkF p n j) ((j + 1 : Nat) : Int) e.t.toNat q.2 := by
      intro e he
      obtain ⟨v1, v2, v3, v4⟩ := hp.ls e he
      have ht : ((e.t.toNat : Nat) : Int) = e.t := by omega
      unfold matchP ansF
      refine anyFrom_congr fun v hv => ?_
      rw [open_rk, ← hmem e.t.toNat v (by omega) hv, ht]
    by_cases h0 : rkF p n j q.1 q.2 = -1
    · have hlab := rk_lab h0
      have hk : keepP p (prs ((pairsA m n).filter fun q => decide (rkF p n j q.1 q.2 = -1))) n (q.1 : Nat) (q.2 : Nat) = !Di p n (rkF p n j) ((j + 1 : Nat) : Int) (L p.lo.edges) q.1 q.2 := by
        unfold keepP Di
        rw [hlab, Bool.true_and, List.not_any_eq_all_not]
        rw [Bool.eq_iff_iff, List.all_eq_true, List.all_eq_true]
        have each : ∀ e ∈ L p.lo.edges, keepE p (prs ((pairsA m n).filter fun q => decide (rkF p n j q.1 q.2 = -1))) n (q.1 : Nat) (q.2 : Nat) e = !(decide (e.f = (q.1 : Nat)) && !ansF p n (rkF p n j) ((j + 1 : Nat) : Int) e.t.toNat q.2) := by
          intro e he
          unfold keepE
          rw [hans e he]
          cases decide (e.f = (q.1 : Nat)) <;> simp
        constructor
        · intro h e he; rw [← each e he]; exact h e he
        · intro h e he; rw [each e he]; exact h e he
      rw [hk]
      show (_ && decide (rkF p n j q.1 q.2 = -1)) = decide (FD (rkF p n j) ((j + 1 : Nat) : Int) (Di p n (rkF p n j) ((j + 1 : Nat) : Int) (L p.lo.edges)) q.1 q.2 = -1)
      unfold FD
      cases hd : Di p n (rkF p n j) ((j + 1 : Nat) : Int) (L p.lo.edges) q.1 q.2 with
      | true =>
        rw [if_pos ⟨h0, rfl⟩]
        simp
        omega
      | false =>
        rw [if_neg (fun hh => absurd hh.2 (by simp))]
        simp [h0]
    · have h1 : decide (rkF p n j q.1 q.2 = -1) = false := by simpa using h0
      have h2 : decide (rkF p n (j + 1) q.1 q.2 = -1) = false := by
        have : ¬ rkF p n (j + 1) q.1 q.2 = -1 := fun e => h0 (rk_neg e)
        simpa using this
      rw [h1, h2, Bool.and_false]

/-- Stable ranks: nothing changes ever. -/
theorem al_stable (hp : Nice p n m) {K : Nat} (h : StableF p n m K) : al p m n (K + 2) = al p m n (K + 1) := by
  rw [al_rk hp, al_rk hp]
  refine List.filter_congr fun q hq => ?_
  obtain ⟨h1, h2⟩ := mem_pairsA.1 hq
  rw [h _ _ h1 h2]
theorem rk_stable (hp : Nice p n m) {K : Nat} (h : StableF p n m K) : ∀ j s u, s < m → u < n → rkF p n (K + j) s u = rkF p n K s u
  | 0, s, u, _, _ => rfl
  | j + 1, s, u, hs, hu => by
    have ih := rk_stable hp h j s u hs hu
    have hf := al_fix (al_stable hp h)
    have e1 : al p m n (K + j + 1) = al p m n (K + 1) := by have := hf j; rwa [show K + 1 + j = K + j + 1 by omega] at this
    have e2 : al p m n (K + j + 1 + 1) = al p m n (K + 1) := by have := hf (j + 1); rwa [show K + 1 + (j + 1) = K + j + 1 + 1 by omega] at this
    rw [← ih]
    show FD (rkF p n (K + j)) ((K + j + 1 : Nat) : Int) _ s u = _
    unfold FD
    split
    · rename_i hc
      exfalso
      have hin : (s, u) ∈ al p m n (K + j + 1) := by
        rw [al_rk hp]
        exact List.mem_filter.2 ⟨mem_pairsA.2 ⟨hs, hu⟩, by simpa using hc.1⟩
      rw [e1, ← e2, al_rk hp] at hin
      have := (List.mem_filter.1 hin).2
      have h3 : rkF p n (K + j + 1) s u = -1 := by simpa using this
      have h4 : rkF p n (K + j + 1) s u = ((K + j + 1 : Nat) : Int) := by
        show FD (rkF p n (K + j)) ((K + j + 1 : Nat) : Int) _ s u = _
        unfold FD
        exact if_pos hc
      omega
    · rfl

/-- The ranks in the end; the greatest simulation. -/
def rkE (p : Pair) (m n : Nat) : RF := rkF p n (m * n)
def simL (p : Pair) (m n : Nat) : List NP := al p m n (m * n + 1)
theorem simL_rk (hp : Nice p n m) : simL p m n = (pairsA m n).filter fun q => decide (rkE p m n q.1 q.2 = -1) := al_rk hp _
theorem rowsO_congr {f f' : RF} (h : ∀ s u, s < m → u < n → f s u = f' s u) : rowsO m n f = rowsO m n f' := by
  unfold rowsO
  split
  · rfl
  · congr 1
    refine List.map_congr_left fun s hs => ?_
    rw [rowF_congr fun u hu => h s u (List.mem_range.1 hs) hu]
theorem stable_mn (hp : Nice p n m) : StableF p n m (m * n) := by
  obtain ⟨K, hK, hst, _⟩ := S58 hp
  intro s u hs hu
  have h1 := rk_stable hp hst (m * n - K) s u hs hu
  have h2 := rk_stable hp hst (m * n - K + 1) s u hs hu
  rw [show K + (m * n - K) = m * n by omega] at h1
  rw [show K + (m * n - K + 1) = m * n + 1 by omega] at h2
  rw [h1, h2]
theorem S58' (hp : Nice p n m) (σ : Store) : pureV CC 58 [.pptr (graphsV p n) 0] σ = some (.p (eLs (rowsO m n (rkE p m n)))) := by
  obtain ⟨K, hK, hst, h⟩ := S58 hp
  rw [h σ]
  have : rowsO m n (rkF p n K) = rowsO m n (rkE p m n) := by
    refine rowsO_congr fun s u hs hu => ?_
    have h1 := rk_stable hp hst (m * n - K) s u hs hu
    rw [show K + (m * n - K) = m * n by omega] at h1
    exact h1.symm
  rw [this]
theorem simL_of_len (hp : Nice p n m) {k : Nat} (h : (al p m n (k + 1)).length = (al p m n k).length) : al p m n k = simL p m n := by
  have h1 := al_fix (al_len_fix h) (m * n + 1)
  have h2 := al_fix (al_stable hp (stable_mn hp)) k
  unfold simL
  rw [← h1, ← h2]
  congr 1
  omega

end
end Go.D
end
/- Lists of pairs that are built: all, Simulation, SimulationOf. -/
section
set_option linter.unusedVariables false
set_option linter.unusedSimpArgs false
namespace Go.D

theorem bs22p (x y : Int) (σ : Store) : buildSlice PP none 22 2 [(0, .p (pI x)), (1, .p (pI y))] σ = some (.p (.sl true 2 (eInts [x, y])), σ) := Eq.trans (by kernel_rfl) rfl
def cE (q : NP) : PV := .sl true 2 (eInts [(q.1 : Nat), (q.2 : Nat)])
def cN (q : NP) : PV := eSl (prN q)
theorem loosens_cE (l : List NP) : loosens (l.map cE) = (l.map prN).map eSl := by
  induction l with
  | nil => rfl
  | cons a l ih => simp only [List.map_cons, loosens, ih]; rfl
theorem loosens_cN (l : List NP) : loosens (l.map cN) = (l.map prN).map eSl := by
  have : l.map cN = (l.map prN).map eSl := by simp [cN]
  rw [this, loosens_ls]
theorem map_cN (l : List NP) : l.map cN = (l.map prN).map eSl := by simp [cN]
theorem eLs_lsO (l : List NP) : eLs (lsO l) = if l.length = 0 then .nilsl else .sl false l.length ((l.map prN).map eSl) := by
  unfold lsO
  by_cases h : l = []
  · subst h; rfl
  · have : ¬ l.length = 0 := fun e => h (List.length_eq_zero_iff.1 e)
    rw [if_neg h, if_neg this]
    simp [eLs]

/-- A list of pairs as it stands in a variable. -/
def LV (l : List NP) (x : DV) : Prop := x = .p (eLs (lsO l)) ∨ (l ≠ [] ∧ ∃ r ver, x = .osl r ver 1 l.length (l.map cN))
theorem LV.of_out {σ : Store} {lo : Nat} {l : List NP} {x : DV} (h : Out σ lo 1 l.length (l.map cN) x) : LV l x := by
  rcases h.2 with ⟨h1, rfl⟩ | ⟨h1, r, ver, rfl, _, _⟩
  · have : l = [] := List.length_eq_zero_iff.1 h1
    subst this
    exact .inl rfl
  · exact .inr ⟨fun e => h1 (by rw [e]; rfl), r, ver, rfl⟩
theorem LV.len {l : List NP} {x : DV} (h : LV l x) (σ : Store) : len PP 51 x σ = some (.p (pI (l.length : Nat))) := by
  rcases h with rfl | ⟨_, r, ver, rfl⟩
  · rw [len51, lsO_len]
  · simp [Go.D.len, u51]
theorem LV.idx {l : List NP} {x : DV} (h : LV l x) {i : Nat} (hi : i < l.length) : indexAddr PP 51 x (.p (pI (i : Nat))) = some (.pptr (l.map cN) i) := by
  rcases h with rfl | ⟨_, r, ver, rfl⟩
  · have hne : ¬ l = [] := fun e => by rw [e] at hi; simp at hi
    have := idx51 (o := lsO l) (i := i) (by rw [lsO_len]; exact hi)
    refine this.trans ?_
    have e : (L (lsO l)).map eSl = l.map cN := by
      rw [L_lsO, map_cN]
      simp [prs, prN, List.map_map, Function.comp_def]
    rw [e]
  · have h2 : (0 : Int) ≤ (i : Int) ∧ (i : Int) < (l.length : Nat) := by omega
    simp [indexAddr, u51, s22, h2, hi]
theorem LV.view {l : List NP} {x : DV} (h : LV l x) : view x = .p (eLs (lsO l)) := by
  rcases h with rfl | ⟨h1, r, ver, rfl⟩
  · exact ls_view _
  · have : ¬ l.length = 0 := fun e => h1 (List.length_eq_zero_iff.1 e)
    rw [eLs_lsO, if_neg this]
    simp only [Go.D.view, viewCell, loosens_cN]
theorem LV.thaw {l : List NP} {x : DV} (h : LV l x) (k : Nat) (σ : Store) : thawAll k σ x = some (.p (eLs (lsO l))) := by
  rcases h with rfl | ⟨h1, r, ver, rfl⟩
  · simp only [thawAll, thawPart, Go.D.thaw, thaw1, thawP, loosen_ls, omap]
  · have : ¬ l.length = 0 := fun e => h1 (List.length_eq_zero_iff.1 e)
    rw [eLs_lsO, if_neg this]
    simp only [thawAll, thawPart, Go.D.thaw, thaw1, thawP, loosens_cN, omap]
theorem cN_ld {l : List NP} {i : Nat} (hi : i < l.length) (σ : Store) : load1 (.pptr (l.map cN) i) σ = some (.p (eSl (prO (toPR l[i])))) := load1_pptr (by simp [hi, cN, prN]) σ

/-! ### Rows of pairs, filtered -/
def rowP (P : NP → Bool) (s u : Nat) : List NP := ((List.range u).map fun v => (s, v)).filter P
def colP (P : NP → Bool) (n s : Nat) : List NP := (List.range s).flatMap fun a => rowP P a n
theorem rowP_zero (P : NP → Bool) (s : Nat) : rowP P s 0 = [] := rfl
theorem rowP_succ (P : NP → Bool) (s u : Nat) : rowP P s (u + 1) = rowP P s u ++ if P (s, u) then [(s, u)] else [] := by
  unfold rowP
  rw [List.range_succ, List.map_append, List.filter_append]
  congr 1
  show List.filter P [(s, u)] = _
  by_cases h : P (s, u) = true
  · rw [if_pos h, List.filter_cons_of_pos h]; rfl
  · rw [if_neg h, List.filter_cons_of_neg h]; rfl
theorem colP_succ (P : NP → Bool) (n s : Nat) : colP P n (s + 1) = colP P n s ++ rowP P s n := by
  unfold colP
  rw [List.range_succ, List.flatMap_append]
  simp
theorem colP_all (P : NP → Bool) (m n : Nat) : colP P n m = (pairsA m n).filter P := by
  unfold colP pairsA rowP
  rw [List.filter_flatMap]
theorem rowP_len (P : NP → Bool) (s u : Nat) : (rowP P s u).length ≤ u := by
  refine Nat.le_trans (List.length_filter_le _ _) ?_
  simp
theorem colP_len (P : NP → Bool) (n : Nat) : ∀ s, (colP P n s).length ≤ s * n
  | 0 => by simp [colP]
  | s + 1 => by
    rw [colP_succ, List.length_append]
    have h1 := colP_len P n s
    have h2 := rowP_len P s n
    rw [Nat.add_mul]
    omega
theorem len_bound {P : NP → Bool} {s u n : Nat} (hs : s ≤ 1000) (hu : u ≤ n) (hn : n ≤ 1000) : (colP P n s ++ rowP P s u).length ≤ 1000000 + 1000 := by
  rw [List.length_append]
  have h1 := colP_len P n s
  have h2 := rowP_len P s u
  have h3 : s * n ≤ 1000 * 1000 := Nat.mul_le_mul hs hn
  omega

theorem Out.push51' {σ : Store} {lo n : Nat} {cs : List PV} {v : PV} {x : DV} (ho : Out σ lo 1 n cs x) (hn : n ≤ 10000000) (hlo : lo ≤ σ.length) :
    ∃ x' σ', append PP lo false 51 51 x (.p (.sl true 1 [v])) σ = some (x', σ') ∧ Out σ' lo 1 (n + 1) (cs ++ [v]) x' ∧ Others σ σ' x ∧ σ.length ≤ σ'.length := by
  have hsrc : source σ 1 (.p (.sl true 1 [v])) = some (1, [DV.p v]) := by simp [source]
  obtain ⟨hc, ho⟩ := ho
  rcases ho with ⟨rfl, rfl⟩ | ⟨hn0, r, ver, rfl, hr, hl⟩
  · refine ⟨.osl σ.length 0 1 1 [v], σ ++ [.tok 0], ?_, ⟨by simp [hc], .inr ⟨by simp, σ.length, 0, ?_, get_snoc, hlo⟩⟩, ?_, by simp⟩
    · simp only [append, src51, u51, s22, bytes22, zero22, hsrc, appNil]
      simp [pures, DV.pure?]
    · have : cs = [] := List.length_eq_zero_iff.1 (by simpa using hc)
      rw [this]; rfl
    · intro i row hi _
      exact get_old hi
  · refine ⟨.osl r (ver + 1) 1 (n + 1) (cs ++ [v]), σ.set r (.tok (ver + 1)), ?_, ⟨by simp [hc], .inr ⟨by simp, r, ver + 1, rfl, ?_, hl⟩⟩, ?_, by simp⟩
    · have e1 : (n + 1) * 24 ≤ 140737488355328 := by omega
      have e2 : n + 1 ≤ 140737488355328 := by omega
      simp only [append, src51, u51, s22, bytes22, zero22, hsrc, appTok]
      simp [e1, e2, hc, hl, hr, pures, DV.pure?]
    · rw [List.getElem?_set_self (get_lt hr)]
    · intro i row hi hne
      rw [List.getElem?_set_ne (fun e => hne _ _ _ _ _ rfl e.symm)]
      exact hi

section
variable {p : Pair} {n m : Nat}

/-! ### all -/
theorem L61_1 (hp : Nice p n m) {s : Nat} (hs : s < m) {l : List NP} (hl : l.length ≤ 1000000) :
    ∀ (d u : Nat) (x : DV) (σ : Store), n - u = d → u ≤ n → σ[0]? = some (.mix (ePair p)) → Out σ 0 1 (l ++ rowP (fun _ => true) s u).length ((l ++ rowP (fun _ => true) s u).map cE) x →
      ∃ x' σ', σ'[0]? = some (.mix (ePair p)) ∧ Out σ' 0 1 (l ++ rowP (fun _ => true) s n).length ((l ++ rowP (fun _ => true) s n).map cE) x' ∧
        f61_L1 guardT 0 (.ptr 0 0) x (.p (pI (s : Nat))) (.p (pI (u : Nat))) σ = f61_L1 guardT 0 (.ptr 0 0) x' (.p (pI (s : Nat))) (.p (pI (n : Nat))) σ'
  | 0, u, x, σ, hd, hu, h0, ho => by
    have : u = n := by omega
    subst this
    exact ⟨x, σ, h0, ho, rfl⟩
  | d + 1, u, x, σ, hd, hu, h0, ho => by
    have h : u < n := by omega
    have h' : (u : Int) < (n : Nat) := by omega
    have hn2 := hp.n2
    have w : IntKind.wrap .i64 ((u : Int) + 1) = ((u + 1 : Nat) : Int) := wrap_succ (by omega)
    have hlen := rowP_len (fun _ => true) s u
    obtain ⟨x', σ', g1, g2, g3, g4⟩ := ho.push51' (v := cE (s, u)) (by rw [List.length_append]; omega) (Nat.zero_le _)
    have h0' := g3.mix ho h0 (fun v => by simp)
    have e : (l ++ rowP (fun _ => true) s (u + 1)) = (l ++ rowP (fun _ => true) s u) ++ [(s, u)] := by rw [rowP_succ]; simp
    rw [f61_L1_eq guardT rfl]
    simp only [fa27_1, fa25_0, shift_ptr, Nat.zero_add, Nat.add_zero, load3, pr_3 h0, obind, hp.un, b_lss, h', decide_true, condK_true, bs22p, bs51_1]
    have g1' : append PP 0 false 51 51 x (.p (.sl true 1 [PV.sl true 2 (eInts [(s : Int), (u : Int)])])) σ = some (x', σ') := g1
    simp only [g1', obind, b_add, w]
    refine L61_1 hp hs hl d (u + 1) x' σ' (by omega) (by omega) h0' ?_
    rw [e, List.map_append, List.length_append]
    exact g2

theorem L61_0 (hp : Nice p n m) :
    ∀ (d s : Nat) (x : DV) (σ : Store), m - s = d → s ≤ m → σ[0]? = some (.mix (ePair p)) → Out σ 0 1 (colP (fun _ => true) n s).length ((colP (fun _ => true) n s).map cE) x →
      ∃ x' σ', Out σ' 0 1 (pairsA m n).length ((pairsA m n).map cE) x' ∧ f61_L0 guardT 0 (.ptr 0 0) x (.p (pI (s : Nat))) σ = some (x', σ')
  | 0, s, x, σ, hd, hs, h0, ho => by
    have : s = m := by omega
    subst this
    have hlt : ¬ (s : Int) < (s : Nat) := by omega
    rw [colP_all, List.filter_eq_self.2 (fun _ _ => rfl)] at ho
    refine ⟨x, σ, ho, ?_⟩
    rw [f61_L0_eq guardT rfl]
    simp only [fa27_0, fa25_0, shift_ptr, Nat.zero_add, Nat.add_zero, load3, pr_0 h0, obind, hp.ln, b_lss, hlt, decide_false, condK_false]
  | d + 1, s, x, σ, hd, hs, h0, ho => by
    have h : s < m := by omega
    have h' : (s : Int) < (m : Nat) := by omega
    have hn2 := hp.n2
    have hm2 := hp.m2
    have w : IntKind.wrap .i64 ((s : Int) + 1) = ((s + 1 : Nat) : Int) := wrap_succ (by omega)
    have hcl := colP_len (fun _ => true) n s
    have hmn : s * n ≤ 1000 * 1000 := Nat.mul_le_mul (by omega) hn2
    obtain ⟨x1, σ1, g1, g2, g3⟩ := L61_1 hp h (l := colP (fun _ => true) n s) (by omega) n 0 x σ rfl (Nat.zero_le _) h0 (by rw [rowP_zero, List.append_nil]; exact ho)
    rw [← colP_succ] at g2
    have hnn : ¬ (n : Int) < (n : Nat) := by omega
    have g3' : f61_L1 guardT 0 (.ptr 0 0) x (.p (pI (s : Nat))) (.p (pI 0)) σ = _ := g3
    rw [f61_L0_eq guardT rfl]
    simp only [fa27_0, fa25_0, shift_ptr, Nat.zero_add, Nat.add_zero, load3, pr_0 h0, obind, hp.ln, b_lss, h', decide_true, condK_true, g3']
    rw [f61_L1_eq guardT rfl]
    simp only [fa27_1, fa25_0, shift_ptr, Nat.zero_add, Nat.add_zero, load3, pr_3 g1, obind, hp.un, b_lss, hnn, decide_false, condK_false, b_add, w]
    exact L61_0 hp d (s + 1) x1 σ1 (by omega) (by omega) g1 g2

theorem out_cE_thaw {σ : Store} {l : List NP} {x : DV} (ho : Out σ 0 1 l.length (l.map cE) x) : thawAll 0 σ x = some (.p (eLs (lsO l))) := by
  rw [ho.twAll, eLs_lsO, loosens_cE]
theorem S61 (hp : Nice p n m) (σ : Store) : pureV CC 61 [.agg (ePair p)] σ = some (.p (eLs (lsO (pairsA m n)))) := by
  refine pureV_any (by simp [pair_view]) fun lo σ0 hs => ?_
  rcases hs with ⟨rfl, rfl, _⟩ | ⟨_, _, h⟩
  case inr => exact absurd h (by simp [rowFree, rowFree1, ePair])
  obtain ⟨x', σ', h1, h2⟩ := L61_0 hp m 0 (.p .nilsl) [Row.mix (ePair p)] rfl (Nat.zero_le _) rfl (by simpa [colP] using Out.zero)
  refine ⟨x', σ', F61_call ?_, out_cE_thaw h1⟩
  rw [F61_eq]
  simp only [box_pair, obind, List.length_nil, List.nil_append]
  exact h2

/-! ### Simulation -/
def keepQ (p : Pair) (n : Nat) (l : List NP) (q : NP) : Bool := keepP p (prs l) n (q.1 : Nat) (q.2 : Nat)
theorem L28_1 (hp : Nice p n m) {l : List NP} {x3 : DV} (hl : LV l x3) (hsub : ∀ q ∈ l, q.1 < m ∧ q.2 < n) (hlen : l.length ≤ 1000000) :
    ∀ (d i : Nat) (x : DV) (σ : Store), l.length - i = d → i ≤ l.length → σ[0]? = some (.mix (ePair p)) → Out σ 0 1 ((l.take i).filter (keepQ p n l)).length (((l.take i).filter (keepQ p n l)).map cN) x →
      ∃ x' σ', σ'[0]? = some (.mix (ePair p)) ∧ Out σ' 0 1 (l.filter (keepQ p n l)).length ((l.filter (keepQ p n l)).map cN) x' ∧
        f28_L1 guardT 0 (.ptr 0 0) x3 x (.p (pI (i : Nat))) σ = f28_L1 guardT 0 (.ptr 0 0) x3 x' (.p (pI (l.length : Nat))) σ'
  | 0, i, x, σ, hd, hi, h0, ho => by
    have : i = l.length := by omega
    subst this
    rw [List.take_length] at ho
    exact ⟨x, σ, h0, ho, rfl⟩
  | d + 1, i, x, σ, hd, hi, h0, ho => by
    have h : i < l.length := by omega
    have h' : (i : Int) < (l.length : Nat) := by omega
    have w : IntKind.wrap .i64 ((i : Int) + 1) = ((i + 1 : Nat) : Int) := wrap_succ (by omega)
    obtain ⟨hs, hu⟩ := hsub _ (List.getElem_mem h)
    have hS : pureV CC 62 [.agg (ePair p), x3, .p (pI (l[i].1 : Nat)), .p (pI (l[i].2 : Nat))] σ = some (.p (.bool (keepQ p n l l[i]))) := by
      rw [pureV_view (args' := [.agg (ePair p), .p (eLs (lsO l)), .p (pI (l[i].1 : Nat)), .p (pI (l[i].2 : Nat))]) (by simp [pair_view, hl.view]; exact ⟨rfl, rfl⟩) (by simp [pair_view, ls_view]; exact ⟨rfl, rfl⟩)]
      exact S62 hp (L_lsO l) (by rw [prs_len']; omega) (by omega) (by omega)
    have ht : l.take (i + 1) = l.take i ++ [l[i]] := List.take_succ_eq_append_getElem h
    have hfl : ((l.take i).filter (keepQ p n l)).length ≤ i := Nat.le_trans (List.length_filter_le _ _) (by rw [List.length_take]; omega)
    rw [f28_L1_eq guardT rfl]
    simp only [hl.len, obind, b_lss, h', decide_true, condK_true, load27, pr_all h0, omap, hl.idx h, load22, cN_ld h, pr_idx0, pr_idx1, load3, ii_ld0, ii_ld1, pureFn_fn, List.append_nil, toPR, hS]
    cases e : keepQ p n l l[i] with
    | true =>
      obtain ⟨x', σ', g1, g2, g3, g4⟩ := ho.push51' (v := cN l[i]) (by omega) (Nat.zero_le _)
      have h0' := g3.mix ho h0 (fun v => by simp)
      have g1' : append PP 0 false 51 51 x (.p (.sl true 1 [eSl (prO ((l[i].1 : Int), (l[i].2 : Int)))])) σ = some (x', σ') := g1
      simp only [condK_true, bs51_1, obind, g1', f28_J0_eq, b_add, w]
      refine L28_1 hp hl hsub hlen d (i + 1) x' σ' (by omega) (by omega) h0' ?_
      have : (l.take (i + 1)).filter (keepQ p n l) = (l.take i).filter (keepQ p n l) ++ [l[i]] := by rw [ht, List.filter_append]; simp [e]
      rw [this, List.map_append, List.length_append]
      exact g2
    | false =>
      simp only [condK_false, f28_J0_eq, b_add, obind, w]
      refine L28_1 hp hl hsub hlen d (i + 1) x σ (by omega) (by omega) h0 ?_
      have : (l.take (i + 1)).filter (keepQ p n l) = (l.take i).filter (keepQ p n l) := by rw [ht, List.filter_append]; simp [e]
      rw [this]
      exact ho

theorem L28_0 (hp : Nice p n m) :
    ∀ (c k : Nat) (x3 : DV) (σ : Store), (al p m n k).length ≤ c → LV (al p m n k) x3 → σ[0]? = some (.mix (ePair p)) →
      ∃ x' σ', LV (simL p m n) x' ∧ f28_L0 guardT 0 (.ptr 0 0) x3 σ = some (x', σ') := by
  intro c
  induction c with
  | zero =>
    intro k x3 σ hc hl h0
    have hmn : m * n ≤ 1000 * 1000 := Nat.mul_le_mul hp.m2 hp.n2
    have hal := al_len (p := p) (m := m) (n := n) k
    obtain ⟨x1, σ1, g1, g2, g3⟩ := L28_1 hp hl (al_sub k) (by omega) _ 0 (.p .nilsl) σ rfl (Nat.zero_le _) h0 (by simpa using Out.zero)
    have hf : (al p m n k).filter (keepQ p n (al p m n k)) = al p m n (k + 1) := rfl
    rw [hf] at g2
    have hl2 := LV.of_out g2
    have hle : (al p m n (k + 1)).length ≤ (al p m n k).length := List.length_filter_le _ _
    have hlt : ¬ ((al p m n k).length : Int) < ((al p m n k).length : Nat) := by omega
    have heq : ((al p m n (k + 1)).length : Int) = ((al p m n k).length : Nat) := by omega
    have g3' : f28_L1 guardT 0 (.ptr 0 0) x3 (.p .nilsl) (.p (pI 0)) σ = _ := g3
    refine ⟨x3, σ1, ?_, ?_⟩
    · rw [← simL_of_len hp (show (al p m n (k + 1)).length = (al p m n k).length by omega)]; exact hl
    · rw [f28_L0_eq guardT rfl]
      rw [g3', f28_L1_eq guardT rfl]
      simp only [hl.len, hl2.len, obind, b_lss, hlt, decide_false, condK_false, b_eql, heq, decide_true, condK_true]
  | succ c ih =>
    intro k x3 σ hc hl h0
    have hmn : m * n ≤ 1000 * 1000 := Nat.mul_le_mul hp.m2 hp.n2
    have hal := al_len (p := p) (m := m) (n := n) k
    obtain ⟨x1, σ1, g1, g2, g3⟩ := L28_1 hp hl (al_sub k) (by omega) _ 0 (.p .nilsl) σ rfl (Nat.zero_le _) h0 (by simpa using Out.zero)
    have hf : (al p m n k).filter (keepQ p n (al p m n k)) = al p m n (k + 1) := rfl
    rw [hf] at g2
    have hl2 := LV.of_out g2
    have hle : (al p m n (k + 1)).length ≤ (al p m n k).length := List.length_filter_le _ _
    have hlt : ¬ ((al p m n k).length : Int) < ((al p m n k).length : Nat) := by omega
    have g3' : f28_L1 guardT 0 (.ptr 0 0) x3 (.p .nilsl) (.p (pI 0)) σ = _ := g3
    by_cases he : (al p m n (k + 1)).length = (al p m n k).length
    · have heq : ((al p m n (k + 1)).length : Int) = ((al p m n k).length : Nat) := by omega
      refine ⟨x3, σ1, ?_, ?_⟩
      · rw [← simL_of_len hp he]; exact hl
      · rw [f28_L0_eq guardT rfl]
        rw [g3', f28_L1_eq guardT rfl]
        simp only [hl.len, hl2.len, obind, b_lss, hlt, decide_false, condK_false, b_eql, heq, decide_true, condK_true]
    · have heq : ¬ ((al p m n (k + 1)).length : Int) = ((al p m n k).length : Nat) := by omega
      obtain ⟨x', σ', h1, h2⟩ := ih (k + 1) x1 σ1 (by omega) hl2 g1
      refine ⟨x', σ', h1, ?_⟩
      rw [f28_L0_eq guardT rfl]
      rw [g3', f28_L1_eq guardT rfl]
      simp only [hl.len, hl2.len, obind, b_lss, hlt, decide_false, condK_false, b_eql, heq]
      exact h2

theorem S28 (hp : Nice p n m) (σ : Store) : pureV CC 28 [.agg (ePair p)] σ = some (.p (eLs (lsO (simL p m n)))) := by
  refine pureV_any (by simp [pair_view]) fun lo σ0 hs => ?_
  rcases hs with ⟨rfl, rfl, _⟩ | ⟨_, _, h⟩
  case inr => exact absurd h (by simp [rowFree, rowFree1, ePair])
  have g0 : ([Row.mix (ePair p)] : Store)[0]? = some (.mix (ePair p)) := rfl
  obtain ⟨x', σ', h1, h2⟩ := L28_0 hp _ 0 (.p (eLs (lsO (pairsA m n)))) [Row.mix (ePair p)] (Nat.le_refl _) (.inl rfl) rfl
  refine ⟨x', σ', F28_call ?_, h1.thaw _ _⟩
  rw [F28_eq]
  simp only [box_pair, obind, List.length_nil, List.nil_append, load27, pr_all g0, omap, pureFn_fn, List.append_nil, S61 hp]
  exact h2

/-! ### SimulationOf -/
theorem len101 (o : Option (List OI)) (σ : Store) : len PP 101 (.p (eLs o)) σ = some (.p (pI ((L o).length : Nat))) := by cases o <;> simp [len, u101, eLs]
theorem idx101 {o : Option (List OI)} {i : Nat} (h : i < (L o).length) : indexAddr PP 101 (.p (eLs o)) (.p (.int .i64 (i : Nat))) = some (.pptr ((L o).map eSl) i) := by
  cases o with
  | none => simp at h
  | some l =>
    have h2 : (0 : Int) ≤ (i : Int) ∧ (i : Int) < (l.length : Nat) := by simp at h; omega
    simp [indexAddr, u101, s22, eLs, h2]
theorem rowsO_len (m n : Nat) (f : RF) : (L (rowsO m n f)).length = m := by
  unfold rowsO
  split
  · rename_i h; subst h; rfl
  · simp
theorem rowsO_get {m n : Nat} {f : RF} {s : Nat} (h : s < m) : (L (rowsO m n f)).getD s none = some (rowF n (f s)) := by
  have hm : ¬ m = 0 := by omega
  have e : L (rowsO m n f) = (List.range m).map fun s => some (rowF n (f s)) := by unfold rowsO; rw [if_neg hm]; rfl
  rw [e, getD_at _ (by simpa using h)]
  simp

theorem L24_1 (hp : Nice p n m) {f : RF} {o : Option (List OI)} {s : Nat} (hs : s < m) {l : List NP} (hl : l.length ≤ 1000000) {P : NP → Bool} (hP : P = fun q => decide (f q.1 q.2 = -1)) :
    ∀ (d u : Nat) (x : DV) (σ : Store), n - u = d → u ≤ n → Out σ 0 1 (l ++ rowP P s u).length ((l ++ rowP P s u).map cE) x →
      ∃ x' σ', Out σ' 0 1 (l ++ rowP P s n).length ((l ++ rowP P s n).map cE) x' ∧
        f24_L1 guardT 0 x (.p (pI (s : Nat))) (.p (eLs o)) (.p (pI (m : Nat))) (.p (pI (s : Nat))) (.p (eSl (some (rowF n (f s))))) (.p (pI (n : Nat))) (.p (pI (u : Nat))) σ =
        f24_L1 guardT 0 x' (.p (pI (s : Nat))) (.p (eLs o)) (.p (pI (m : Nat))) (.p (pI (s : Nat))) (.p (eSl (some (rowF n (f s))))) (.p (pI (n : Nat))) (.p (pI (n : Nat))) σ'
  | 0, u, x, σ, hd, hu, ho => by
    have : u = n := by omega
    subst this
    exact ⟨x, σ, ho, rfl⟩
  | d + 1, u, x, σ, hd, hu, ho => by
    have h : u < n := by omega
    have h' : (u : Int) < (n : Nat) := by omega
    have hn2 := hp.n2
    have w : IntKind.wrap .i64 ((u : Int) + 1) = ((u + 1 : Nat) : Int) := wrap_succ (by omega)
    have hlen := rowP_len P s u
    have hi : u < (L (some (rowF n (f s)))).length := by show u < (rowF n (f s)).length; rw [rowF_len]; exact h
    have hld : load1 (.pptr (eInts (L (some (rowF n (f s))))) u) σ = some (.p (pI (f s u))) := by
      rw [load1_getD hi]
      show some (DV.p (pI ((rowF n (f s)).getD u 0))) = _
      rw [rowF_get h]
    have e := rowP_succ P s u
    rw [f24_L1_eq guardT rfl]
    simp only [b_lss, obind, h', decide_true, condK_true, idx22 hi, load3, hld, b_eql]
    cases e1 : decide (f s u = -1) with
    | true =>
      obtain ⟨x', σ', g1, g2, g3, g4⟩ := ho.push51' (v := cE (s, u)) (by rw [List.length_append]; omega) (Nat.zero_le _)
      have g1' : append PP 0 false 51 51 x (.p (.sl true 1 [PV.sl true 2 (eInts [(s : Int), (u : Int)])])) σ = some (x', σ') := g1
      have hPu : P (s, u) = true := by rw [hP]; exact e1
      rw [if_pos hPu] at e
      simp only [condK_true, bs22p, bs51_1, obind, g1', f24_J0_eq, b_add, w]
      refine L24_1 hp hs hl hP d (u + 1) x' σ' (by omega) (by omega) ?_
      rw [e, ← List.append_assoc, List.map_append, List.length_append]
      exact g2
    | false =>
      have hPu : ¬ P (s, u) = true := by rw [hP]; show ¬ decide (f s u = -1) = true; rw [e1]; simp
      rw [if_neg hPu, List.append_nil] at e
      simp only [condK_false, f24_J0_eq, b_add, obind, w]
      refine L24_1 hp hs hl hP d (u + 1) x σ (by omega) (by omega) ?_
      rw [e]
      exact ho

theorem L24_0 (hp : Nice p n m) {f : RF} {P : NP → Bool} (hP : P = fun q => decide (f q.1 q.2 = -1)) :
    ∀ (d s : Nat) (x : DV) (σ : Store), m - s = d → s ≤ m → Out σ 0 1 (colP P n s).length ((colP P n s).map cE) x →
      ∃ x' σ', Out σ' 0 1 ((pairsA m n).filter P).length (((pairsA m n).filter P).map cE) x' ∧
        f24_L0 guardT 0 x (.p (eLs (rowsO m n f))) (.p (pI (m : Nat))) (.p (pI (s : Nat))) σ = some (.tuple [x', .p (pI 0)], σ')
  | 0, s, x, σ, hd, hs, ho => by
    have : s = m := by omega
    subst this
    have hlt : ¬ (s : Int) < (s : Nat) := by omega
    rw [colP_all] at ho
    refine ⟨x, σ, ho, ?_⟩
    rw [f24_L0_eq guardT rfl]
    simp only [b_lss, obind, hlt, decide_false, condK_false]
  | d + 1, s, x, σ, hd, hs, ho => by
    have h : s < m := by omega
    have h' : (s : Int) < (m : Nat) := by omega
    have hn2 := hp.n2
    have hm2 := hp.m2
    have w : IntKind.wrap .i64 ((s : Int) + 1) = ((s + 1 : Nat) : Int) := wrap_succ (by omega)
    have hcl := colP_len P n s
    have hmn : s * n ≤ 1000 * 1000 := Nat.mul_le_mul (by omega) hn2
    have hi : s < (L (rowsO m n f)).length := by rw [rowsO_len]; exact h
    have hlr : ((L (some (rowF n (f s)))).length : Int) = (n : Nat) := by show (((rowF n (f s)).length : Nat) : Int) = _; rw [rowF_len]
    obtain ⟨x1, σ1, g2, g3⟩ := L24_1 hp (f := f) (o := rowsO m n f) h (l := colP P n s) (by omega) hP n 0 x σ rfl (Nat.zero_le _) (by rw [rowP_zero, List.append_nil]; exact ho)
    rw [← colP_succ] at g2
    have hnn : ¬ (n : Int) < (n : Nat) := by omega
    have g3' : f24_L1 guardT 0 x (.p (pI (s : Nat))) (.p (eLs (rowsO m n f))) (.p (pI (m : Nat))) (.p (pI (s : Nat))) (.p (eSl (some (rowF n (f s))))) (.p (pI (n : Nat))) (.p (pI 0)) σ = _ := g3
    rw [f24_L0_eq guardT rfl]
    simp only [b_lss, obind, h', decide_true, condK_true, idx101 hi, load22, load1_ls hi, rowsO_get h, len22, hlr, g3']
    rw [f24_L1_eq guardT rfl]
    simp only [b_lss, obind, hnn, decide_false, condK_false, b_add, w]
    exact L24_0 hp hP d (s + 1) x1 σ1 (by omega) (by omega) g2

theorem S24_ok {σ : Store} (hp : Nice p n m) (he : errP p = 0) : pureV CC 24 [.agg (ePair p)] σ = some (.tuple [.p (eLs (lsO (simL p m n))), .p (pI 0)]) := by
  refine pureV_any (by simp [pair_view]) fun lo σ0 hs => ?_
  rcases hs with ⟨rfl, rfl, _⟩ | ⟨_, _, h⟩
  case inr => exact absurd h (by simp [rowFree, rowFree1, ePair])
  have g0 : ([Row.mix (ePair p)] : Store)[0]? = some (.mix (ePair p)) := rfl
  obtain ⟨x', σ', h1, h2⟩ := L24_0 hp (f := rkE p m n) rfl m 0 (.p .nilsl) [Row.mix (ePair p)] rfl (Nat.zero_le _) (by simpa [colP] using Out.zero)
  rw [← simL_rk hp] at h1
  refine ⟨.tuple [x', .p (pI 0)], σ', F24_call ?_, ?_⟩
  · rw [F24_eq]
    simp only [box_pair, obind, List.length_nil, List.nil_append, load27, pr_all g0, omap, pureFn_fn, List.append_nil, S41 hp.sm, he, b_neq, decide_true, Bool.not_true, condK_false, S43 hp.sm hp.un hp.n2 hp.us, S58' hp, len101, rowsO_len]
    exact h2
  · have ht : thawPart 0 σ' x' = some (.p (eLs (lsO (simL p m n)))) := by
      have := out_cE_thaw h1
      rcases h1.2 with ⟨_, rfl⟩ | ⟨_, r, ver, rfl, _, _⟩ <;> exact this
    have ht2 : thawPart 0 σ' (.p (pI 0)) = some (.p (pI 0)) := rfl
    simp only [thawAll, mapO, ht, ht2, omap]

theorem S24_bad {σ : Store} (hp : Small p) (he : errP p ≠ 0) : pureV CC 24 [.agg (ePair p)] σ = some (.tuple [.p .nilsl, .p (pI (errP p))]) := by
  refine pureV_any (by simp [pair_view]) fun lo σ0 hs => ⟨.tuple [.p .nilsl, .p (pI (errP p))], σ0 ++ [.mix (ePair p)], F24_call ?_, rfl⟩
  rw [F24_eq]
  have g0 : (σ0 ++ [Row.mix (ePair p)])[σ0.length]? = some (.mix (ePair p)) := get_snoc
  simp only [box_pair, obind, load27, pr_all g0, omap, pureFn_fn, List.append_nil, S41 hp, b_neq, he, decide_false, Bool.not_false, condK_true]

end
end Go.D
end
/- RefineSimulations: what the law answers, if awake answers true. -/
section
set_option linter.unusedVariables false
set_option linter.unusedSimpArgs false
namespace Go.D

/-! ### ContainsFunc, of what stands in the list -/
theorem L83' {o : Option (List Int)} {f : FuncId} {caps : List DV} {σ : Store} {lo : Nat} {q : Int → Bool} (hl : (L o).length ≤ 1000) (hq : ∀ v ∈ L o, pureV CC f (.p (pI v) :: caps) σ = some (.p (.bool (q v)))) :
    ∀ (k i : Nat), (L o).length - i = k → i ≤ (L o).length → f83_L0 guardT lo (.p (eSl o)) (.fn f caps) (.p (pI ((L o).length : Nat))) (.p (pI (i : Nat))) σ = some (.p (pI (idxFrom q ((L o).drop i) i)), σ)
  | 0, i, hk, hi => by
    have : i = (L o).length := by omega
    rw [f83_L0_eq guardT rfl]
    subst this
    simp [b_lss, condK_false, idxFrom]
  | k + 1, i, hk, hi => by
    have h : i < (L o).length := by omega
    have h' : (i : Int) < ((L o).length : Nat) := by omega
    rw [f83_L0_eq guardT rfl]
    simp only [b_lss, obind, h', decide_true, condK_true, idx22 h, load3, load1_ints h, pureFn_fn, List.singleton_append, hq _ (List.getElem_mem h)]
    rw [drop_cons h]
    cases hqv : q (L o)[i] with
    | true => simp [condK_true, idxFrom, hqv]
    | false =>
      simp only [condK_false, b_add, obind, wrap_succ (show i ≤ 1000000 by omega), idxFrom, hqv, Bool.false_eq_true, if_false]
      exact L83' hl hq k (i + 1) (by omega) (by omega)
theorem S83' {o : Option (List Int)} {f : FuncId} {caps : List DV} {σ : Store} {q : Int → Bool} (hl : (L o).length ≤ 1000) (hq : ∀ σ0, AtSt caps σ σ0 → ∀ v ∈ L o, pureV CC f (.p (pI v) :: caps) σ0 = some (.p (.bool (q v)))) :
    pureV CC 83 [.p (eSl o), .fn f caps] σ = some (.p (pI (idxFrom q (L o) 0))) := by
  refine pureV_any (by simp [sl_view, fn_view]) fun lo σ0 hs => ⟨_, σ0, F83_call (r := (.p (pI (idxFrom q (L o) 0)), σ0)) ?_, rfl⟩
  have hat : AtSt caps σ σ0 := by
    rcases hs with ⟨h1, _, h3⟩ | ⟨h1, _, _⟩
    · exact .inl ⟨h1, by simpa [rowFree] using (by simpa [rowFree] using h3 : _ ∧ _).2⟩
    · exact .inr h1
  rw [F83_eq]
  simp only [len22, obind]
  have := L83' (lo := lo) hl (hq σ0 hat) _ 0 rfl (Nat.zero_le _)
  simpa using this
theorem S51' {o : Option (List Int)} {f : FuncId} {caps : List DV} {σ : Store} {q : Int → Bool} (hl : (L o).length ≤ 1000) (hq : ∀ σ0, AtSt caps σ σ0 → ∀ v ∈ L o, pureV CC f (.p (pI v) :: caps) σ0 = some (.p (.bool (q v)))) :
    pureV CC 51 [.p (eSl o), .fn f caps] σ = some (.p (.bool ((L o).any q))) := by
  refine pureV_any (by simp [sl_view, fn_view]) fun lo σ0 hs => ⟨_, σ0, F51_call (r := (.p (.bool ((L o).any q)), σ0)) ?_, rfl⟩
  have hat : ∀ σ1, AtSt caps σ0 σ1 → AtSt caps σ σ1 := by
    intro σ1 h
    rcases hs with ⟨h1, _, h3⟩ | ⟨h1, _, _⟩
    · rcases h with h | h
      · exact .inl h
      · exact .inl ⟨h.trans h1, by simpa [rowFree] using (by simpa [rowFree] using h3 : _ ∧ _).2⟩
    · rw [← h1]; exact h
  rw [F51_eq]
  simp only [pureFn_fn, List.append_nil, S83' hl fun σ1 h => hq σ1 (hat σ1 h), obind, b_geq, idxFrom_ge]

/-! ### First states -/
structure Inits (p : Pair) (n m : Nat) : Prop where
  lo : ∀ s ∈ L p.lo.init, 0 ≤ s ∧ s < m
  up : ∀ u ∈ L p.up.init, 0 ≤ u ∧ u < n
theorem inits_of {p : Pair} (he : errP p = 0) : Inits p p.up.n.toNat p.lo.n.toNat := by
  have h1 : e1P p = 0 := orL_zero he _ (by simp)
  have g1 : isG p.lo = true ∧ isG p.up = true := by
    unfold e1P at h1
    split at h1
    · rename_i h; simpa using h
    · omega
  have hup := g1.2
  have hlo := g1.1
  simp only [isG, Bool.and_eq_true, decide_eq_true_eq] at hup hlo
  have nu : 0 ≤ p.up.n ∧ p.up.n ≤ 400 := by simpa [inR] using hup.1.1.1
  have nl : 0 ≤ p.lo.n ∧ p.lo.n ≤ 400 := by simpa [inR] using hlo.1.1.1
  have pu : pred p.up.n = p.up.n - 1 := wrap_ok (by omega) (by omega)
  have pl : pred p.lo.n = p.lo.n - 1 := wrap_ok (by omega) (by omega)
  constructor
  · intro s hm
    obtain ⟨i, hi, rfl⟩ := List.getElem_of_mem hm
    have := (allFrom_iff _ _).1 hlo.1.2 i (Nat.zero_le _) (by omega)
    have eg : (L p.lo.init).getD i 0 = (L p.lo.init)[i] := by rw [List.getD_eq_getElem?_getD, List.getElem?_eq_getElem hi]; rfl
    simp only [okI, eg, pl, inR, Bool.and_eq_true, decide_eq_true_eq] at this
    omega
  · intro s hm
    obtain ⟨i, hi, rfl⟩ := List.getElem_of_mem hm
    have := (allFrom_iff _ _).1 hup.1.2 i (Nat.zero_le _) (by omega)
    have eg : (L p.up.init).getD i 0 = (L p.up.init)[i] := by rw [List.getD_eq_getElem?_getD, List.getElem?_eq_getElem hi]; rfl
    simp only [okI, eg, pu, inR, Bool.and_eq_true, decide_eq_true_eq] at this
    omega

section
variable {p : Pair} {n m : Nat}

/-- Is a first state simulated by a first one? -/
def simB (p : Pair) (m n : Nat) (s : Int) : Bool := (L p.up.init).any fun u => decide (rkE p m n s.toNat u.toNat = -1)
def simFrom (q : Int → Bool) : List Int → Bool × Int
  | [] => (true, 0)
  | s :: l => if q s = true then simFrom q l else (false, s)
theorem simFrom_true {q : Int → Bool} {s : Int} {l : List Int} (h : q s = true) : simFrom q (s :: l) = simFrom q l := by simp [simFrom, h]
theorem simFrom_false {q : Int → Bool} {s : Int} {l : List Int} (h : q s = false) : simFrom q (s :: l) = (false, s) := by simp [simFrom, h]

theorem S59 {f : RF} {σ : Store} {b q : Nat} {s u : Int} (hb : σ[b]? = some (.mix [.p (eLs (rowsO m n f))])) (hq : σ[q]? = some (.mix [.p (pI s)])) (hs : 0 ≤ s ∧ s < m) (hu : 0 ≤ u ∧ u < n) :
    pureV CC 59 [.p (pI u), .ptr b 0, .ptr q 0] σ = some (.p (.bool (decide (f s.toNat u.toNat = -1)))) := by
  refine pureV_rows rfl rfl (F59_call (r := (.p (.bool (decide (f s.toNat u.toNat = -1))), σ)) ?_) rfl
  have e1 : ((s.toNat : Nat) : Int) = s := by omega
  have e2 : ((u.toNat : Nat) : Int) = u := by omega
  have h1 : s.toNat < m := by omega
  have h2 : u.toNat < n := by omega
  have hi : s.toNat < (L (rowsO m n f)).length := by rw [rowsO_len]; exact h1
  have hj : u.toNat < (L (some (rowF n (f s.toNat)))).length := by show u.toNat < (rowF n (f s.toNat)).length; rw [rowF_len]; exact h2
  have hld : load1 (.pptr (eInts (L (some (rowF n (f s.toNat))))) u.toNat) σ = some (.p (pI (f s.toNat u.toNat))) := by
    rw [load1_getD hj]
    show some (DV.p (pI ((rowF n (f s.toNat)).getD u.toNat 0))) = _
    rw [rowF_get h2]
  have i1 := idx101 hi
  rw [e1] at i1
  have i2 := idx22 hj
  rw [e2] at i2
  rw [F59_eq]
  simp only [load101, load1_ptr (off := 0) hb rfl, obind, load3, load1_ptr (off := 0) hq rfl, i1, load22, load1_ls hi, rowsO_get h1, i2, hld, b_eql]

theorem L25 (hp : Nice p n m) (hi : Inits p n m) :
    ∀ (k i : Nat) (σ : Store), (L p.lo.init).length - i = k → i ≤ (L p.lo.init).length → σ[0]? = some (.mix (ePair p)) → σ[1]? = some (.mix [.p (eLs (rowsO m n (rkE p m n)))]) →
      ∃ σ', f25_L0 guardT 0 (.ptr 0 0) (.ptr 1 0) (.p (eSl p.lo.init)) (.p (pI ((L p.lo.init).length : Nat))) (.p (pI (i : Nat))) σ =
        some (.tuple [.p (.bool (simFrom (simB p m n) ((L p.lo.init).drop i)).1), .p (pI (simFrom (simB p m n) ((L p.lo.init).drop i)).2), .p (pI 0)], σ')
  | 0, i, σ, hk, hl, h0, h1 => by
    have : ¬ (i : Int) < ((L p.lo.init).length : Nat) := by omega
    have hd : (L p.lo.init).drop i = [] := List.drop_eq_nil_of_le (by omega)
    refine ⟨σ, ?_⟩
    rw [f25_L0_eq guardT rfl, hd]
    simp only [b_lss, obind, this, decide_false, condK_false, simFrom]
  | k + 1, i, σ, hk, hl, h0, h1 => by
    have h : i < (L p.lo.init).length := by omega
    have h' : (i : Int) < ((L p.lo.init).length : Nat) := by omega
    have hli := hp.sm.li
    have hui := hp.sm.ui
    have w : IntKind.wrap .i64 ((i : Int) + 1) = ((i + 1 : Nat) : Int) := wrap_succ (by omega)
    have g0 : (σ ++ [Row.mix [.p (pI (L p.lo.init)[i])]])[0]? = some (.mix (ePair p)) := get_old h0
    have g1 : (σ ++ [Row.mix [.p (pI (L p.lo.init)[i])]])[1]? = some (.mix [.p (eLs (rowsO m n (rkE p m n)))]) := get_old h1
    have gq : (σ ++ [Row.mix [.p (pI (L p.lo.init)[i])]])[σ.length]? = some (.mix [.p (pI (L p.lo.init)[i])]) := get_snoc
    have hS : pureV CC 51 [.p (eSl p.up.init), .fn 59 [.ptr 1 0, .ptr σ.length 0]] (σ ++ [Row.mix [.p (pI (L p.lo.init)[i])]]) = some (.p (.bool (simB p m n (L p.lo.init)[i]))) := by
      refine S51' hui fun σ0 hat u hu => ?_
      rcases hat with ⟨_, hf⟩ | rfl
      · exact absurd hf (by simp [rowFree1])
      · exact S59 g1 gq (hi.lo _ (List.getElem_mem h)) (hi.up _ hu)
    obtain ⟨σ', ih⟩ := L25 hp hi k (i + 1) _ (by omega) (by omega) g0 g1
    rw [f25_L0_eq guardT rfl, drop_cons h]
    simp only [b_lss, obind, h', decide_true, condK_true, idx22 h, load3, load1_ints h, zero3, st3_new, fa27_1, fa25_1, shift_ptr, Nat.zero_add, load22, pr_4 g0, pureFn_fn, List.append_nil, hS, not_bool]
    cases e : simB p m n (L p.lo.init)[i] with
    | false =>
      rw [simFrom_false e]
      exact ⟨_, by simp only [Bool.not_false, condK_true, load1_ptr (off := 0) gq rfl, obind]; rfl⟩
    | true =>
      rw [simFrom_true e]
      refine ⟨σ', ?_⟩
      simp only [Bool.not_true, condK_false, b_add, obind, w]
      exact ih

def resI (q : Bool × Int) (e : Int) : DV := .tuple [.p (.bool q.1), .p (pI q.2), .p (pI e)]
theorem S25_ok {σ : Store} (hp : Nice p n m) (hi : Inits p n m) (he : errP p = 0) : pureV CC 25 [.agg (ePair p)] σ = some (resI (simFrom (simB p m n) (L p.lo.init)) 0) := by
  refine pureV_any (by simp [pair_view]) fun lo σ0 hs => ?_
  rcases hs with ⟨rfl, rfl, _⟩ | ⟨_, _, h⟩
  case inr => exact absurd h (by simp [rowFree, rowFree1, ePair])
  have g0 : ([Row.mix (ePair p)] : Store)[0]? = some (.mix (ePair p)) := rfl
  have g0' : ([Row.mix (ePair p), Row.mix [.p (eLs (rowsO m n (rkE p m n)))]] : Store)[0]? = some (.mix (ePair p)) := rfl
  obtain ⟨σ', h1⟩ := L25 hp hi _ 0 [Row.mix (ePair p), Row.mix [.p (eLs (rowsO m n (rkE p m n)))]] rfl (Nat.zero_le _) rfl rfl
  rw [List.drop_zero] at h1
  have hst : store PP 0 101 (.ptr 1 0) (.p (eLs (rowsO m n (rkE p m n)))) [Row.mix (ePair p), Row.mix [.p .nilsl]] = some [Row.mix (ePair p), Row.mix [.p (eLs (rowsO m n (rkE p m n)))]] := by
    simp [store, s101, DV.cells, storeN, DV.one, splice]
  refine ⟨_, σ', F25_call (r := (resI (simFrom (simB p m n) (L p.lo.init)) 0, σ')) ?_, rfl⟩
  rw [F25_eq]
  simp only [box_pair, obind, List.length_nil, List.nil_append, List.length_cons, List.cons_append, Nat.zero_add, load27, pr_all g0, omap, pureFn_fn, List.append_nil, S41 hp.sm, he, b_neq, decide_true, Bool.not_true, condK_false, S43 hp.sm hp.un hp.n2 hp.us, S58' hp, zero101, hst, fa27_0, fa25_1, shift_ptr, load22, pr_1 g0', len22]
  exact h1
theorem S25_bad {σ : Store} (hp : Small p) (he : errP p ≠ 0) : pureV CC 25 [.agg (ePair p)] σ = some (resI (false, 0) (errP p)) := by
  refine pureV_any (by simp [pair_view]) fun lo σ0 hs => ⟨resI (false, 0) (errP p), σ0 ++ [.mix (ePair p)], F25_call ?_, rfl⟩
  rw [F25_eq]
  have g0 : (σ0 ++ [Row.mix (ePair p)])[σ0.length]? = some (.mix (ePair p)) := get_snoc
  simp only [box_pair, obind, load27, pr_all g0, omap, pureFn_fn, List.append_nil, S41 hp, b_neq, he, decide_false, Bool.not_false, condK_true, resI]

/-! ### Simulated -/
theorem hasP_sim (hp : Nice p n m) {s u : Int} (hs : 0 ≤ s ∧ s < m) (hu : 0 ≤ u ∧ u < n) : hasP (prs (simL p m n)) s u = decide (rkE p m n s.toNat u.toNat = -1) := by
  have e1 : ((s.toNat : Nat) : Int) = s := by omega
  have e2 : ((u.toNat : Nat) : Int) = u := by omega
  have : hasP (prs (simL p m n)) (s.toNat : Nat) (u.toNat : Nat) = decide (rkE p m n s.toNat u.toNat = -1) := by
    rw [Bool.eq_iff_iff, hasP_iff, simL_rk hp, List.mem_filter, mem_pairsA]
    simp only [decide_eq_true_eq]
    exact ⟨fun h => h.2, fun h => ⟨⟨by show s.toNat < m; omega, by show u.toNat < n; omega⟩, h⟩⟩
  rw [e1, e2] at this
  exact this
theorem simL_len (hp : Nice p n m) : (simL p m n).length ≤ 1000000 := by
  have h1 : m * n ≤ 1000 * 1000 := Nat.mul_le_mul hp.m2 hp.n2
  have := al_len (p := p) (m := m) (n := n) (m * n + 1)
  unfold simL
  omega

theorem L26_1 (hp : Nice p n m) (hi : Inits p n m) {σ : Store} (h0 : σ[0]? = some (.mix (ePair p))) {i : Nat} (hil : i < (L p.lo.init).length) :
    ∀ (d k : Nat) (b : Bool), (L p.up.init).length - k = d → k ≤ (L p.up.init).length →
      f26_L1 guardT 0 (.ptr 0 0) (.p (eLs (lsO (simL p m n)))) (.p (pI (i : Nat))) (.p (.bool b)) (.p (pI (k : Nat))) σ =
      f26_L1 guardT 0 (.ptr 0 0) (.p (eLs (lsO (simL p m n)))) (.p (pI (i : Nat))) (.p (.bool (b || ((L p.up.init).drop k).any fun u => decide (rkE p m n ((L p.lo.init)[i]).toNat u.toNat = -1)))) (.p (pI ((L p.up.init).length : Nat))) σ
  | 0, k, b, hd, hk => by
    have e : k = (L p.up.init).length := by omega
    have hd : (L p.up.init).drop k = [] := List.drop_eq_nil_of_le (by omega)
    rw [hd, e, List.any_nil, Bool.or_false]
  | d + 1, k, b, hd, hk => by
    have h : k < (L p.up.init).length := by omega
    have h' : (k : Int) < ((L p.up.init).length : Nat) := by omega
    have hui := hp.sm.ui
    have w : IntKind.wrap .i64 ((k : Int) + 1) = ((k + 1 : Nat) : Int) := wrap_succ (by omega)
    rw [f26_L1_eq guardT rfl, drop_cons h, List.any_cons]
    simp only [fa27_1, fa25_1, shift_ptr, Nat.zero_add, load22, pr_4 h0, obind, len22, b_lss, h', decide_true, condK_true]
    cases b with
    | true =>
      simp only [guard_tf, guard_sk, obind, pickV_true, b_add, w, Bool.true_or]
      rw [L26_1 hp hi h0 hil d (k + 1) true (by omega) (by omega), Bool.true_or]
    | false =>
      simp only [guard_ff, fa27_0, fa27_1, fa25_1, shift_ptr, Nat.zero_add, obind, pr_1 h0, pr_4 h0, idx22 hil, idx22 h, load3, load1_ints hil, load1_ints h, pureFn_fn, List.append_nil, S60 (L_lsO (simL p m n)) (by rw [prs_len']; exact simL_len hp), hasP_sim hp (hi.lo _ (List.getElem_mem hil)) (hi.up _ (List.getElem_mem h)), pickV_false, b_add, w, Bool.false_or]
      rw [L26_1 hp hi h0 hil d (k + 1) _ (by omega) (by omega)]

theorem L26_0 (hp : Nice p n m) (hi : Inits p n m) {σ : Store} (h0 : σ[0]? = some (.mix (ePair p))) :
    ∀ (d i : Nat), (L p.lo.init).length - i = d → i ≤ (L p.lo.init).length →
      f26_L0 guardT 0 (.ptr 0 0) (.p (eLs (lsO (simL p m n)))) (.p (pI (i : Nat))) σ = some (.tuple [.p (.bool (simFrom (simB p m n) ((L p.lo.init).drop i)).1), .p (pI (simFrom (simB p m n) ((L p.lo.init).drop i)).2)], σ)
  | 0, i, hd, hk => by
    have : ¬ (i : Int) < ((L p.lo.init).length : Nat) := by omega
    have hd : (L p.lo.init).drop i = [] := List.drop_eq_nil_of_le (by omega)
    rw [f26_L0_eq guardT rfl, hd]
    simp only [fa27_0, fa25_1, shift_ptr, Nat.zero_add, load22, pr_1 h0, obind, len22, b_lss, this, decide_false, condK_false, simFrom]
  | d + 1, i, hd, hk => by
    have h : i < (L p.lo.init).length := by omega
    have h' : (i : Int) < ((L p.lo.init).length : Nat) := by omega
    have hli := hp.sm.li
    have w : IntKind.wrap .i64 ((i : Int) + 1) = ((i + 1 : Nat) : Int) := wrap_succ (by omega)
    have hL1 := L26_1 hp hi h0 h _ 0 false rfl (Nat.zero_le _)
    rw [List.drop_zero, Bool.false_or] at hL1
    have hL1' : f26_L1 guardT 0 (.ptr 0 0) (.p (eLs (lsO (simL p m n)))) (.p (pI (i : Nat))) (.p (.bool false)) (.p (pI 0)) σ = f26_L1 guardT 0 (.ptr 0 0) (.p (eLs (lsO (simL p m n)))) (.p (pI (i : Nat))) (.p (.bool (simB p m n (L p.lo.init)[i]))) (.p (pI ((L p.up.init).length : Nat))) σ := hL1
    have hnn : ¬ ((L p.up.init).length : Int) < ((L p.up.init).length : Nat) := by omega
    rw [f26_L0_eq guardT rfl, drop_cons h]
    simp only [fa27_0, fa25_1, shift_ptr, Nat.zero_add, load22, pr_1 h0, obind, len22, b_lss, h', decide_true, condK_true, hL1']
    rw [f26_L1_eq guardT rfl]
    simp only [fa27_0, fa27_1, fa25_1, shift_ptr, Nat.zero_add, load22, pr_4 h0, pr_1 h0, obind, len22, b_lss, hnn, decide_false, condK_false, not_bool]
    cases e : simB p m n (L p.lo.init)[i] with
    | false =>
      rw [simFrom_false e]
      simp only [Bool.not_false, condK_true, idx22 h, obind, load3, load1_ints h]
    | true =>
      rw [simFrom_true e]
      simp only [Bool.not_true, condK_false, b_add, obind, w]
      exact L26_0 hp hi h0 d (i + 1) (by omega) (by omega)

theorem S26 {σ : Store} (hp : Nice p n m) (hi : Inits p n m) : pureV CC 26 [.agg (ePair p)] σ = some (.tuple [.p (.bool (simFrom (simB p m n) (L p.lo.init)).1), .p (pI (simFrom (simB p m n) (L p.lo.init)).2)]) := by
  refine pureV_any (by simp [pair_view]) fun lo σ0 hs => ?_
  rcases hs with ⟨rfl, rfl, _⟩ | ⟨_, _, h⟩
  case inr => exact absurd h (by simp [rowFree, rowFree1, ePair])
  have g0 : ([Row.mix (ePair p)] : Store)[0]? = some (.mix (ePair p)) := rfl
  have h1 := L26_0 hp hi g0 _ 0 rfl (Nat.zero_le _)
  rw [List.drop_zero] at h1
  refine ⟨.tuple [.p (.bool (simFrom (simB p m n) (L p.lo.init)).1), .p (pI (simFrom (simB p m n) (L p.lo.init)).2)], [Row.mix (ePair p)], F26_call ?_, rfl⟩
  rw [F26_eq]
  simp only [box_pair, obind, List.length_nil, List.nil_append, load27, pr_all g0, omap, pureFn_fn, List.append_nil, S28 hp]
  exact h1

/-! ### Lists that are the same -/
theorem L27 {o : Option (List OI)} {lo : Nat} {σ : Store} (hl : (L o).length ≤ 1000000) (hx : ∀ x ∈ L o, (L x).length ≤ 1000) :
    ∀ (k i : Nat), (L o).length - i = k → i ≤ (L o).length → f27_L0 guardT lo (.p (eLs o)) (.p (eLs o)) (.p (pI (i : Nat))) σ = some (.p (.bool true), σ)
  | 0, i, hk, hi => by
    have : ¬ (i : Int) < ((L o).length : Nat) := by omega
    rw [f27_L0_eq guardT rfl]
    simp only [len51, b_lss, obind, this, decide_false, condK_false]
  | k + 1, i, hk, hi => by
    have h : i < (L o).length := by omega
    have h' : (i : Int) < ((L o).length : Nat) := by omega
    have hxi : (L ((L o).getD i none)).length ≤ 1000 := by rw [getD_at _ h]; exact hx _ (List.getElem_mem h)
    rw [f27_L0_eq guardT rfl]
    simp only [len51, b_lss, obind, h', decide_true, condK_true, idx51 h, load22, load1_ls h, pureFn_fn, List.append_nil, S18 (rfl : L ((L o).getD i none) = L ((L o).getD i none)) hxi, not_bool, Bool.not_true, condK_false, b_add, wrap_succ (show i ≤ 1000000 by omega)]
    exact L27 hl hx k (i + 1) (by omega) (by omega)
theorem S27 {o : Option (List OI)} {σ : Store} (hl : (L o).length ≤ 1000000) (hx : ∀ x ∈ L o, (L x).length ≤ 1000) : pureV CC 27 [.p (eLs o), .p (eLs o)] σ = some (.p (.bool true)) := by
  refine pureV_any (by simp [ls_view]) fun lo σ0 hs => ⟨_, σ0, F27_call (r := (.p (.bool true), σ0)) ?_, rfl⟩
  rw [F27_eq]
  simp only [len51, obind, b_neq, decide_true, Bool.not_true, condK_false]
  exact L27 hl hx _ 0 rfl (Nat.zero_le _)

/-! ### Copies -/
theorem rk_own (p : Pair) (n : Nat) : ∀ j, rkF (ownP p) n j = rkF p n j
  | 0 => rfl
  | j + 1 => by
    unfold rkF
    rw [rk_own p n j]
    rfl
theorem al_own (p : Pair) (m n : Nat) : ∀ j, al (ownP p) m n j = al p m n j
  | 0 => rfl
  | j + 1 => by
    unfold al
    rw [al_own p m n j]
    rfl
theorem simL_own (p : Pair) (m n : Nat) : simL (ownP p) m n = simL p m n := al_own p m n _
theorem simB_own (p : Pair) (m n : Nat) : simB (ownP p) m n = simB p m n := by
  funext s
  unfold simB rkE
  rw [rk_own]
  rfl
theorem nice_own (hp : Nice p n m) : Nice (ownP p) n m := ⟨small_own hp.sm, hp.un, hp.n2, hp.ln, hp.m2, hp.ll, hp.ul, hp.us, hp.ls⟩
theorem inits_own (hi : Inits p n m) : Inits (ownP p) n m := ⟨hi.lo, hi.up⟩

theorem ex3_0 (a b c : DV) : extractV (.tuple [a, b, c]) 0 = some a := Eq.trans rfl rfl
theorem ex3_1 (a b c : DV) : extractV (.tuple [a, b, c]) 1 = some b := Eq.trans rfl rfl
theorem ex3_2 (a b c : DV) : extractV (.tuple [a, b, c]) 2 = some c := Eq.trans rfl rfl
theorem b_eql4 (a b : Bool) : binOp PP .eql 4 (.p (.bool a)) (.p (.bool b)) = some (.p (.bool (a == b))) := Eq.trans (by cases a <;> cases b <;> kernel_rfl) rfl
theorem len51_nil (σ : Store) : len PP 51 (.p .nilsl) σ = some (.p (.int .i64 0)) := len51 none σ

theorem law5 (hawake : ∀ σ, pureV CC 10 [] σ = some (.p (.bool true))) (p : Pair) : ∃ σ', F5 guardT 0 (.agg (ePair p)) [] = some (.p (.bool true), σ') := by
  have g0 : ([Row.mix (ePair p)] : Store)[0]? = some (.mix (ePair p)) := rfl
  refine ⟨[Row.mix (ePair p)], ?_⟩
  rw [F5_eq]
  simp only [box_pair, obind, List.length_nil, List.nil_append, pureFn_fn, List.append_nil, hawake, not_bool, Bool.not_true, condK_false, load27, pr_all g0, omap, S11]
  cases hfew : fewP p with
  | false => simp only [Bool.not_false, condK_true]
  | true =>
    have hp := small_of hfew
    simp only [Bool.not_true, condK_false, S13 hp, obind, S15 hp, b_neq]
    by_cases he : errP p = 0
    · have hn := nice_of hp he
      have hi := inits_of he
      have heo : errP (ownP p) = 0 := he
      have hx : ∀ x ∈ L (lsO (simL p p.lo.n.toNat p.up.n.toNat)), (L x).length ≤ 1000 := by
        intro x hx
        rw [L_lsO] at hx
        obtain ⟨q, _, rfl⟩ := List.mem_map.1 hx
        show (2 : Nat) ≤ 1000
        omega
      have hl : (L (lsO (simL p p.lo.n.toNat p.up.n.toNat))).length ≤ 1000000 := by rw [lsO_len]; exact simL_len hn
      have hio : L (ownP p).lo.init = L p.lo.init := rfl
      simp only [S24_ok (nice_own hn) heo, S25_ok (nice_own hn) (inits_own hi) heo, simL_own, simB_own, hio, resI, ex0, ex1, ex3_0, ex3_1, ex3_2, obind, he, decide_true, Bool.not_true, condK_false, S26 hn hi, b_eql, guard_tt, load27, pr_all g0, omap, pureFn_fn, List.append_nil, S28 hn, S27 hl hx, pickV_true, b_eql4, beq_self_eq_true]
    · have heo : errP (ownP p) ≠ 0 := he
      have heq : errP (ownP p) = errP p := rfl
      simp only [S24_bad (small_own hp) heo, S25_bad (small_own hp) heo, heq, resI, ex0, ex1, ex3_0, ex3_1, ex3_2, obind, he, decide_false, Bool.not_false, condK_true, b_eql, decide_true, guard_tt, pickV_true, len51_nil, not_bool]

theorem call5 (hawake : ∀ σ, pureV CC 10 [] σ = some (.p (.bool true))) (p : Pair) : ∃ σ', CC 0 5 [.agg (ePair p)] [] = some (.p (.bool true), σ') := by
  obtain ⟨σ', h⟩ := law5 hawake p
  exact ⟨σ', F5_call h⟩

end
end Go.D
end
/- Equations of functions 63, 65, 29, 69, 30, 89, 71, 31, 32, printed by gen.py. -/
section
set_option linter.unusedVariables false
set_option maxRecDepth 10000
namespace Go.D
open _root_.Go.D.Code (fstC sndC)
open _root_.Go.D.Ann (left right)
noncomputable def c63_0 : Code := bodyOf Go.Proofs.Try.f63
noncomputable def a63_0 : Ann := (pol 63).ann
noncomputable def F63 (G : GuardT) (lo : Nat) (x0 x1 x2 x3 : DV) (σ : Store) : Option (DV × Store) :=
 codeF G PP (pol 63) CC lo c63_0 a63_0 [x0, x1, x2, x3, ud, ud, ud, ud, ud, ud, ud, ud, ud, ud, ud, ud, ud, ud, ud, ud, ud, ud, ud, ud, ud, ud] σ (finR PP Go.Proofs.Try.f63.results.toList)
theorem F63_eq (G : GuardT) (lo : Nat) (x0 x1 x2 x3 : DV) (σ : Store) : F63 G lo x0 x1 x2 x3 σ =
 (load PP 101 x2 σ).bind fun x7 =>
 (indexAddr PP 101 x7 x0).bind fun x9 =>
 (load PP 22 x9 σ).bind fun x10 =>
 (indexAddr PP 22 x10 x1).bind fun x12 =>
 (load PP 3 x12 σ).bind fun x13 =>
 (binOp PP .eql 3 x13 (DV.p (PV.int IntKind.i64 (-1)))).bind fun x14 =>
 G _ x14 false ((load PP 101 x2 σ).bind fun v => some (v, σ)) σ fun x16 σ1 =>
 G _ x14 false (some (x0, σ1)) σ1 fun x17 σ2 =>
 G _ x14 false ((indexAddr PP 101 x16 x17).bind fun v => some (v, σ2)) σ2 fun x18 σ3 =>
 G _ x14 false ((load PP 22 x18 σ3).bind fun v => some (v, σ3)) σ3 fun x19 σ4 =>
 G _ x14 false (some (x1, σ4)) σ4 fun x20 σ5 =>
 G _ x14 false ((indexAddr PP 22 x19 x20).bind fun v => some (v, σ5)) σ5 fun x21 σ6 =>
 G _ x14 false ((load PP 3 x21 σ6).bind fun v => some (v, σ6)) σ6 fun x22 σ7 =>
 G _ x14 false ((load PP 3 x3 σ7).bind fun v => some (v, σ7)) σ7 fun x23 σ8 =>
 G _ x14 false ((binOp PP .geq 3 x22 x23).bind fun v => some (v, σ8)) σ8 fun x24 σ9 =>
 (pickV x14 (DV.p (PV.bool true)) x24).bind fun x25 =>
 some (x25, σ9) := by kernel_rfl
theorem F63_call {lo : Nat} {x0 x1 x2 x3 : DV} {σ : Store} {r : DV × Store} (h : F63 guardT lo x0 x1 x2 x3 σ = some r) : CC lo 63 [x0, x1, x2, x3] σ = some r :=
 callL_run Go.Proofs.Try.func63 (by decide +kernel) rfl (by decide +kernel) h
noncomputable def c65_0 : Code := bodyOf Go.Proofs.Try.f65
noncomputable def a65_0 : Ann := (pol 65).ann
noncomputable def F65 (G : GuardT) (lo : Nat) (x0 x1 x2 x3 x4 : DV) (σ : Store) : Option (DV × Store) :=
 codeF G PP (pol 65) CC lo c65_0 a65_0 [x0, x1, x2, x3, x4, ud, ud, ud, ud, ud, ud, ud, ud, ud, ud, ud, ud, ud, ud, ud] σ (finR PP Go.Proofs.Try.f65.results.toList)
theorem F65_eq (G : GuardT) (lo : Nat) (x0 x1 x2 x3 x4 : DV) (σ : Store) : F65 G lo x0 x1 x2 x3 x4 σ =
 (boxV x0).bind fun z5 =>
 (fieldAddr PP 100 (DV.ptr (List.length σ) 0) 0).bind fun x7 =>
 (load PP 3 x7 (σ ++ [Row.mix z5])).bind fun x8 =>
 (load PP 3 x1 (σ ++ [Row.mix z5])).bind fun x9 =>
 (binOp PP .eql 3 x8 x9).bind fun x10 =>
 G _ x10 true ((load PP 82 x2 (σ ++ [Row.mix z5])).bind fun v => some (v, (σ ++ [Row.mix z5]))) (σ ++ [Row.mix z5]) fun x12 σ1 =>
 G _ x10 true ((fieldAddr PP 100 (DV.ptr (List.length σ) 0) 1).bind fun v => some (v, σ1)) σ1 fun x13 σ2 =>
 G _ x10 true ((load PP 3 x13 σ2).bind fun v => some (v, σ2)) σ2 fun x14 σ3 =>
 G _ x10 true ((load PP 3 x3 σ3).bind fun v => some (v, σ3)) σ3 fun x15 σ4 =>
 G _ x10 true ((load PP 89 x4 σ4).bind fun v => some (v, σ4)) σ4 fun x16 σ5 =>
 G _ x10 true ((pureFn CC (DV.fn 66 []) [x12, x14, x15, x16] σ5).bind fun v => some (v, σ5)) σ5 fun x17 σ6 =>
 G _ x10 true ((unOp .not x17).bind fun v => some (v, σ6)) σ6 fun x18 σ7 =>
 (pickV x10 x18 (DV.p (PV.bool false))).bind fun x19 =>
 some (x19, σ7) := by kernel_rfl
theorem F65_call {lo : Nat} {x0 x1 x2 x3 x4 : DV} {σ : Store} {r : DV × Store} (h : F65 guardT lo x0 x1 x2 x3 x4 σ = some r) : CC lo 65 [x0, x1, x2, x3, x4] σ = some r :=
 callL_run Go.Proofs.Try.func65 (by decide +kernel) rfl (by decide +kernel) h
noncomputable def c29_0 : Code := bodyOf Go.Proofs.Try.f29
noncomputable def a29_0 : Ann := (pol 29).ann
noncomputable def a29_21 : Ann := right (left (right (right (right (right (right a29_0))))))
noncomputable def a29_22 : Ann := left a29_21
noncomputable def c29_23 : Code := fstC (fstC (sndC (fstC (sndC (sndC (sndC (sndC (sndC c29_0))))))))
noncomputable def a29_30 : Ann := left (right (right (left a29_22)))
noncomputable def a29_35 : Ann := right (right (left a29_30))
noncomputable def a29_36 : Ann := left a29_35
noncomputable def c29_37 : Code := fstC (fstC (sndC (sndC (fstC (fstC (sndC (sndC c29_23)))))))
noncomputable def a29_44 : Ann := left (right (right (left a29_36)))
noncomputable def c29_63 : Code := sndC (sndC (sndC (sndC (sndC (fstC (fstC (sndC (sndC c29_37))))))))
noncomputable def a29_63 : Ann := right (right (right (right (right (left a29_44)))))
noncomputable def c29_64 : Code := sndC (sndC (sndC c29_37))
noncomputable def a29_64 : Ann := right (right (right (left a29_36)))
noncomputable def c29_65 : Code := sndC (sndC (sndC c29_23))
noncomputable def a29_65 : Ann := right (right (right (left a29_22)))
noncomputable def c29_66 : Code := sndC (sndC (sndC (sndC (sndC (sndC c29_0)))))
noncomputable def a29_66 : Ann := right (right (right (right (right (right a29_0)))))
noncomputable def f29_L0 (G : GuardT) (lo : Nat) (x1 x5 x6 x7 x23 x24 x25 : DV) (σ : Store) : Option (DV × Store) :=
 codeF G PP (pol 29) CC lo (.loop c29_23) a29_22 [ud, x1, ud, ud, ud, x5, x6, x7, ud, ud, ud, ud, ud, ud, ud, ud, ud, ud, ud, ud, ud, ud, ud, x23, x24, x25, ud, ud, ud, ud, ud, ud, ud, ud, ud, ud, ud, ud, ud, ud, ud, ud, ud, ud, ud, ud, ud, ud, ud, ud, ud, ud, ud, ud, ud, ud, ud, ud, ud] σ
 (blockC 0 a29_21 (seqC G PP (pol 29) CC lo c29_66 a29_66 (finR PP Go.Proofs.Try.f29.results.toList)))
noncomputable def f29_L1 (G : GuardT) (lo : Nat) (x1 x5 x6 x7 x8 x23 x24 x25 x30 x31 x32 : DV) (σ : Store) : Option (DV × Store) :=
 codeF G PP (pol 29) CC lo (.loop c29_37) a29_36 [ud, x1, ud, ud, ud, x5, x6, x7, x8, ud, ud, ud, ud, ud, ud, ud, ud, ud, ud, ud, ud, ud, ud, x23, x24, x25, ud, ud, ud, ud, x30, x31, x32, ud, ud, ud, ud, ud, ud, ud, ud, ud, ud, ud, ud, ud, ud, ud, ud, ud, ud, ud, ud, ud, ud, ud, ud, ud, ud] σ
 (blockC 2 a29_35 (blockC 1 a29_30 (seqC G PP (pol 29) CC lo c29_65 a29_65 (loopC G PP (pol 29) CC lo c29_23 a29_22 (blockC 0 a29_21 (seqC G PP (pol 29) CC lo c29_66 a29_66 (finR PP Go.Proofs.Try.f29.results.toList)))))))
def f29_J0_fr (x1 x5 x6 x7 x8 x23 x24 x25 x30 x31 x32 : DV) : Frame := [ud, x1, ud, ud, ud, x5, x6, x7, x8, ud, ud, ud, ud, ud, ud, ud, ud, ud, ud, ud, ud, ud, ud, x23, x24, x25, ud, ud, ud, ud, x30, x31, x32, ud, ud, ud, ud, ud, ud, ud, ud, ud, ud, ud, ud, ud, ud, ud, ud, ud, ud, ud, ud, ud, ud, ud, ud, ud, ud]
noncomputable def f29_J0 (G : GuardT) (lo : Nat) (x1 x5 x6 x7 x8 x23 x24 x25 x30 x31 x32 : DV) (σ : Store) : Option (DV × Store) :=
 (seqC G PP (pol 29) CC lo c29_64 a29_64 (loopC G PP (pol 29) CC lo c29_37 a29_36 (blockC 2 a29_35 (blockC 1 a29_30 (seqC G PP (pol 29) CC lo c29_65 a29_65 (loopC G PP (pol 29) CC lo c29_23 a29_22 (blockC 0 a29_21 (seqC G PP (pol 29) CC lo c29_66 a29_66 (finR PP Go.Proofs.Try.f29.results.toList))))))))) .normal (f29_J0_fr x1 x5 x6 x7 x8 x23 x24 x25 x30 x31 x32) σ
def f29_J1_fr (x1 x5 x6 x7 x8 x10 x11 x12 x13 x23 x24 x25 x30 x31 x32 x33 x34 x35 x36 x37 x38 x39 x40 x41 x42 x43 x44 x45 x46 x47 x48 x49 x50 x51 : DV) : Frame := [ud, x1, ud, ud, ud, x5, x6, x7, x8, ud, x10, x11, x12, x13, ud, ud, ud, ud, ud, ud, ud, ud, ud, x23, x24, x25, ud, ud, ud, ud, x30, x31, x32, x33, x34, x35, x36, x37, x38, x39, x40, x41, x42, x43, x44, x45, x46, x47, x48, x49, x50, x51, ud, ud, ud, ud, ud, ud, ud]
noncomputable def f29_J1 (G : GuardT) (lo : Nat) (x1 x5 x6 x7 x8 x10 x11 x12 x13 x23 x24 x25 x30 x31 x32 x33 x34 x35 x36 x37 x38 x39 x40 x41 x42 x43 x44 x45 x46 x47 x48 x49 x50 x51 : DV) (σ : Store) : Option (DV × Store) :=
 (seqC G PP (pol 29) CC lo c29_63 a29_63 (blockC 3 a29_44 (seqC G PP (pol 29) CC lo c29_64 a29_64 (loopC G PP (pol 29) CC lo c29_37 a29_36 (blockC 2 a29_35 (blockC 1 a29_30 (seqC G PP (pol 29) CC lo c29_65 a29_65 (loopC G PP (pol 29) CC lo c29_23 a29_22 (blockC 0 a29_21 (seqC G PP (pol 29) CC lo c29_66 a29_66 (finR PP Go.Proofs.Try.f29.results.toList))))))))))) .normal (f29_J1_fr x1 x5 x6 x7 x8 x10 x11 x12 x13 x23 x24 x25 x30 x31 x32 x33 x34 x35 x36 x37 x38 x39 x40 x41 x42 x43 x44 x45 x46 x47 x48 x49 x50 x51) σ
noncomputable def F29 (G : GuardT) (lo : Nat) (x0 : DV) (σ : Store) : Option (DV × Store) :=
 codeF G PP (pol 29) CC lo c29_0 a29_0 [x0, ud, ud, ud, ud, ud, ud, ud, ud, ud, ud, ud, ud, ud, ud, ud, ud, ud, ud, ud, ud, ud, ud, ud, ud, ud, ud, ud, ud, ud, ud, ud, ud, ud, ud, ud, ud, ud, ud, ud, ud, ud, ud, ud, ud, ud, ud, ud, ud, ud, ud, ud, ud, ud, ud, ud, ud, ud, ud] σ (finR PP Go.Proofs.Try.f29.results.toList)
theorem f29_L0_eq (G : GuardT) (hG : GuardOk G) (lo : Nat) (x1 x5 x6 x7 x23 x24 x25 : DV) (σ : Store) : f29_L0 G lo x1 x5 x6 x7 x23 x24 x25 σ =
 (binOp PP .lss 3 x25 x24).bind fun x26 =>
 condK x26
 (
 (indexAddr PP 101 x23 x25).bind fun x28 =>
 (load PP 22 x28 σ).bind fun x29 =>
 (zeroOf PP 3).bind fun z8 =>
 (store PP lo 3 (DV.ptr (List.length σ) 0) x25 (σ ++ [Row.mix z8])).bind fun σ3 =>
 (len PP 22 x29 σ3).bind fun x31 =>
 f29_L1 G lo x1 x5 x6 x7 (DV.ptr (List.length σ) 0) x23 x24 x25 x29 x31 (DV.p (PV.int IntKind.i64 (0))) σ3
 )
 (
 some ((DV.tuple [x7, (DV.p (PV.int IntKind.i64 (0)))]), σ)
 ) := (loopF_eq G hG).trans (by kernel_rfl)
theorem f29_L1_eq (G : GuardT) (hG : GuardOk G) (lo : Nat) (x1 x5 x6 x7 x8 x23 x24 x25 x30 x31 x32 : DV) (σ : Store) : f29_L1 G lo x1 x5 x6 x7 x8 x23 x24 x25 x30 x31 x32 σ =
 (binOp PP .lss 3 x32 x31).bind fun x33 =>
 condK x33
 (
 (indexAddr PP 22 x30 x32).bind fun x35 =>
 (load PP 3 x35 σ).bind fun x36 =>
 (zeroOf PP 3).bind fun z10 =>
 (zeroOf PP 3).bind fun z11 =>
 (store PP lo 3 (DV.ptr (List.length σ) 0) x32 ((σ ++ [Row.mix z10]) ++ [Row.mix z11])).bind fun σ4 =>
 (store PP lo 3 (DV.ptr (List.length (σ ++ [Row.mix z10])) 0) x36 σ4).bind fun σ5 =>
 (load PP 3 (DV.ptr (List.length (σ ++ [Row.mix z10])) 0) σ5).bind fun x37 =>
 (binOp PP .eql 3 x37 (DV.p (PV.int IntKind.i64 (-1)))).bind fun x38 =>
 condK x38
 (
 f29_J0 G lo x1 x5 x6 x7 x8 x23 x24 x25 x30 x31 x32 σ5
 )
 (
 (load PP 3 x8 σ5).bind fun x39 =>
 (load PP 3 (DV.ptr (List.length σ) 0) σ5).bind fun x40 =>
 (load PP 3 (DV.ptr (List.length (σ ++ [Row.mix z10])) 0) σ5).bind fun x41 =>
 (build PP 77 [(0, x39), (1, x40), (2, x41), (3, (DV.p (PV.int IntKind.i64 (-1))))]).bind fun x42 =>
 (zeroOf PP 77).bind fun z12 =>
 (store PP lo 77 (DV.ptr (List.length σ5) 0) x42 (σ5 ++ [Row.mix z12])).bind fun σ6 =>
 (zeroOf PP 89).bind fun z13 =>
 (store PP lo 89 (DV.ptr (List.length σ6) 0) (DV.fn 63 [x6, (DV.ptr (List.length (σ ++ [Row.mix z10])) 0)]) (σ6 ++ [Row.mix z13])).bind fun σ7 =>
 (load PP 3 (DV.ptr (List.length (σ ++ [Row.mix z10])) 0) σ7).bind fun x44 =>
 (binOp PP .gtr 3 x44 (DV.p (PV.int IntKind.i64 (0)))).bind fun x45 =>
 condK x45
 (
 (fieldAddr PP 27 x1 0).bind fun x46 =>
 (fieldAddr PP 25 x46 2).bind fun x47 =>
 (load PP 23 x47 σ7).bind fun x48 =>
 (pureFn CC (DV.fn 64 []) [x48, (DV.fn 65 [x8, x5, (DV.ptr (List.length σ) 0), (DV.ptr (List.length σ6) 0)])] σ7).bind fun x50 =>
 (fieldAddr PP 77 (DV.ptr (List.length σ5) 0) 3).bind fun x51 =>
 (store PP lo 3 x51 x50 σ7).bind fun σ8 =>
 f29_J1 G lo x1 x5 x6 x7 x8 (DV.ptr (List.length σ) 0) (DV.ptr (List.length (σ ++ [Row.mix z10])) 0) (DV.ptr (List.length σ5) 0) (DV.ptr (List.length σ6) 0) x23 x24 x25 x30 x31 x32 x33 x32 x35 x36 x37 x38 x39 x40 x41 x42 (DV.fn 63 [x6, (DV.ptr (List.length (σ ++ [Row.mix z10])) 0)]) x44 x45 x46 x47 x48 (DV.fn 65 [x8, x5, (DV.ptr (List.length σ) 0), (DV.ptr (List.length σ6) 0)]) x50 x51 σ8
 )
 (
 f29_J1 G lo x1 x5 x6 x7 x8 (DV.ptr (List.length σ) 0) (DV.ptr (List.length (σ ++ [Row.mix z10])) 0) (DV.ptr (List.length σ5) 0) (DV.ptr (List.length σ6) 0) x23 x24 x25 x30 x31 x32 x33 x32 x35 x36 x37 x38 x39 x40 x41 x42 (DV.fn 63 [x6, (DV.ptr (List.length (σ ++ [Row.mix z10])) 0)]) x44 x45 ud ud ud ud ud ud σ7
 )
 )
 )
 (
 (binOp PP .add 3 x25 (DV.p (PV.int IntKind.i64 (1)))).bind fun x57 =>
 f29_L0 G lo x1 x5 x6 x7 x23 x24 x57 σ
 ) := (loopF_eq G hG).trans (by kernel_rfl)
theorem f29_J0_eq (G : GuardT) (lo : Nat) (x1 x5 x6 x7 x8 x23 x24 x25 x30 x31 x32 : DV) (σ : Store) : f29_J0 G lo x1 x5 x6 x7 x8 x23 x24 x25 x30 x31 x32 σ =
 (binOp PP .add 3 x32 (DV.p (PV.int IntKind.i64 (1)))).bind fun x56 =>
 f29_L1 G lo x1 x5 x6 x7 x8 x23 x24 x25 x30 x31 x56 σ := by kernel_rfl
theorem f29_J1_gen (G : GuardT) (lo : Nat) (N0 : Frame → Store → Option (DV × Store)) (x1 x5 x6 x7 x8 x10 x11 x12 x13 x23 x24 x25 x30 x31 x32 x33 x34 x35 x36 x37 x38 x39 x40 x41 x42 x43 x44 x45 x46 x47 x48 x49 x50 x51 : DV) (σ : Store) : (seqC G PP (pol 29) CC lo c29_63 a29_63 (blockC 3 a29_44 (splitC N0 (seqC G PP (pol 29) CC lo c29_64 a29_64 (loopC G PP (pol 29) CC lo c29_37 a29_36 (blockC 2 a29_35 (blockC 1 a29_30 (seqC G PP (pol 29) CC lo c29_65 a29_65 (loopC G PP (pol 29) CC lo c29_23 a29_22 (blockC 0 a29_21 (seqC G PP (pol 29) CC lo c29_66 a29_66 (finR PP Go.Proofs.Try.f29.results.toList)))))))))))) .normal (f29_J1_fr x1 x5 x6 x7 x8 x10 x11 x12 x13 x23 x24 x25 x30 x31 x32 x33 x34 x35 x36 x37 x38 x39 x40 x41 x42 x43 x44 x45 x46 x47 x48 x49 x50 x51) σ =
 (load PP 77 x12 σ).bind fun x53 =>
 (buildSlice PP none 61 1 [(0, x53)] σ).bind fun r54_9 =>
 (append PP lo false 61 61 x7 r54_9.1 r54_9.2).bind fun r55_10 =>
 N0 (f29_J0_fr x1 x5 x6 r55_10.1 x8 x23 x24 x25 x30 x31 x32) r55_10.2 := by kernel_rfl
theorem f29_J1_eq (G : GuardT) (lo : Nat) (x1 x5 x6 x7 x8 x10 x11 x12 x13 x23 x24 x25 x30 x31 x32 x33 x34 x35 x36 x37 x38 x39 x40 x41 x42 x43 x44 x45 x46 x47 x48 x49 x50 x51 : DV) (σ : Store) : f29_J1 G lo x1 x5 x6 x7 x8 x10 x11 x12 x13 x23 x24 x25 x30 x31 x32 x33 x34 x35 x36 x37 x38 x39 x40 x41 x42 x43 x44 x45 x46 x47 x48 x49 x50 x51 σ =
 (load PP 77 x12 σ).bind fun x53 =>
 (buildSlice PP none 61 1 [(0, x53)] σ).bind fun r54_9 =>
 (append PP lo false 61 61 x7 r54_9.1 r54_9.2).bind fun r55_10 =>
 f29_J0 G lo x1 x5 x6 r55_10.1 x8 x23 x24 x25 x30 x31 x32 r55_10.2 := by
 have h := f29_J1_gen (N0 := (seqC G PP (pol 29) CC lo c29_64 a29_64 (loopC G PP (pol 29) CC lo c29_37 a29_36 (blockC 2 a29_35 (blockC 1 a29_30 (seqC G PP (pol 29) CC lo c29_65 a29_65 (loopC G PP (pol 29) CC lo c29_23 a29_22 (blockC 0 a29_21 (seqC G PP (pol 29) CC lo c29_66 a29_66 (finR PP Go.Proofs.Try.f29.results.toList))))))))) .normal) G lo x1 x5 x6 x7 x8 x10 x11 x12 x13 x23 x24 x25 x30 x31 x32 x33 x34 x35 x36 x37 x38 x39 x40 x41 x42 x43 x44 x45 x46 x47 x48 x49 x50 x51 σ
 simp only [splitC_eta] at h
 exact h
theorem F29_eq (G : GuardT) (lo : Nat) (x0 : DV) (σ : Store) : F29 G lo x0 σ =
 (boxV x0).bind fun z1 =>
 (load PP 27 (DV.ptr (List.length σ) 0) (σ ++ [Row.mix z1])).bind fun x14 =>
 (pureFn CC (DV.fn 41 []) [x14] (σ ++ [Row.mix z1])).bind fun x15 =>
 (binOp PP .neq 30 x15 (DV.p (PV.int IntKind.i64 (0)))).bind fun x17 =>
 condK x17
 (
 some ((DV.tuple [(DV.p PV.nilsl), x15]), (σ ++ [Row.mix z1]))
 )
 (
 (load PP 27 (DV.ptr (List.length σ) 0) (σ ++ [Row.mix z1])).bind fun x19 =>
 (pureFn CC (DV.fn 43 []) [x19] (σ ++ [Row.mix z1])).bind fun x20 =>
 (zeroOf PP 82).bind fun z5 =>
 (store PP lo 82 (DV.ptr (List.length (σ ++ [Row.mix z1])) 0) x20 ((σ ++ [Row.mix z1]) ++ [Row.mix z5])).bind fun σ1 =>
 (load PP 82 (DV.ptr (List.length (σ ++ [Row.mix z1])) 0) σ1).bind fun x21 =>
 (pureFn CC (DV.fn 58 []) [x21] σ1).bind fun x22 =>
 (zeroOf PP 101).bind fun z6 =>
 (store PP lo 101 (DV.ptr (List.length σ1) 0) x22 (σ1 ++ [Row.mix z6])).bind fun σ2 =>
 (load PP 101 (DV.ptr (List.length σ1) 0) σ2).bind fun x23 =>
 (len PP 101 x23 σ2).bind fun x24 =>
 f29_L0 G lo (DV.ptr (List.length σ) 0) (DV.ptr (List.length (σ ++ [Row.mix z1])) 0) (DV.ptr (List.length σ1) 0) (DV.p PV.nilsl) x23 x24 (DV.p (PV.int IntKind.i64 (0))) σ2
 ) := by kernel_rfl
theorem F29_call {lo : Nat} {x0 : DV} {σ : Store} {r : DV × Store} (h : F29 guardT lo x0 σ = some r) : CC lo 29 [x0] σ = some r :=
 callL_run Go.Proofs.Try.func29 (by decide +kernel) rfl (by decide +kernel) h
noncomputable def c69_0 : Code := bodyOf Go.Proofs.Try.f69
noncomputable def a69_0 : Ann := (pol 69).ann
noncomputable def F69 (G : GuardT) (lo : Nat) (x0 x1 x2 x3 : DV) (σ : Store) : Option (DV × Store) :=
 codeF G PP (pol 69) CC lo c69_0 a69_0 [x0, x1, x2, x3, ud, ud, ud, ud, ud, ud, ud, ud, ud, ud, ud, ud, ud, ud, ud, ud, ud, ud, ud, ud, ud] σ (finR PP Go.Proofs.Try.f69.results.toList)
theorem F69_eq (G : GuardT) (lo : Nat) (x0 x1 x2 x3 : DV) (σ : Store) : F69 G lo x0 x1 x2 x3 σ =
 (load PP 108 x2 σ).bind fun x10 =>
 (build PP 111 [(0, x0), (1, x1)]).bind fun x13 =>
 (lookup PP 108 x10 x13 true σ).bind fun x14 =>
 (extractV x14 0).bind fun x15 =>
 (extractV x14 1).bind fun x16 =>
 (unOp .not x16).bind fun x18 =>
 G _ x18 false (some (x15, σ)) σ fun x20 σ1 =>
 G _ x18 false ((fieldAddr PP 77 x3 2).bind fun v => some (v, σ1)) σ1 fun x21 σ2 =>
 G _ x18 false ((load PP 3 x21 σ2).bind fun v => some (v, σ2)) σ2 fun x22 σ3 =>
 G _ x18 false ((binOp PP .geq 3 x20 x22).bind fun v => some (v, σ3)) σ3 fun x23 σ4 =>
 (pickV x18 (DV.p (PV.bool true)) x23).bind fun x24 =>
 some (x24, σ4) := by kernel_rfl
theorem F69_call {lo : Nat} {x0 x1 x2 x3 : DV} {σ : Store} {r : DV × Store} (h : F69 guardT lo x0 x1 x2 x3 σ = some r) : CC lo 69 [x0, x1, x2, x3] σ = some r :=
 callL_run Go.Proofs.Try.func69 (by decide +kernel) rfl (by decide +kernel) h
noncomputable def c30_0 : Code := bodyOf Go.Proofs.Try.f30
noncomputable def a30_0 : Ann := (pol 30).ann
noncomputable def a30_17 : Ann := right (left (right (right (right a30_0))))
noncomputable def a30_18 : Ann := left a30_17
noncomputable def c30_19 : Code := fstC (fstC (sndC (fstC (sndC (sndC (sndC c30_0))))))
noncomputable def c30_41 : Code := sndC (sndC (sndC (sndC c30_0)))
noncomputable def a30_41 : Ann := right (right (right (right a30_0)))
noncomputable def a30_46 : Ann := right (left (right a30_41))
noncomputable def a30_47 : Ann := left a30_46
noncomputable def c30_48 : Code := fstC (fstC (sndC (fstC (sndC c30_41))))
noncomputable def a30_55 : Ann := left (right (right (left a30_47)))
noncomputable def c30_68 : Code := sndC (sndC (sndC (sndC (fstC (fstC (sndC (sndC c30_48)))))))
noncomputable def a30_68 : Ann := right (right (right (right (left a30_55))))
noncomputable def c30_75 : Code := sndC (sndC (sndC c30_48))
noncomputable def a30_75 : Ann := right (right (right (left a30_47)))
noncomputable def c30_76 : Code := sndC (sndC c30_41)
noncomputable def a30_76 : Ann := right (right a30_41)
noncomputable def f30_L0 (G : GuardT) (lo : Nat) (x1 x2 x7 x22 x23 x24 : DV) (σ : Store) : Option (DV × Store) :=
 codeF G PP (pol 30) CC lo (.loop c30_19) a30_18 [ud, x1, x2, ud, ud, ud, ud, x7, ud, ud, ud, ud, ud, ud, ud, ud, ud, ud, ud, ud, ud, ud, x22, x23, x24, ud, ud, ud, ud, ud, ud, ud, ud, ud, ud, ud, ud, ud, ud, ud, ud, ud, ud, ud, ud, ud, ud, ud, ud, ud, ud, ud, ud, ud, ud, ud, ud, ud, ud, ud, ud, ud, ud, ud, ud, ud, ud, ud, ud, ud, ud, ud, ud, ud, ud, ud, ud, ud, ud, ud, ud, ud, ud, ud, ud, ud, ud, ud, ud, ud, ud, ud, ud, ud, ud, ud, ud, ud, ud, ud, ud, ud, ud, ud, ud, ud, ud, ud, ud, ud, ud, ud, ud, ud, ud, ud, ud, ud, ud, ud, ud, ud, ud, ud, ud, ud, ud, ud, ud, ud, ud, ud, ud, ud, ud, ud, ud, ud, ud, ud, ud, ud, ud, ud, ud, ud, ud, ud, ud, ud, ud, ud, ud, ud, ud, ud, ud, ud, ud, ud, ud, ud, ud, ud] σ
 (blockC 0 a30_17 (seqC G PP (pol 30) CC lo c30_41 a30_41 (finR PP Go.Proofs.Try.f30.results.toList)))
noncomputable def f30_L1 (G : GuardT) (lo : Nat) (x2 x7 x11 x94 x95 x96 : DV) (σ : Store) : Option (DV × Store) :=
 codeF G PP (pol 30) CC lo (.loop c30_48) a30_47 [ud, ud, x2, ud, ud, ud, ud, x7, ud, ud, ud, x11, ud, ud, ud, ud, ud, ud, ud, ud, ud, ud, ud, ud, ud, ud, ud, ud, ud, ud, ud, ud, ud, ud, ud, ud, ud, ud, ud, ud, ud, ud, ud, ud, ud, ud, ud, ud, ud, ud, ud, ud, ud, ud, ud, ud, ud, ud, ud, ud, ud, ud, ud, ud, ud, ud, ud, ud, ud, ud, ud, ud, ud, ud, ud, ud, ud, ud, ud, ud, ud, ud, ud, ud, ud, ud, ud, ud, ud, ud, ud, ud, ud, ud, x94, x95, x96, ud, ud, ud, ud, ud, ud, ud, ud, ud, ud, ud, ud, ud, ud, ud, ud, ud, ud, ud, ud, ud, ud, ud, ud, ud, ud, ud, ud, ud, ud, ud, ud, ud, ud, ud, ud, ud, ud, ud, ud, ud, ud, ud, ud, ud, ud, ud, ud, ud, ud, ud, ud, ud, ud, ud, ud, ud, ud, ud, ud, ud, ud, ud, ud, ud, ud, ud] σ
 (blockC 2 a30_46 (seqC G PP (pol 30) CC lo c30_76 a30_76 (finR PP Go.Proofs.Try.f30.results.toList)))
def f30_J0_fr (x2 x7 x11 x12 x13 x14 x15 x94 x95 x96 x97 x98 x99 x100 x101 x102 x103 x104 x105 x106 x107 x108 x109 x110 x111 x112 x113 x114 x115 x116 x117 x118 x119 x120 x121 x122 x123 x124 x125 x126 x127 x128 x129 x130 x131 x132 x133 x134 x135 x136 x137 x138 x139 x140 x141 x142 x143 x144 x145 x146 x147 x148 x149 x150 x151 x152 x153 x154 x155 x156 x157 x158 x159 : DV) : Frame := [ud, ud, x2, ud, ud, ud, ud, x7, ud, ud, ud, x11, x12, x13, x14, x15, ud, ud, ud, ud, ud, ud, ud, ud, ud, ud, ud, ud, ud, ud, ud, ud, ud, ud, ud, ud, ud, ud, ud, ud, ud, ud, ud, ud, ud, ud, ud, ud, ud, ud, ud, ud, ud, ud, ud, ud, ud, ud, ud, ud, ud, ud, ud, ud, ud, ud, ud, ud, ud, ud, ud, ud, ud, ud, ud, ud, ud, ud, ud, ud, ud, ud, ud, ud, ud, ud, ud, ud, ud, ud, ud, ud, ud, ud, x94, x95, x96, x97, x98, x99, x100, x101, x102, x103, x104, x105, x106, x107, x108, x109, x110, x111, x112, x113, x114, x115, x116, x117, x118, x119, x120, x121, x122, x123, x124, x125, x126, x127, x128, x129, x130, x131, x132, x133, x134, x135, x136, x137, x138, x139, x140, x141, x142, x143, x144, x145, x146, x147, x148, x149, x150, x151, x152, x153, x154, x155, x156, x157, x158, x159, ud, ud, ud, ud]
noncomputable def f30_J0 (G : GuardT) (lo : Nat) (x2 x7 x11 x12 x13 x14 x15 x94 x95 x96 x97 x98 x99 x100 x101 x102 x103 x104 x105 x106 x107 x108 x109 x110 x111 x112 x113 x114 x115 x116 x117 x118 x119 x120 x121 x122 x123 x124 x125 x126 x127 x128 x129 x130 x131 x132 x133 x134 x135 x136 x137 x138 x139 x140 x141 x142 x143 x144 x145 x146 x147 x148 x149 x150 x151 x152 x153 x154 x155 x156 x157 x158 x159 : DV) (σ : Store) : Option (DV × Store) :=
 (seqC G PP (pol 30) CC lo c30_68 a30_68 (blockC 3 a30_55 (seqC G PP (pol 30) CC lo c30_75 a30_75 (loopC G PP (pol 30) CC lo c30_48 a30_47 (blockC 2 a30_46 (seqC G PP (pol 30) CC lo c30_76 a30_76 (finR PP Go.Proofs.Try.f30.results.toList))))))) .normal (f30_J0_fr x2 x7 x11 x12 x13 x14 x15 x94 x95 x96 x97 x98 x99 x100 x101 x102 x103 x104 x105 x106 x107 x108 x109 x110 x111 x112 x113 x114 x115 x116 x117 x118 x119 x120 x121 x122 x123 x124 x125 x126 x127 x128 x129 x130 x131 x132 x133 x134 x135 x136 x137 x138 x139 x140 x141 x142 x143 x144 x145 x146 x147 x148 x149 x150 x151 x152 x153 x154 x155 x156 x157 x158 x159) σ
noncomputable def F30 (G : GuardT) (lo : Nat) (x0 x1 : DV) (σ : Store) : Option (DV × Store) :=
 codeF G PP (pol 30) CC lo c30_0 a30_0 [x0, x1, ud, ud, ud, ud, ud, ud, ud, ud, ud, ud, ud, ud, ud, ud, ud, ud, ud, ud, ud, ud, ud, ud, ud, ud, ud, ud, ud, ud, ud, ud, ud, ud, ud, ud, ud, ud, ud, ud, ud, ud, ud, ud, ud, ud, ud, ud, ud, ud, ud, ud, ud, ud, ud, ud, ud, ud, ud, ud, ud, ud, ud, ud, ud, ud, ud, ud, ud, ud, ud, ud, ud, ud, ud, ud, ud, ud, ud, ud, ud, ud, ud, ud, ud, ud, ud, ud, ud, ud, ud, ud, ud, ud, ud, ud, ud, ud, ud, ud, ud, ud, ud, ud, ud, ud, ud, ud, ud, ud, ud, ud, ud, ud, ud, ud, ud, ud, ud, ud, ud, ud, ud, ud, ud, ud, ud, ud, ud, ud, ud, ud, ud, ud, ud, ud, ud, ud, ud, ud, ud, ud, ud, ud, ud, ud, ud, ud, ud, ud, ud, ud, ud, ud, ud, ud, ud, ud, ud, ud, ud, ud, ud, ud] σ (finR PP Go.Proofs.Try.f30.results.toList)
theorem f30_L0_eq (G : GuardT) (hG : GuardOk G) (lo : Nat) (x1 x2 x7 x22 x23 x24 : DV) (σ : Store) : f30_L0 G lo x1 x2 x7 x22 x23 x24 σ =
 (binOp PP .lss 3 x24 x23).bind fun x25 =>
 condK x25
 (
 (indexAddr PP 61 x22 x24).bind fun x27 =>
 (load PP 77 x27 σ).bind fun x28 =>
 (zeroOf PP 77).bind fun z9 =>
 (store PP lo 77 (DV.ptr (List.length σ) 0) x28 (σ ++ [Row.mix z9])).bind fun σ2 =>
 (fieldAddr PP 77 (DV.ptr (List.length σ) 0) 0).bind fun x29 =>
 (load PP 3 x29 σ2).bind fun x30 =>
 (fieldAddr PP 27 x2 0).bind fun x31 =>
 (fieldAddr PP 25 x31 0).bind fun x32 =>
 (load PP 3 x32 σ2).bind fun x33 =>
 (binOp PP .sub 3 x33 (DV.p (PV.int IntKind.i64 (1)))).bind fun x34 =>
 (pureFn CC (DV.fn 53 []) [x30, (DV.p (PV.int IntKind.i64 (0))), x34] σ2).bind fun x35 =>
 G _ x35 true ((fieldAddr PP 77 (DV.ptr (List.length σ) 0) 1).bind fun v => some (v, σ2)) σ2 fun x37 σ3 =>
 G _ x35 true ((load PP 3 x37 σ3).bind fun v => some (v, σ3)) σ3 fun x38 σ4 =>
 G _ x35 true ((fieldAddr PP 27 x2 1).bind fun v => some (v, σ4)) σ4 fun x39 σ5 =>
 G _ x35 true ((fieldAddr PP 25 x39 0).bind fun v => some (v, σ5)) σ5 fun x40 σ6 =>
 G _ x35 true ((load PP 3 x40 σ6).bind fun v => some (v, σ6)) σ6 fun x41 σ7 =>
 G _ x35 true ((binOp PP .sub 3 x41 (DV.p (PV.int IntKind.i64 (1)))).bind fun v => some (v, σ7)) σ7 fun x42 σ8 =>
 G _ x35 true ((pureFn CC (DV.fn 53 []) [x38, (DV.p (PV.int IntKind.i64 (0))), x42] σ8).bind fun v => some (v, σ8)) σ8 fun x43 σ9 =>
 (pickV x35 x43 (DV.p (PV.bool false))).bind fun x44 =>
 G _ x44 true ((fieldAddr PP 77 (DV.ptr (List.length σ) 0) 2).bind fun v => some (v, σ9)) σ9 fun x46 σ10 =>
 G _ x44 true ((load PP 3 x46 σ10).bind fun v => some (v, σ10)) σ10 fun x47 σ11 =>
 G _ x44 true ((binOp PP .geq 3 x47 (DV.p (PV.int IntKind.i64 (0)))).bind fun v => some (v, σ11)) σ11 fun x48 σ12 =>
 (pickV x44 x48 (DV.p (PV.bool false))).bind fun x49 =>
 (pureFn CC (DV.fn 56 []) [x49, (DV.p (PV.int IntKind.i64 (3)))] σ12).bind fun x50 =>
 (binOp PP .eql 3 x24 (DV.p (PV.int IntKind.i64 (0)))).bind fun x52 =>
 G _ x52 false (some (x1, σ12)) σ12 fun x54 σ13 =>
 G _ x52 false (some (x24, σ13)) σ13 fun x55 σ14 =>
 G _ x52 false ((binOp PP .sub 3 x55 (DV.p (PV.int IntKind.i64 (1)))).bind fun v => some (v, σ14)) σ14 fun x56 σ15 =>
 G _ x52 false ((indexAddr PP 61 x54 x56).bind fun v => some (v, σ15)) σ15 fun x57 σ16 =>
 G _ x52 false ((fieldAddr PP 77 x57 0).bind fun v => some (v, σ16)) σ16 fun x58 σ17 =>
 G _ x52 false ((load PP 3 x58 σ17).bind fun v => some (v, σ17)) σ17 fun x59 σ18 =>
 G _ x52 false ((fieldAddr PP 77 (DV.ptr (List.length σ) 0) 0).bind fun v => some (v, σ18)) σ18 fun x60 σ19 =>
 G _ x52 false ((load PP 3 x60 σ19).bind fun v => some (v, σ19)) σ19 fun x61 σ20 =>
 G _ x52 false ((pureFn CC (DV.fn 68 []) [x59, x61] σ20).bind fun v => some (v, σ20)) σ20 fun x62 σ21 =>
 G _ x52 false (some (x1, σ21)) σ21 fun x63 σ22 =>
 G _ x52 false (some (x24, σ22)) σ22 fun x64 σ23 =>
 G _ x52 false ((binOp PP .sub 3 x64 (DV.p (PV.int IntKind.i64 (1)))).bind fun v => some (v, σ23)) σ23 fun x65 σ24 =>
 G _ x52 false ((indexAddr PP 61 x63 x65).bind fun v => some (v, σ24)) σ24 fun x66 σ25 =>
 G _ x52 false ((fieldAddr PP 77 x66 1).bind fun v => some (v, σ25)) σ25 fun x67 σ26 =>
 G _ x52 false ((load PP 3 x67 σ26).bind fun v => some (v, σ26)) σ26 fun x68 σ27 =>
 G _ x52 false ((fieldAddr PP 77 (DV.ptr (List.length σ) 0) 1).bind fun v => some (v, σ27)) σ27 fun x69 σ28 =>
 G _ x52 false ((load PP 3 x69 σ28).bind fun v => some (v, σ28)) σ28 fun x70 σ29 =>
 G _ x52 false ((pureFn CC (DV.fn 68 []) [x68, x70] σ29).bind fun v => some (v, σ29)) σ29 fun x71 σ30 =>
 G _ x52 false ((buildSlice PP none 22 2 [(0, x62), (1, x71)] σ30).bind fun r => some (r.1, r.2)) σ30 fun x72 σ31 =>
 G _ x52 false ((pureFn CC (DV.fn 67 []) [x72] σ31).bind fun v => some (v, σ31)) σ31 fun x73 σ32 =>
 G _ x52 false ((binOp PP .lss 3 x73 (DV.p (PV.int IntKind.i64 (0)))).bind fun v => some (v, σ32)) σ32 fun x74 σ33 =>
 (pickV x52 (DV.p (PV.bool true)) x74).bind fun x75 =>
 (pureFn CC (DV.fn 56 []) [x75, (DV.p (PV.int IntKind.i64 (13)))] σ33).bind fun x76 =>
 (buildSlice PP none 122 2 [(0, x50), (1, x76)] σ33).bind fun r77_34 =>
 (pureFn CC (DV.fn 54 []) [r77_34.1] r77_34.2).bind fun x78 =>
 (binOp PP .neq 30 x78 (DV.p (PV.int IntKind.i64 (0)))).bind fun x80 =>
 condK x80
 (
 some ((DV.tuple [x24, x78]), r77_34.2)
 )
 (
 (load PP 108 x7 r77_34.2).bind fun x83 =>
 (fieldAddr PP 77 (DV.ptr (List.length σ) 0) 0).bind fun x84 =>
 (load PP 3 x84 r77_34.2).bind fun x85 =>
 (fieldAddr PP 77 (DV.ptr (List.length σ) 0) 1).bind fun x86 =>
 (load PP 3 x86 r77_34.2).bind fun x87 =>
 (build PP 111 [(0, x85), (1, x87)]).bind fun x88 =>
 (fieldAddr PP 77 (DV.ptr (List.length σ) 0) 2).bind fun x89 =>
 (load PP 3 x89 r77_34.2).bind fun x90 =>
 (mapUpdate PP lo 108 x83 x88 x90 r77_34.2).bind fun σ35 =>
 (binOp PP .add 3 x24 (DV.p (PV.int IntKind.i64 (1)))).bind fun x91 =>
 f30_L0 G lo x1 x2 x7 x22 x23 x91 σ35
 )
 )
 (
 (load PP 27 x2 σ).bind fun x92 =>
 (pureFn CC (DV.fn 43 []) [x92] σ).bind fun x93 =>
 (len PP 61 x1 σ).bind fun x95 =>
 f30_L1 G lo x2 x7 x93 x1 x95 (DV.p (PV.int IntKind.i64 (0))) σ
 ) := (loopF_eq G hG).trans (by kernel_rfl)
theorem f30_L1_eq (G : GuardT) (hG : GuardOk G) (lo : Nat) (x2 x7 x11 x94 x95 x96 : DV) (σ : Store) : f30_L1 G lo x2 x7 x11 x94 x95 x96 σ =
 (binOp PP .lss 3 x96 x95).bind fun x97 =>
 condK x97
 (
 (indexAddr PP 61 x94 x96).bind fun x99 =>
 (load PP 77 x99 σ).bind fun x100 =>
 (zeroOf PP 77).bind fun z13 =>
 (store PP lo 77 (DV.ptr (List.length σ) 0) x100 (σ ++ [Row.mix z13])).bind fun σ36 =>
 (fieldAddr PP 27 x2 2).bind fun x102 =>
 (load PP 22 x102 σ36).bind fun x103 =>
 (fieldAddr PP 77 (DV.ptr (List.length σ) 0) 0).bind fun x104 =>
 (load PP 3 x104 σ36).bind fun x105 =>
 (indexAddr PP 22 x103 x105).bind fun x106 =>
 (load PP 3 x106 σ36).bind fun x107 =>
 (fieldAddr PP 27 x2 3).bind fun x108 =>
 (load PP 22 x108 σ36).bind fun x109 =>
 (fieldAddr PP 77 (DV.ptr (List.length σ) 0) 1).bind fun x110 =>
 (load PP 3 x110 σ36).bind fun x111 =>
 (indexAddr PP 22 x109 x111).bind fun x112 =>
 (load PP 3 x112 σ36).bind fun x113 =>
 (binOp PP .neq 3 x107 x113).bind fun x114 =>
 G _ x114 true ((fieldAddr PP 77 (DV.ptr (List.length σ) 0) 3).bind fun v => some (v, σ36)) σ36 fun x116 σ37 =>
 G _ x114 true ((load PP 3 x116 σ37).bind fun v => some (v, σ37)) σ37 fun x117 σ38 =>
 G _ x114 true ((binOp PP .eql 3 x117 (DV.p (PV.int IntKind.i64 (-1)))).bind fun v => some (v, σ38)) σ38 fun x118 σ39 =>
 (pickV x114 x118 (DV.p (PV.bool false))).bind fun x119 =>
 (fieldAddr PP 77 (DV.ptr (List.length σ) 0) 2).bind fun x120 =>
 (load PP 3 x120 σ39).bind fun x121 =>
 (binOp PP .gtr 3 x121 (DV.p (PV.int IntKind.i64 (0)))).bind fun x122 =>
 condK x122
 (
 (fieldAddr PP 77 (DV.ptr (List.length σ) 0) 3).bind fun x123 =>
 (load PP 3 x123 σ39).bind fun x124 =>
 (fieldAddr PP 27 x2 0).bind fun x125 =>
 (fieldAddr PP 25 x125 2).bind fun x126 =>
 (load PP 23 x126 σ39).bind fun x127 =>
 (len PP 23 x127 σ39).bind fun x128 =>
 (binOp PP .sub 3 x128 (DV.p (PV.int IntKind.i64 (1)))).bind fun x129 =>
 (pureFn CC (DV.fn 53 []) [x124, (DV.p (PV.int IntKind.i64 (0))), x129] σ39).bind fun x130 =>
 G _ x130 true ((fieldAddr PP 27 x2 0).bind fun v => some (v, σ39)) σ39 fun x132 σ40 =>
 G _ x130 true ((fieldAddr PP 25 x132 2).bind fun v => some (v, σ40)) σ40 fun x133 σ41 =>
 G _ x130 true ((load PP 23 x133 σ41).bind fun v => some (v, σ41)) σ41 fun x134 σ42 =>
 G _ x130 true ((fieldAddr PP 77 (DV.ptr (List.length σ) 0) 3).bind fun v => some (v, σ42)) σ42 fun x135 σ43 =>
 G _ x130 true ((load PP 3 x135 σ43).bind fun v => some (v, σ43)) σ43 fun x136 σ44 =>
 G _ x130 true ((indexAddr PP 23 x134 x136).bind fun v => some (v, σ44)) σ44 fun x137 σ45 =>
 G _ x130 true ((fieldAddr PP 100 x137 0).bind fun v => some (v, σ45)) σ45 fun x138 σ46 =>
 G _ x130 true ((load PP 3 x138 σ46).bind fun v => some (v, σ46)) σ46 fun x139 σ47 =>
 G _ x130 true ((fieldAddr PP 77 (DV.ptr (List.length σ) 0) 0).bind fun v => some (v, σ47)) σ47 fun x140 σ48 =>
 G _ x130 true ((load PP 3 x140 σ48).bind fun v => some (v, σ48)) σ48 fun x141 σ49 =>
 G _ x130 true ((binOp PP .eql 3 x139 x141).bind fun v => some (v, σ49)) σ49 fun x142 σ50 =>
 (pickV x130 x142 (DV.p (PV.bool false))).bind fun x143 =>
 G _ x143 true (some (x11, σ50)) σ50 fun x145 σ51 =>
 G _ x143 true ((fieldAddr PP 27 x2 0).bind fun v => some (v, σ51)) σ51 fun x146 σ52 =>
 G _ x143 true ((fieldAddr PP 25 x146 2).bind fun v => some (v, σ52)) σ52 fun x147 σ53 =>
 G _ x143 true ((load PP 23 x147 σ53).bind fun v => some (v, σ53)) σ53 fun x148 σ54 =>
 G _ x143 true ((fieldAddr PP 77 (DV.ptr (List.length σ) 0) 3).bind fun v => some (v, σ54)) σ54 fun x149 σ55 =>
 G _ x143 true ((load PP 3 x149 σ55).bind fun v => some (v, σ55)) σ55 fun x150 σ56 =>
 G _ x143 true ((indexAddr PP 23 x148 x150).bind fun v => some (v, σ56)) σ56 fun x151 σ57 =>
 G _ x143 true ((fieldAddr PP 100 x151 1).bind fun v => some (v, σ57)) σ57 fun x152 σ58 =>
 G _ x143 true ((load PP 3 x152 σ58).bind fun v => some (v, σ58)) σ58 fun x153 σ59 =>
 G _ x143 true ((fieldAddr PP 77 (DV.ptr (List.length σ) 0) 1).bind fun v => some (v, σ59)) σ59 fun x154 σ60 =>
 G _ x143 true ((load PP 3 x154 σ60).bind fun v => some (v, σ60)) σ60 fun x155 σ61 =>
 G _ x143 true (some ((DV.fn 69 [x7, (DV.ptr (List.length σ) 0)]), σ61)) σ61 fun x156 σ62 =>
 G _ x143 true ((pureFn CC (DV.fn 66 []) [x145, x153, x155, x156] σ62).bind fun v => some (v, σ62)) σ62 fun x157 σ63 =>
 G _ x143 true ((unOp .not x157).bind fun v => some (v, σ63)) σ63 fun x158 σ64 =>
 (pickV x143 x158 (DV.p (PV.bool false))).bind fun x159 =>
 f30_J0 G lo x2 x7 x11 x96 (DV.ptr (List.length σ) 0) (DV.fn 69 [x7, (DV.ptr (List.length σ) 0)]) x159 x94 x95 x96 x97 x96 x99 x100 (DV.fn 69 [x7, (DV.ptr (List.length σ) 0)]) x102 x103 x104 x105 x106 x107 x108 x109 x110 x111 x112 x113 x114 x114 x116 x117 x118 x119 x120 x121 x122 x123 x124 x125 x126 x127 x128 x129 x130 x130 x132 x133 x134 x135 x136 x137 x138 x139 x140 x141 x142 x143 x143 x145 x146 x147 x148 x149 x150 x151 x152 x153 x154 x155 x156 x157 x158 x159 σ64
 )
 (
 f30_J0 G lo x2 x7 x11 x96 (DV.ptr (List.length σ) 0) (DV.fn 69 [x7, (DV.ptr (List.length σ) 0)]) x119 x94 x95 x96 x97 x96 x99 x100 (DV.fn 69 [x7, (DV.ptr (List.length σ) 0)]) x102 x103 x104 x105 x106 x107 x108 x109 x110 x111 x112 x113 x114 x114 x116 x117 x118 x119 x120 x121 x122 ud ud ud ud ud ud ud ud ud ud ud ud ud ud ud ud ud ud ud ud ud ud ud ud ud ud ud ud ud ud ud ud ud ud ud ud ud σ39
 )
 )
 (
 some ((DV.tuple [(DV.p (PV.int IntKind.i64 (0))), (DV.p (PV.int IntKind.i64 (0)))]), σ)
 ) := (loopF_eq G hG).trans (by kernel_rfl)
theorem f30_J0_eq (G : GuardT) (lo : Nat) (x2 x7 x11 x12 x13 x14 x15 x94 x95 x96 x97 x98 x99 x100 x101 x102 x103 x104 x105 x106 x107 x108 x109 x110 x111 x112 x113 x114 x115 x116 x117 x118 x119 x120 x121 x122 x123 x124 x125 x126 x127 x128 x129 x130 x131 x132 x133 x134 x135 x136 x137 x138 x139 x140 x141 x142 x143 x144 x145 x146 x147 x148 x149 x150 x151 x152 x153 x154 x155 x156 x157 x158 x159 : DV) (σ : Store) : f30_J0 G lo x2 x7 x11 x12 x13 x14 x15 x94 x95 x96 x97 x98 x99 x100 x101 x102 x103 x104 x105 x106 x107 x108 x109 x110 x111 x112 x113 x114 x115 x116 x117 x118 x119 x120 x121 x122 x123 x124 x125 x126 x127 x128 x129 x130 x131 x132 x133 x134 x135 x136 x137 x138 x139 x140 x141 x142 x143 x144 x145 x146 x147 x148 x149 x150 x151 x152 x153 x154 x155 x156 x157 x158 x159 σ =
 (unOp .not x15).bind fun x161 =>
 condK x161
 (
 some ((DV.tuple [x12, (DV.p (PV.int IntKind.i64 (28)))]), σ)
 )
 (
 (binOp PP .add 3 x96 (DV.p (PV.int IntKind.i64 (1)))).bind fun x163 =>
 f30_L1 G lo x2 x7 x11 x94 x95 x163 σ
 ) := by kernel_rfl
theorem F30_eq (G : GuardT) (lo : Nat) (x0 x1 : DV) (σ : Store) : F30 G lo x0 x1 σ =
 (boxV x0).bind fun z2 =>
 (load PP 27 (DV.ptr (List.length σ) 0) (σ ++ [Row.mix z2])).bind fun x16 =>
 (pureFn CC (DV.fn 41 []) [x16] (σ ++ [Row.mix z2])).bind fun x17 =>
 (binOp PP .neq 30 x17 (DV.p (PV.int IntKind.i64 (0)))).bind fun x19 =>
 condK x19
 (
 some ((DV.tuple [(DV.p (PV.int IntKind.i64 (0))), x17]), (σ ++ [Row.mix z2]))
 )
 (
 (zeroOf PP 108).bind fun z7 =>
 (store PP lo 108 (DV.ptr (List.length ((σ ++ [Row.mix z2]) ++ [Row.map []])) 0) (DV.map (List.length (σ ++ [Row.mix z2]))) (((σ ++ [Row.mix z2]) ++ [Row.map []]) ++ [Row.mix z7])).bind fun σ1 =>
 (len PP 61 x1 σ1).bind fun x23 =>
 f30_L0 G lo x1 (DV.ptr (List.length σ) 0) (DV.ptr (List.length ((σ ++ [Row.mix z2]) ++ [Row.map []])) 0) x1 x23 (DV.p (PV.int IntKind.i64 (0))) σ1
 ) := by kernel_rfl
theorem F30_call {lo : Nat} {x0 x1 : DV} {σ : Store} {r : DV × Store} (h : F30 guardT lo x0 x1 σ = some r) : CC lo 30 [x0, x1] σ = some r :=
 callL_run Go.Proofs.Try.func30 (by decide +kernel) rfl (by decide +kernel) h
noncomputable def c89_0 : Code := bodyOf Go.Proofs.Try.f89
noncomputable def a89_0 : Ann := (pol 89).ann
noncomputable def a89_5 : Ann := right (left (right a89_0))
noncomputable def a89_6 : Ann := left a89_5
noncomputable def c89_7 : Code := fstC (fstC (sndC (fstC (sndC c89_0))))
noncomputable def c89_23 : Code := sndC (sndC c89_0)
noncomputable def a89_23 : Ann := right (right a89_0)
noncomputable def f89_L0 (G : GuardT) (lo : Nat) (x0 x1 x2 x3 x9 : DV) (σ : Store) : Option (DV × Store) :=
 codeF G PP (pol 89) CC lo (.loop c89_7) a89_6 [x0, x1, x2, x3, ud, ud, ud, ud, ud, x9, ud, ud, ud, ud, ud, ud, ud, ud, ud, ud, ud, ud, ud, ud, ud, ud, ud, ud, ud, ud, ud, ud, ud, ud, ud, ud, ud, ud, ud, ud, ud] σ
 (blockC 0 a89_5 (seqC G PP (pol 89) CC lo c89_23 a89_23 (finR PP Go.Proofs.Try.f89.results.toList)))
noncomputable def F89 (G : GuardT) (lo : Nat) (x0 x1 x2 x3 : DV) (σ : Store) : Option (DV × Store) :=
 codeF G PP (pol 89) CC lo c89_0 a89_0 [x0, x1, x2, x3, ud, ud, ud, ud, ud, ud, ud, ud, ud, ud, ud, ud, ud, ud, ud, ud, ud, ud, ud, ud, ud, ud, ud, ud, ud, ud, ud, ud, ud, ud, ud, ud, ud, ud, ud, ud, ud] σ (finR PP Go.Proofs.Try.f89.results.toList)
theorem f89_L0_eq (G : GuardT) (hG : GuardOk G) (lo : Nat) (x0 x1 x2 x3 x9 : DV) (σ : Store) : f89_L0 G lo x0 x1 x2 x3 x9 σ =
 (len PP 61 x0 σ).bind fun x12 =>
 (binOp PP .lss 3 x9 x12).bind fun x13 =>
 condK x13
 (
 (indexAddr PP 61 x0 x9).bind fun x18 =>
 (fieldAddr PP 77 x18 0).bind fun x19 =>
 (load PP 3 x19 σ).bind fun x20 =>
 (binOp PP .eql 3 x20 x1).bind fun x22 =>
 G _ x22 true (some (x0, σ)) σ fun x24 σ1 =>
 G _ x22 true (some (x9, σ1)) σ1 fun x25 σ2 =>
 G _ x22 true ((indexAddr PP 61 x24 x25).bind fun v => some (v, σ2)) σ2 fun x26 σ3 =>
 G _ x22 true ((fieldAddr PP 77 x26 1).bind fun v => some (v, σ3)) σ3 fun x27 σ4 =>
 G _ x22 true ((load PP 3 x27 σ4).bind fun v => some (v, σ4)) σ4 fun x28 σ5 =>
 G _ x22 true (some (x2, σ5)) σ5 fun x29 σ6 =>
 G _ x22 true ((binOp PP .eql 3 x28 x29).bind fun v => some (v, σ6)) σ6 fun x30 σ7 =>
 (pickV x22 x30 (DV.p (PV.bool false))).bind fun x31 =>
 G _ x31 true (some (x0, σ7)) σ7 fun x33 σ8 =>
 G _ x31 true (some (x9, σ8)) σ8 fun x34 σ9 =>
 G _ x31 true ((indexAddr PP 61 x33 x34).bind fun v => some (v, σ9)) σ9 fun x35 σ10 =>
 G _ x31 true ((fieldAddr PP 77 x35 2).bind fun v => some (v, σ10)) σ10 fun x36 σ11 =>
 G _ x31 true ((load PP 3 x36 σ11).bind fun v => some (v, σ11)) σ11 fun x37 σ12 =>
 G _ x31 true (some (x3, σ12)) σ12 fun x38 σ13 =>
 G _ x31 true ((binOp PP .lss 3 x37 x38).bind fun v => some (v, σ13)) σ13 fun x39 σ14 =>
 (pickV x31 x39 (DV.p (PV.bool false))).bind fun x40 =>
 condK x40
 (
 some ((DV.p (PV.bool true)), σ14)
 )
 (
 (binOp PP .add 3 x9 (DV.p (PV.int IntKind.i64 (1)))).bind fun x15 =>
 f89_L0 G lo x0 x1 x2 x3 x15 σ14
 )
 )
 (
 some ((DV.p (PV.bool false)), σ)
 ) := (loopF_eq G hG).trans (by kernel_rfl)
theorem F89_eq (G : GuardT) (lo : Nat) (x0 x1 x2 x3 : DV) (σ : Store) : F89 G lo x0 x1 x2 x3 σ =
 f89_L0 G lo x0 x1 x2 x3 (DV.p (PV.int IntKind.i64 (0))) σ := by kernel_rfl
theorem F89_call {lo : Nat} {x0 x1 x2 x3 : DV} {σ : Store} {r : DV × Store} (h : F89 guardT lo x0 x1 x2 x3 σ = some r) : CC lo 89 [x0, x1, x2, x3] σ = some r :=
 callL_run Go.Proofs.Try.func89 (by decide +kernel) rfl (by decide +kernel) h
noncomputable def c71_0 : Code := bodyOf Go.Proofs.Try.f71
noncomputable def a71_0 : Ann := (pol 71).ann
noncomputable def a71_21 : Ann := right (left (right (right (right a71_0))))
noncomputable def a71_22 : Ann := left a71_21
noncomputable def c71_23 : Code := fstC (fstC (sndC (fstC (sndC (sndC (sndC c71_0))))))
noncomputable def c71_39 : Code := sndC (sndC (sndC (sndC c71_0)))
noncomputable def a71_39 : Ann := right (right (right (right a71_0)))
noncomputable def f71_L0 (G : GuardT) (lo : Nat) (x1 x3 x5 x7 : DV) (σ : Store) : Option (DV × Store) :=
 codeF G PP (pol 71) CC lo (.loop c71_23) a71_22 [ud, x1, ud, x3, ud, x5, ud, x7, ud, ud, ud, ud, ud, ud, ud, ud, ud, ud, ud, ud, ud, ud, ud, ud, ud, ud, ud, ud, ud, ud, ud, ud, ud, ud, ud, ud, ud, ud, ud, ud, ud, ud, ud, ud, ud, ud, ud, ud, ud, ud, ud, ud, ud, ud, ud, ud, ud, ud, ud, ud, ud, ud, ud, ud, ud, ud, ud, ud, ud, ud, ud, ud, ud, ud, ud, ud, ud, ud, ud, ud] σ
 (blockC 0 a71_21 (seqC G PP (pol 71) CC lo c71_39 a71_39 (finR PP Go.Proofs.Try.f71.results.toList)))
noncomputable def F71 (G : GuardT) (lo : Nat) (x0 x1 x2 : DV) (σ : Store) : Option (DV × Store) :=
 codeF G PP (pol 71) CC lo c71_0 a71_0 [x0, x1, x2, ud, ud, ud, ud, ud, ud, ud, ud, ud, ud, ud, ud, ud, ud, ud, ud, ud, ud, ud, ud, ud, ud, ud, ud, ud, ud, ud, ud, ud, ud, ud, ud, ud, ud, ud, ud, ud, ud, ud, ud, ud, ud, ud, ud, ud, ud, ud, ud, ud, ud, ud, ud, ud, ud, ud, ud, ud, ud, ud, ud, ud, ud, ud, ud, ud, ud, ud, ud, ud, ud, ud, ud, ud, ud, ud, ud, ud] σ (finR PP Go.Proofs.Try.f71.results.toList)
theorem f71_L0_eq (G : GuardT) (hG : GuardOk G) (lo : Nat) (x1 x3 x5 x7 : DV) (σ : Store) : f71_L0 G lo x1 x3 x5 x7 σ =
 (fieldAddr PP 27 x3 1).bind fun x52 =>
 (fieldAddr PP 25 x52 0).bind fun x53 =>
 (load PP 3 x53 σ).bind fun x54 =>
 (binOp PP .lss 3 x7 x54).bind fun x55 =>
 condK x55
 (
 (fieldAddr PP 27 x3 1).bind fun x58 =>
 (load PP 25 x58 σ).bind fun x59 =>
 (fieldAddr PP 77 x5 1).bind fun x60 =>
 (load PP 3 x60 σ).bind fun x61 =>
 (pureFn CC (DV.fn 50 []) [x59, x61, x7] σ).bind fun x63 =>
 G _ x63 true (some (x1, σ)) σ fun x65 σ15 =>
 G _ x63 true ((fieldAddr PP 27 x3 0).bind fun v => some (v, σ15)) σ15 fun x66 σ16 =>
 G _ x63 true ((fieldAddr PP 25 x66 2).bind fun v => some (v, σ16)) σ16 fun x67 σ17 =>
 G _ x63 true ((load PP 23 x67 σ17).bind fun v => some (v, σ17)) σ17 fun x68 σ18 =>
 G _ x63 true ((fieldAddr PP 77 x5 3).bind fun v => some (v, σ18)) σ18 fun x69 σ19 =>
 G _ x63 true ((load PP 3 x69 σ19).bind fun v => some (v, σ19)) σ19 fun x70 σ20 =>
 G _ x63 true ((indexAddr PP 23 x68 x70).bind fun v => some (v, σ20)) σ20 fun x71 σ21 =>
 G _ x63 true ((fieldAddr PP 100 x71 1).bind fun v => some (v, σ21)) σ21 fun x72 σ22 =>
 G _ x63 true ((load PP 3 x72 σ22).bind fun v => some (v, σ22)) σ22 fun x73 σ23 =>
 G _ x63 true (some (x7, σ23)) σ23 fun x74 σ24 =>
 G _ x63 true ((fieldAddr PP 77 x5 2).bind fun v => some (v, σ24)) σ24 fun x75 σ25 =>
 G _ x63 true ((load PP 3 x75 σ25).bind fun v => some (v, σ25)) σ25 fun x76 σ26 =>
 G _ x63 true ((pureFn CC (DV.fn 89 []) [x65, x73, x74, x76] σ26).bind fun v => some (v, σ26)) σ26 fun x77 σ27 =>
 G _ x63 true ((unOp .not x77).bind fun v => some (v, σ27)) σ27 fun x78 σ28 =>
 (pickV x63 x78 (DV.p (PV.bool false))).bind fun x79 =>
 condK x79
 (
 some ((DV.p (PV.bool false)), σ28)
 )
 (
 (binOp PP .add 3 x7 (DV.p (PV.int IntKind.i64 (1)))).bind fun x57 =>
 f71_L0 G lo x1 x3 x5 x57 σ28
 )
 )
 (
 some ((DV.p (PV.bool true)), σ)
 ) := (loopF_eq G hG).trans (by kernel_rfl)
theorem F71_eq (G : GuardT) (lo : Nat) (x0 x1 x2 : DV) (σ : Store) : F71 G lo x0 x1 x2 σ =
 (boxV x0).bind fun z3 =>
 (boxV x2).bind fun z5 =>
 (fieldAddr PP 77 (DV.ptr (List.length (σ ++ [Row.mix z3])) 0) 2).bind fun x8 =>
 (load PP 3 x8 ((σ ++ [Row.mix z3]) ++ [Row.mix z5])).bind fun x9 =>
 (binOp PP .eql 3 x9 (DV.p (PV.int IntKind.i64 (0)))).bind fun x10 =>
 condK x10
 (
 (fieldAddr PP 27 (DV.ptr (List.length σ) 0) 2).bind fun x11 =>
 (load PP 22 x11 ((σ ++ [Row.mix z3]) ++ [Row.mix z5])).bind fun x12 =>
 (fieldAddr PP 77 (DV.ptr (List.length (σ ++ [Row.mix z3])) 0) 0).bind fun x13 =>
 (load PP 3 x13 ((σ ++ [Row.mix z3]) ++ [Row.mix z5])).bind fun x14 =>
 (indexAddr PP 22 x12 x14).bind fun x15 =>
 (load PP 3 x15 ((σ ++ [Row.mix z3]) ++ [Row.mix z5])).bind fun x16 =>
 (fieldAddr PP 27 (DV.ptr (List.length σ) 0) 3).bind fun x17 =>
 (load PP 22 x17 ((σ ++ [Row.mix z3]) ++ [Row.mix z5])).bind fun x18 =>
 (fieldAddr PP 77 (DV.ptr (List.length (σ ++ [Row.mix z3])) 0) 1).bind fun x19 =>
 (load PP 3 x19 ((σ ++ [Row.mix z3]) ++ [Row.mix z5])).bind fun x20 =>
 (indexAddr PP 22 x18 x20).bind fun x21 =>
 (load PP 3 x21 ((σ ++ [Row.mix z3]) ++ [Row.mix z5])).bind fun x22 =>
 (binOp PP .neq 3 x16 x22).bind fun x23 =>
 G _ x23 true ((fieldAddr PP 77 (DV.ptr (List.length (σ ++ [Row.mix z3])) 0) 3).bind fun v => some (v, ((σ ++ [Row.mix z3]) ++ [Row.mix z5]))) ((σ ++ [Row.mix z3]) ++ [Row.mix z5]) fun x25 σ1 =>
 G _ x23 true ((load PP 3 x25 σ1).bind fun v => some (v, σ1)) σ1 fun x26 σ2 =>
 G _ x23 true ((binOp PP .eql 3 x26 (DV.p (PV.int IntKind.i64 (-1)))).bind fun v => some (v, σ2)) σ2 fun x27 σ3 =>
 (pickV x23 x27 (DV.p (PV.bool false))).bind fun x28 =>
 some (x28, σ3)
 )
 (
 (fieldAddr PP 77 (DV.ptr (List.length (σ ++ [Row.mix z3])) 0) 3).bind fun x29 =>
 (load PP 3 x29 ((σ ++ [Row.mix z3]) ++ [Row.mix z5])).bind fun x30 =>
 (fieldAddr PP 27 (DV.ptr (List.length σ) 0) 0).bind fun x31 =>
 (fieldAddr PP 25 x31 2).bind fun x32 =>
 (load PP 23 x32 ((σ ++ [Row.mix z3]) ++ [Row.mix z5])).bind fun x33 =>
 (len PP 23 x33 ((σ ++ [Row.mix z3]) ++ [Row.mix z5])).bind fun x34 =>
 (binOp PP .sub 3 x34 (DV.p (PV.int IntKind.i64 (1)))).bind fun x35 =>
 (pureFn CC (DV.fn 22 []) [x30, (DV.p (PV.int IntKind.i64 (0))), x35] ((σ ++ [Row.mix z3]) ++ [Row.mix z5])).bind fun x36 =>
 (unOp .not x36).bind fun x37 =>
 G _ x37 false ((fieldAddr PP 27 (DV.ptr (List.length σ) 0) 0).bind fun v => some (v, ((σ ++ [Row.mix z3]) ++ [Row.mix z5]))) ((σ ++ [Row.mix z3]) ++ [Row.mix z5]) fun x39 σ4 =>
 G _ x37 false ((fieldAddr PP 25 x39 2).bind fun v => some (v, σ4)) σ4 fun x40 σ5 =>
 G _ x37 false ((load PP 23 x40 σ5).bind fun v => some (v, σ5)) σ5 fun x41 σ6 =>
 G _ x37 false ((fieldAddr PP 77 (DV.ptr (List.length (σ ++ [Row.mix z3])) 0) 3).bind fun v => some (v, σ6)) σ6 fun x42 σ7 =>
 G _ x37 false ((load PP 3 x42 σ7).bind fun v => some (v, σ7)) σ7 fun x43 σ8 =>
 G _ x37 false ((indexAddr PP 23 x41 x43).bind fun v => some (v, σ8)) σ8 fun x44 σ9 =>
 G _ x37 false ((fieldAddr PP 100 x44 0).bind fun v => some (v, σ9)) σ9 fun x45 σ10 =>
 G _ x37 false ((load PP 3 x45 σ10).bind fun v => some (v, σ10)) σ10 fun x46 σ11 =>
 G _ x37 false ((fieldAddr PP 77 (DV.ptr (List.length (σ ++ [Row.mix z3])) 0) 0).bind fun v => some (v, σ11)) σ11 fun x47 σ12 =>
 G _ x37 false ((load PP 3 x47 σ12).bind fun v => some (v, σ12)) σ12 fun x48 σ13 =>
 G _ x37 false ((binOp PP .neq 3 x46 x48).bind fun v => some (v, σ13)) σ13 fun x49 σ14 =>
 (pickV x37 (DV.p (PV.bool true)) x49).bind fun x50 =>
 condK x50
 (
 some ((DV.p (PV.bool false)), σ14)
 )
 (
 f71_L0 G lo x1 (DV.ptr (List.length σ) 0) (DV.ptr (List.length (σ ++ [Row.mix z3])) 0) (DV.p (PV.int IntKind.i64 (0))) σ14
 )
 ) := by kernel_rfl
theorem F71_call {lo : Nat} {x0 x1 x2 : DV} {σ : Store} {r : DV × Store} (h : F71 guardT lo x0 x1 x2 σ = some r) : CC lo 71 [x0, x1, x2] σ = some r :=
 callL_run Go.Proofs.Try.func71 (by decide +kernel) rfl (by decide +kernel) h
noncomputable def c31_0 : Code := bodyOf Go.Proofs.Try.f31
noncomputable def a31_0 : Ann := (pol 31).ann
noncomputable def a31_5 : Ann := right (left (right a31_0))
noncomputable def a31_6 : Ann := left a31_5
noncomputable def c31_7 : Code := fstC (fstC (sndC (fstC (sndC c31_0))))
noncomputable def c31_33 : Code := sndC (sndC c31_0)
noncomputable def a31_33 : Ann := right (right a31_0)
noncomputable def a31_36 : Ann := right (left a31_33)
noncomputable def a31_37 : Ann := left a31_36
noncomputable def c31_38 : Code := fstC (fstC (sndC (fstC c31_33)))
noncomputable def c31_54 : Code := sndC c31_33
noncomputable def a31_54 : Ann := right a31_33
noncomputable def f31_L0 (G : GuardT) (lo : Nat) (x1 x2 x6 : DV) (σ : Store) : Option (DV × Store) :=
 codeF G PP (pol 31) CC lo (.loop c31_7) a31_6 [ud, x1, x2, ud, ud, ud, x6, ud, ud, ud, ud, ud, ud, ud, ud, ud, ud, ud, ud, ud, ud, ud, ud, ud, ud, ud, ud, ud, ud, ud, ud, ud, ud, ud, ud, ud, ud, ud, ud, ud, ud, ud, ud, ud, ud, ud, ud, ud, ud, ud, ud, ud, ud, ud, ud, ud, ud, ud, ud, ud, ud, ud, ud, ud, ud, ud, ud, ud, ud, ud, ud, ud, ud, ud, ud, ud, ud, ud, ud, ud, ud, ud, ud] σ
 (blockC 0 a31_5 (seqC G PP (pol 31) CC lo c31_33 a31_33 (finR PP Go.Proofs.Try.f31.results.toList)))
noncomputable def f31_L1 (G : GuardT) (lo : Nat) (x1 x2 x8 : DV) (σ : Store) : Option (DV × Store) :=
 codeF G PP (pol 31) CC lo (.loop c31_38) a31_37 [ud, x1, x2, ud, ud, ud, ud, ud, x8, ud, ud, ud, ud, ud, ud, ud, ud, ud, ud, ud, ud, ud, ud, ud, ud, ud, ud, ud, ud, ud, ud, ud, ud, ud, ud, ud, ud, ud, ud, ud, ud, ud, ud, ud, ud, ud, ud, ud, ud, ud, ud, ud, ud, ud, ud, ud, ud, ud, ud, ud, ud, ud, ud, ud, ud, ud, ud, ud, ud, ud, ud, ud, ud, ud, ud, ud, ud, ud, ud, ud, ud, ud, ud] σ
 (blockC 2 a31_36 (seqC G PP (pol 31) CC lo c31_54 a31_54 (finR PP Go.Proofs.Try.f31.results.toList)))
noncomputable def F31 (G : GuardT) (lo : Nat) (x0 x1 : DV) (σ : Store) : Option (DV × Store) :=
 codeF G PP (pol 31) CC lo c31_0 a31_0 [x0, x1, ud, ud, ud, ud, ud, ud, ud, ud, ud, ud, ud, ud, ud, ud, ud, ud, ud, ud, ud, ud, ud, ud, ud, ud, ud, ud, ud, ud, ud, ud, ud, ud, ud, ud, ud, ud, ud, ud, ud, ud, ud, ud, ud, ud, ud, ud, ud, ud, ud, ud, ud, ud, ud, ud, ud, ud, ud, ud, ud, ud, ud, ud, ud, ud, ud, ud, ud, ud, ud, ud, ud, ud, ud, ud, ud, ud, ud, ud, ud, ud, ud] σ (finR PP Go.Proofs.Try.f31.results.toList)
theorem f31_L0_eq (G : GuardT) (hG : GuardOk G) (lo : Nat) (x1 x2 x6 : DV) (σ : Store) : f31_L0 G lo x1 x2 x6 σ =
 (len PP 61 x1 σ).bind fun x11 =>
 (binOp PP .lss 3 x6 x11).bind fun x12 =>
 condK x12
 (
 (indexAddr PP 61 x1 x6).bind fun x17 =>
 (load PP 77 x17 σ).bind fun x18 =>
 (zeroOf PP 77).bind fun z7 =>
 (store PP lo 77 (DV.ptr (List.length σ) 0) x18 (σ ++ [Row.mix z7])).bind fun σ1 =>
 (fieldAddr PP 77 (DV.ptr (List.length σ) 0) 0).bind fun x19 =>
 (load PP 3 x19 σ1).bind fun x20 =>
 (fieldAddr PP 27 x2 0).bind fun x21 =>
 (fieldAddr PP 25 x21 0).bind fun x22 =>
 (load PP 3 x22 σ1).bind fun x23 =>
 (binOp PP .sub 3 x23 (DV.p (PV.int IntKind.i64 (1)))).bind fun x24 =>
 (pureFn CC (DV.fn 22 []) [x20, (DV.p (PV.int IntKind.i64 (0))), x24] σ1).bind fun x25 =>
 (unOp .not x25).bind fun x26 =>
 G _ x26 false ((fieldAddr PP 77 (DV.ptr (List.length σ) 0) 1).bind fun v => some (v, σ1)) σ1 fun x28 σ2 =>
 G _ x26 false ((load PP 3 x28 σ2).bind fun v => some (v, σ2)) σ2 fun x29 σ3 =>
 G _ x26 false ((fieldAddr PP 27 x2 1).bind fun v => some (v, σ3)) σ3 fun x30 σ4 =>
 G _ x26 false ((fieldAddr PP 25 x30 0).bind fun v => some (v, σ4)) σ4 fun x31 σ5 =>
 G _ x26 false ((load PP 3 x31 σ5).bind fun v => some (v, σ5)) σ5 fun x32 σ6 =>
 G _ x26 false ((binOp PP .sub 3 x32 (DV.p (PV.int IntKind.i64 (1)))).bind fun v => some (v, σ6)) σ6 fun x33 σ7 =>
 G _ x26 false ((pureFn CC (DV.fn 22 []) [x29, (DV.p (PV.int IntKind.i64 (0))), x33] σ7).bind fun v => some (v, σ7)) σ7 fun x34 σ8 =>
 G _ x26 false ((unOp .not x34).bind fun v => some (v, σ8)) σ8 fun x35 σ9 =>
 (pickV x26 (DV.p (PV.bool true)) x35).bind fun x36 =>
 G _ x36 false ((fieldAddr PP 77 (DV.ptr (List.length σ) 0) 2).bind fun v => some (v, σ9)) σ9 fun x38 σ10 =>
 G _ x36 false ((load PP 3 x38 σ10).bind fun v => some (v, σ10)) σ10 fun x39 σ11 =>
 G _ x36 false ((binOp PP .lss 3 x39 (DV.p (PV.int IntKind.i64 (0)))).bind fun v => some (v, σ11)) σ11 fun x40 σ12 =>
 (pickV x36 (DV.p (PV.bool true)) x40).bind fun x41 =>
 condK x41
 (
 some ((DV.tuple [x6, (DV.p (PV.int IntKind.i64 (3)))]), σ12)
 )
 (
 (binOp PP .gtr 3 x6 (DV.p (PV.int IntKind.i64 (0)))).bind fun x44 =>
 G _ x44 true (some (x1, σ12)) σ12 fun x46 σ13 =>
 G _ x44 true (some (x6, σ13)) σ13 fun x47 σ14 =>
 G _ x44 true ((binOp PP .sub 3 x47 (DV.p (PV.int IntKind.i64 (1)))).bind fun v => some (v, σ14)) σ14 fun x48 σ15 =>
 G _ x44 true ((indexAddr PP 61 x46 x48).bind fun v => some (v, σ15)) σ15 fun x49 σ16 =>
 G _ x44 true ((fieldAddr PP 77 x49 0).bind fun v => some (v, σ16)) σ16 fun x50 σ17 =>
 G _ x44 true ((load PP 3 x50 σ17).bind fun v => some (v, σ17)) σ17 fun x51 σ18 =>
 G _ x44 true (some (x1, σ18)) σ18 fun x52 σ19 =>
 G _ x44 true (some (x6, σ19)) σ19 fun x53 σ20 =>
 G _ x44 true ((binOp PP .sub 3 x53 (DV.p (PV.int IntKind.i64 (1)))).bind fun v => some (v, σ20)) σ20 fun x54 σ21 =>
 G _ x44 true ((indexAddr PP 61 x52 x54).bind fun v => some (v, σ21)) σ21 fun x55 σ22 =>
 G _ x44 true ((fieldAddr PP 77 x55 1).bind fun v => some (v, σ22)) σ22 fun x56 σ23 =>
 G _ x44 true ((load PP 3 x56 σ23).bind fun v => some (v, σ23)) σ23 fun x57 σ24 =>
 G _ x44 true ((buildSlice PP none 22 2 [(0, x51), (1, x57)] σ24).bind fun r => some (r.1, r.2)) σ24 fun x58 σ25 =>
 G _ x44 true ((fieldAddr PP 77 (DV.ptr (List.length σ) 0) 0).bind fun v => some (v, σ25)) σ25 fun x59 σ26 =>
 G _ x44 true ((load PP 3 x59 σ26).bind fun v => some (v, σ26)) σ26 fun x60 σ27 =>
 G _ x44 true ((fieldAddr PP 77 (DV.ptr (List.length σ) 0) 1).bind fun v => some (v, σ27)) σ27 fun x61 σ28 =>
 G _ x44 true ((load PP 3 x61 σ28).bind fun v => some (v, σ28)) σ28 fun x62 σ29 =>
 G _ x44 true ((buildSlice PP none 22 2 [(0, x60), (1, x62)] σ29).bind fun r => some (r.1, r.2)) σ29 fun x63 σ30 =>
 G _ x44 true ((pureFn CC (DV.fn 70 []) [x58, x63] σ30).bind fun v => some (v, σ30)) σ30 fun x64 σ31 =>
 G _ x44 true ((binOp PP .geq 3 x64 (DV.p (PV.int IntKind.i64 (0)))).bind fun v => some (v, σ31)) σ31 fun x65 σ32 =>
 (pickV x44 x65 (DV.p (PV.bool false))).bind fun x66 =>
 condK x66
 (
 some ((DV.tuple [x6, (DV.p (PV.int IntKind.i64 (13)))]), σ32)
 )
 (
 (binOp PP .add 3 x6 (DV.p (PV.int IntKind.i64 (1)))).bind fun x14 =>
 f31_L0 G lo x1 x2 x14 σ32
 )
 )
 )
 (
 f31_L1 G lo x1 x2 (DV.p (PV.int IntKind.i64 (0))) σ
 ) := (loopF_eq G hG).trans (by kernel_rfl)
theorem f31_L1_eq (G : GuardT) (hG : GuardOk G) (lo : Nat) (x1 x2 x8 : DV) (σ : Store) : f31_L1 G lo x1 x2 x8 σ =
 (len PP 61 x1 σ).bind fun x70 =>
 (binOp PP .lss 3 x8 x70).bind fun x71 =>
 condK x71
 (
 (load PP 27 x2 σ).bind fun x74 =>
 (indexAddr PP 61 x1 x8).bind fun x78 =>
 (load PP 77 x78 σ).bind fun x79 =>
 (pureFn CC (DV.fn 71 []) [x74, x1, x79] σ).bind fun x80 =>
 (unOp .not x80).bind fun x81 =>
 condK x81
 (
 some ((DV.tuple [x8, (DV.p (PV.int IntKind.i64 (28)))]), σ)
 )
 (
 (binOp PP .add 3 x8 (DV.p (PV.int IntKind.i64 (1)))).bind fun x73 =>
 f31_L1 G lo x1 x2 x73 σ
 )
 )
 (
 some ((DV.tuple [(DV.p (PV.int IntKind.i64 (0))), (DV.p (PV.int IntKind.i64 (0)))]), σ)
 ) := (loopF_eq G hG).trans (by kernel_rfl)
theorem F31_eq (G : GuardT) (lo : Nat) (x0 x1 : DV) (σ : Store) : F31 G lo x0 x1 σ =
 (boxV x0).bind fun z2 =>
 f31_L0 G lo x1 (DV.ptr (List.length σ) 0) (DV.p (PV.int IntKind.i64 (0))) (σ ++ [Row.mix z2]) := by kernel_rfl
theorem F31_call {lo : Nat} {x0 x1 : DV} {σ : Store} {r : DV × Store} (h : F31 guardT lo x0 x1 σ = some r) : CC lo 31 [x0, x1] σ = some r :=
 callL_run Go.Proofs.Try.func31 (by decide +kernel) rfl (by decide +kernel) h
noncomputable def c32_0 : Code := bodyOf Go.Proofs.Try.f32
noncomputable def a32_0 : Ann := (pol 32).ann
noncomputable def a32_13 : Ann := right (left (right (right a32_0)))
noncomputable def a32_14 : Ann := left a32_13
noncomputable def c32_15 : Code := fstC (fstC (sndC (fstC (sndC (sndC c32_0)))))
noncomputable def c32_31 : Code := sndC (sndC (sndC c32_0))
noncomputable def a32_31 : Ann := right (right (right a32_0))
noncomputable def f32_L0 (G : GuardT) (lo : Nat) (x0 x1 x5 : DV) (σ : Store) : Option (DV × Store) :=
 codeF G PP (pol 32) CC lo (.loop c32_15) a32_14 [x0, x1, ud, ud, ud, x5, ud, ud, ud, ud, ud, ud, ud, ud, ud, ud, ud, ud, ud, ud, ud, ud, ud, ud, ud, ud] σ
 (blockC 0 a32_13 (seqC G PP (pol 32) CC lo c32_31 a32_31 (finR PP Go.Proofs.Try.f32.results.toList)))
noncomputable def F32 (G : GuardT) (lo : Nat) (x0 x1 : DV) (σ : Store) : Option (DV × Store) :=
 codeF G PP (pol 32) CC lo c32_0 a32_0 [x0, x1, ud, ud, ud, ud, ud, ud, ud, ud, ud, ud, ud, ud, ud, ud, ud, ud, ud, ud, ud, ud, ud, ud, ud, ud] σ (finR PP Go.Proofs.Try.f32.results.toList)
theorem f32_L0_eq (G : GuardT) (hG : GuardOk G) (lo : Nat) (x0 x1 x5 : DV) (σ : Store) : f32_L0 G lo x0 x1 x5 σ =
 (len PP 61 x0 σ).bind fun x13 =>
 (binOp PP .lss 3 x5 x13).bind fun x14 =>
 condK x14
 (
 (indexAddr PP 61 x0 x5).bind fun x19 =>
 (load PP 77 x19 σ).bind fun x20 =>
 (indexAddr PP 61 x1 x5).bind fun x23 =>
 (load PP 77 x23 σ).bind fun x24 =>
 (binOp PP .neq 77 x20 x24).bind fun x25 =>
 condK x25
 (
 some ((DV.p (PV.bool false)), σ)
 )
 (
 (binOp PP .add 3 x5 (DV.p (PV.int IntKind.i64 (1)))).bind fun x16 =>
 f32_L0 G lo x0 x1 x16 σ
 )
 )
 (
 some ((DV.p (PV.bool true)), σ)
 ) := (loopF_eq G hG).trans (by kernel_rfl)
theorem F32_eq (G : GuardT) (lo : Nat) (x0 x1 : DV) (σ : Store) : F32 G lo x0 x1 σ =
 (len PP 61 x0 σ).bind fun x7 =>
 (len PP 61 x1 σ).bind fun x9 =>
 (binOp PP .neq 3 x7 x9).bind fun x10 =>
 condK x10
 (
 some ((DV.p (PV.bool false)), σ)
 )
 (
 f32_L0 G lo x0 x1 (DV.p (PV.int IntKind.i64 (0))) σ
 ) := by kernel_rfl
theorem F32_call {lo : Nat} {x0 x1 : DV} {σ : Store} {r : DV × Store} (h : F32 guardT lo x0 x1 σ = some r) : CC lo 32 [x0, x1] σ = some r :=
 callL_run Go.Proofs.Try.func32 (by decide +kernel) rfl (by decide +kernel) h
end Go.D
end
/- Ranks as a list of moves: RanksOf. -/
section
set_option linter.unusedVariables false
set_option linter.unusedSimpArgs false
namespace Go.D

structure Mv where
  low : Int
  up : Int
  rank : Int
  step : Int
  deriving DecidableEq, Inhabited
def eMv (x : Mv) : List PV := [pI x.low, pI x.up, pI x.rank, pI x.step]
def mvD (x : Mv) : List DV := [.p (pI x.low), .p (pI x.up), .p (pI x.rank), .p (pI x.step)]
def eMvs : List Mv → List PV
  | [] => []
  | x :: l => eMv x ++ eMvs l
def eMs : Option (List Mv) → PV
  | none => .nilsl
  | some l => .sl false l.length (eMvs l)
theorem eMvs_app (l : List Mv) (x : Mv) : eMvs (l ++ [x]) = eMvs l ++ eMv x := by
  induction l with
  | nil => simp [eMvs]
  | cons a l ih => simp [eMvs, ih]
theorem eMvs_length (l : List Mv) : (eMvs l).length = l.length * 4 := by
  induction l with
  | nil => rfl
  | cons a l ih => simp [eMvs, eMv, ih]; omega
theorem eMvs_get : ∀ (l : List Mv) (i : Nat) (h : i < l.length), (eMvs l)[i * 4]? = some (pI l[i].low) ∧ (eMvs l)[i * 4 + 1]? = some (pI l[i].up) ∧ (eMvs l)[i * 4 + 2]? = some (pI l[i].rank) ∧ (eMvs l)[i * 4 + 3]? = some (pI l[i].step)
  | e :: l, 0, h => by simp [eMvs, eMv]
  | e :: l, i + 1, h => by
    have := eMvs_get l i (by simpa using h)
    have e4 : (i + 1) * 4 = i * 4 + 1 + 1 + 1 + 1 := by omega
    rw [e4]
    simpa [eMvs, eMv] using this
theorem loosens_mvs (l : List Mv) : loosens (eMvs l) = eMvs l := by
  induction l with
  | nil => rfl
  | cons a l ih => simp only [eMvs, eMv, List.cons_append, List.nil_append, loosens, loosen, ih]
theorem loosen_ms (o : Option (List Mv)) : loosen (eMs o) = eMs o := by
  cases o <;> simp [eMs, loosen, loosens_mvs]
theorem ms_view (o : Option (List Mv)) : view (.p (eMs o)) = .p (eMs o) := by simp [view, viewCell, loosen_ms]
theorem u61 : PP.underlying 61 = some (.slice 77) := Eq.trans (by kernel_rfl) rfl
theorem s77 : size? PP 77 = some 4 := Eq.trans (by kernel_rfl) rfl
theorem bytes77 : bytes? PP 77 = some 32 := Eq.trans (by kernel_rfl) rfl
theorem zero77 : zeroOf PP 77 = some [.p (pI 0), .p (pI 0), .p (pI 0), .p (pI 0)] := Eq.trans (by kernel_rfl) rfl
theorem zero89 : zeroOf PP 89 = some [.p .nilfn] := Eq.trans (by kernel_rfl) rfl
theorem src61 : srcType PP 61 = true := Eq.trans (by kernel_rfl) rfl
theorem s89 : size? PP 89 = some 1 := Eq.trans (by kernel_rfl) rfl
theorem load77 (x : DV) (σ : Store) : load PP 77 x σ = (loadN σ 4 x).map .agg := Eq.trans (by kernel_rfl) rfl
theorem load89 (x : DV) (σ : Store) : load PP 89 x σ = load1 x σ := Eq.trans (by kernel_rfl) rfl
theorem fm77_0 (x : DV) : fieldAddr PP 77 x 0 = shiftPtr x 0 := Eq.trans (by kernel_rfl) rfl
theorem fm77_1 (x : DV) : fieldAddr PP 77 x 1 = shiftPtr x 1 := Eq.trans (by kernel_rfl) rfl
theorem fm77_2 (x : DV) : fieldAddr PP 77 x 2 = shiftPtr x 2 := Eq.trans (by kernel_rfl) rfl
theorem fm77_3 (x : DV) : fieldAddr PP 77 x 3 = shiftPtr x 3 := Eq.trans (by kernel_rfl) rfl
theorem lenMs (o : Option (List Mv)) (σ : Store) : len PP 61 (.p (eMs o)) σ = some (.p (pI ((L o).length : Nat))) := by cases o <;> simp [len, u61, eMs]
theorem idx61 {o : Option (List Mv)} {i : Nat} (h : i < (L o).length) : indexAddr PP 61 (.p (eMs o)) (.p (.int .i64 (i : Nat))) = some (.pptr (eMvs (L o)) (i * 4)) := by
  cases o with
  | none => simp at h
  | some l =>
    have h2 : (0 : Int) ≤ (i : Int) ∧ (i : Int) < (l.length : Nat) := by simp at h; omega
    simp [indexAddr, u61, s77, eMs, h2]
theorem load77_D {l : List Mv} {i : Nat} (h : i < l.length) (σ : Store) : (loadN σ 4 (.pptr (eMvs l) (i * 4))).map DV.agg = some (.agg (mvD l[i])) := by
  have hle : i * 4 + 4 ≤ (eMvs l).length := by rw [eMvs_length]; omega
  obtain ⟨h1, h2, h3, h4⟩ := eMvs_get l i h
  have hd : ((eMvs l).drop (i * 4)).take 4 = eMv l[i] := by
    apply List.ext_getElem?
    intro j
    match j with
    | 0 => simpa [eMv] using h1
    | 1 => simpa [eMv] using h2
    | 2 => simpa [eMv] using h3
    | 3 => simpa [eMv] using h4
    | j + 4 => simp [eMv]; omega
  simp [loadN, hle, hd, eMv, mvD]
theorem ld_low {l : List Mv} {i : Nat} (h : i < l.length) (σ : Store) : load1 (.pptr (eMvs l) (i * 4)) σ = some (.p (pI l[i].low)) := load1_pptr (eMvs_get l i h).1 σ
theorem ld_up {l : List Mv} {i : Nat} (h : i < l.length) (σ : Store) : load1 (.pptr (eMvs l) (i * 4 + 1)) σ = some (.p (pI l[i].up)) := load1_pptr (eMvs_get l i h).2.1 σ
theorem ld_rank {l : List Mv} {i : Nat} (h : i < l.length) (σ : Store) : load1 (.pptr (eMvs l) (i * 4 + 2)) σ = some (.p (pI l[i].rank)) := load1_pptr (eMvs_get l i h).2.2.1 σ
theorem store_new77 (σ : Store) (e : Mv) (z : List DV) (hz : z.length = 4) : store PP 0 77 (.ptr σ.length 0) (.agg (mvD e)) (σ ++ [.mix z]) = some (σ ++ [.mix (mvD e)]) := by
  have h1 : (σ ++ [Row.mix z])[σ.length]? = some (.mix z) := by simp
  match z, hz with
  | [a, b, c, d], _ =>
    simp only [store, s77, DV.cells, storeN, h1]
    simp [DV.one, splice, mvD]
theorem st89_new (σ : Store) (f : FuncId) (caps : List DV) (x : DV) : store PP 0 89 (.ptr σ.length 0) (.fn f caps) (σ ++ [.mix [x]]) = some (σ ++ [.mix [.fn f caps]]) := by
  have h1 : (σ ++ [Row.mix [x]])[σ.length]? = some (.mix [x]) := by simp
  simp only [store, s89, DV.cells, storeN, h1]
  simp [DV.one, splice]
theorem st82_new (σ : Store) (cs : List PV) (off : Nat) (x : DV) : store PP 0 82 (.ptr σ.length 0) (.pptr cs off) (σ ++ [.mix [x]]) = some (σ ++ [.mix [.pptr cs off]]) := by
  have h1 : (σ ++ [Row.mix [x]])[σ.length]? = some (.mix [x]) := by simp
  have hs : size? PP 82 = some 1 := Eq.trans (by kernel_rfl) rfl
  simp only [store, hs, DV.cells, storeN, h1]
  simp [DV.one, splice]
theorem st101_new (σ : Store) (v : PV) (x : DV) : store PP 0 101 (.ptr σ.length 0) (.p v) (σ ++ [.mix [x]]) = some (σ ++ [.mix [.p v]]) := by
  have h1 : (σ ++ [Row.mix [x]])[σ.length]? = some (.mix [x]) := by simp
  simp only [store, s101, DV.cells, storeN, h1]
  simp [DV.one, splice]
theorem st3_step {σ : Store} {r : Nat} {a b c d e : DV} (h : σ[r]? = some (.mix [a, b, c, d])) (x : Int) : store PP 0 3 (.ptr r 3) (.p (pI x)) σ = some (σ.set r (.mix [a, b, c, .p (pI x)])) := by
  simp only [store, s3, DV.cells, storeN, h]
  simp [DV.one, splice]
theorem build77 (a b c d : Int) : build PP 77 [(0, .p (pI a)), (1, .p (pI b)), (2, .p (pI c)), (3, .p (pI d))] = some (.agg (mvD ⟨a, b, c, d⟩)) := Eq.trans (by kernel_rfl) rfl
theorem bs61_1 (x : Mv) (σ : Store) : buildSlice PP none 61 1 [(0, .agg (mvD x))] σ = some (.p (.sl true 1 (eMv x)), σ) := Eq.trans (by kernel_rfl) rfl
theorem Out.push61 {σ : Store} {lo n : Nat} {cs : List PV} {v : Mv} {x : DV} (ho : Out σ lo 4 n cs x) (hn : n ≤ 10000000) (hlo : lo ≤ σ.length) :
    ∃ x' σ', append PP lo false 61 61 x (.p (.sl true 1 (eMv v))) σ = some (x', σ') ∧ Out σ' lo 4 (n + 1) (cs ++ eMv v) x' ∧ Others σ σ' x ∧ σ.length ≤ σ'.length := by
  have hsrc : source σ 4 (.p (.sl true 1 (eMv v))) = some (1, (eMv v).map DV.p) := by simp [source, eMv]
  obtain ⟨hc, ho⟩ := ho
  have hp : pures ((eMv v).map DV.p) = some (eMv v) := pures_map _
  rcases ho with ⟨rfl, rfl⟩ | ⟨hn0, r, ver, rfl, hr, hl⟩
  · refine ⟨.osl σ.length 0 4 1 (eMv v), σ ++ [.tok 0], ?_, ⟨by simp [hc, eMv], .inr ⟨by simp, σ.length, 0, ?_, get_snoc, hlo⟩⟩, ?_, by simp⟩
    · simp only [append, src61, u61, s77, bytes77, zero77, hsrc, appNil]
      simp [hp]
    · have : cs = [] := List.length_eq_zero_iff.1 (by simpa using hc)
      rw [this]; rfl
    · intro i row hi _
      exact get_old hi
  · refine ⟨.osl r (ver + 1) 4 (n + 1) (cs ++ eMv v), σ.set r (.tok (ver + 1)), ?_, ⟨by simp [hc, eMv]; omega, .inr ⟨by simp, r, ver + 1, rfl, ?_, hl⟩⟩, ?_, by simp⟩
    · have e1 : (n + 1) * 32 ≤ 140737488355328 := by omega
      have e2 : n + 1 ≤ 140737488355328 := by omega
      simp only [append, src61, u61, s77, bytes77, zero77, hsrc, appTok]
      simp [e1, e2, hc, hl, hr, hp]
    · rw [List.getElem?_set_self (get_lt hr)]
    · intro i row hi hne
      rw [List.getElem?_set_ne (fun e => hne _ _ _ _ _ rfl e.symm)]
      exact hi

/-- Rows that are no lists stay. -/
def Keeps (σ σ' : Store) : Prop := ∀ (i : Nat) (row : Row), σ[i]? = some row → (∀ v, row ≠ Row.tok v) → σ'[i]? = some row
theorem Keeps.refl (σ : Store) : Keeps σ σ := fun _ _ h _ => h
theorem Keeps.snoc (σ : Store) (r : Row) : Keeps σ (σ ++ [r]) := fun _ _ h _ => get_old h
theorem Keeps.trans {σ σ' σ'' : Store} (h : Keeps σ σ') (h' : Keeps σ' σ'') : Keeps σ σ'' := fun i row a b => h' i row (h i row a b) b
theorem Keeps.of_out {σ σ' : Store} {lo sz n : Nat} {cs : List PV} {x : DV} (h : Others σ σ' x) (ho : Out σ lo sz n cs x) : Keeps σ σ' := fun _ _ hi hr => h.mix ho hi hr
theorem Keeps.mix {σ σ' : Store} (h : Keeps σ σ') {i : Nat} {c : List DV} (hi : σ[i]? = some (.mix c)) : σ'[i]? = some (.mix c) := h i _ hi fun v => by simp
/-- A list that is appended to stays one, when other rows are added. -/
theorem Out.snoc {σ : Store} {lo sz n : Nat} {cs : List PV} {x : DV} (ho : Out σ lo sz n cs x) (r : Row) : Out (σ ++ [r]) lo sz n cs x := by
  refine ⟨ho.1, ?_⟩
  rcases ho.2 with h | ⟨h1, r', ver, h2, h3, h4⟩
  · exact .inl h
  · exact .inr ⟨h1, r', ver, h2, get_old h3, h4⟩
theorem Out.set {σ : Store} {lo sz n : Nat} {cs : List PV} {x : DV} (ho : Out σ lo sz n cs x) {q : Nat} {c : List DV} (hq : σ[q]? = some (.mix c)) (r : Row) : Out (σ.set q r) lo sz n cs x := by
  refine ⟨ho.1, ?_⟩
  rcases ho.2 with h | ⟨h1, r', ver, h2, h3, h4⟩
  · exact .inl h
  · refine .inr ⟨h1, r', ver, h2, get_set_ne h3 fun e => ?_, h4⟩
    rw [e, hq] at h3
    exact absurd h3 (by simp)

section
variable {p : Pair} {n m : Nat}

/-! ### The closures of RanksOf -/
theorem S63 {f : RF} {σ : Store} {b q : Nat} {k : Int} {t v : Nat} (hb : σ[b]? = some (.mix [.p (eLs (rowsO m n f))])) (hq : σ[q]? = some (.mix [.p (pI k)])) (ht : t < m) (hv : v < n) :
    pureV CC 63 [.p (pI (t : Nat)), .p (pI (v : Nat)), .ptr b 0, .ptr q 0] σ = some (.p (.bool (openAt f k t v))) := by
  refine pureV_rows rfl rfl (F63_call (r := (.p (.bool (openAt f k t v)), σ)) ?_) rfl
  have hi : t < (L (rowsO m n f)).length := by rw [rowsO_len]; exact ht
  have hj : v < (L (some (rowF n (f t)))).length := by show v < (rowF n (f t)).length; rw [rowF_len]; exact hv
  have hld : load1 (.pptr (eInts (L (some (rowF n (f t))))) v) σ = some (.p (pI (f t v))) := by
    rw [load1_getD hj]
    show some (DV.p (pI ((rowF n (f t)).getD v 0))) = _
    rw [rowF_get hv]
  rw [F63_eq]
  simp only [load101, load1_ptr (off := 0) hb rfl, obind, idx101 hi, load22, load1_ls hi, rowsO_get ht, idx22 hj, load3, hld, b_eql, openAt]
  cases e : decide (f t v = -1) with
  | true => simp only [guard_tf, guard_sk, obind, pickV_true, Bool.true_or]
  | false => simp only [guard_ff, obind, idx101 hi, load1_ls hi, rowsO_get ht, idx22 hj, hld, load1_ptr (off := 0) hq rfl, b_geq, pickV_false, Bool.false_or]

/-- A step that refutes a pair at a rank. -/
def refE (p : Pair) (n : Nat) (f : RF) (s u : Nat) (e : Edg) : Bool := decide (e.f = (s : Nat)) && !ansF p n f (f s u) e.t.toNat u
theorem S65 (hp : Nice p n m) {f : RF} {σ : Store} {r g q b w : Nat} {s u : Nat} {e : Edg} (hr : σ[r]? = some (.mix [.p (eLs (rowsO m n f))])) (hg : σ[g]? = some (.mix [.pptr (graphsV p n) 0])) (hq : σ[q]? = some (.mix [.p (pI (s : Nat))]))
    (hb : σ[b]? = some (.mix [.p (pI (u : Nat))])) (hk : ∃ kk, σ[kk]? = some (.mix [.p (pI (f s u))]) ∧ σ[w]? = some (.mix [.fn 63 [.ptr r 0, .ptr kk 0]])) (hu : u < n) (he : 0 ≤ e.t ∧ e.t < m) :
    pureV CC 65 [.agg (edgD e), .ptr q 0, .ptr g 0, .ptr b 0, .ptr w 0] σ = some (.p (.bool (refE p n f s u e))) := by
  obtain ⟨kk, hkk, hw⟩ := hk
  refine pureV_rows (by simp [view, viewCell, edgD, loosen]) (by simp [rowFree1, rowFree]) (F65_call (r := (.p (.bool (refE p n f s u e)), σ ++ [.mix (edgD e)])) ?_) rfl
  have hbx : boxV (.agg (edgD e)) = some (edgD e) := rfl
  have hx : (σ ++ [Row.mix (edgD e)])[σ.length]? = some (.mix (edgD e)) := get_snoc
  have et : ((e.t.toNat : Nat) : Int) = e.t := by omega
  have hS : pureV CC 66 [.pptr (graphsV p n) 0, .p (pI e.t), .p (pI (u : Nat)), .fn 63 [.ptr r 0, .ptr kk 0]] (σ ++ [.mix (edgD e)]) = some (.p (.bool (ansF p n f (f s u) e.t.toNat u))) := by
    refine S66 hp.un hu hp.n2 rfl fun σ0 hat v hv => ?_
    rcases hat with ⟨_, hf⟩ | rfl
    · exact absurd hf (by simp [rowFree1])
    · rw [← et]
      exact S63 (get_old hr) (get_old hkk) (by omega) hv
  rw [F65_eq]
  simp only [hbx, obind, fa100_0, fa100_1, shift_ptr, Nat.zero_add, load3, load1_ptr (off := 0) hx rfl, load1_ptr (off := 1) hx rfl, load1_ptr (off := 0) (get_old hq) rfl, b_eql, refE]
  cases e1 : decide (e.f = (s : Nat)) with
  | false => simp only [guard_ft, guard_sk, obind, pickV_false, Bool.false_and]
  | true => simp only [guard_tt, load82, load89, load1_ptr (off := 0) (get_old hg) rfl, load1_ptr (off := 0) (get_old hb) rfl, load1_ptr (off := 0) (get_old hw) rfl, load1_ptr (off := 1) hx rfl, obind, pureFn_fn, List.append_nil, hS, not_bool, pickV_true, Bool.true_and]

theorem L64' {o : Option (List Edg)} {f : FuncId} {caps : List DV} {σ : Store} {lo : Nat} {q : Edg → Bool} (hl : (L o).length ≤ 10000) (hq : ∀ e ∈ L o, pureV CC f (.agg (edgD e) :: caps) σ = some (.p (.bool (q e)))) :
    ∀ (k i : Nat), (L o).length - i = k → i ≤ (L o).length → f64_L0 guardT lo (.p (eEs o)) (.fn f caps) (.p (pI ((L o).length : Nat))) (.p (pI (i : Nat))) σ = some (.p (pI (idxFrom q ((L o).drop i) i)), σ)
  | 0, i, hk, hi => by
    have : i = (L o).length := by omega
    rw [f64_L0_eq guardT rfl]
    subst this
    simp [b_lss, condK_false, idxFrom]
  | k + 1, i, hk, hi => by
    have h : i < (L o).length := by omega
    have h' : (i : Int) < ((L o).length : Nat) := by omega
    rw [f64_L0_eq guardT rfl]
    simp only [b_lss, obind, h', decide_true, condK_true, idx23 h, load100, load100_D h, getD_at _ h, pureFn_fn, List.singleton_append, hq _ (List.getElem_mem h)]
    rw [drop_cons h]
    cases hqv : q (L o)[i] with
    | true => simp [condK_true, idxFrom, hqv]
    | false =>
      simp only [condK_false, b_add, obind, wrap_succ (show i ≤ 1000000 by omega), idxFrom, hqv, Bool.false_eq_true, if_false]
      exact L64' hl hq k (i + 1) (by omega) (by omega)
theorem S64' {o : Option (List Edg)} {f : FuncId} {caps : List DV} {σ : Store} {q : Edg → Bool} (hl : (L o).length ≤ 10000) (hq : ∀ σ0, AtSt caps σ σ0 → ∀ e ∈ L o, pureV CC f (.agg (edgD e) :: caps) σ0 = some (.p (.bool (q e)))) :
    pureV CC 64 [.p (eEs o), .fn f caps] σ = some (.p (pI (idxFrom q (L o) 0))) := by
  refine pureV_any (by simp [es_view, fn_view]) fun lo σ0 hs => ⟨_, σ0, F64_call (r := (.p (pI (idxFrom q (L o) 0)), σ0)) ?_, rfl⟩
  have hat : AtSt caps σ σ0 := by
    rcases hs with ⟨h1, _, h3⟩ | ⟨h1, _, _⟩
    · exact .inl ⟨h1, by simpa [rowFree] using (by simpa [rowFree] using h3 : _ ∧ _).2⟩
    · exact .inr h1
  rw [F64_eq]
  simp only [len23, obind]
  have := L64' (lo := lo) hl (hq σ0 hat) _ 0 rfl (Nat.zero_le _)
  simpa using this

/-! ### RanksOf -/
def moveOf (p : Pair) (n : Nat) (f : RF) (q : NP) : Mv := ⟨(q.1 : Nat), (q.2 : Nat), f q.1 q.2, if f q.1 q.2 > 0 then idxFrom (refE p n f q.1 q.2) (L p.lo.edges) 0 else -1⟩
def hasR (f : RF) (q : NP) : Bool := !decide (f q.1 q.2 = -1)
def msOf (p : Pair) (n : Nat) (f : RF) (l : List NP) : List Mv := l.map (moveOf p n f)
theorem msOf_app (f : RF) (l : List NP) (q : NP) : msOf p n f (l ++ [q]) = msOf p n f l ++ [moveOf p n f q] := by simp [msOf]

theorem L29_1 (hp : Nice p n m) {f : RF} {o : Option (List OI)} {s b : Nat} (hs : s < m) {l : List NP} (hl : l.length ≤ 1000000) :
    ∀ (d u : Nat) (x : DV) (σ : Store), n - u = d → u ≤ n → σ[0]? = some (.mix (ePair p)) → σ[1]? = some (.mix [.pptr (graphsV p n) 0]) → σ[2]? = some (.mix [.p (eLs (rowsO m n f))]) → σ[b]? = some (.mix [.p (pI (s : Nat))]) →
      Out σ 0 4 (l ++ rowP (hasR f) s u).length (eMvs (msOf p n f (l ++ rowP (hasR f) s u))) x →
      ∃ x' σ', Keeps σ σ' ∧ Out σ' 0 4 (l ++ rowP (hasR f) s n).length (eMvs (msOf p n f (l ++ rowP (hasR f) s n))) x' ∧
        f29_L1 guardT 0 (.ptr 0 0) (.ptr 1 0) (.ptr 2 0) x (.ptr b 0) (.p (eLs o)) (.p (pI (m : Nat))) (.p (pI (s : Nat))) (.p (eSl (some (rowF n (f s))))) (.p (pI (n : Nat))) (.p (pI (u : Nat))) σ =
        f29_L1 guardT 0 (.ptr 0 0) (.ptr 1 0) (.ptr 2 0) x' (.ptr b 0) (.p (eLs o)) (.p (pI (m : Nat))) (.p (pI (s : Nat))) (.p (eSl (some (rowF n (f s))))) (.p (pI (n : Nat))) (.p (pI (n : Nat))) σ'
  | 0, u, x, σ, hd, hu, h0, h1, h2, hb, ho => by
    have : u = n := by omega
    subst this
    exact ⟨x, σ, Keeps.refl σ, ho, rfl⟩
  | d + 1, u, x, σ, hd, hu, h0, h1, h2, hb, ho => by
    have h : u < n := by omega
    have h' : (u : Int) < (n : Nat) := by omega
    have hn2 := hp.n2
    have w : IntKind.wrap .i64 ((u : Int) + 1) = ((u + 1 : Nat) : Int) := wrap_succ (by omega)
    have hlen := rowP_len (hasR f) s u
    have hi : u < (L (some (rowF n (f s)))).length := by show u < (rowF n (f s)).length; rw [rowF_len]; exact h
    have hld : load1 (.pptr (eInts (L (some (rowF n (f s))))) u) σ = some (.p (pI (f s u))) := by
      rw [load1_getD hi]
      show some (DV.p (pI ((rowF n (f s)).getD u 0))) = _
      rw [rowF_get h]
    have e := rowP_succ (hasR f) s u
    have hsa := store3_a σ (u : Nat) 0 0
    have hsb := store3_b σ (u : Nat) (f s u) 0 0
    have hq1 : ((σ ++ [Row.mix [.p (pI (u : Nat))]]) ++ [Row.mix [.p (pI (f s u))]])[(σ ++ [Row.mix [.p (pI 0)]]).length]? = some (.mix [.p (pI (f s u))]) := by simp
    have hq0 : ((σ ++ [Row.mix [.p (pI (u : Nat))]]) ++ [Row.mix [.p (pI (f s u))]])[σ.length]? = some (.mix [.p (pI (u : Nat))]) := by simp
    have hk5 : Keeps σ ((σ ++ [Row.mix [.p (pI (u : Nat))]]) ++ [Row.mix [.p (pI (f s u))]]) := (Keeps.snoc _ _).trans (Keeps.snoc _ _)
    have ho5 := (ho.snoc (Row.mix [.p (pI (u : Nat))])).snoc (Row.mix [.p (pI (f s u))])
    rw [f29_L1_eq guardT rfl]
    simp only [b_lss, obind, h', decide_true, condK_true, idx22 hi, load3, hld, zero3, hsa, hsb, load1_ptr (off := 0) hq1 rfl, b_eql]
    generalize hσ5 : (σ ++ [Row.mix [.p (pI (u : Nat))]]) ++ [Row.mix [.p (pI (f s u))]] = σ5 at *
    cases e1 : decide (f s u = -1) with
    | true =>
      have hPu : ¬ hasR f (s, u) = true := by show ¬ (!decide (f s u = -1)) = true; rw [e1]; simp
      rw [if_neg hPu, List.append_nil] at e
      rw [← e] at ho5
      obtain ⟨x', σ', g1, g2, g3⟩ := L29_1 hp (o := o) hs hl d (u + 1) x σ5 (by omega) (by omega) (hk5.mix h0) (hk5.mix h1) (hk5.mix h2) (hk5.mix hb) ho5
      refine ⟨x', σ', hk5.trans g1, g2, ?_⟩
      simp only [condK_true, f29_J0_eq, b_add, obind, w]
      exact g3
    | false =>
      have hPu : hasR f (s, u) = true := by show (!decide (f s u = -1)) = true; rw [e1]; rfl
      rw [if_pos hPu] at e
      have hx6 : (σ5 ++ [Row.mix (mvD ⟨(s : Nat), (u : Nat), f s u, -1⟩)])[σ5.length]? = some (.mix (mvD ⟨(s : Nat), (u : Nat), f s u, -1⟩)) := get_snoc
      generalize hσ6 : σ5 ++ [Row.mix (mvD ⟨(s : Nat), (u : Nat), f s u, -1⟩)] = σ6 at *
      have hk6 : Keeps σ5 σ6 := by rw [← hσ6]; exact Keeps.snoc _ _
      have ho6 : Out σ6 0 4 (l ++ rowP (hasR f) s u).length (eMvs (msOf p n f (l ++ rowP (hasR f) s u))) x := by rw [← hσ6]; exact ho5.snoc _
      have hw7 : (σ6 ++ [Row.mix [.fn 63 [.ptr 2 0, .ptr (σ ++ [Row.mix [.p (pI 0)]]).length 0]]])[σ6.length]? = some (.mix [.fn 63 [.ptr 2 0, .ptr (σ ++ [Row.mix [.p (pI 0)]]).length 0]]) := get_snoc
      generalize hσ7 : σ6 ++ [Row.mix [.fn 63 [.ptr 2 0, .ptr (σ ++ [Row.mix [.p (pI 0)]]).length 0]]] = σ7 at *
      have hk7 : Keeps σ6 σ7 := by rw [← hσ7]; exact Keeps.snoc _ _
      have ho7 : Out σ7 0 4 (l ++ rowP (hasR f) s u).length (eMvs (msOf p n f (l ++ rowP (hasR f) s u))) x := by rw [← hσ7]; exact ho6.snoc _
      have hk57 : Keeps σ σ7 := hk5.trans (hk6.trans hk7)
      have hx7 := hk7.mix hx6
      have hr7 : load1 (.ptr (σ ++ [Row.mix [.p (pI 0)]]).length 0) σ7 = some (.p (pI (f s u))) := load1_ptr ((hk6.trans hk7).mix hq1) rfl
      have hS : pureV CC 64 [.p (eEs p.lo.edges), .fn 65 [.ptr b 0, .ptr 1 0, .ptr σ.length 0, .ptr σ6.length 0]] σ7 = some (.p (pI (idxFrom (refE p n f s u) (L p.lo.edges) 0))) := by
        refine S64' hp.sm.le fun σ0 hat ed hed => ?_
        rcases hat with ⟨_, hf⟩ | rfl
        · exact absurd hf (by simp [rowFree1])
        · have := hp.ls ed hed
          exact S65 hp (hk57.mix h2) (hk57.mix h1) (hk57.mix hb) ((hk6.trans hk7).mix hq0) ⟨_, (hk6.trans hk7).mix hq1, hw7⟩ h (by omega)
      have s77n := store_new77 σ5 ⟨(s : Nat), (u : Nat), f s u, -1⟩ [.p (pI 0), .p (pI 0), .p (pI 0), .p (pI 0)] rfl
      have s89n := st89_new σ6 63 [.ptr 2 0, .ptr (σ ++ [Row.mix [.p (pI 0)]]).length 0] (.p .nilfn)
      rw [hσ6] at s77n
      rw [hσ7] at s89n
      have hfin : ∀ (σ8 : Store) (st : Int), Keeps σ7 σ8 ∨ True → Keeps σ σ8 → σ8[σ5.length]? = some (.mix (mvD ⟨(s : Nat), (u : Nat), f s u, st⟩)) → Out σ8 0 4 (l ++ rowP (hasR f) s u).length (eMvs (msOf p n f (l ++ rowP (hasR f) s u))) x →
          moveOf p n f (s, u) = ⟨(s : Nat), (u : Nat), f s u, st⟩ →
          ∃ x' σ', Keeps σ σ' ∧ Out σ' 0 4 (l ++ rowP (hasR f) s n).length (eMvs (msOf p n f (l ++ rowP (hasR f) s n))) x' ∧
            ((load PP 77 (.ptr σ5.length 0) σ8).bind fun x53 => (buildSlice PP none 61 1 [(0, x53)] σ8).bind fun r54_9 => (append PP 0 false 61 61 x r54_9.1 r54_9.2).bind fun r55_10 =>
              (binOp PP .add 3 (.p (pI (u : Nat))) (DV.p (PV.int IntKind.i64 (1)))).bind fun x56 =>
              f29_L1 guardT 0 (.ptr 0 0) (.ptr 1 0) (.ptr 2 0) r55_10.1 (.ptr b 0) (.p (eLs o)) (.p (pI (m : Nat))) (.p (pI (s : Nat))) (.p (eSl (some (rowF n (f s))))) (.p (pI (n : Nat))) x56 r55_10.2) =
            f29_L1 guardT 0 (.ptr 0 0) (.ptr 1 0) (.ptr 2 0) x' (.ptr b 0) (.p (eLs o)) (.p (pI (m : Nat))) (.p (pI (s : Nat))) (.p (eSl (some (rowF n (f s))))) (.p (pI (n : Nat))) (.p (pI (n : Nat))) σ' := by
        intro σ8 st _ hk8 hx8 ho8 hmv
        obtain ⟨x1, σ9, g1, g2, g3, g4⟩ := ho8.push61 (v := ⟨(s : Nat), (u : Nat), f s u, st⟩) (by rw [List.length_append]; omega) (Nat.zero_le _)
        have hk9 : Keeps σ σ9 := fun i row a c => Keeps.of_out g3 ho8 i row (hk8 i row a c) c
        have e2 : l ++ rowP (hasR f) s (u + 1) = (l ++ rowP (hasR f) s u) ++ [(s, u)] := by rw [e, List.append_assoc]
        have ho9 : Out σ9 0 4 (l ++ rowP (hasR f) s (u + 1)).length (eMvs (msOf p n f (l ++ rowP (hasR f) s (u + 1)))) x1 := by
          rw [e2, msOf_app, eMvs_app, hmv, List.length_append]
          exact g2
        obtain ⟨x', σ', k1, k2, k3⟩ := L29_1 hp (o := o) hs hl d (u + 1) x1 σ9 (by omega) (by omega) (hk9.mix h0) (hk9.mix h1) (hk9.mix h2) (hk9.mix hb) ho9
        refine ⟨x', σ', hk9.trans k1, k2, ?_⟩
        rw [load77, loadN_ptr (off := 0) (n := 4) (vs := mvD ⟨(s : Nat), (u : Nat), f s u, st⟩) hx8 rfl (by simp [mvD])]
        simp only [omap, obind, bs61_1, g1, b_add, w]
        exact k3
      simp only [condK_false, load1_ptr (off := 0) (hk5.mix hb) rfl, load1_ptr (off := 0) hq0 rfl, load1_ptr (off := 0) hq1 rfl, obind, build77, zero77, s77n, zero89, s89n, hr7, b_gtr]
      by_cases hpos : f s u > 0
      · have h0' := hk57.mix h0
        have hset := st3_step (e := .undef) hx7 (idxFrom (refE p n f s u) (L p.lo.edges) 0)
        have hx8 : (σ7.set σ5.length (.mix [.p (pI (s : Nat)), .p (pI (u : Nat)), .p (pI (f s u)), .p (pI (idxFrom (refE p n f s u) (L p.lo.edges) 0))]))[σ5.length]? = some (.mix (mvD ⟨(s : Nat), (u : Nat), f s u, idxFrom (refE p n f s u) (L p.lo.edges) 0⟩)) := List.getElem?_set_self (get_lt hx7)
        obtain ⟨x', σ', k1, k2, k3⟩ := hfin _ (idxFrom (refE p n f s u) (L p.lo.edges) 0) (.inr trivial) (fun i row a c => get_set_ne (hk57 i row a c) (by
          have := get_lt a
          have h5 : σ5.length = σ.length + 2 := by rw [← hσ5]; simp
          omega)) hx8 (ho7.set hx7 _) (by show Mv.mk _ _ _ (if f s u > 0 then _ else _) = _; rw [if_pos hpos])
        refine ⟨x', σ', k1, k2, ?_⟩
        simp only [hpos, decide_true, condK_true, fa27_0, fa25_2, shift_ptr, Nat.zero_add, Nat.add_zero, load23, pr_2 h0', obind, pureFn_fn, List.append_nil, hS, fm77_3, hset, f29_J1_eq, f29_J0_eq]
        exact k3
      · obtain ⟨x', σ', k1, k2, k3⟩ := hfin σ7 (-1) (.inr trivial) hk57 hx7 ho7 (by show Mv.mk _ _ _ (if f s u > 0 then _ else _) = _; rw [if_neg hpos])
        refine ⟨x', σ', k1, k2, ?_⟩
        simp only [hpos, decide_false, condK_false, f29_J1_eq, f29_J0_eq]
        exact k3

theorem L29_0 (hp : Nice p n m) {f : RF} :
    ∀ (d s : Nat) (x : DV) (σ : Store), m - s = d → s ≤ m → σ[0]? = some (.mix (ePair p)) → σ[1]? = some (.mix [.pptr (graphsV p n) 0]) → σ[2]? = some (.mix [.p (eLs (rowsO m n f))]) →
      Out σ 0 4 (colP (hasR f) n s).length (eMvs (msOf p n f (colP (hasR f) n s))) x →
      ∃ x' σ', Out σ' 0 4 ((pairsA m n).filter (hasR f)).length (eMvs (msOf p n f ((pairsA m n).filter (hasR f)))) x' ∧
        f29_L0 guardT 0 (.ptr 0 0) (.ptr 1 0) (.ptr 2 0) x (.p (eLs (rowsO m n f))) (.p (pI (m : Nat))) (.p (pI (s : Nat))) σ = some (.tuple [x', .p (pI 0)], σ')
  | 0, s, x, σ, hd, hs, h0, h1, h2, ho => by
    have : s = m := by omega
    subst this
    have hlt : ¬ (s : Int) < (s : Nat) := by omega
    rw [colP_all] at ho
    refine ⟨x, σ, ho, ?_⟩
    rw [f29_L0_eq guardT rfl]
    simp only [b_lss, obind, hlt, decide_false, condK_false]
  | d + 1, s, x, σ, hd, hs, h0, h1, h2, ho => by
    have h : s < m := by omega
    have h' : (s : Int) < (m : Nat) := by omega
    have hn2 := hp.n2
    have hm2 := hp.m2
    have w : IntKind.wrap .i64 ((s : Int) + 1) = ((s + 1 : Nat) : Int) := wrap_succ (by omega)
    have hcl := colP_len (hasR f) n s
    have hmn : s * n ≤ 1000 * 1000 := Nat.mul_le_mul (by omega) hn2
    have hi : s < (L (rowsO m n f)).length := by rw [rowsO_len]; exact h
    have hlr : ((L (some (rowF n (f s)))).length : Int) = (n : Nat) := by show (((rowF n (f s)).length : Nat) : Int) = _; rw [rowF_len]
    have hk1 := Keeps.snoc σ (Row.mix [.p (pI (s : Nat))])
    obtain ⟨x1, σ1, g1, g2, g3⟩ := L29_1 hp (f := f) (o := rowsO m n f) (b := σ.length) h (l := colP (hasR f) n s) (by omega) n 0 x (σ ++ [Row.mix [.p (pI (s : Nat))]]) rfl (Nat.zero_le _) (hk1.mix h0) (hk1.mix h1) (hk1.mix h2) get_snoc (by rw [rowP_zero, List.append_nil]; exact ho.snoc _)
    rw [← colP_succ] at g2
    have hk2 := hk1.trans g1
    have hnn : ¬ (n : Int) < (n : Nat) := by omega
    have g3' : f29_L1 guardT 0 (.ptr 0 0) (.ptr 1 0) (.ptr 2 0) x (.ptr σ.length 0) (.p (eLs (rowsO m n f))) (.p (pI (m : Nat))) (.p (pI (s : Nat))) (.p (eSl (some (rowF n (f s))))) (.p (pI (n : Nat))) (.p (pI 0)) (σ ++ [Row.mix [.p (pI (s : Nat))]]) = _ := g3
    obtain ⟨x', σ', k1, k2⟩ := L29_0 hp d (s + 1) x1 σ1 (by omega) (by omega) (hk2.mix h0) (hk2.mix h1) (hk2.mix h2) g2
    refine ⟨x', σ', k1, ?_⟩
    rw [f29_L0_eq guardT rfl]
    simp only [b_lss, obind, h', decide_true, condK_true, idx101 hi, load22, load1_ls hi, rowsO_get h, zero3, st3_new, len22, hlr, g3']
    rw [f29_L1_eq guardT rfl]
    simp only [b_lss, obind, hnn, decide_false, condK_false, b_add, w]
    exact k2

def msO (l : List Mv) : Option (List Mv) := if l = [] then none else some l
theorem L_msO (l : List Mv) : L (msO l) = l := by
  unfold msO
  split
  · rename_i h; rw [h]; rfl
  · rfl
theorem eMs_msO (l : List Mv) : eMs (msO l) = if l.length = 0 then .nilsl else .sl false l.length (eMvs l) := by
  unfold msO
  by_cases h : l = []
  · subst h; rfl
  · have : ¬ l.length = 0 := fun e => h (List.length_eq_zero_iff.1 e)
    rw [if_neg h, if_neg this]
    rfl
/-- The ranks of all pairs that are in no simulation. -/
def ranksL (p : Pair) (m n : Nat) : List Mv := msOf p n (rkE p m n) ((pairsA m n).filter (hasR (rkE p m n)))
theorem out_ms_thaw {σ : Store} {l : List Mv} {x : DV} {k : Nat} (ho : Out σ 0 4 k (eMvs l) x) (hk : k = l.length) : thawPart 0 σ x = some (.p (eMs (msO l))) := by
  subst hk
  rw [eMs_msO]
  rcases ho.2 with ⟨h1, rfl⟩ | ⟨h1, r, ver, rfl, _, _⟩
  · rw [if_pos h1]; rfl
  · rw [if_neg h1]
    simp only [thawPart, thaw, thaw1, thawP, loosens_mvs, omap]

theorem S29_ok {σ : Store} (hp : Nice p n m) (he : errP p = 0) : pureV CC 29 [.agg (ePair p)] σ = some (.tuple [.p (eMs (msO (ranksL p m n))), .p (pI 0)]) := by
  refine pureV_any (by simp [pair_view]) fun lo σ0 hs => ?_
  rcases hs with ⟨rfl, rfl, _⟩ | ⟨_, _, h⟩
  case inr => exact absurd h (by simp [rowFree, rowFree1, ePair])
  have g0 : ([Row.mix (ePair p)] : Store)[0]? = some (.mix (ePair p)) := rfl
  obtain ⟨x', σ', h1, h2⟩ := L29_0 hp (f := rkE p m n) m 0 (.p .nilsl) [Row.mix (ePair p), Row.mix [.pptr (graphsV p n) 0], Row.mix [.p (eLs (rowsO m n (rkE p m n)))]] rfl (Nat.zero_le _) rfl rfl rfl (by simpa [colP, msOf, eMvs] using Out.zero)
  refine ⟨.tuple [x', .p (pI 0)], σ', F29_call ?_, ?_⟩
  · have e1 : store PP 0 82 (.ptr 1 0) (.pptr (graphsV p n) 0) [Row.mix (ePair p), Row.mix [.p .nilptr]] = some [Row.mix (ePair p), Row.mix [.pptr (graphsV p n) 0]] := st82_new [Row.mix (ePair p)] _ _ _
    have e2 : store PP 0 101 (.ptr 2 0) (.p (eLs (rowsO m n (rkE p m n)))) [Row.mix (ePair p), Row.mix [.pptr (graphsV p n) 0], Row.mix [.p .nilsl]] = some [Row.mix (ePair p), Row.mix [.pptr (graphsV p n) 0], Row.mix [.p (eLs (rowsO m n (rkE p m n)))]] := st101_new [Row.mix (ePair p), Row.mix [.pptr (graphsV p n) 0]] _ _
    have e3 : load1 (.ptr 1 0) [Row.mix (ePair p), Row.mix [.pptr (graphsV p n) 0]] = some (.pptr (graphsV p n) 0) := load1_ptr (cs := [.pptr (graphsV p n) 0]) rfl rfl
    have e4 : load1 (.ptr 2 0) [Row.mix (ePair p), Row.mix [.pptr (graphsV p n) 0], Row.mix [.p (eLs (rowsO m n (rkE p m n)))]] = some (.p (eLs (rowsO m n (rkE p m n)))) := load1_ptr (cs := [.p (eLs (rowsO m n (rkE p m n)))]) rfl rfl
    rw [F29_eq]
    simp only [box_pair, obind, List.length_nil, List.nil_append, List.length_cons, List.cons_append, Nat.zero_add, Nat.reduceAdd, load27, pr_all g0, omap, pureFn_fn, List.append_nil, S41 hp.sm, he, b_neq, decide_true, Bool.not_true, condK_false, S43 hp.sm hp.un hp.n2 hp.us, zero82, e1, load82, e3, S58' hp, zero101, e2, load101, e4, len101, rowsO_len]
    exact h2
  · have ht : thawPart 0 σ' x' = some (.p (eMs (msO (ranksL p m n)))) := out_ms_thaw h1 (by simp [ranksL, msOf])
    have ht2 : thawPart 0 σ' (.p (pI 0)) = some (.p (pI 0)) := rfl
    simp only [thawAll, mapO, ht, ht2, omap]
theorem S29_bad {σ : Store} (hp : Small p) (he : errP p ≠ 0) : pureV CC 29 [.agg (ePair p)] σ = some (.tuple [.p .nilsl, .p (pI (errP p))]) := by
  refine pureV_any (by simp [pair_view]) fun lo σ0 hs => ⟨.tuple [.p .nilsl, .p (pI (errP p))], σ0 ++ [.mix (ePair p)], F29_call ?_, rfl⟩
  rw [F29_eq]
  have g0 : (σ0 ++ [Row.mix (ePair p)])[σ0.length]? = some (.mix (ePair p)) := get_snoc
  simp only [box_pair, obind, load27, pr_all g0, omap, pureFn_fn, List.append_nil, S41 hp, b_neq, he, decide_false, Bool.not_false, condK_true]

end
end Go.D
end
/- Equations of functions 57, 85, printed by gen.py. -/
section
set_option linter.unusedVariables false
set_option maxRecDepth 10000
namespace Go.D
open _root_.Go.D.Code (fstC sndC)
open _root_.Go.D.Ann (left right)
noncomputable def c57_0 : Code := bodyOf Go.Proofs.Try.f57
noncomputable def a57_0 : Ann := (pol 57).ann
noncomputable def a57_9 : Ann := right (left (right (right (right a57_0))))
noncomputable def a57_10 : Ann := left a57_9
noncomputable def c57_11 : Code := fstC (fstC (sndC (fstC (sndC (sndC (sndC c57_0))))))
noncomputable def c57_25 : Code := sndC (sndC (sndC (sndC c57_0)))
noncomputable def a57_25 : Ann := right (right (right (right a57_0)))
noncomputable def a57_26 : Ann := left a57_25
noncomputable def a57_27 : Ann := left a57_26
noncomputable def c57_28 : Code := fstC (fstC (fstC c57_25))
noncomputable def a57_34 : Ann := right (left a57_27)
noncomputable def a57_41 : Ann := right (right (right (left a57_34)))
noncomputable def a57_42 : Ann := left a57_41
noncomputable def c57_43 : Code := fstC (fstC (sndC (sndC (sndC (fstC (sndC c57_28))))))
noncomputable def a57_50 : Ann := left (right (right (left a57_42)))
noncomputable def c57_60 : Code := sndC (sndC (sndC c57_43))
noncomputable def a57_60 : Ann := right (right (right (left a57_42)))
noncomputable def c57_61 : Code := sndC c57_25
noncomputable def a57_61 : Ann := right a57_25
noncomputable def f57_L0 (G : GuardT) (lo : Nat) (x0 x3 x4 x22 x23 x24 : DV) (σ : Store) : Option (DV × Store) :=
 codeF G PP (pol 57) CC lo (.loop c57_11) a57_10 [x0, ud, ud, x3, x4, ud, ud, ud, ud, ud, ud, ud, ud, ud, ud, ud, ud, ud, ud, ud, ud, ud, x22, x23, x24, ud, ud, ud, ud, ud, ud, ud, ud, ud, ud, ud, ud, ud, ud, ud, ud, ud, ud, ud, ud, ud, ud, ud, ud, ud, ud, ud, ud, ud, ud, ud, ud, ud, ud, ud, ud, ud, ud, ud, ud, ud, ud, ud, ud, ud, ud, ud, ud, ud, ud, ud, ud, ud, ud, ud, ud, ud, ud, ud, ud, ud, ud, ud, ud] σ
 (blockC 0 a57_9 (seqC G PP (pol 57) CC lo c57_25 a57_25 (finR PP Go.Proofs.Try.f57.results.toList)))
noncomputable def f57_L1 (G : GuardT) (lo : Nat) (x0 x3 x4 : DV) (σ : Store) : Option (DV × Store) :=
 codeF G PP (pol 57) CC lo (.loop c57_28) a57_27 [x0, ud, ud, x3, x4, ud, ud, ud, ud, ud, ud, ud, ud, ud, ud, ud, ud, ud, ud, ud, ud, ud, ud, ud, ud, ud, ud, ud, ud, ud, ud, ud, ud, ud, ud, ud, ud, ud, ud, ud, ud, ud, ud, ud, ud, ud, ud, ud, ud, ud, ud, ud, ud, ud, ud, ud, ud, ud, ud, ud, ud, ud, ud, ud, ud, ud, ud, ud, ud, ud, ud, ud, ud, ud, ud, ud, ud, ud, ud, ud, ud, ud, ud, ud, ud, ud, ud, ud, ud] σ
 (blockC 2 a57_26 (seqC G PP (pol 57) CC lo c57_61 a57_61 (finR PP Go.Proofs.Try.f57.results.toList)))
noncomputable def f57_L2 (G : GuardT) (lo : Nat) (x0 x3 x4 x7 x51 x52 x53 : DV) (σ : Store) : Option (DV × Store) :=
 codeF G PP (pol 57) CC lo (.loop c57_43) a57_42 [x0, ud, ud, x3, x4, ud, ud, x7, ud, ud, ud, ud, ud, ud, ud, ud, ud, ud, ud, ud, ud, ud, ud, ud, ud, ud, ud, ud, ud, ud, ud, ud, ud, ud, ud, ud, ud, ud, ud, ud, ud, ud, ud, ud, ud, ud, ud, ud, ud, ud, ud, x51, x52, x53, ud, ud, ud, ud, ud, ud, ud, ud, ud, ud, ud, ud, ud, ud, ud, ud, ud, ud, ud, ud, ud, ud, ud, ud, ud, ud, ud, ud, ud, ud, ud, ud, ud, ud, ud] σ
 (blockC 4 a57_41 (blockC 3 a57_34 (loopC G PP (pol 57) CC lo c57_28 a57_27 (blockC 2 a57_26 (seqC G PP (pol 57) CC lo c57_61 a57_61 (finR PP Go.Proofs.Try.f57.results.toList))))))
def f57_J0_fr (x0 x3 x4 x7 x9 x51 x52 x53 x54 x55 x56 x57 x58 x59 x60 x61 x62 x63 x64 x65 x66 x67 x68 x69 x70 x71 x72 x73 x74 x75 x76 x77 x78 x79 x80 x81 x82 x83 x84 x85 x86 : DV) : Frame := [x0, ud, ud, x3, x4, ud, ud, x7, ud, x9, ud, ud, ud, ud, ud, ud, ud, ud, ud, ud, ud, ud, ud, ud, ud, ud, ud, ud, ud, ud, ud, ud, ud, ud, ud, ud, ud, ud, ud, ud, ud, ud, ud, ud, ud, ud, ud, ud, ud, ud, ud, x51, x52, x53, x54, x55, x56, x57, x58, x59, x60, x61, x62, x63, x64, x65, x66, x67, x68, x69, x70, x71, x72, x73, x74, x75, x76, x77, x78, x79, x80, x81, x82, x83, x84, x85, x86, ud, ud]
noncomputable def f57_J0 (G : GuardT) (lo : Nat) (x0 x3 x4 x7 x9 x51 x52 x53 x54 x55 x56 x57 x58 x59 x60 x61 x62 x63 x64 x65 x66 x67 x68 x69 x70 x71 x72 x73 x74 x75 x76 x77 x78 x79 x80 x81 x82 x83 x84 x85 x86 : DV) (σ : Store) : Option (DV × Store) :=
 (blockC 5 a57_50 (seqC G PP (pol 57) CC lo c57_60 a57_60 (loopC G PP (pol 57) CC lo c57_43 a57_42 (blockC 4 a57_41 (blockC 3 a57_34 (loopC G PP (pol 57) CC lo c57_28 a57_27 (blockC 2 a57_26 (seqC G PP (pol 57) CC lo c57_61 a57_61 (finR PP Go.Proofs.Try.f57.results.toList))))))))) .normal (f57_J0_fr x0 x3 x4 x7 x9 x51 x52 x53 x54 x55 x56 x57 x58 x59 x60 x61 x62 x63 x64 x65 x66 x67 x68 x69 x70 x71 x72 x73 x74 x75 x76 x77 x78 x79 x80 x81 x82 x83 x84 x85 x86) σ
noncomputable def F57 (G : GuardT) (lo : Nat) (x0 : DV) (σ : Store) : Option (DV × Store) :=
 codeF G PP (pol 57) CC lo c57_0 a57_0 [x0, ud, ud, ud, ud, ud, ud, ud, ud, ud, ud, ud, ud, ud, ud, ud, ud, ud, ud, ud, ud, ud, ud, ud, ud, ud, ud, ud, ud, ud, ud, ud, ud, ud, ud, ud, ud, ud, ud, ud, ud, ud, ud, ud, ud, ud, ud, ud, ud, ud, ud, ud, ud, ud, ud, ud, ud, ud, ud, ud, ud, ud, ud, ud, ud, ud, ud, ud, ud, ud, ud, ud, ud, ud, ud, ud, ud, ud, ud, ud, ud, ud, ud, ud, ud, ud, ud, ud, ud] σ (finR PP Go.Proofs.Try.f57.results.toList)
theorem f57_L0_eq (G : GuardT) (hG : GuardOk G) (lo : Nat) (x0 x3 x4 x22 x23 x24 : DV) (σ : Store) : f57_L0 G lo x0 x3 x4 x22 x23 x24 σ =
 (binOp PP .lss 3 x24 x23).bind fun x25 =>
 condK x25
 (
 (indexAddr PP 22 x22 x24).bind fun x26 =>
 (load PP 3 x26 σ).bind fun x27 =>
 (buildSlice PP none 22 1 [(0, x27)] σ).bind fun r31_2 =>
 (indexAddr PP 51 x3 x27).bind fun x32 =>
 (store PP lo 22 x32 r31_2.1 r31_2.2).bind fun σ3 =>
 (buildSlice PP none 22 1 [(0, x27)] σ3).bind fun r35_4 =>
 (append PP lo true 22 22 x4 r35_4.1 r35_4.2).bind fun r36_5 =>
 (binOp PP .add 3 x24 (DV.p (PV.int IntKind.i64 (1)))).bind fun x37 =>
 f57_L0 G lo x0 x3 r36_5.1 x22 x23 x37 r36_5.2
 )
 (
 f57_L1 G lo x0 x3 x4 σ
 ) := (loopF_eq G hG).trans (by kernel_rfl)
theorem f57_L1_eq (G : GuardT) (hG : GuardOk G) (lo : Nat) (x0 x3 x4 : DV) (σ : Store) : f57_L1 G lo x0 x3 x4 σ =
 (len PP 22 x4 σ).bind fun x39 =>
 (binOp PP .gtr 3 x39 (DV.p (PV.int IntKind.i64 (0)))).bind fun x40 =>
 condK x40
 (
 (indexAddr PP 22 x4 (DV.p (PV.int IntKind.i64 (0)))).bind fun x42 =>
 (load PP 3 x42 σ).bind fun x43 =>
 (sliceOp PP 22 x4 (some (DV.p (PV.int IntKind.i64 (1)))) none none).bind fun x45 =>
 (nilCheckV x0).bind fun x47 =>
 (fieldAddr PP 118 x47 0).bind fun x48 =>
 (fieldAddr PP 27 x48 0).bind fun x49 =>
 (fieldAddr PP 25 x49 2).bind fun x50 =>
 (load PP 23 x50 σ).bind fun x51 =>
 (len PP 23 x51 σ).bind fun x52 =>
 f57_L2 G lo x0 x3 x45 x43 x51 x52 (DV.p (PV.int IntKind.i64 (0))) σ
 )
 (
 some (x3, σ)
 ) := (loopF_eq G hG).trans (by kernel_rfl)
theorem f57_L2_eq (G : GuardT) (hG : GuardOk G) (lo : Nat) (x0 x3 x4 x7 x51 x52 x53 : DV) (σ : Store) : f57_L2 G lo x0 x3 x4 x7 x51 x52 x53 σ =
 (binOp PP .lss 3 x53 x52).bind fun x54 =>
 condK x54
 (
 (indexAddr PP 23 x51 x53).bind fun x55 =>
 (load PP 100 x55 σ).bind fun x56 =>
 (zeroOf PP 100).bind fun z9 =>
 (store PP lo 100 (DV.ptr (List.length σ) 0) x56 (σ ++ [Row.mix z9])).bind fun σ6 =>
 (fieldAddr PP 100 (DV.ptr (List.length σ) 0) 0).bind fun x57 =>
 (load PP 3 x57 σ6).bind fun x58 =>
 (binOp PP .eql 3 x58 x7).bind fun x60 =>
 G _ x60 true (some (x3, σ6)) σ6 fun x62 σ7 =>
 G _ x60 true ((fieldAddr PP 100 (DV.ptr (List.length σ) 0) 1).bind fun v => some (v, σ7)) σ7 fun x63 σ8 =>
 G _ x60 true ((load PP 3 x63 σ8).bind fun v => some (v, σ8)) σ8 fun x64 σ9 =>
 G _ x60 true ((indexAddr PP 51 x62 x64).bind fun v => some (v, σ9)) σ9 fun x65 σ10 =>
 G _ x60 true ((load PP 22 x65 σ10).bind fun v => some (v, σ10)) σ10 fun x66 σ11 =>
 G _ x60 true ((binOp PP .eql 22 x66 (DV.p PV.nilsl)).bind fun v => some (v, σ11)) σ11 fun x67 σ12 =>
 (pickV x60 x67 (DV.p (PV.bool false))).bind fun x68 =>
 condK x68
 (
 (fieldAddr PP 100 (DV.ptr (List.length σ) 0) 1).bind fun x70 =>
 (load PP 3 x70 σ12).bind fun x71 =>
 (indexAddr PP 51 x3 x7).bind fun x74 =>
 (load PP 22 x74 σ12).bind fun x75 =>
 (plainFn CC (List.length σ12) (DV.fn 85 []) [x75] σ12).bind fun r76_13 =>
 (fieldAddr PP 100 (DV.ptr (List.length σ) 0) 1).bind fun x77 =>
 (load PP 3 x77 r76_13.2).bind fun x78 =>
 (buildSlice PP none 22 1 [(0, x78)] r76_13.2).bind fun r79_14 =>
 (append PP lo false 22 22 r76_13.1 r79_14.1 r79_14.2).bind fun r80_15 =>
 (indexAddr PP 51 x3 x71).bind fun x81 =>
 (store PP lo 22 x81 r80_15.1 r80_15.2).bind fun σ16 =>
 bif ((List.all [σ12, σ12, σ12, σ12, σ12, σ12, σ12, σ12, r76_13.2, r76_13.2, r76_13.2, r79_14.2, r80_15.2, r80_15.2, σ16] fun s => sameInt (load PP 3 x70 σ12) (load PP 3 x70 s)) && true) then
 (fieldAddr PP 100 (DV.ptr (List.length σ) 0) 1).bind fun x83 =>
 (load PP 3 x83 σ16).bind fun x84 =>
 (buildSlice PP none 22 1 [(0, x84)] σ16).bind fun r85_17 =>
 (append PP lo true 22 22 x4 r85_17.1 r85_17.2).bind fun r86_18 =>
 f57_J0 G lo x0 x3 r86_18.1 x7 (DV.ptr (List.length σ) 0) x51 x52 x53 x54 x55 x56 x57 x58 x7 x60 x60 x62 x63 x64 x65 x66 x67 x68 x3 x70 x71 x3 x7 x74 x75 r76_13.1 x77 x78 r79_14.1 r80_15.1 x81 x4 x83 x84 r85_17.1 r86_18.1 r86_18.2
 else none
 )
 (
 f57_J0 G lo x0 x3 x4 x7 (DV.ptr (List.length σ) 0) x51 x52 x53 x54 x55 x56 x57 x58 x7 x60 x60 x62 x63 x64 x65 x66 x67 x68 ud ud ud ud ud ud ud ud ud ud ud ud ud ud ud ud ud ud σ12
 )
 )
 (
 f57_L1 G lo x0 x3 x4 σ
 ) := (loopF_eq G hG).trans (by kernel_rfl)
theorem f57_J0_eq (G : GuardT) (lo : Nat) (x0 x3 x4 x7 x9 x51 x52 x53 x54 x55 x56 x57 x58 x59 x60 x61 x62 x63 x64 x65 x66 x67 x68 x69 x70 x71 x72 x73 x74 x75 x76 x77 x78 x79 x80 x81 x82 x83 x84 x85 x86 : DV) (σ : Store) : f57_J0 G lo x0 x3 x4 x7 x9 x51 x52 x53 x54 x55 x56 x57 x58 x59 x60 x61 x62 x63 x64 x65 x66 x67 x68 x69 x70 x71 x72 x73 x74 x75 x76 x77 x78 x79 x80 x81 x82 x83 x84 x85 x86 σ =
 (binOp PP .add 3 x53 (DV.p (PV.int IntKind.i64 (1)))).bind fun x87 =>
 f57_L2 G lo x0 x3 x4 x7 x51 x52 x87 σ := by kernel_rfl
theorem F57_eq (G : GuardT) (lo : Nat) (x0 : DV) (σ : Store) : F57 G lo x0 σ =
 (nilCheckV x0).bind fun x11 =>
 (fieldAddr PP 118 x11 0).bind fun x12 =>
 (fieldAddr PP 27 x12 0).bind fun x13 =>
 (fieldAddr PP 25 x13 0).bind fun x14 =>
 (load PP 3 x14 σ).bind fun x15 =>
 (makeSlice PP true 51 x15 x15 σ).bind fun r16_1 =>
 (nilCheckV x0).bind fun x18 =>
 (fieldAddr PP 118 x18 0).bind fun x19 =>
 (fieldAddr PP 27 x19 0).bind fun x20 =>
 (fieldAddr PP 25 x20 1).bind fun x21 =>
 (load PP 22 x21 r16_1.2).bind fun x22 =>
 (len PP 22 x22 r16_1.2).bind fun x23 =>
 f57_L0 G lo x0 r16_1.1 (DV.p PV.nilsl) x22 x23 (DV.p (PV.int IntKind.i64 (0))) r16_1.2 := by kernel_rfl
theorem F57_call {lo : Nat} {x0 : DV} {σ : Store} {r : DV × Store} (h : F57 guardT lo x0 σ = some r) : CC lo 57 [x0] σ = some r :=
 callL_run Go.Proofs.Try.func57 (by decide +kernel) rfl (by decide +kernel) h
noncomputable def c85_0 : Code := bodyOf Go.Proofs.Try.f85
noncomputable def a85_0 : Ann := (pol 85).ann
noncomputable def F85 (G : GuardT) (lo : Nat) (x0 : DV) (σ : Store) : Option (DV × Store) :=
 codeF G PP (pol 85) CC lo c85_0 a85_0 [x0, ud, ud, ud, ud, ud, ud, ud] σ (finR PP Go.Proofs.Try.f85.results.toList)
theorem F85_eq (G : GuardT) (lo : Nat) (x0 : DV) (σ : Store) : F85 G lo x0 σ =
 (binOp PP .eql 22 x0 (DV.p PV.nilsl)).bind fun x4 =>
 condK x4
 (
 some ((DV.p PV.nilsl), σ)
 )
 (
 (buildSlice PP none 22 0 [] σ).bind fun r5_1 =>
 (append PP lo false 22 22 r5_1.1 x0 r5_1.2).bind fun r7_2 =>
 some (r7_2.1, r7_2.2)
 ) := by kernel_rfl
theorem F85_call {lo : Nat} {x0 : DV} {σ : Store} {r : DV × Store} (h : F85 guardT lo x0 σ = some r) : CC lo 85 [x0] σ = some r :=
 callL_run Go.Proofs.Try.func85 (by decide +kernel) rfl (by decide +kernel) h
end Go.D
end
/- paths: which states are reached. -/
section
set_option linter.unusedVariables false
set_option linter.unusedSimpArgs false
namespace Go.D

inductive ReachG (g : Gr) : Int → Prop
  | init {s : Int} (h : s ∈ L g.init) : ReachG g s
  | step {e : Edg} (h : ReachG g e.f) (he : e ∈ L g.edges) : ReachG g e.t

/-! ### Operations -/
theorem eq22_nn : binOp PP .eql 22 (.p .nilsl) (.p .nilsl) = some (.p (.bool true)) := Eq.trans (by kernel_rfl) rfl
theorem eq22_sl (ex : Bool) (n : Nat) (cs : List PV) : binOp PP .eql 22 (.p (.sl ex n cs)) (.p .nilsl) = some (.p (.bool false)) := Eq.trans (by kernel_rfl) rfl
theorem eq22_osl (r ver sz n : Nat) (cs : List PV) : binOp PP .eql 22 (.osl r ver sz n cs) (.p .nilsl) = some (.p (.bool false)) := Eq.trans (by kernel_rfl) rfl
theorem mk51 {n : Nat} (h : n ≤ 1000) (σ : Store) : makeSlice PP true 51 (.p (pI (n : Nat))) (.p (pI (n : Nat))) σ = some (.rsl σ.length 1 0 n, σ ++ [.mix (List.replicate n (.p .nilsl))]) := by
  have h1 : (n : Int) ≤ 140737488355328 := by omega
  have h2 : 24 * (n : Int) ≤ 140737488355328 := by omega
  simp [makeSlice, u51, s22, bytes22, zero22, h1, h2, newRow, dups_one]
theorem idx51_r {R off n i : Nat} (h : i < n) : indexAddr PP 51 (.rsl R 1 off n) (.p (pI (i : Nat))) = some (.ptr R (off + i)) := by
  have h2 : (0 : Int) ≤ (i : Int) ∧ (i : Int) < (n : Nat) := by omega
  simp [indexAddr, u51, s22, h2, h]
theorem st22m {σ : Store} {r t : Nat} {O : List DV} {v : DV} (h : σ[r]? = some (.mix O)) (ht : t < O.length) (hv : v.one = true) (hc : v.cells = [v]) : store PP 0 22 (.ptr r t) v σ = some (σ.set r (.mix (O.set t v))) := by
  have h1 : t + 1 ≤ O.length := ht
  have h2 : splice O t [v] = O.set t v := by
    unfold splice
    rw [List.set_eq_take_append_cons_drop]
    simp [ht]
  simp [store, s22, hc, storeN, h, hv, h1, h2]
theorem app22m_nil (s : Int) (σ : Store) : append PP 0 true 22 22 (.p .nilsl) (.p (.sl true 1 [pI s])) σ = some (.rsl σ.length 1 0 1, σ ++ [.mix [.p (pI s)]]) := by
  simp [append, src22, u22, s3, bytes3, zero3, source, appNil]
theorem app22m_row {σ : Store} {R off n : Nat} {cs : List DV} {s : Int} (hR : σ[R]? = some (.mix cs)) (ho : off + n = cs.length) (hn : n ≤ 10000000) :
    append PP 0 true 22 22 (.rsl R 1 off n) (.p (.sl true 1 [pI s])) σ = some (.rsl σ.length 1 0 (n + 1), σ.set R .dead ++ [.mix (cs.drop off ++ [.p (pI s)])]) := by
  have h1 : (n + 1) * 8 ≤ 140737488355328 := by omega
  have h2 : n + 1 ≤ 140737488355328 := by omega
  have h3 : ¬ off + (n + 1) ≤ cs.length := by omega
  simp [append, src22, u22, s3, bytes3, zero3, source, appRow, hR, h1, h2, h3, ho, DV.one]

/-! ### A path in a cell -/
def PC (l : List Int) (v : DV) : Prop := l ≠ [] ∧ (v = .p (.sl true l.length (eInts l)) ∨ ∃ r ver, v = .osl r ver 1 l.length (eInts l))
theorem PC.eq {l : List Int} {v : DV} (h : PC l v) : binOp PP .eql 22 v (.p .nilsl) = some (.p (.bool false)) := by
  rcases h.2 with rfl | ⟨r, ver, rfl⟩
  · exact eq22_sl _ _ _
  · exact eq22_osl _ _ _ _ _
theorem PC.thaw {l : List Int} {v : DV} (h : PC l v) (d : Nat) (σ : Store) : thawP 0 σ d v = some (eSl (some l)) := by
  rcases h.2 with rfl | ⟨r, ver, rfl⟩ <;> cases d <;> simp [thawP, loosen, loosens_ints, eSl]
theorem PC.source {l : List Int} {v : DV} (h : PC l v) (σ : Store) : Go.D.source σ 1 v = some (l.length, (eInts l).map DV.p) := by
  rcases h.2 with rfl | ⟨r, ver, rfl⟩ <;> simp [Go.D.source, ints_length]
/-- Clone of a path: a list of one's own. -/
theorem S85 {l : List Int} {v : DV} (h : PC l v) (hl : l.length ≤ 1000000) (lo : Nat) (σ : Store) (hlo : lo ≤ σ.length) :
    plainFn CC lo (DV.fn 85 []) [v] σ = some (.osl σ.length 0 1 l.length (eInts l), σ ++ [.tok 0]) := by
  show CC lo 85 ([v] ++ []) σ = _
  rw [List.append_nil]
  refine F85_call ?_
  rw [F85_eq]
  have hne : ¬ l.length = 0 := fun e => h.1 (List.length_eq_zero_iff.1 e)
  have h1 : append PP lo false 22 22 (.p (.sl true 0 [])) v σ = some (.osl σ.length 0 1 l.length (eInts l), σ ++ [.tok 0]) := by
    have e1 : l.length * 8 ≤ 140737488355328 := by omega
    have e2 : l.length ≤ 140737488355328 := by omega
    simp only [append, src22, u22, s3, bytes3, zero3, h.source, appLit]
    simp [hne, e1, e2, pures_map]
  simp only [h.eq, obind, condK_false, bs22_0, h1]

section
variable {p : Pair} {n m : Nat}

/-- The paths that are known, in their row. -/
structure OutP (m : Nat) (V : Nat → Bool) (B : Nat) (O : List DV) : Prop where
  len : O.length = m
  cell : ∀ s (h : s < O.length), if V s = true then ∃ l, l.length ≤ B ∧ PC l O[s] else O[s] = .p .nilsl
theorem OutP.set {V : Nat → Bool} {B : Nat} {O : List DV} (h : OutP m V B O) {s : Nat} {l : List Int} {v : DV} (hv : PC l v) (hl : l.length ≤ B + 1) : OutP m (fun a => V a || decide (a = s)) (B + 1) (O.set s v) := by
  refine ⟨by rw [List.length_set]; exact h.len, fun a ha => ?_⟩
  rw [List.length_set] at ha
  have hc := h.cell a ha
  by_cases e : a = s
  · subst e
    rw [if_pos (by simp), List.getElem_set_self]
    exact ⟨l, hl, hv⟩
  · have e2 : ¬ s = a := fun h => e h.symm
    rw [List.getElem_set_ne e2]
    have e3 : (V a || decide (a = s)) = V a := by simp [e]
    rw [e3]
    split at hc
    · rename_i hV
      rw [if_pos hV]
      obtain ⟨l2, h2, h3⟩ := hc
      exact ⟨l2, by omega, h3⟩
    · rename_i hV
      rw [if_neg hV]
      exact hc

/-- A queue of states. -/
def QV (σ : Store) (ql : List Int) (x : DV) : Prop := (ql = [] ∧ x = .p .nilsl) ∨ ∃ R off cs, x = .rsl R 1 off ql.length ∧ 1 ≤ R ∧ σ[R]? = some (.mix cs) ∧ off + ql.length = cs.length ∧ cs.drop off = ql.map fun z => DV.p (pI z)
/-- Rows that stay when the queue grows. -/
def KeepsQ (σ σ' : Store) (x : DV) : Prop := ∀ (i : Nat) (row : Row), σ[i]? = some row → (∀ R sz off n, x = .rsl R sz off n → i ≠ R) → σ'[i]? = some row
theorem QV.push {σ : Store} {ql : List Int} {x : DV} (h : QV σ ql x) (hσ : 1 ≤ σ.length) (hn : ql.length ≤ 1000000) (s : Int) :
    ∃ x' σ', append PP 0 true 22 22 x (.p (.sl true 1 [pI s])) σ = some (x', σ') ∧ QV σ' (ql ++ [s]) x' ∧ KeepsQ σ σ' x ∧ (∃ R sz off n, x' = .rsl R sz off n ∧ R = σ.length) := by
  rcases h with ⟨rfl, rfl⟩ | ⟨R, off, cs, rfl, h1, h2, h3, h4⟩
  · refine ⟨_, _, app22m_nil s σ, .inr ⟨σ.length, 0, [.p (pI s)], rfl, hσ, get_snoc, by simp, by simp⟩, fun i row hi _ => get_old hi, _, _, _, _, rfl, rfl⟩
  · refine ⟨_, _, app22m_row h2 h3 (by omega), .inr ⟨σ.length, 0, cs.drop off ++ [.p (pI s)], by simp, hσ, ?_, ?_, ?_⟩, fun i row hi hne => get_old (get_set_ne hi (hne _ _ _ _ rfl)), _, _, _, _, rfl, rfl⟩
    · have : (σ.set R Row.dead).length = σ.length := by simp
      rw [← this, get_snoc]
    · rw [h4]; simp
    · rw [h4]; simp
theorem QV.keep {σ σ' : Store} {ql : List Int} {x : DV} (h : QV σ ql x) (hk : ∀ (i : Nat) (c : List DV), 1 ≤ i → σ[i]? = some (.mix c) → σ'[i]? = some (.mix c)) : QV σ' ql x := by
  rcases h with h | ⟨R, off, cs, h0, h1, h2, h3, h4⟩
  · exact .inl h
  · exact .inr ⟨R, off, cs, h0, h1, hk R cs h1 h2, h3, h4⟩
theorem QV.len {σ : Store} {ql : List Int} {x : DV} (h : QV σ ql x) (ρ : Store) : Go.D.len PP 22 x ρ = some (.p (pI (ql.length : Nat))) := by
  rcases h with ⟨rfl, rfl⟩ | ⟨R, off, cs, rfl, _⟩
  · exact len22_nil ρ
  · exact len22_r _ _ _ _ _
theorem QV.head {σ : Store} {s : Int} {ql : List Int} {x : DV} (h : QV σ (s :: ql) x) : ∃ a, indexAddr PP 22 x (.p (.int .i64 0)) = some a ∧ load1 a σ = some (.p (pI s)) := by
  rcases h with ⟨h, _⟩ | ⟨R, off, cs, rfl, h1, h2, h3, h4⟩
  · exact absurd h (by simp)
  · refine ⟨.ptr R (off + 0), idx22_r (i := 0) (by simp), load1_ptr h2 ?_⟩
    have := congrArg (·[0]?) h4
    simpa using this
theorem QV.tail {σ : Store} {s : Int} {ql : List Int} {x : DV} (h : QV σ (s :: ql) x) : ∃ x', sliceOp PP 22 x (some (.p (.int .i64 1))) none none = some x' ∧ QV σ ql x' := by
  rcases h with ⟨h, _⟩ | ⟨R, off, cs, rfl, h1, h2, h3, h4⟩
  · exact absurd h (by simp)
  · have hb : (0 : Int) ≤ 1 ∧ (1 : Int) ≤ (((s :: ql).length : Nat) : Int) := by simp <;> omega
    refine ⟨.rsl R 1 (off + 1) ql.length, ?_, .inr ⟨R, off + 1, cs, rfl, h1, h2, ?_, ?_⟩⟩
    · simp [sliceOp, u22, s3, bound] at hb ⊢
      rw [if_pos hb]
      simp
    · simp at h3; omega
    · have := congrArg (List.drop 1) h4
      simpa [List.drop_drop, Nat.add_comm] using this

/-- How many states are not known yet. -/
def rest (m : Nat) (V : Nat → Bool) : Nat := (List.range m).countP fun s => !V s
theorem rest_add {V : Nat → Bool} {t : Nat} (ht : t < m) (hV : V t = false) : rest m (fun a => V a || decide (a = t)) < rest m V := by
  refine countP_lt (fun x _ h => ?_) ⟨t, List.mem_range.2 ht, by rw [hV]; rfl, by simp⟩
  cases hx : V x with
  | false => rfl
  | true => simp [hx] at h
theorem rest_same {V : Nat → Bool} {t : Nat} : rest m (fun a => V a || decide (a = t)) ≤ rest m V := by
  refine List.countP_mono_left fun x _ h => ?_
  cases hx : V x with
  | false => rfl
  | true => simp [hx] at h
theorem rest_le (V : Nat → Bool) : rest m V ≤ m := by
  have := List.countP_le_length (p := fun s => !V s) (l := List.range m)
  unfold rest
  simpa using this

/-- What holds of the search: B bounds the paths. -/
structure Bfs (p : Pair) (m : Nat) (σ : Store) (V : Nat → Bool) (B : Nat) (O : List DV) (ql : List Int) (x4 : DV) : Prop where
  row : σ[0]? = some (.mix O)
  out : OutP m V B O
  q : QV σ ql x4
  qin : ∀ s ∈ ql, 0 ≤ s ∧ s < m ∧ V s.toNat = true
  sound : ∀ s, V s = true → ReachG p.lo (s : Nat)
  bnd : B + rest m V ≤ 10000
  qb : ql.length + rest m V ≤ 10000

theorem Bfs.cell {σ : Store} {V : Nat → Bool} {B : Nat} {O : List DV} {ql : List Int} {x4 : DV} (h : Bfs p m σ V B O ql x4) {s : Nat} (hs : s < m) : load1 (.ptr 0 s) σ = some (O.getD s .undef) := by
  have hl : s < O.length := by rw [h.out.len]; exact hs
  exact load1_ptr h.row (by rw [getD_at _ hl]; simp [hl])
theorem Bfs.known {σ : Store} {V : Nat → Bool} {B : Nat} {O : List DV} {ql : List Int} {x4 : DV} (h : Bfs p m σ V B O ql x4) {s : Nat} (hs : s < m) (hV : V s = true) : ∃ l, l.length ≤ B ∧ PC l (O.getD s .undef) := by
  have hl : s < O.length := by rw [h.out.len]; exact hs
  have := h.out.cell s hl
  rw [if_pos hV] at this
  rw [getD_at _ hl]; exact this
theorem Bfs.unknown {σ : Store} {V : Nat → Bool} {B : Nat} {O : List DV} {ql : List Int} {x4 : DV} (h : Bfs p m σ V B O ql x4) {s : Nat} (hs : s < m) (hV : V s = false) : O.getD s .undef = .p .nilsl := by
  have hl : s < O.length := by rw [h.out.len]; exact hs
  have := h.out.cell s hl
  rw [if_neg (by rw [hV]; simp)] at this
  rw [getD_at _ hl]; exact this
theorem Bfs.snoc {σ : Store} {V : Nat → Bool} {B : Nat} {O : List DV} {ql : List Int} {x4 : DV} (h : Bfs p m σ V B O ql x4) (r : Row) : Bfs p m (σ ++ [r]) V B O ql x4 :=
  ⟨get_old h.row, h.out, h.q.keep fun i c _ hc => get_old hc, h.qin, h.sound, h.bnd, h.qb⟩

/-- A state is found: its path is written, and it is put behind the queue. -/
theorem Bfs.found {σ : Store} {V : Nat → Bool} {B : Nat} {O : List DV} {ql : List Int} {x4 : DV} (h : Bfs p m σ V B O ql x4) {t : Nat} (ht : t < m) {l : List Int} {v : DV} (hv : PC l v) (hl : l.length ≤ B + 1) (hr : ReachG p.lo (t : Nat))
    (hB : B + 1 + rest m (fun a => V a || decide (a = t)) ≤ 10000) (hQ : ql.length + 1 + rest m (fun a => V a || decide (a = t)) ≤ 10000) :
    ∃ x' σ', append PP 0 true 22 22 x4 (.p (.sl true 1 [pI (t : Nat)])) (σ.set 0 (.mix (O.set t v))) = some (x', σ') ∧ Bfs p m σ' (fun a => V a || decide (a = t)) (B + 1) (O.set t v) (ql ++ [(t : Int)]) x' ∧
      (∀ (i : Nat) (row : Row), 1 ≤ i → σ[i]? = some row → (∀ R sz off n, x4 = .rsl R sz off n → i ≠ R) → σ'[i]? = some row) := by
  have hl0 := get_lt h.row
  have hrow : (σ.set 0 (.mix (O.set t v)))[0]? = some (.mix (O.set t v)) := List.getElem?_set_self hl0
  have hq : QV (σ.set 0 (.mix (O.set t v))) ql x4 := h.q.keep fun i c h1 hc => get_set_ne hc (by omega)
  obtain ⟨x', σ', g1, g2, g3, g4⟩ := hq.push (by simp; omega) (by have := h.qb; omega) (t : Nat)
  have h0 : ∀ R sz off n, x4 = .rsl R sz off n → 0 ≠ R := by
    intro R sz off n e e2
    rcases h.q with ⟨_, h1⟩ | ⟨R', off', cs, h1, h2, _⟩
    · rw [h1] at e; exact absurd e (by simp)
    · rw [h1] at e
      injection e with e3
      omega
  refine ⟨x', σ', g1, ⟨g3 0 _ hrow h0, h.out.set hv hl, g2, ?_, ?_, hB, by rw [List.length_append]; simpa using hQ⟩, fun i row h1 hi hne => g3 i row (get_set_ne hi (by omega)) hne⟩
  · intro s hs
    rcases List.mem_append.1 hs with h1 | h1
    · obtain ⟨a, b, c⟩ := h.qin s h1
      exact ⟨a, b, by rw [c]; rfl⟩
    · have : s = (t : Int) := by simpa using h1
      subst this
      exact ⟨by omega, by omega, by simp⟩
  · intro s hs
    cases hVs : V s with
    | true => exact h.sound s hVs
    | false =>
      rw [hVs] at hs
      have : s = t := by simpa using hs
      rw [this]; exact hr

theorem one_p (v : PV) : (DV.p v).one = true := rfl

/-- The first states. -/
theorem L57_0 (hp : Nice p n m) (hi : Inits p n m) :
    ∀ (d i : Nat) (V : Nat → Bool) (B : Nat) (O : List DV) (ql : List Int) (x4 : DV) (σ : Store), (L p.lo.init).length - i = d → i ≤ (L p.lo.init).length → Bfs p m σ V B O ql x4 → B + d + m ≤ 9000 → ql.length + d + m ≤ 9000 → (∀ j, (h : j < (L p.lo.init).length) → j < i → V ((L p.lo.init)[j]).toNat = true) → (∀ s, V s = true → (s : Int) ∈ ql) →
      ∃ V' B' O' ql' x' σ', Bfs p m σ' V' B' O' ql' x' ∧ (∀ s ∈ L p.lo.init, V' s.toNat = true) ∧ (∀ s, V' s = true → (s : Int) ∈ ql') ∧
        f57_L0 guardT 0 (.pptr (graphsV p n) 0) (.rsl 0 1 0 m) x4 (.p (eSl p.lo.init)) (.p (pI ((L p.lo.init).length : Nat))) (.p (pI (i : Nat))) σ = f57_L1 guardT 0 (.pptr (graphsV p n) 0) (.rsl 0 1 0 m) x' σ'
  | 0, i, V, B, O, ql, x4, σ, hd, hil, h, hB, hQ, hin, hall => by
    have : ¬ (i : Int) < ((L p.lo.init).length : Nat) := by omega
    refine ⟨V, B, O, ql, x4, σ, h, ?_, hall, ?_⟩
    · intro s hs
      obtain ⟨j, hj, rfl⟩ := List.getElem_of_mem hs
      exact hin j hj (by omega)
    · rw [f57_L0_eq guardT rfl]
      simp only [b_lss, obind, this, decide_false, condK_false]
  | d + 1, i, V, B, O, ql, x4, σ, hd, hil, h, hB, hQ, hin, hall => by
    have hlt : i < (L p.lo.init).length := by omega
    have h' : (i : Int) < ((L p.lo.init).length : Nat) := by omega
    have hli := hp.sm.li
    have w : IntKind.wrap .i64 ((i : Int) + 1) = ((i + 1 : Nat) : Int) := wrap_succ (by omega)
    obtain ⟨v1, v2⟩ := hi.lo _ (List.getElem_mem hlt)
    obtain ⟨s, hs⟩ : ∃ s : Nat, (L p.lo.init)[i] = (s : Nat) := ⟨_, (Int.toNat_of_nonneg v1).symm⟩
    have hsm : s < m := by omega
    have hpc : PC [(s : Int)] (.p (.sl true 1 [pI (s : Nat)])) := ⟨by simp, .inl rfl⟩
    have hrest := rest_same (m := m) (V := V) (t := s)
    have hrl := rest_le (m := m) V
    have hol : s < O.length := by rw [h.out.len]; exact hsm
    obtain ⟨x', σ', g1, g2, g3⟩ := h.found hsm hpc (by simp) (by rw [← hs]; exact .init (List.getElem_mem hlt)) (by omega) (by omega)
    have hst := st22m (v := .p (.sl true 1 [pI (s : Nat)])) h.row hol rfl rfl
    obtain ⟨V', B', O', ql', y, ρ, k1, k2, k3, k4⟩ := L57_0 hp hi d (i + 1) _ _ _ _ x' σ' (by omega) (by omega) g2 (by omega) (by rw [List.length_append]; simp <;> omega) (fun j hj hji => by
      rcases Nat.lt_or_ge j i with h1 | h1
      · rw [hin j hj h1]; rfl
      · have : j = i := by omega
        subst this
        rw [hs]; simp) (fun a ha => by
      cases hVa : V a with
      | true => exact List.mem_append_left _ (hall a hVa)
      | false =>
        rw [hVa] at ha
        have : a = s := by simpa using ha
        subst this
        exact List.mem_append_right _ (by simp))
    refine ⟨V', B', O', ql', y, ρ, k1, k2, k3, ?_⟩
    rw [f57_L0_eq guardT rfl]
    simp only [b_lss, obind, h', decide_true, condK_true, idx22 hlt, load3, load1_ints hlt, hs, bs22_1, idx51_r hsm, Nat.zero_add, hst, g1, b_add, w]
    exact k4

/-- The steps of one state. -/
theorem L57_2 (hp : Nice p n m) {s : Nat} (hs : s < m) :
    ∀ (d i : Nat) (V : Nat → Bool) (B : Nat) (O : List DV) (ql : List Int) (x4 : DV) (σ : Store), (L p.lo.edges).length - i = d → i ≤ (L p.lo.edges).length → Bfs p m σ V B O ql x4 → V s = true → (∀ j, (h : j < (L p.lo.edges).length) → j < i → (L p.lo.edges)[j].f = (s : Nat) → V ((L p.lo.edges)[j].t).toNat = true) →
      ∃ V' B' O' ql' x' σ', Bfs p m σ' V' B' O' ql' x' ∧ (∀ a, V a = true → V' a = true) ∧ (∀ a, V' a = true → V a = true ∨ (a : Int) ∈ ql') ∧ (∀ z ∈ ql, z ∈ ql') ∧ (∀ e ∈ L p.lo.edges, e.f = (s : Nat) → V' e.t.toNat = true) ∧ ql'.length + rest m V' ≤ ql.length + rest m V ∧
        f57_L2 guardT 0 (.pptr (graphsV p n) 0) (.rsl 0 1 0 m) x4 (.p (pI (s : Nat))) (.p (eEs p.lo.edges)) (.p (pI ((L p.lo.edges).length : Nat))) (.p (pI (i : Nat))) σ = f57_L1 guardT 0 (.pptr (graphsV p n) 0) (.rsl 0 1 0 m) x' σ'
  | 0, i, V, B, O, ql, x4, σ, hd, hil, h, hVs, hin => by
    have : ¬ (i : Int) < ((L p.lo.edges).length : Nat) := by omega
    refine ⟨V, B, O, ql, x4, σ, h, fun a ha => ha, fun a ha => .inl ha, fun z hz => hz, ?_, Nat.le_refl _, ?_⟩
    · intro e he hf
      obtain ⟨j, hj, rfl⟩ := List.getElem_of_mem he
      exact hin j hj (by omega) hf
    · rw [f57_L2_eq guardT rfl]
      simp only [b_lss, obind, this, decide_false, condK_false]
  | d + 1, i, V, B, O, ql, x4, σ, hd, hil, h, hVs, hin => by
    have hlt : i < (L p.lo.edges).length := by omega
    have h' : (i : Int) < ((L p.lo.edges).length : Nat) := by omega
    have hle := hp.sm.le
    have w : IntKind.wrap .i64 ((i : Int) + 1) = ((i + 1 : Nat) : Int) := wrap_succ (by omega)
    obtain ⟨v1, v2, v3, v4⟩ := hp.ls _ (List.getElem_mem hlt)
    obtain ⟨t, ht⟩ : ∃ t : Nat, (L p.lo.edges)[i].t = (t : Nat) := ⟨_, (Int.toNat_of_nonneg v3).symm⟩
    have htm : t < m := by omega
    have d1 : (L p.lo.edges).length - (i + 1) = d := by omega
    have d2 : i + 1 ≤ (L p.lo.edges).length := by omega
    have hsn := store_new100 σ (L p.lo.edges)[i] [.p (pI 0), .p (pI 0), .p (pI 0)] rfl
    have hx : (σ ++ [Row.mix (edgD (L p.lo.edges)[i])])[σ.length]? = some (.mix (edgD (L p.lo.edges)[i])) := get_snoc
    have h1 := h.snoc (Row.mix (edgD (L p.lo.edges)[i]))
    have hlσ : 1 ≤ σ.length := get_lt h.row
    have hxne : ∀ R sz off n, x4 = .rsl R sz off n → σ.length ≠ R := by
      intro R sz off n' e e2
      rcases h.q with ⟨_, h3⟩ | ⟨R', off', cs, h3, _, h4, _⟩
      · rw [h3] at e; exact absurd e (by simp)
      · rw [h3] at e
        injection e with e3
        have := get_lt h4
        omega
    -- what is left to do when nothing is found here
    have hskip : ((L p.lo.edges)[i].f = (s : Nat) → V t = true) →
        ∃ V' B' O' ql' x' σ', Bfs p m σ' V' B' O' ql' x' ∧ (∀ a, V a = true → V' a = true) ∧ (∀ a, V' a = true → V a = true ∨ (a : Int) ∈ ql') ∧ (∀ z ∈ ql, z ∈ ql') ∧ (∀ e ∈ L p.lo.edges, e.f = (s : Nat) → V' e.t.toNat = true) ∧ ql'.length + rest m V' ≤ ql.length + rest m V ∧
          f57_L2 guardT 0 (.pptr (graphsV p n) 0) (.rsl 0 1 0 m) x4 (.p (pI (s : Nat))) (.p (eEs p.lo.edges)) (.p (pI ((L p.lo.edges).length : Nat))) (.p (pI (i + 1 : Nat))) (σ ++ [Row.mix (edgD (L p.lo.edges)[i])]) = f57_L1 guardT 0 (.pptr (graphsV p n) 0) (.rsl 0 1 0 m) x' σ' := by
      intro hok
      refine L57_2 hp hs d (i + 1) V B O ql x4 _ (by omega) (by omega) h1 hVs (fun j hj hji hf => ?_)
      rcases Nat.lt_or_ge j i with h2 | h2
      · exact hin j hj h2 hf
      · have : j = i := by omega
        subst this
        rw [ht]
        exact hok hf
    have hl0 : load1 (.ptr σ.length 0) (σ ++ [Row.mix (edgD (L p.lo.edges)[i])]) = some (.p (pI (L p.lo.edges)[i].f)) := load1_ptr hx rfl
    have hl1 : load1 (.ptr σ.length 1) (σ ++ [Row.mix (edgD (L p.lo.edges)[i])]) = some (.p (pI (t : Nat))) := by rw [← ht]; exact load1_ptr hx rfl
    cases e1 : decide ((L p.lo.edges)[i].f = (s : Nat)) with
    | false =>
      obtain ⟨V', B', O', ql', y, ρ, k1, k2, k3, k4, k5, k6, k7⟩ := hskip fun hf => absurd hf (of_decide_eq_false e1)
      refine ⟨V', B', O', ql', y, ρ, k1, k2, k3, k4, k5, k6, ?_⟩
      rw [f57_L2_eq guardT rfl]
      simp only [b_lss, obind, h', decide_true, condK_true, idx23 hlt, load100, load100_D hlt, getD_at _ hlt, zero100, hsn, fa100_0, shift_ptr, Nat.zero_add, load3, hl0, b_eql, e1, guard_ft, guard_sk, pickV_false, condK_false, f57_J0_eq, b_add, w]
      exact k7
    | true =>
      have hcell := h1.cell htm
      cases hVt : V t with
      | true =>
        obtain ⟨l, _, hpc⟩ := h1.known htm hVt
        obtain ⟨V', B', O', ql', y, ρ, k1, k2, k3, k4, k5, k6, k7⟩ := hskip fun _ => hVt
        refine ⟨V', B', O', ql', y, ρ, k1, k2, k3, k4, k5, k6, ?_⟩
        rw [f57_L2_eq guardT rfl]
        simp only [b_lss, obind, h', decide_true, condK_true, idx23 hlt, load100, load100_D hlt, getD_at _ hlt, zero100, hsn, fa100_0, fa100_1, shift_ptr, Nat.zero_add, load3, hl0, hl1, b_eql, e1, guard_tt, idx51_r htm, load22, hcell, hpc.eq, pickV_true, condK_false, f57_J0_eq, b_add, w]
        exact k7
      | false =>
        have hun := h1.unknown htm hVt
        obtain ⟨l, hlB, hpc⟩ := h1.known hs hVs
        have hcs := h1.cell hs
        have hb := h.bnd
        have hqb := h.qb
        have hra := rest_add htm hVt
        generalize hρ : σ ++ [Row.mix (edgD (L p.lo.edges)[i])] = ρ at *
        have hS := S85 hpc (by omega) ρ.length ρ (Nat.le_refl _)
        have ho : Out (ρ ++ [.tok 0]) 0 1 l.length (eInts l) (.osl ρ.length 0 1 l.length (eInts l)) := ⟨by rw [ints_length, Nat.mul_one], .inr ⟨fun e => hpc.1 (List.length_eq_zero_iff.1 e), ρ.length, 0, rfl, get_snoc, Nat.zero_le _⟩⟩
        obtain ⟨y, ρ2, a1, a2, a3, a4⟩ := ho.push22 (v := pI (t : Nat)) (by omega) (Nat.zero_le _)
        have hint : eInts l ++ [pI (t : Nat)] = eInts (l ++ [(t : Int)]) := by simp [eInts]
        rw [hint] at a2
        have hpcy : PC (l ++ [(t : Int)]) y := by
          rcases a2.2 with ⟨h2, _⟩ | ⟨_, r, ver, h2, _, _⟩
          · exact absurd h2 (by simp)
          · exact ⟨by simp, .inr ⟨r, ver, by rw [h2, List.length_append]; rfl⟩⟩
        have hyone : y.one = true ∧ y.cells = [y] := by
          rcases hpcy.2 with e | ⟨r, ver, e⟩ <;> rw [e] <;> exact ⟨rfl, rfl⟩
        have hkeep2 : Keeps ρ ρ2 := (Keeps.snoc ρ _).trans (Keeps.of_out a3 ho)
        have h2 : Bfs p m ρ2 V B O ql x4 := ⟨hkeep2.mix h1.row, h1.out, h1.q.keep fun i c _ hc => hkeep2.mix hc, h1.qin, h1.sound, h1.bnd, h1.qb⟩
        have hr : ReachG p.lo (t : Nat) := by
          rw [← ht]
          refine .step ?_ (List.getElem_mem hlt)
          rw [of_decide_eq_true e1]
          exact h.sound s hVs
        obtain ⟨x', σ', g1, g2, g3⟩ := h2.found htm hpcy (by rw [List.length_append]; exact Nat.succ_le_succ hlB) hr (Nat.le_trans (by rw [Nat.add_assoc, Nat.add_comm 1]; exact Nat.add_le_add_left hra B) hb) (Nat.le_trans (by rw [Nat.add_assoc, Nat.add_comm 1]; exact Nat.add_le_add_left hra ql.length) hqb)
        have hol : t < O.length := by rw [h.out.len]; exact htm
        have hst := st22m (v := y) h2.row hol hyone.1 hyone.2
        have hx2 := hkeep2.mix hx
        have hρl : σ.length ≠ 0 := by omega
        have hx3 : (ρ2.set 0 (.mix (O.set t y)))[σ.length]? = some (.mix (edgD (L p.lo.edges)[i])) := get_set_ne hx2 hρl
        have hxt : (ρ ++ [Row.tok 0])[σ.length]? = some (.mix (edgD (L p.lo.edges)[i])) := get_old hx
        have hl2 : load1 (.ptr σ.length 1) (ρ ++ [Row.tok 0]) = some (.p (pI (t : Nat))) := by rw [← ht]; exact load1_ptr hxt rfl
        have hl3 : load1 (.ptr σ.length 1) ρ2 = some (.p (pI (t : Nat))) := by rw [← ht]; exact load1_ptr hx2 rfl
        have hl4 : load1 (.ptr σ.length 1) (ρ2.set 0 (.mix (O.set t y))) = some (.p (pI (t : Nat))) := by rw [← ht]; exact load1_ptr hx3 rfl
        have hsame : ∀ z : Int, sameInt (some (.p (pI z))) (some (.p (pI z))) = true := by intro z; simp [sameInt]
        obtain ⟨V', B', O', ql', z, τ, k1, k2, k3, k4, k5, k6, k7⟩ := L57_2 hp hs d (i + 1) _ _ _ _ x' σ' d1 d2 g2 (by rw [hVs]; rfl) (fun j hj hji hf => by
          rcases Nat.lt_or_ge j i with h5 | h5
          · rw [hin j hj h5 hf]; rfl
          · have : j = i := by omega
            subst this
            rw [ht]
            simp)
        refine ⟨V', B', O', ql', z, τ, k1, fun a ha => k2 a (by rw [ha]; rfl), fun a ha => ?_, fun z hz => k4 z (List.mem_append_left _ hz), k5, ?_, ?_⟩
        · rcases k3 a ha with h5 | h5
          · cases hVa : V a with
            | true => exact .inl rfl
            | false =>
              rw [hVa] at h5
              have : a = t := by simpa using h5
              subst this
              exact .inr (k4 _ (List.mem_append_right _ (by simp)))
          · exact .inr h5
        · rw [List.length_append] at k6
          simp at k6
          omega
        · rw [f57_L2_eq guardT rfl]
          simp only [b_lss, obind, h', decide_true, condK_true, idx23 hlt, load100, load100_D hlt, getD_at _ hlt, zero100, hsn, hρ, fa100_0, fa100_1, shift_ptr, Nat.zero_add, load3, hl0, hl1, b_eql, e1, guard_tt, idx51_r htm, idx51_r hs, load22, hcell, hun, eq22_nn, pickV_true, hcs, hS, hl2, bs22_1, a1, hst, hl3, hl4, List.all_cons, List.all_nil, hsame, Bool.and_self, cond_true, g1, f57_J0_eq, b_add, w]
          exact k7

/-- The search ends when nothing waits. -/
theorem L57_1 (hp : Nice p n m) :
    ∀ (c : Nat) (V : Nat → Bool) (B : Nat) (O : List DV) (ql : List Int) (x4 : DV) (σ : Store), ql.length + rest m V ≤ c → Bfs p m σ V B O ql x4 → (∀ s, V s = true → (s : Int) ∈ ql ∨ ∀ e ∈ L p.lo.edges, e.f = (s : Nat) → V e.t.toNat = true) →
      ∃ V' B' O' x' σ', Bfs p m σ' V' B' O' [] x' ∧ (∀ a, V a = true → V' a = true) ∧ (∀ s, V' s = true → ∀ e ∈ L p.lo.edges, e.f = (s : Nat) → V' e.t.toNat = true) ∧
        f57_L1 guardT 0 (.pptr (graphsV p n) 0) (.rsl 0 1 0 m) x4 σ = some (.rsl 0 1 0 m, σ') := by
  intro c
  induction c with
  | zero =>
    intro V B O ql x4 σ hc h hcl
    have hq : ql = [] := List.length_eq_zero_iff.1 (by omega)
    subst hq
    refine ⟨V, B, O, x4, σ, h, fun a ha => ha, fun s hs => (hcl s hs).resolve_left (by simp), ?_⟩
    have h0 : ¬ ((([] : List Int).length : Nat) : Int) > 0 := by simp
    rw [f57_L1_eq guardT rfl]
    simp only [h.q.len, obind, b_gtr, h0, decide_false, condK_false]
  | succ c ih =>
    intro V B O ql x4 σ hc h hcl
    cases ql with
    | nil =>
      refine ⟨V, B, O, x4, σ, h, fun a ha => ha, fun s hs => (hcl s hs).resolve_left (by simp), ?_⟩
      have h0 : ¬ ((([] : List Int).length : Nat) : Int) > 0 := by simp
      rw [f57_L1_eq guardT rfl]
      simp only [h.q.len, obind, b_gtr, h0, decide_false, condK_false]
    | cons z ql =>
      obtain ⟨q1, q2, q3⟩ := h.qin z List.mem_cons_self
      obtain ⟨s, hs⟩ : ∃ s : Nat, z = (s : Nat) := ⟨_, (Int.toNat_of_nonneg q1).symm⟩
      subst hs
      have hsm : s < m := by omega
      have hVs : V s = true := by simpa using q3
      have hpos : ((((s : Int) :: ql).length : Nat) : Int) > 0 := by simp <;> omega
      obtain ⟨a, ha, hla⟩ := h.q.head
      obtain ⟨x', hx', hq'⟩ := h.q.tail
      have hqb := h.qb
      simp only [List.length_cons] at hqb hc
      have h2 : Bfs p m σ V B O ql x' := ⟨h.row, h.out, hq', fun z hz => h.qin z (List.mem_cons_of_mem _ hz), h.sound, h.bnd, by omega⟩
      obtain ⟨V1, B1, O1, ql1, x1, σ1, k1, k2, k3, k4, k5, k6, k7⟩ := L57_2 hp hsm _ 0 V B O ql x' σ rfl (Nat.zero_le _) h2 hVs (fun j _ hj => absurd hj (by omega))
      obtain ⟨V', B', O', y, σ', g1, g2, g3, g4⟩ := ih V1 B1 O1 ql1 x1 σ1 (by omega) k1 (fun s' hs' => by
        rcases k3 s' hs' with h3 | h3
        · rcases hcl s' h3 with h4 | h4
          · rcases List.mem_cons.1 h4 with h5 | h5
            · have : s' = s := by omega
              subst this
              exact .inr k5
            · exact .inl (k4 _ h5)
          · exact .inr fun e he hf => k2 _ (h4 e he hf)
        · exact .inl h3)
      refine ⟨V', B', O', y, σ', g1, fun a ha => g2 a (k2 a ha), g3, ?_⟩
      have k7' : f57_L2 guardT 0 (.pptr (graphsV p n) 0) (.rsl 0 1 0 m) x' (.p (pI (s : Nat))) (.p (eEs p.lo.edges)) (.p (pI ((L p.lo.edges).length : Nat))) (.p (pI 0)) σ = _ := k7
      rw [f57_L1_eq guardT rfl]
      simp only [h.q.len, obind, b_gtr, hpos, decide_true, condK_true, ha, load3, hla, hx', nil_pptr, fa118_0, fa27_0, fa25_2, shift_pptr, Nat.zero_add, Nat.add_zero, load23, load1_pptr (gv_2 p n), len23, k7']
      exact g4

/-- What paths answers: a list for each state that is reached. -/
theorem S57 (hp : Nice p n m) (hi : Inits p n m) (hsz : (L p.lo.init).length + m ≤ 8000) : ∃ P : List OI, P.length = m ∧ (∀ s, s < m → (P.getD s none ≠ none ↔ ReachG p.lo (s : Nat))) ∧ ∀ σ, pureV CC 57 [.pptr (graphsV p n) 0] σ = some (.p (eLs (some P))) := by
  have hm2 := hp.m2
  have hb0 : Bfs p m [Row.mix (List.replicate m (.p .nilsl))] (fun _ => false) 0 (List.replicate m (.p .nilsl)) [] (.p .nilsl) :=
    ⟨rfl, ⟨by simp, fun s h => by rw [if_neg (by simp)]; simp⟩, .inl ⟨rfl, rfl⟩, fun s h => absurd h (by simp), fun s h => absurd h (by simp), by have := rest_le (m := m) (fun _ => false); omega, by have := rest_le (m := m) (fun _ => false); simp <;> omega⟩
  obtain ⟨V1, B1, O1, ql1, x1, σ1, k1, k2, k3, k4⟩ := L57_0 hp hi _ 0 _ 0 _ [] (.p .nilsl) _ rfl (Nat.zero_le _) hb0 (by omega) (by simp <;> omega) (fun j _ hj => absurd hj (by omega)) (fun s h => absurd h (by simp))
  obtain ⟨V, B, O, x, σ2, g1, g2, g3, g4⟩ := L57_1 hp _ V1 B1 O1 ql1 x1 σ1 (Nat.le_refl _) k1 (fun s hs => .inl (k3 s hs))
  have hcomp : ∀ z, ReachG p.lo z → V z.toNat = true := by
    intro z hz
    induction hz with
    | init h => exact g2 _ (k2 _ h)
    | @step e h he ih =>
      obtain ⟨v1, _⟩ := hp.ls e he
      exact g3 _ ih e he (by omega)
  have hrow : ∀ s (h : s < O.length), ∃ o : OI, (V s = true ↔ o ≠ none) ∧ thawP 0 σ2 3 O[s] = some (eSl o) := by
    intro s h
    have := g1.out.cell s h
    cases hV : V s with
    | true =>
      rw [if_pos hV] at this
      obtain ⟨l, _, hpc⟩ := this
      exact ⟨some l, by simp, hpc.thaw _ _⟩
    | false =>
      rw [if_neg (by rw [hV]; simp)] at this
      exact ⟨none, by simp, by rw [this]; rfl⟩
  have hP : ∀ (O : List DV), (∀ s (h : s < O.length), ∃ o : OI, (V s = true ↔ o ≠ none) ∧ thawP 0 σ2 3 O[s] = some (eSl o)) → ∀ k, ∃ P : List OI, P.length = (O.drop k).length ∧ (∀ i, (h : i < P.length) → (V (k + i) = true ↔ P[i] ≠ none)) ∧ mapO (thawP 0 σ2 3) (O.drop k) = some (P.map eSl) := by
    intro O hO k
    generalize hd : O.length - k = d
    induction d generalizing k with
    | zero =>
      have : O.drop k = [] := List.drop_eq_nil_of_le (by omega)
      rw [this]
      exact ⟨[], rfl, fun i h => absurd h (by simp), rfl⟩
    | succ d ih =>
      have hk : k < O.length := by omega
      obtain ⟨P, h1, h2, h3⟩ := ih (k + 1) (by omega)
      obtain ⟨o, h4, h5⟩ := hO k hk
      rw [List.drop_eq_getElem_cons hk]
      refine ⟨o :: P, by rw [List.length_cons, List.length_cons, h1], ?_, ?_⟩
      · intro i hi2
        cases i with
        | zero => simpa using h4
        | succ i =>
          have := h2 i (by simpa using hi2)
          rw [show k + 1 + i = k + (i + 1) by omega] at this
          simpa using this
      · simp only [mapO, h5, h3, List.map_cons]
  obtain ⟨P, h1, h2, h3⟩ := hP O hrow 0
  rw [List.drop_zero] at h1 h3
  have hPm : P.length = m := by rw [h1, g1.out.len]
  refine ⟨P, hPm, fun s hs => ?_, fun σ => ?_⟩
  · have := h2 s (by omega)
    rw [Nat.zero_add] at this
    rw [getD_at _ (show s < P.length by omega), ← this]
    exact ⟨fun h => g1.sound s h, fun h => by simpa using hcomp _ h⟩
  · refine pureV_any rfl fun lo σ0 hs => ?_
    rcases hs with ⟨rfl, rfl, _⟩ | ⟨_, _, h⟩
    case inr => exact absurd h (by simp [rowFree, rowFree1])
    refine ⟨.rsl 0 1 0 m, σ2, F57_call ?_, ?_⟩
    · have k4' : f57_L0 guardT 0 (.pptr (graphsV p n) 0) (.rsl 0 1 0 m) (.p .nilsl) (.p (eSl p.lo.init)) (.p (pI ((L p.lo.init).length : Nat))) (.p (pI 0)) [Row.mix (List.replicate m (.p .nilsl))] = _ := k4
      have gv1 : (graphsV p n)[1]? = some (eSl p.lo.init) := by simp [graphsV, ePairP]
      rw [F57_eq]
      simp only [nil_pptr, obind, fa118_0, fa27_0, fa25_0, fa25_1, shift_pptr, Nat.zero_add, Nat.add_zero, load3, load1_pptr (gv_0 p n), hp.ln, mk51 hm2, List.length_nil, List.nil_append, load22, load1_pptr gv1, len22, k4']
      exact g4
    · have e1 : List.take (m * 1) (List.drop 0 O) = O := by rw [List.drop_zero, Nat.mul_one]; exact List.take_of_length_le (by rw [g1.out.len]; omega)
      have e2 : 0 + m * 1 ≤ O.length := by rw [g1.out.len]; omega
      simp only [thawAll, thawPart, thaw, thaw1, thawP, Nat.zero_le, if_true, g1.row, e1, e2, h3, omap, eLs, hPm]

end
end Go.D
end
