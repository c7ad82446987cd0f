/- Violations: what the program answers. -/
import Derived.Test.YthddgnfaaccgjaaQh
import Derived.Test.YthddgnfaaccgjaaQi
import Derived.Test.YthddgnfaaccgjaaQg
import Derived.Test.YthddgnfaaccgjaaQc
section
set_option linter.unusedVariables false
set_option linter.unusedSimpArgs false
namespace Go.D
theorem Grow.push2 {σ : Store} {t e lo B sz b n m : Nat} {z : List DV} {cs vs : List PV} {x : DV} (hs : srcType PP t = true) (hu : PP.underlying t = some (.slice e)) (h1 : size? PP e = some sz) (h2 : bytes? PP e = some b) (h3 : zeroOf PP e = some z)
    (h4 : z.length = sz) (hz : 0 < sz) (hb : 0 < b) (hb2 : b ≤ 1000) (hv : vs.length = m * sz) (hm : m ≠ 0) (hm2 : m ≤ 1000) (ho : Grow σ B sz n cs x) (hn : n ≤ 1000000) (hlo : lo ≤ B) (hB : B ≤ σ.length) :
    ∃ r ver σ', append PP lo false t t x (.p (.sl true m vs)) σ = some (.osl r ver sz (n + m) (cs ++ vs), σ') ∧ Grow σ' B sz (n + m) (cs ++ vs) (.osl r ver sz (n + m) (cs ++ vs)) ∧ (rowOf x = some r ∨ r = σ.length) ∧ (∀ (j : Nat) (row : Row), rowOf x ≠ some j → σ[j]? = some row → σ'[j]? = some row) ∧ σ.length ≤ σ'.length := by
  have hsrc : source σ sz (.p (.sl true m vs)) = some (m, vs.map DV.p) := by simp [source, hv]
  have hz0 : ¬ (z.length ≠ sz ∨ sz = 0) := by omega
  have e1 : (n + m) * b ≤ 140737488355328 := Nat.le_trans (Nat.mul_le_mul (show n + m ≤ 1001000 by omega) hb2) (by decide)
  have e2 : n + m ≤ 140737488355328 := by omega
  have hnm : n + m ≠ 0 := by omega
  obtain ⟨hc, ho⟩ := ho
  have hl : (cs ++ vs).length = (n + m) * sz := by rw [List.length_append, hc, hv, Nat.add_mul]
  rcases ho with ⟨rfl, rfl⟩ | rfl | ⟨r, ver, rfl, hr, hBr⟩
  · have hcs : cs = [] := List.length_eq_zero_iff.1 (by simpa using hc)
    subst hcs
    refine ⟨σ.length, 0, σ ++ [.tok 0], ?_, ⟨hl, .inr (.inr ⟨_, _, rfl, get_snoc, hB⟩)⟩, .inr rfl, fun j row _ h => get_old h, by simp⟩
    simp only [append, hs, hu, h1, h2, h3, hz0, hsrc, appNil]
    simp only [Nat.zero_add] at e1 e2 ⊢
    simp [e1, e2, hb, hm, pures_map]
  · refine ⟨σ.length, 0, σ ++ [.tok 0], ?_, ⟨hl, .inr (.inr ⟨_, _, rfl, get_snoc, hB⟩)⟩, .inr rfl, fun j row _ h => get_old h, by simp⟩
    simp only [append, hs, hu, h1, h2, h3, hz0, hsrc, appLit]
    simp [e1, e2, hb, hm, hc, pures_map]
  · refine ⟨r, ver + 1, σ.set r (.tok (ver + 1)), ?_, ⟨hl, .inr (.inr ⟨_, _, rfl, ?_, hBr⟩)⟩, .inl rfl, fun j row hj h => get_set_ne h (fun e => hj (by rw [e]; rfl)), by simp⟩
    · have hlr : lo ≤ r := by omega
      simp only [append, hs, hu, h1, h2, h3, hz0, hsrc, appTok]
      simp [e1, e2, hb, hc, hlr, hr, pures_map]
    · rw [List.getElem?_set_self (get_lt hr)]
theorem Grow.keep {σ σ' : Store} {B sz n : Nat} {cs : List PV} {x : DV} (h : Grow σ B sz n cs x) (he : ∀ r row, rowOf x = some r → σ[r]? = some row → σ'[r]? = some row) : Grow σ' B sz n cs x := by
  refine ⟨h.1, ?_⟩
  rcases h.2 with h | h | ⟨q, ver, h1, h2, h3⟩
  · exact .inl h
  · exact .inr (.inl h)
  · exact .inr (.inr ⟨q, ver, h1, he q _ (by rw [h1]; rfl) h2, h3⟩)
theorem Grow.row_tok {σ : Store} {B sz n : Nat} {cs : List PV} {x : DV} (h : Grow σ B sz n cs x) {r : Nat} (hr : rowOf x = some r) : ∃ v, σ[r]? = some (.tok v) := by
  rcases h.2 with ⟨_, rfl⟩ | rfl | ⟨q, ver, rfl, h2, h3⟩
  · exact absurd hr (by simp [rowOf])
  · exact absurd hr (by simp [rowOf])
  · have : q = r := by simpa [rowOf] using hr
    subst this
    exact ⟨ver, h2⟩
theorem Grow.one {σ : Store} {B sz n : Nat} {cs : List PV} {x : DV} (h : Grow σ B sz n cs x) : x.one = true ∧ x.cells = [x] := by
  rcases h.2 with ⟨_, rfl⟩ | rfl | ⟨q, ver, rfl, h2, h3⟩ <;> exact ⟨rfl, rfl⟩
theorem Grow.tw {σ σ' : Store} {B sz n : Nat} {cs : List PV} {x : DV} (h : Grow σ B sz n cs x) (hn : n ≠ 0) (m : Nat) : thaw m σ' x = some (.p (.sl false n (loosens cs))) := by
  rcases h.2 with ⟨h, _⟩ | rfl | ⟨q, ver, rfl, h2, h3⟩
  · exact absurd h hn
  · simp [thaw, thaw1, thawP, loosen]
  · simp [thaw, thaw1, thawP]
open RnV
def initQ (c : Cmp) : List QE := (L c.init).map fun s => ⟨[s, 0, 0], [s]⟩
def viRes (c : Cmp) (wa wg : W3) : Option (List Int) := bfsQ (visV c wa wg) 361 0 (initQ c)
def runV (c : Cmp) : List Int → Run
  | s :: r => ⟨some (s :: stsOf r), some (prsOf c s r)⟩
  | [] => ⟨none, none⟩
theorem addE_fold : ∀ (l acc : List QE), ((acc ++ l).map (·.n)).Nodup → l.foldl addE acc = acc ++ l
  | [], acc, _ => by simp
  | x :: l, acc, h => by
    have h1 : addE acc x = acc ++ [x] := by
      unfold addE addN
      rw [if_neg]
      intro hh
      obtain ⟨y, hy, he⟩ := hasN_mem.1 hh
      rw [List.map_append, List.map_cons, List.nodup_append] at h
      exact h.2.2 y.n (List.mem_map.2 ⟨y, hy, rfl⟩) x.n (by simp) he
    rw [List.foldl_cons, h1, addE_fold l (acc ++ [x]) (by rwa [List.append_assoc]), List.append_assoc]
    rfl
theorem inc_pair {l : List Int} (h : ∀ i, i + 1 < l.length → l.getD i 0 < l.getD (i + 1) 0) : ∀ (d i : Nat), i + d + 1 < l.length → l.getD i 0 < l.getD (i + d + 1) 0
  | 0, i, hi => h i hi
  | d + 1, i, hi => by
    have h1 := inc_pair h d i (by omega)
    have h2 := h (i + d + 1) (by omega)
    have e : i + (d + 1) + 1 = i + d + 1 + 1 := by omega
    rw [e]
    omega
theorem inc_nodup {l : List Int} (h : ∀ i, i + 1 < l.length → l.getD i 0 < l.getD (i + 1) 0) : l.Nodup := by
  rw [List.nodup_iff_pairwise_ne, List.pairwise_iff_getElem]
  intro i j hi hj hij
  have := inc_pair h (j - i - 1) i (by omega)
  rw [show i + (j - i - 1) + 1 = j by omega, getD_at 0 hi, getD_at 0 hj] at this
  omega
theorem initQ_nodup {c : Cmp} {n : Nat} (hc : COk c n) : ((initQ c).map (·.n)).Nodup := by
  have : (initQ c).map (·.n) = (L c.init).map fun s => [s, 0, 0] := by simp [initQ]
  rw [this]
  exact (inc_nodup hc.inc).map _ fun a b hab e => hab (by simpa using e)
theorem iv0 {c : Cmp} {n : Nat} {wa wg : W3} (hc : COk c n) (ha : WOk wa wa.length) (hg : WOk wg wg.length) : IV n wa wg (initQ c) := by
  have hm : ∀ x ∈ initQ c, ∃ s ∈ L c.init, x = ⟨[s, 0, 0], [s]⟩ := fun x hx => by
    obtain ⟨s, hs, rfl⟩ := List.mem_map.1 hx
    exact ⟨s, hs, rfl⟩
  refine ⟨initQ_nodup hc, fun x hx => ?_, fun x hx => ?_, fun x hx => ?_⟩
  · obtain ⟨s, hs, rfl⟩ := hm x hx
    have h1 := ha.n1
    have h2 := hg.n1
    refine ⟨rfl, hc.il s hs, ?_, ?_⟩
    · show (0 : Int) ≤ 0 ∧ (0 : Int) < _; omega
    · show (0 : Int) ≤ 0 ∧ (0 : Int) < _; omega
  · obtain ⟨s, hs, rfl⟩ := hm x hx
    have := List.length_pos_of_mem hx
    simp only [List.length_cons, List.length_nil]
    omega
  · obtain ⟨s, hs, rfl⟩ := hm x hx
    refine ⟨s, [], rfl, rfl, rfl, fun v hv => ?_⟩
    have : v = s := by simpa [stsOf] using hv
    rw [this]; exact hc.il s hs
/-- What is right of what is found. -/
def PFin (n : Nat) (p : List Int) : Prop := p.length ≤ 2000 ∧ ∃ s r, p = s :: r ∧ r.length % 2 = 0 ∧ r ≠ [] ∧ ∀ v ∈ s :: stsOf r, 0 ≤ v ∧ v < n
theorem visVF_ok {c : Cmp} {n : Nat} {wa wg : W3} (hc : COk c n) (ha : WOk wa wa.length) (hg : WOk wg wg.length) {x : QE} (hx : NOkV n wa wg x.n) (hpx : POk n x.p (x.n.getD 0 0)) : ∀ (r k : Nat) (q : List QE), (L c.mv).length - k = r → k ≤ (L c.mv).length → IV n wa wg q → x.p.length < 2 * q.length →
    (∃ p, visVF c wa wg x r k q = .inl p ∧ PFin n p) ∨ (∃ q', visVF c wa wg x r k q = .inr q' ∧ IV n wa wg q' ∧ q <+: q')
  | 0, k, q, hk, hkl, hI, hl => .inr ⟨q, rfl, hI, List.prefix_refl _⟩
  | r + 1, k, q, hk, hkl, hI, hl => by
    have hkk : k < (L c.mv).length := by omega
    have hp := vpr_ok hc hkk
    obtain ⟨hef, hea, het⟩ := hc.ml _ (List.getElem_mem hkk)
    rw [← getD_at default hkk] at hef hea het
    have hq := hI.le hc.n10 ha hg
    unfold visVF
    split
    · split
      · refine .inl ⟨_, rfl, ?_⟩
        have h1 := (hpx.snoc (i := ((L c.mv).getD k default).t) hea).ex
        obtain ⟨s, r, e, h2, h3, h4⟩ := h1
        refine ⟨by simp; omega, s, r, e, h2, ?_, h4⟩
        rintro rfl
        have := congrArg List.length e
        obtain ⟨s', r', e', _⟩ := hpx.ex
        rw [e'] at this
        simp at this
      · split
        · exact visVF_ok hc ha hg hx hpx r (k + 1) q (by omega) (by omega) hI hl
        · rename_i hbk hak
          have hI2 := hI.add (l := [((L c.mv).getD k default).a, nextW wa (x.n.getD 1 0) (vpr c ((L c.mv).getD k default)), nextW wg (x.n.getD 2 0) (vpr c ((L c.mv).getD k default))]) (p := x.p ++ [((L c.mv).getD k default).t, ((L c.mv).getD k default).a]) ⟨rfl, hea, next_rng ha hx.a hp hak, next_rng hg hx.g hp hbk⟩ (by simp; omega) (hpx.snoc hea)
          have hpre := addN_pre q [((L c.mv).getD k default).a, nextW wa (x.n.getD 1 0) (vpr c ((L c.mv).getD k default)), nextW wg (x.n.getD 2 0) (vpr c ((L c.mv).getD k default))] (x.p ++ [((L c.mv).getD k default).t, ((L c.mv).getD k default).a])
          rcases visVF_ok hc ha hg hx hpx r (k + 1) _ (by omega) (by omega) hI2 (Nat.lt_of_lt_of_le hl (Nat.mul_le_mul_left 2 hpre.length_le)) with h | ⟨q', a1, a2, a3⟩
          · exact .inl h
          · exact .inr ⟨q', a1, a2, hpre.trans a3⟩
    · exact visVF_ok hc ha hg hx hpx r (k + 1) q (by omega) (by omega) hI hl
theorem bfsV_ok {c : Cmp} {n : Nat} {wa wg : W3} (hc : COk c n) (ha : WOk wa wa.length) (hg : WOk wg wg.length) : ∀ (k i : Nat) (q : List QE) {p : List Int}, IV n wa wg q → bfsQ (visV c wa wg) k i q = some p → PFin n p
  | 0, i, q, p, hI, h => by simp [bfsQ] at h
  | k + 1, i, q, p, hI, h => by
    unfold bfsQ at h
    split at h
    · exact absurd h (by simp)
    · rename_i x hx
      have hm := List.mem_of_getElem? hx
      rcases visVF_ok hc ha hg (hI.ok x hm) (hI.pp x hm) _ 0 q rfl (by omega) hI (hI.pl x hm) with ⟨p', a1, a2⟩ | ⟨q', a1, a2, a3⟩
      · have a1 : visV c wa wg x q = .inl p' := a1
        rw [a1] at h
        have : p' = p := by simpa using h
        subst this
        exact a2
      · have a1 : visV c wa wg x q = .inr q' := a1
        rw [a1] at h
        exact bfsV_ok hc ha hg k (i + 1) q' a2 h
def begC (l : List Int) : List PV := l.flatMap fun s => eInts [s, 0, 0] ++ [.sl true 1 (eInts [s])]
theorem begC_loosen : ∀ l : List Int, loosens (begC l) = qsP (l.map fun s => ⟨[s, 0, 0], [s]⟩)
  | [] => rfl
  | s :: l => by
    show loosens ((eInts [s, 0, 0] ++ [.sl true 1 (eInts [s])]) ++ begC l) = qeP ⟨[s, 0, 0], [s]⟩ ++ qsP (l.map fun s => ⟨[s, 0, 0], [s]⟩)
    rw [loosens_app, loosens_app, loosens_ints, begC_loosen l]
    simp [loosens, loosen, qeP, ePth, loosens_ints, eInts]
theorem build163a (a : Int) : build PP 163 [(0, .p (pI a))] = some (.agg (nodeD [a, 0, 0])) := Eq.trans (by kernel_rfl) rfl
theorem build33_0 : build PP 33 [] = some (.agg [.p .nilsl, .p .nilsl]) := Eq.trans (by kernel_rfl) rfl
theorem build33_1 (v : PV) : build PP 33 [(0, .p v)] = some (.agg [.p v, .p .nilsl]) := Eq.trans (by kernel_rfl) rfl
theorem sliceOp1 {n : Nat} {cs : List PV} (hn : 1 ≤ n) : sliceOp PP 22 (.p (.sl false n cs)) none (some (.p (pI 1))) (some (.p (pI 1))) = some (.p (.sl true 1 (cs.take 1))) := by
  have h1 : (1 : Int) ≤ (n : Nat) := by omega
  simp [sliceOp, u22, s3, bound, h1]
theorem wrap_sub1 {n : Nat} (h : 1 ≤ n) (h2 : n ≤ 1000000) : IntKind.wrap .i64 ((n : Int) - 1) = ((n - 1 : Nat) : Int) := by rw [wrap_ok (by omega) (by omega)]; omega
theorem wrap_add2 {i : Nat} (h : i ≤ 1000000) : IntKind.wrap .i64 ((i : Int) + 2) = ((i + 2 : Nat) : Int) := by rw [wrap_ok (by omega) (by omega)]; omega
theorem idx22g2 {σ : Store} {B n i : Nat} {cs : List PV} {x : DV} (h : Grow σ B 1 n cs x) (hi : i < n) : indexAddr PP 22 x (.p (pI (i : Nat))) = some (.pptr cs i) := by
  have h2 : (0 : Int) ≤ (i : Int) ∧ (i : Int) < (n : Nat) := by omega
  rcases h.2 with h | rfl | ⟨q, ver, rfl, _⟩
  · omega
  · simp [indexAddr, u22, s3, h2, hi]
  · simp [indexAddr, u22, s3, h2, hi]
theorem len22g {σ : Store} {B n : Nat} {cs : List PV} {x : DV} (h : Grow σ B 1 n cs x) (σ' : Store) : len PP 22 x σ' = some (.p (pI (n : Nat))) := by
  rcases h.2 with ⟨rfl, rfl⟩ | rfl | ⟨q, ver, rfl, _⟩ <;> simp [len, u22]
theorem endOf_last : ∀ (s : Int) (r : List Int), r.length % 2 = 0 → (s :: stsOf r).getD (r.length / 2) 0 = endOf s r
  | s, [], _ => rfl
  | s, [a], h => absurd h (by simp)
  | s, a :: b :: r, h => by
    have := endOf_last b r (by simp at h; omega)
    have e : (a :: b :: r).length / 2 = r.length / 2 + 1 := by simp; omega
    rw [e]
    show (b :: stsOf r).getD (r.length / 2) 0 = _
    rw [this]; rfl
theorem f53_L1_ok {c : Cmp} {n : Nat} (hc : COk c n) {s : Int} {r0 : List Int} {R : Nat} (hR3 : R ≠ 3) (hR0 : R ≠ 0) (hlen : r0.length ≤ 2000) :
    ∀ (m : Nat) (d e : List Int) (a b : DV) (σ : Store), e.length = 2 * m → d.length % 2 = 0 → r0 = d ++ e → (∀ v ∈ s :: stsOf d, 0 ≤ v ∧ v < n) → (∀ v ∈ stsOf e, 0 ≤ v ∧ v < n) → σ[0]? = some (.mix (eCmp c)) → (∃ z, σ[3]? = some (.mix [z, .p .nilsl])) → σ[R]? = some (.mix [a, b]) →
      Grow σ 0 1 (d.length / 2 + 1) (eInts (s :: stsOf d)) a → Grow σ 0 2 (d.length / 2) (ePrs (prsOf c s d)) b → (∀ r, rowOf a = some r → rowOf b ≠ some r) →
      ∃ a' b' σ', f53_L1 guardT 0 (.ptr 0 0) (.ptr 3 0) (.p (.sl false (r0.length + 1) (eInts (s :: r0)))) (.ptr R 0) (.p (pI ((d.length + 1 : Nat)))) σ = some (.tuple [.agg [a', b'], .p (.bool true)], σ') ∧ Grow σ' 0 1 (r0.length / 2 + 1) (eInts (s :: stsOf r0)) a' ∧ Grow σ' 0 2 (r0.length / 2) (ePrs (prsOf c s r0)) b'
  | 0, d, e, a, b, σ, he, hd, hr, hv, hve, h0, ⟨z, h3⟩, hRr, ga, gb, hab => by
    have : e = [] := List.length_eq_zero_iff.1 (by omega)
    subst this
    rw [List.append_nil] at hr
    subst hr
    have hn : ¬ ((r0.length + 1 : Nat) : Int) < ((r0.length + 1 : Nat) : Int) := by omega
    have hln : ∀ σ, len PP 22 (.p (.sl false (r0.length + 1) (eInts (s :: r0)))) σ = some (.p (pI ((r0.length + 1 : Nat)))) := fun σ => by simp [len, u22]
    have hld : loadN σ 2 (.ptr R 0) = some [a, b] := loadN_ptr hRr rfl (by simp)
    have hst : store PP 0 33 (.ptr 3 0) (.agg [a, b]) σ = some (σ.set 3 (.mix [a, b])) := by
      have hone : ([a, b] : List DV).all DV.one = true := by simp [ga.one.1, gb.one.1]
      simp [store, s33, DV.cells, storeN, h3, ga.one.1, gb.one.1, splice]
    have g3 : (σ.set 3 (.mix [a, b]))[3]? = some (.mix [a, b]) := by rw [List.getElem?_set_self (get_lt h3)]
    have hcv : cellV PP 33 (.ptr 3 0) (σ.set 3 (.mix [a, b])) = some (.agg [a, b]) := by
      have h : ∀ ρ : Store, cellV PP 33 (.ptr 3 0) ρ = (loadN ρ 2 (.ptr 3 0)).map .agg := fun ρ => Eq.trans (by kernel_rfl) rfl
      rw [h, loadN_ptr (vs := [a, b]) g3 rfl (by simp)]
      rfl
    have hk : ∀ {sz k : Nat} {cs : List PV} {x : DV}, Grow σ 0 sz k cs x → Grow (σ.set 3 (.mix [a, b])) 0 sz k cs x := fun g => g.keep fun r row hr1 hr2 => get_set_ne hr2 (by
      rintro rfl
      obtain ⟨v, hv⟩ := g.row_tok hr1
      rw [h3] at hv
      exact absurd hv (by simp))
    refine ⟨a, b, σ.set 3 (.mix [a, b]), ?_, hk ga, hk gb⟩
    rw [f53_L1_eq guardT rfl]
    simp only [hln, b_lss, b_eql, b_neq, b_leq, b_geq, b_gtr, hn, gG, load33, hld, hst, hcv]
  | m + 1, d, e, a, b, σ, he, hd, hr, hv, hve, h0, ⟨z, h3⟩, hRr, ga, gb, hab => by
    match e, he with
    | [], he => simp at he
    | [y], he => simp at he; omega
    | i :: t :: e, he =>
      have hel : e.length = 2 * m := by simp at he; omega
      have hdl : d.length ≤ 2000 := by rw [hr] at hlen; simp at hlen; omega
      have hlt : ((d.length + 1 : Nat) : Int) < ((r0.length + 1 : Nat) : Int) := by rw [hr]; simp; omega
      have hln : ∀ σ, len PP 22 (.p (.sl false (r0.length + 1) (eInts (s :: r0)))) σ = some (.p (pI ((r0.length + 1 : Nat)))) := fun σ => by simp [len, u22]
      have hsplit : s :: r0 = (s :: d) ++ (i :: t :: e) := by rw [hr]; rfl
      have x1 : (eInts (s :: r0))[d.length + 1]? = some (pI i) := by
        rw [hsplit]
        simp [eInts]
      have x2 : (eInts (s :: r0))[d.length + 1 + 1]? = some (pI t) := by
        rw [hsplit]
        simp [eInts]
      have hl0 : d.length + 1 < r0.length + 1 := by omega
      have hl1 : d.length + 1 + 1 < r0.length + 1 := by rw [hr]; simp
      -- the end
      have hend := endOf_last s d hd
      have hendr : 0 ≤ endOf s d ∧ endOf s d < n := by
        rw [← hend]
        have h4 := stsOf_len d hd
        rw [getD_at 0 (by simp; omega)]
        exact hv _ (List.getElem_mem _)
      have hlast : (eInts (s :: stsOf d))[d.length / 2]? = some (pI (endOf s d)) := by
        rw [← hend]
        have h4 := stsOf_len d hd
        simp only [eInts, List.getElem?_map]
        rw [List.getElem?_eq_getElem (by simp; omega), getD_at 0 (by simp; omega)]
        rfl
      have hof : (endOf s d).toNat < (L c.out).length := by rw [hc.o]; omega
      have hbld : build PP 98 [(0, .p (pI i)), (1, .p (pI ((L c.out).getD (endOf s d).toNat 0)))] = some (.agg (prD ⟨i, outC c (endOf s d)⟩)) := bld98 _ _
      -- the pair
      obtain ⟨rb, vb, σ1, e1, g1, f1, k1, l1⟩ := gb.push2 (t := 31) (lo := 0) (m := 1) (vs := ePrs [⟨i, outC c (endOf s d)⟩]) src31 u31 s98 bytes98 zero98 rfl (by decide) (by decide) (by decide) rfl (by decide) (by decide) (by omega) (Nat.zero_le _) (Nat.zero_le _)
      have nR : rowOf b ≠ some R := fun hh => by
        obtain ⟨v, hv⟩ := gb.row_tok hh
        rw [hRr] at hv
        exact absurd hv (by simp)
      have n0 : rowOf b ≠ some 0 := fun hh => by
        obtain ⟨v, hv⟩ := gb.row_tok hh
        rw [h0] at hv
        exact absurd hv (by simp)
      have n3 : rowOf b ≠ some 3 := fun hh => by
        obtain ⟨v, hv⟩ := gb.row_tok hh
        rw [h3] at hv
        exact absurd hv (by simp)
      have hR1 := k1 R _ nR hRr
      have ga1 : Grow σ1 0 1 (d.length / 2 + 1) (eInts (s :: stsOf d)) a := ga.keep fun r row hr1 hr2 => k1 r row (hab r hr1) hr2
      have hst1 := store1 (lo := 0) (show size? PP 31 = some 1 from Eq.trans (by kernel_rfl) rfl) hR1 (off := 1) (v := .osl rb vb 2 (d.length / 2 + 1) (ePrs (prsOf c s d) ++ ePrs [⟨i, outC c (endOf s d)⟩])) (by simp) rfl rfl (Nat.zero_le _)
      simp only [List.set_cons_succ, List.set_cons_zero] at hst1
      have gR2 : (σ1.set R (.mix [a, .osl rb vb 2 (d.length / 2 + 1) (ePrs (prsOf c s d) ++ ePrs [⟨i, outC c (endOf s d)⟩])]))[R]? = some (.mix [a, .osl rb vb 2 (d.length / 2 + 1) (ePrs (prsOf c s d) ++ ePrs [⟨i, outC c (endOf s d)⟩])]) := by rw [List.getElem?_set_self (get_lt hR1)]
      have k2 : ∀ j row, j ≠ R → σ1[j]? = some row → (σ1.set R (.mix [a, .osl rb vb 2 (d.length / 2 + 1) (ePrs (prsOf c s d) ++ ePrs [⟨i, outC c (endOf s d)⟩])]))[j]? = some row := fun j row hj h => get_set_ne h hj
      have hkR : ∀ {sz k : Nat} {cs : List PV} {x : DV}, Grow σ1 0 sz k cs x → Grow (σ1.set R (.mix [a, .osl rb vb 2 (d.length / 2 + 1) (ePrs (prsOf c s d) ++ ePrs [⟨i, outC c (endOf s d)⟩])])) 0 sz k cs x := fun g => g.keep fun r row hr1 hr2 => k2 r row (by
        rintro rfl
        obtain ⟨v, hv⟩ := g.row_tok hr1
        rw [hR1] at hv
        exact absurd hv (by simp)) hr2
      have ga2 := hkR ga1
      have gb2 := hkR g1
      generalize hσ2 : σ1.set R (.mix [a, .osl rb vb 2 (d.length / 2 + 1) (ePrs (prsOf c s d) ++ ePrs [⟨i, outC c (endOf s d)⟩])]) = σ2 at *
      -- the state
      obtain ⟨ra, va, σ3, e3, g3, f3, k3, l3⟩ := ga2.push2 (t := 22) (lo := 0) (m := 1) (vs := [pI t]) src22 u22 s3 bytes3 zero3 rfl (by decide) (by decide) (by decide) rfl (by decide) (by decide) (by omega) (Nat.zero_le _) (Nat.zero_le _)
      have mR : rowOf a ≠ some R := fun hh => by
        obtain ⟨v, hv⟩ := ga2.row_tok hh
        rw [gR2] at hv
        exact absurd hv (by simp)
      have m0 : rowOf a ≠ some 0 := fun hh => by
        obtain ⟨v, hv⟩ := ga.row_tok hh
        rw [h0] at hv
        exact absurd hv (by simp)
      have m3 : rowOf a ≠ some 3 := fun hh => by
        obtain ⟨v, hv⟩ := ga.row_tok hh
        rw [h3] at hv
        exact absurd hv (by simp)
      have hR3' := k3 R _ mR gR2
      have hrb : rowOf a ≠ some rb := by
        rcases f1 with h | h
        · exact fun hh => hab rb hh h
        · intro hh
          obtain ⟨v, hv⟩ := ga.row_tok hh
          have := get_lt hv
          omega
      have gb3 : Grow σ3 0 2 (d.length / 2 + 1) (ePrs (prsOf c s d) ++ ePrs [⟨i, outC c (endOf s d)⟩]) (.osl rb vb 2 (d.length / 2 + 1) (ePrs (prsOf c s d) ++ ePrs [⟨i, outC c (endOf s d)⟩])) := gb2.keep fun r row hr1 hr2 => k3 r row (by
        have : rb = r := by simpa [rowOf] using hr1
        rw [← this]; exact hrb) hr2
      have hst3 := store1 (lo := 0) (show size? PP 22 = some 1 from s22) hR3' (off := 0) (v := .osl ra va 1 (d.length / 2 + 1 + 1) (eInts (s :: stsOf d) ++ [pI t])) (by simp) rfl rfl (Nat.zero_le _)
      simp only [List.set_cons_zero] at hst3
      have gR4 : (σ3.set R (.mix [.osl ra va 1 (d.length / 2 + 1 + 1) (eInts (s :: stsOf d) ++ [pI t]), .osl rb vb 2 (d.length / 2 + 1) (ePrs (prsOf c s d) ++ ePrs [⟨i, outC c (endOf s d)⟩])]))[R]? = some (.mix [.osl ra va 1 (d.length / 2 + 1 + 1) (eInts (s :: stsOf d) ++ [pI t]), .osl rb vb 2 (d.length / 2 + 1) (ePrs (prsOf c s d) ++ ePrs [⟨i, outC c (endOf s d)⟩])]) := by rw [List.getElem?_set_self (get_lt hR3')]
      have hkR4 : ∀ {sz k : Nat} {cs : List PV} {x : DV}, Grow σ3 0 sz k cs x → Grow (σ3.set R (.mix [.osl ra va 1 (d.length / 2 + 1 + 1) (eInts (s :: stsOf d) ++ [pI t]), .osl rb vb 2 (d.length / 2 + 1) (ePrs (prsOf c s d) ++ ePrs [⟨i, outC c (endOf s d)⟩])])) 0 sz k cs x := fun g => g.keep fun r row hr1 hr2 => get_set_ne hr2 (by
        rintro rfl
        obtain ⟨v, hv⟩ := g.row_tok hr1
        rw [hR3'] at hv
        exact absurd hv (by simp))
      have ga4 := hkR4 g3
      have gb4 := hkR4 gb3
      have z0 : (σ3.set R (.mix [.osl ra va 1 (d.length / 2 + 1 + 1) (eInts (s :: stsOf d) ++ [pI t]), .osl rb vb 2 (d.length / 2 + 1) (ePrs (prsOf c s d) ++ ePrs [⟨i, outC c (endOf s d)⟩])]))[0]? = some (.mix (eCmp c)) := get_set_ne (k3 0 _ m0 (k2 0 _ (fun e => hR0 e.symm) (k1 0 _ n0 h0))) (fun e => hR0 e.symm)
      have z3 : (σ3.set R (.mix [.osl ra va 1 (d.length / 2 + 1 + 1) (eInts (s :: stsOf d) ++ [pI t]), .osl rb vb 2 (d.length / 2 + 1) (ePrs (prsOf c s d) ++ ePrs [⟨i, outC c (endOf s d)⟩])]))[3]? = some (.mix [z, .p .nilsl]) := get_set_ne (k3 3 _ m3 (k2 3 _ (fun e => hR3 e.symm) (k1 3 _ n3 h3))) (fun e => hR3 e.symm)
      have hst' : eInts (s :: stsOf d) ++ [pI t] = eInts (s :: stsOf (d ++ [i, t])) := by rw [stsOf_snoc i t d hd]; simp [eInts]
      have hps' : ePrs (prsOf c s d) ++ ePrs [⟨i, outC c (endOf s d)⟩] = ePrs (prsOf c s (d ++ [i, t])) := by rw [prsOf_snoc c i t s d hd, prs_append]
      have hdl' : (d ++ [i, t]).length / 2 = d.length / 2 + 1 := by simp
      have hvt : 0 ≤ t ∧ t < n := hve t (by simp [stsOf])
      obtain ⟨a', b', σ', w1, w2, w3⟩ := f53_L1_ok hc hR3 hR0 hlen m (d ++ [i, t]) e _ _ _ hel (by simp; omega) (by rw [hr]; simp) (by
        intro v hv2
        rw [stsOf_snoc i t d hd] at hv2
        have : v ∈ s :: stsOf d ∨ v = t := by simpa [or_assoc] using hv2
        rcases this with h | rfl
        · exact hv v h
        · exact hvt) (fun v hv2 => hve v (by simp [stsOf, hv2])) z0 ⟨z, z3⟩ gR4 (by rw [hdl', ← hst']; exact ga4) (by rw [hdl', ← hps']; exact gb4) (by
        intro r hr1 hr2
        have q1 : ra = r := by simpa [rowOf] using hr1
        have q2 : rb = r := by simpa [rowOf] using hr2
        rcases f3 with h | h
        · exact hrb (by rw [h, q1, q2])
        · obtain ⟨v, hv⟩ := gb2.row_tok (x := .osl rb vb 2 (d.length / 2 + 1) (ePrs (prsOf c s d) ++ ePrs [⟨i, outC c (endOf s d)⟩])) (r := rb) rfl
          have := get_lt hv
          omega)
      refine ⟨a', b', σ', Eq.trans ?_ w1, w2, w3⟩
      have hR0' : load1 (.ptr R 0) σ = some a := load1_ptr hRr rfl
      have hR1' : load1 (.ptr R 1) σ = some b := load1_ptr hRr rfl
      have hR2' : load1 (.ptr R 0) σ2 = some a := load1_ptr gR2 rfl
      have hout : load1 (.ptr 0 2) σ = some (.p (eSl c.out)) := load1_ptr h0 rfl
      have hbs1 : buildSlice PP none 31 1 [(0, .agg (prD ⟨i, outC c (endOf s d)⟩))] σ = some (.p (.sl true 1 (ePrs [⟨i, outC c (endOf s d)⟩])), σ) := bs31_1 _ _
      rw [f53_L1_eq guardT rfl]
      simp only [hln, b_lss, b_eql, b_neq, b_leq, b_geq, b_gtr, hlt, gG, fa33_0, fa33_1, fa25_2, shift_ptr, shift_pptr, Nat.zero_add, Nat.add_zero, pureFn_fn, List.append_nil, List.singleton_append, List.cons_append, List.nil_append, load31, load22, hR0', hR1', hout, idx22x hl0, load3, load1_pptr x1, len22g ga, b_sub, wrap_sub1 (show 1 ≤ d.length / 2 + 1 by omega) (show d.length / 2 + 1 ≤ 1000000 by omega), Nat.add_sub_cancel, idx22g2 ga (show d.length / 2 < d.length / 2 + 1 by omega), load1_pptr hlast, idx22i hendr.1 hof, load1_getD hof, hbld, hbs1, e1, hst1, hσ2, hR2', b_add, wrap_succ (show d.length + 1 ≤ 1000000 by omega), idx22x hl1, load1_pptr x2, bs22_1, e3, hst3, wrap_add2 (show d.length + 1 ≤ 1000000 by omega)]
      have hd2 : (d ++ [i, t]).length + 1 = d.length + 1 + 2 := by simp
      rw [hd2]
theorem L53 {o : OI} (hl : (L o).length ≤ 1000) (x3 x4 x5 x6 : DV) : ∀ (k i : Nat) (x : DV) (σ : Store), (L o).length - i = k → i ≤ (L o).length → Out σ 0 4 i (begC ((L o).take i)) x →
    ∃ x' σ', f53_L0 guardT 0 x3 x4 x5 x6 x (.p (eSl o)) (.p (pI ((L o).length : Nat))) (.p (pI (i : Nat))) σ = f53_L0 guardT 0 x3 x4 x5 x6 x' (.p (eSl o)) (.p (pI ((L o).length : Nat))) (.p (pI ((L o).length : Nat))) σ' ∧ Out σ' 0 4 (L o).length (begC (L o)) x' ∧ ∀ (j : Nat) (row : Row), (∀ v, row ≠ .tok v) → σ[j]? = some row → σ'[j]? = some row
  | 0, i, x, σ, hk, hi, ho => by
    have : i = (L o).length := by omega
    subst this
    rw [List.take_length] at ho
    exact ⟨x, σ, rfl, ho, fun _ _ _ h => h⟩
  | k + 1, i, x, σ, hk, hi, ho => by
    have h : i < (L o).length := by omega
    have h' : (i : Int) < ((L o).length : Nat) := by omega
    obtain ⟨x', σ', e1, o1, t1, _⟩ := Out.pushF (vs := eInts [(L o).getD i 0, 0, 0] ++ [.sl true 1 (eInts [(L o).getD i 0])]) srcS uS sF bytesF zeroF (by simp [nodeD]) (by decide) (by decide) (by decide) rfl ho (by omega) (Nat.zero_le _)
    have e2 : begC ((L o).take (i + 1)) = begC ((L o).take i) ++ (eInts [(L o).getD i 0, 0, 0] ++ [.sl true 1 (eInts [(L o).getD i 0])]) := by
      rw [List.take_succ_eq_append_getElem h, getD_at 0 h]
      simp only [begC, List.flatMap_append, List.flatMap_cons, List.flatMap_nil, List.append_nil]
    rw [← e2] at o1
    obtain ⟨x'', σ'', f1, f2, f3⟩ := L53 hl x3 x4 x5 x6 k (i + 1) x' σ' (by omega) (by omega) o1
    refine ⟨x'', σ'', Eq.trans ?_ f1, f2, fun j row hj e => f3 j row hj (t1 j row e fun r ver sz n cs ex => ?_)⟩
    · have hpi : [pI ((L o).getD i 0)] = eInts [(L o).getD i 0] := rfl
      rw [f53_L0_eq guardT rfl]
      simp only [b_lss, b_eql, b_neq, b_leq, b_geq, b_gtr, h', gG, idx22 h, load3, load1_getD h, build163a, bs22_1, hpi, bldFp, bsp, e1, b_add, wrap_succ (show i ≤ 1000000 by omega)]
    · rintro rfl
      rcases ho.2 with ⟨_, hz⟩ | ⟨_, r2, ver2, e3, e4, _⟩
      · rw [hz] at ex; exact absurd ex (by simp)
      · rw [ex] at e3
        injection e3 with e5
        rw [e5, e4] at e
        injection e with e
        exact hj ver2 e.symm
theorem cv33 (r : Nat) (ρ : Store) : cellV PP 33 (.ptr r 0) ρ = (loadN ρ 2 (.ptr r 0)).map .agg := Eq.trans (by kernel_rfl) rfl
theorem S53 {c : Cmp} {n : Nat} {wa wg : OW} {σ : Store} (hc : COk c n) (ha : WOk (wl wa) (wl wa).length) (hg : WOk (wl wg) (wl wg).length) : pureV CC 53 [.agg (eCmp c), .p (eWt wa), .p (eWt wg)] σ =
    some (match viRes c (wl wa) (wl wg) with | none => .tuple [.agg (eRun ⟨none, none⟩), .p (.bool false)] | some p => .tuple [.agg (eRun (runV c p)), .p (.bool true)]) := by
  have hil := hc.sm.i
  have hq : (initQ c).foldl addE [] = initQ c := by
    have := addE_fold (initQ c) [] (by simpa using initQ_nodup hc)
    simpa using this
  have hF : ∃ v σ', F53 guardT 0 (.agg (eCmp c)) (.p (eWt wa)) (.p (eWt wg)) [] = some (v, σ') ∧ thawAll 0 σ' v = some (match viRes c (wl wa) (wl wg) with | none => .tuple [.agg (eRun ⟨none, none⟩), .p (.bool false)] | some p => .tuple [.agg (eRun (runV c p)), .p (.bool true)]) := by
    rw [F53_eq]
    simp only [box_cmp, box_wt, zero33, gG, List.nil_append, List.cons_append, List.length_nil, List.length_cons, Nat.zero_add, Nat.reduceAdd]
    generalize hσ : ([.mix (eCmp c), .mix [.p (eWt wa)], .mix [.p (eWt wg)], .mix [.p .nilsl, .p .nilsl]] : Store) = τ
    have t0 : τ[0]? = some (.mix (eCmp c)) := by rw [← hσ]; rfl
    have t1 : τ[1]? = some (.mix [.p (eWt wa)]) := by rw [← hσ]; rfl
    have t2 : τ[2]? = some (.mix [.p (eWt wg)]) := by rw [← hσ]; rfl
    have t3 : τ[3]? = some (.mix [.p .nilsl, .p .nilsl]) := by rw [← hσ]; rfl
    obtain ⟨x8, σ1, e1, o1, k1⟩ := L53 (o := c.init) hil (.ptr 0 0) (.ptr 1 0) (.ptr 2 0) (.ptr 3 0) _ 0 (.p .nilsl) τ rfl (Nat.zero_le _) Out.zero
    have u0 := k1 0 _ (fun v => by simp) t0
    have u1 := k1 1 _ (fun v => by simp) t1
    have u2 := k1 2 _ (fun v => by simp) t2
    have u3 := k1 3 _ (fun v => by simp) t3
    have hrun : pureFn CC (.fn 103 []) [x8, .fn 104 [.ptr 0 0, .ptr 2 0, .ptr 1 0]] σ1 = some (match viRes c (wl wa) (wl wg) with | none => .p .nilsl | some p => .p (.sl false p.length (eInts p))) := by
      show pureV CC 103 ([x8, .fn 104 [.ptr 0 0, .ptr 2 0, .ptr 1 0]] ++ []) σ1 = _
      rw [List.append_nil]
      by_cases h0 : (L c.init).length = 0
      · have hx : x8 = .p .nilsl := by
          rcases o1.2 with ⟨_, h⟩ | ⟨h, _⟩
          · exact h
          · exact absurd h0 h
        have hqe : initQ c = [] := by rw [initQ, List.length_eq_zero_iff.1 h0]; rfl
        have hv : viRes c (wl wa) (wl wg) = none := by
          unfold viRes
          rw [bfsQ_none (List.getElem?_eq_none (by rw [hqe]; simp))]
        rw [hx, hv]
        exact run_nil rfl
      · have hvw := o1.vw
        rw [if_neg h0, begC_loosen] at hvw
        have hlen : (initQ c).length = (L c.init).length := by simp [initQ]
        rw [← hlen] at hvw
        have hvw : view x8 = .p (.sl false (initQ c).length (qsP (initQ c))) := hvw
        rw [pureV_view (args' := [.p (.sl false (initQ c).length (qsP (initQ c))), .fn 104 [.ptr 0 0, .ptr 2 0, .ptr 1 0]]) (by simp only [List.map_cons, List.map_nil, hvw, fn_view]) (by simp [view, viewCell, loosen, loosens_qs])]
        have := run_ok (hv104 u0 u1 u2 hc ha hg) (fun q hq => hq.le hc.n10 ha hg) (by decide) (bq := initQ c) (fun x hx => by obtain ⟨s, _, rfl⟩ := List.mem_map.1 hx; rfl) (by rw [hlen]; omega) (by rw [hq]; exact iv0 hc ha hg) rfl
        rw [hq] at this
        exact this
    have hn : ¬ (((L c.init).length : Nat) : Int) < ((L c.init).length : Nat) := by omega
    simp only [fa25_1, shift_ptr, shift_pptr, Nat.zero_add, Nat.add_zero, pureFn_fn, List.append_nil, List.singleton_append, List.cons_append, List.nil_append, load22, load1_ptr (off := 1) t0 rfl, gG, len22]
    have hstart : f53_L0 guardT 0 (.ptr 0 0) (.ptr 1 0) (.ptr 2 0) (.ptr 3 0) (.p .nilsl) (.p (eSl c.init)) (.p (pI ((L c.init).length : Nat))) (.p (pI (0 : Nat))) τ = _ := e1
    cases hv : viRes c (wl wa) (wl wg) with
    | none =>
      rw [hv] at hrun
      have hst : store PP 0 33 (.ptr 3 0) (.agg [.p .nilsl, .p .nilsl]) σ1 = some (σ1.set 3 (.mix [.p .nilsl, .p .nilsl])) := by
        simp [store, s33, DV.cells, storeN, u3, DV.one, splice]
      have g3 : (σ1.set 3 (.mix [.p .nilsl, .p .nilsl]))[3]? = some (.mix [.p .nilsl, .p .nilsl]) := by rw [List.getElem?_set_self (get_lt u3)]
      refine ⟨.tuple [.agg [.p .nilsl, .p .nilsl], .p (.bool false)], σ1.set 3 (.mix [.p .nilsl, .p .nilsl]), ?_, rfl⟩
      refine hstart.trans ?_
      rw [f53_L0_eq guardT rfl]
      simp only [b_lss, b_eql, b_neq, b_leq, b_geq, b_gtr, hn, gG, hrun, eq22_nn, build33_0, hst, cv33, loadN_ptr (off := 0) (n := 2) (vs := [.p .nilsl, .p .nilsl]) g3 rfl (by simp)]
    | some p =>
      rw [hv] at hrun
      obtain ⟨hpl, s, r, rfl, hr2, hr0, hrng⟩ := bfsV_ok hc ha hg _ _ _ (iv0 hc ha hg) hv
      have hσl := get_lt u3
      have hrl : r.length ≠ 0 := fun e => hr0 (List.length_eq_zero_iff.1 e)
      have hst := storeNew (lo := 0) (cs := [.p (.sl true 1 (eInts [s])), .p .nilsl]) (z := [.p .nilsl, .p .nilsl]) s33 σ1 rfl rfl rfl (Nat.zero_le _)
      obtain ⟨a', b', σ', w1, w2, w3⟩ := f53_L1_ok hc (s := s) (r0 := r) (R := σ1.length) (by omega) (by omega) (by simp at hpl; omega) (r.length / 2) [] r _ _ (σ1 ++ [.mix [.p (.sl true 1 (eInts [s])), .p .nilsl]]) (by omega) rfl rfl (fun v hv => hrng v (by
        have : v = s := by simpa [stsOf] using hv
        rw [this]; simp)) (fun v hv => hrng v (by simp [hv])) (get_old u0) ⟨.p .nilsl, get_old u3⟩ get_snoc ⟨rfl, .inr (.inl rfl)⟩ ⟨rfl, .inl ⟨rfl, rfl⟩⟩ (fun r h => absurd h (by simp [rowOf]))
      refine ⟨.tuple [.agg [a', b'], .p (.bool true)], σ', ?_, ?_⟩
      · refine hstart.trans ?_
        rw [f53_L0_eq guardT rfl]
        have hsl : (eInts (s :: r)).take 1 = eInts [s] := rfl
        simp only [b_lss, b_eql, b_neq, b_leq, b_geq, b_gtr, hn, gG, hrun, eq22_sl, sliceOp1 (show 1 ≤ (s :: r).length by simp), hsl, build33_1, zero33, hst]
        exact w1
      · have y1 := w2.tw (σ' := σ') (by omega) 0
        have y2 := w3.tw (σ' := σ') (by omega) 0
        rw [loosens_ints] at y1
        rw [loosens_prs] at y2
        have z1 := stsOf_len r hr2
        have z2 := prsOf_len c s r hr2
        have y3 : thawPart 0 σ' (.agg [a', b']) = some (.agg (eRun (runV c (s :: r)))) := by
          simp only [thawPart, mapO, y1, y2, Option.map_some, runV, eRun, eSl, ePs, List.length_cons, z1, z2]
        show (mapO (thawPart 0 σ') [.agg [a', b'], .p (.bool true)]).map DV.tuple = _
        rw [mapO, y3]
        rfl
  obtain ⟨v, σ', h1, h2⟩ := hF
  exact pureV_free (by simp [cmp_view, wt_view]) rfl (F53_call h1) h2
end Go.D
end
/- Seat 2: the order of pairs of states, lists of them in rows, and compaction of a sorted list. -/
section
set_option linter.unusedVariables false
set_option linter.unusedSimpArgs false
namespace Go.D.StB
open Go.D.Srt
def cmpB (x y : E) : Int := orL [cmpI x.1 y.1, cmpI x.2 y.2]
theorem box_val (e : E) : boxV (val e) = some (cel e) := rfl
theorem fa120_0 (x : DV) : fieldAddr PP 120 x 0 = shiftPtr x 0 := Eq.trans (by kernel_rfl) rfl
theorem fa120_1 (x : DV) : fieldAddr PP 120 x 1 = shiftPtr x 1 := Eq.trans (by kernel_rfl) rfl
theorem bs22_2w (x y : Int) (σ : Store) : buildSlice PP none 22 2 [(0, .p (pI x)), (1, .p (pI y))] σ = some (.p (.sl true 2 (eInts [x, y])), σ) := Eq.trans (by kernel_rfl) rfl
theorem sl2_view (x y : Int) : view (.p (.sl true 2 (eInts [x, y]))) = .p (eSl (some [x, y])) := rfl
theorem S70 (x y : E) (σ : Store) : pureV CC 70 [val x, val y] σ = some (.p (.int .i64 (cmpB x y))) := by
  refine pureV_free rfl rfl (F70_call (r := (.p (pI (cmpB x y)), [.mix (cel x), .mix (cel y)])) ?_) rfl
  rw [F70_eq]
  have g0 : ([Row.mix (cel x), Row.mix (cel y)] : Store)[0]? = some (.mix (cel x)) := rfl
  have g1 : ([Row.mix (cel x), Row.mix (cel y)] : Store)[1]? = some (.mix (cel y)) := rfl
  simp only [box_val, obind, List.length_nil, List.nil_append, List.length_cons, List.cons_append, fa120_0, fa120_1, shift_ptr, load3, Nat.zero_add,
    load1_ptr (off := 0) g0 rfl, load1_ptr (off := 1) g0 rfl, load1_ptr (off := 0) g1 rfl, load1_ptr (off := 1) g1 rfl, pureFn_fn, List.append_nil, S112, bs22_2w]
  rw [pureV_view (args' := [.p (eSl (some [cmpI x.1 y.1, cmpI x.2 y.2]))]) (by simp [sl2_view]) (by simp [sl_view]), S111 (by simp)]
  rfl
/-- The order in plain terms. -/
def ltB (x y : E) : Prop := x.1 < y.1 ∨ (x.1 = y.1 ∧ x.2 < y.2)
theorem cmpB_lt (x y : E) : cmpB x y < 0 ↔ ltB x y := by
  unfold cmpB ltB cmpI
  simp only [orL]
  split <;> split <;> (try split) <;> omega
theorem ltc_iff (x y : E) : ltc cmpB x y = true ↔ ltB x y := by
  unfold ltc
  rw [decide_eq_true_iff]
  exact cmpB_lt x y
theorem ltc_false (x y : E) : ltc cmpB x y = false ↔ ¬ ltB x y := by
  rw [← ltc_iff]
  cases ltc cmpB x y <;> simp
theorem ordB : Ord (ltc cmpB) where
  asym x y h := by
    rw [ltc_iff] at h
    rw [ltc_false]
    unfold ltB at *
    omega
  trans x y z h1 h2 := by
    rw [ltc_false] at *
    unfold ltB at *
    omega
theorem ltB_anti {x y : E} (h1 : ¬ ltB x y) (h2 : ¬ ltB y x) : x = y := by
  obtain ⟨a, b⟩ := x
  obtain ⟨c, d⟩ := y
  unfold ltB at *
  simp only at *
  have e1 : a = c := by omega
  have e2 : b = d := by omega
  rw [e1, e2]
/-- Ascending without equal ones. -/
def Asc (l : List E) : Prop := l.Pairwise ltB
def leB (x y : E) : Prop := ¬ ltB y x
theorem sd_pair {B : List E} (h : Sd (ltc cmpB) 0 B.length B) : B.Pairwise leB := by
  rw [List.pairwise_iff_getElem]
  intro i j hi hj hij
  have h1 := h i j (Nat.zero_le _) hij hj
  rw [ltc_false] at h1
  have e : ∀ k (hk : k < B.length), ge B k = B[k] := fun k hk => by unfold ge; rw [List.getD_eq_getElem?_getD, List.getElem?_eq_getElem hk]; rfl
  rw [e i hi, e j hj] at h1
  exact h1
theorem sorted_eq {A B : List E} (hp : B.Perm A) (h1 : B.Pairwise leB) (h2 : A.Pairwise leB) : B = A :=
  List.Perm.eq_of_pairwise (fun a b _ _ h3 h4 => ltB_anti h4 h3) h1 h2 hp
theorem asc_le {A : List E} (h : Asc A) : A.Pairwise leB := List.Pairwise.imp (fun {a b} h => by unfold leB; unfold ltB at *; omega) h
/-- A list in a row that is appended to. -/
def RowL (σ : Store) (B : Nat) (A : List E) (x : DV) : Prop := (A = [] ∧ x = .p .nilsl) ∨ ∃ r, x = .rsl r 2 0 A.length ∧ σ[r]? = some (.mix (cels A)) ∧ B ≤ r ∧ A ≠ []
theorem u116 : PP.underlying 116 = some (.slice 120) := uL
theorem bytesB : bytes? PP 120 = some 16 := Eq.trans (by kernel_rfl) rfl
theorem zeroB : zeroOf PP 120 = some [.p (pI 0), .p (pI 0)] := Eq.trans (by kernel_rfl) rfl
theorem srcB : srcType PP 116 = true := Eq.trans (by kernel_rfl) rfl
def celP (e : E) : List PV := [pI e.1, pI e.2]
def celsP (A : List E) : List PV := A.flatMap celP
theorem celP_map (e : E) : (celP e).map DV.p = cel e := rfl
theorem celsP_map (A : List E) : (celsP A).map DV.p = cels A := by
  induction A with
  | nil => rfl
  | cons a A ih =>
    have e1 : celsP (a :: A) = celP a ++ celsP A := rfl
    have e2 : cels (a :: A) = cel a ++ cels A := rfl
    rw [e1, e2, List.map_append, ih, celP_map]
theorem celsP_len (A : List E) : (celsP A).length = A.length * 2 := by
  have h := congrArg List.length (celsP_map A)
  rwa [List.length_map, cels_len] at h
theorem RowL.push {σ : Store} {B lo : Nat} {A : List E} {x : DV} (h : RowL σ B A x) (hA : A.length ≤ 1000000) (hlo : lo ≤ B) (hB : B ≤ σ.length) (m : Bool) (hm : A = [] → m = true) (e : E) :
    ∃ σ', append PP lo m 116 116 x (.p (.sl true 1 (celP e))) σ = some (.rsl σ.length 2 0 (A.length + 1), σ') ∧ RowL σ' B (A ++ [e]) (.rsl σ.length 2 0 (A.length + 1)) ∧
      (∀ j row, (∀ r, x = .rsl r 2 0 A.length → j ≠ r) → σ[j]? = some row → σ'[j]? = some row) ∧ σ'.length = σ.length + 1 := by
  have hsrc : source σ 2 (.p (.sl true 1 (celP e))) = some (1, (celP e).map DV.p) := by simp [source, celP]
  have hz0 : ¬ ([DV.p (pI 0), DV.p (pI 0)].length ≠ 2 ∨ 2 = 0) := by decide
  have ec : cels (A ++ [e]) = cels A ++ cel e := by rw [cels_app]; rfl
  have hne : A ++ [e] ≠ [] := by simp
  have hl : (A ++ [e]).length = A.length + 1 := by simp
  rcases h with ⟨rfl, rfl⟩ | ⟨r, rfl, h1, h2, h3⟩
  · have hm := hm rfl
    subst hm
    refine ⟨σ ++ [.mix (cel e)], ?_, .inr ⟨σ.length, by rw [hl], get_snoc, hB, hne⟩, fun j row _ g => get_old g, by simp⟩
    simp only [append, srcB, u116, sE, bytesB, zeroB, hz0, hsrc, appNil]
    rfl
  · have hr := get_lt h1
    have hcl := cels_len A
    refine ⟨σ.set r .dead ++ [.mix (cels A ++ cel e)], ?_, .inr ⟨σ.length, by rw [hl], ?_, hB, hne⟩, fun j row hj g => get_old (get_set_ne g (hj r rfl)), by simp⟩
    · simp only [append, srcB, u116, sE, bytesB, zeroB, hz0, hsrc, appRow]
      have e1 : (A.length + 1) * 16 ≤ 140737488355328 := by omega
      have e2 : A.length + 1 ≤ 140737488355328 := by omega
      have e3 : lo ≤ r := by omega
      have e4 : ¬ (0 + (A.length + 1) * 2 ≤ (cels A).length) := by omega
      have e5 : 0 + A.length * 2 = (cels A).length := by omega
      have e6 : (cel e).all DV.one = true := rfl
      simp [e1, e2, e3, h1, celP_map, e6, hcl, ← e5]
      omega
    · rw [ec]
      have : (σ.set r .dead).length = σ.length := by simp
      rw [← this]; exact get_snoc
theorem eqVal (x y : E) : binOp PP .eql 120 (val x) (val y) = some (.p (.bool (decide (x = y)))) := by
  have e1 : binOp PP .eql 120 (val x) (val y) = (match some (x.1 == y.1) with | some true => (match some (x.2 == y.2) with | some true => some true | r => r) | r => r).map fun b => .p (.bool b) := by kernel_rfl
  rw [e1]
  obtain ⟨a, b⟩ := x
  obtain ⟨c, d⟩ := y
  by_cases h1 : a = c <;> by_cases h2 : b = d <;> simp [h1, h2]
theorem cmpct_L0 {σ : Store} {r n lo : Nat} {A : List E} (h : σ[r]? = some (.mix (cels A))) (hA : A.length = n) (hn : n ≤ 100000) (hne : ∀ i, 1 ≤ i → i < n → ge A i ≠ ge A (i - 1)) : ∀ (k i : Nat), n - i = k → 1 ≤ i →
    f107_L0 guardT lo (.rsl r 2 0 n) (N i) σ = some (.rsl r 2 0 n, σ)
  | 0, i, hk, hi => by
    have hl : len PP 116 (.rsl r 2 0 n) σ = some (N n) := by simp [len, uL]
    rw [f107_L0_eq guardT rfl]
    simp (disch := omega) only [hl, gG, N, b_lss, ltF]
  | k + 1, i, hk, hi => by
    have hl : len PP 116 (.rsl r 2 0 n) σ = some (N n) := by simp [len, uL]
    have hr := get_lt h
    have hld : ∀ j, j < A.length → load PP 120 (.ptr r (j * 2)) σ = some (val (ge A j)) := fun j hj => by
      have := ldW (A := A) hr hj
      rwa [W_eq h] at this
    have ih := cmpct_L0 (lo := lo) h hA hn hne k (i + 1) (by omega) (by omega)
    have hd : decide (ge A i = ge A (i - 1)) = false := decide_eq_false (hne i hi (by omega))
    rw [f107_L0_eq guardT rfl, ← ih]
    simp (disch := omega) only [hl, gG, N, b_lss, ltT, idxL, hld, sub1, eqVal, hd, add1]
theorem asc_ne {A : List E} (h : Asc A) : ∀ i, 1 ≤ i → i < A.length → ge A i ≠ ge A (i - 1) := by
  intro i h1 h2 e
  have h3 := List.pairwise_iff_getElem.1 h (i - 1) i (by omega) h2 (by omega)
  have e1 : ∀ k (hk : k < A.length), ge A k = A[k] := fun k hk => by unfold ge; rw [List.getD_eq_getElem?_getD, List.getElem?_eq_getElem hk]; rfl
  rw [← e1, ← e1, e] at h3
  unfold ltB at h3
  omega
theorem cmpct_ok {σ : Store} {r lo : Nat} {A : List E} (h : σ[r]? = some (.mix (cels A))) (hn : A.length ≤ 100000) (ha : Asc A) : CC lo 107 [.rsl r 2 0 A.length] σ = some (.rsl r 2 0 A.length, σ) := by
  have hl : len PP 116 (.rsl r 2 0 A.length) σ = some (N A.length) := by simp [len, uL]
  refine F107_call ?_
  rw [F107_eq]
  by_cases h2 : A.length < 2
  · simp (disch := omega) only [hl, gG, N, b_lss, ltT]
  · simp (disch := omega) only [hl, gG, N, b_lss, ltF]
    exact cmpct_L0 h rfl hn (asc_ne ha) _ 1 rfl (Nat.le_refl _)
theorem cmpct_nil {σ : Store} {lo : Nat} : CC lo 107 [.p .nilsl] σ = some (.p .nilsl, σ) := by
  have hl : len PP 116 (.p .nilsl) σ = some (.p (.int .i64 0)) := by simp [len, uL]
  refine F107_call ?_
  rw [F107_eq]
  simp (disch := omega) only [hl, gG, b_lss, ltT]
/-- Sorting what is sorted. -/
theorem sort_same {σ : Store} {r lo : Nat} {A : List E} (hlo : lo ≤ r) (h : σ[r]? = some (.mix (cels A))) (hn : A.length ≤ 100000) (ha : Asc A) : ∃ e, CC lo 69 [.rsl r 2 0 A.length, .fn 70 []] σ = some (.tuple [], σ ++ e) := by
  obtain ⟨B, e, h1, h2, h3⟩ := sort_ok S70 ordB hlo hn h
  have h4 : B = A := sorted_eq h2 (sd_pair (by rw [h2.length_eq]; exact h3)) (asc_le ha)
  subst h4
  refine ⟨e, ?_⟩
  rw [h1]
  have hr := get_lt h
  have : W (σ ++ e) r B = σ ++ e := W_eq (by rw [List.getElem?_append_left hr]; exact h)
  rw [this]
end Go.D.StB
end
/- Seat 2: steps, what two components do together. -/
section
set_option linter.unusedVariables false
set_option linter.unusedSimpArgs false
namespace Go.D.StB
open Go.D.Srt
def outAt (c : Cmp) (i : Int) : Int := (L c.out).getD i.toNat 0
def stepC (a b : Cmp) (x : E) (m n : Edg) : Bool := decide (m.f = x.1) && decide (n.f = x.2) && decide (m.t = outAt b x.2) && decide (n.t = outAt a x.1)
theorem stepC_iff {a b : Cmp} {x : E} {m n : Edg} : stepC a b x m n = true ↔ m.f = x.1 ∧ n.f = x.2 ∧ m.t = outAt b x.2 ∧ n.t = outAt a x.1 := by
  simp only [stepC, Bool.and_eq_true, decide_eq_true_eq, and_assoc]
def inr (a b : Cmp) (x : E) (m : Edg) (l : List Edg) : List E := (l.filter (stepC a b x m)).map fun n => (m.a, n.a)
def stepsL (a b : Cmp) (x : E) : List E := (L a.mv).flatMap fun m => inr a b x m (L b.mv)
theorem drop_getD {l : List Edg} {k : Nat} (h : k < l.length) : l.drop k = l.getD k default :: l.drop (k + 1) := by
  rw [List.getD_eq_getElem?_getD, List.getElem?_eq_getElem h]
  exact List.drop_eq_getElem_cons h
theorem inr_cons (a b : Cmp) (x : E) (m n : Edg) (l : List Edg) : inr a b x m (n :: l) = (if stepC a b x m n = true then [(m.a, n.a)] else []) ++ inr a b x m l := by
  unfold inr
  rw [List.filter_cons]
  split <;> simp
theorem ld120_0 {σ : Store} {i : Nat} {x : E} (h : σ[i]? = some (.mix (cel x))) : load1 (.ptr i 0) σ = some (.p (.int .i64 x.1)) := load1_ptr h rfl
theorem ld120_1 {σ : Store} {i : Nat} {x : E} (h : σ[i]? = some (.mix (cel x))) : load1 (.ptr i 1) σ = some (.p (.int .i64 x.2)) := load1_ptr h rfl
theorem ed_0 {σ : Store} {i : Nat} {m : Edg} (h : σ[i]? = some (.mix (edgD m))) : load1 (.ptr i 0) σ = some (.p (.int .i64 m.f)) := load1_ptr h rfl
theorem ed_1 {σ : Store} {i : Nat} {m : Edg} (h : σ[i]? = some (.mix (edgD m))) : load1 (.ptr i 1) σ = some (.p (.int .i64 m.t)) := load1_ptr h rfl
theorem ed_2 {σ : Store} {i : Nat} {m : Edg} (h : σ[i]? = some (.mix (edgD m))) : load1 (.ptr i 2) σ = some (.p (.int .i64 m.a)) := load1_ptr h rfl
theorem bld120 (x y : Int) : build PP 120 [(0, .p (.int .i64 x)), (1, .p (.int .i64 y))] = some (val (x, y)) := Eq.trans (by kernel_rfl) rfl
theorem bs116 (e : E) (σ : Store) : buildSlice PP none 116 1 [(0, val e)] σ = some (.p (.sl true 1 (celP e)), σ) := Eq.trans (by kernel_rfl) rfl
theorem ldOut {o : OI} {i : Nat} (h : i < (L o).length) (σ : Store) : load1 (.pptr (eInts (L o)) i) σ = some (.p (.int .i64 ((L o).getD i 0))) := load1_getD h σ
section
variable {a b : Cmp} {x : E} {i3 i4 i5 B : Nat} (hb : (L b.mv).length ≤ 60) (h0 : 0 ≤ x.1 ∧ x.1.toNat < (L a.out).length) (h1 : 0 ≤ x.2 ∧ x.2.toNat < (L b.out).length) (hB : i3 < B ∧ i4 < B ∧ i5 < B)
include hb h0 h1 hB
theorem st_L1 {i9 q : Nat} {m : Edg} {x13 x14 : DV} (hq : q ≤ 60) : ∀ (d k : Nat) (A : List E) (y : DV) (σ : Store), (L b.mv).length - k = d → k ≤ (L b.mv).length →
    σ[i3]? = some (.mix (eCmp a)) → σ[i4]? = some (.mix (eCmp b)) → σ[i5]? = some (.mix (cel x)) → σ[i9]? = some (.mix (edgD m)) → RowL σ B A y → (∀ r, y = .rsl r 2 0 A.length → i9 ≠ r) → B ≤ σ.length → A.length ≤ 60 * q + k →
    ∃ y' σ', f67_L1 guardT 0 (.ptr i3 0) (.ptr i4 0) (.ptr i5 0) y (.ptr i9 0) x13 x14 (N q) (.p (eEs b.mv)) (N (L b.mv).length) (N k) σ = f67_L0 guardT 0 (.ptr i3 0) (.ptr i4 0) (.ptr i5 0) y' x13 x14 (N (q + 1)) σ' ∧
      RowL σ' B (A ++ inr a b x m ((L b.mv).drop k)) y' ∧ (∀ j row, j < B → σ[j]? = some row → σ'[j]? = some row) ∧ B ≤ σ'.length ∧ (A ++ inr a b x m ((L b.mv).drop k)).length ≤ 60 * q + (L b.mv).length
  | 0, k, A, y, σ, hd, hk, g3, g4, g5, g9, hR, hne, hBl, hA => by
    refine ⟨y, σ, ?_, ?_, fun j row _ h => h, hBl, ?_⟩
    · rw [f67_L1_eq guardT rfl]
      simp (disch := omega) only [N, b_lss, ltF, gG, add1]
    · rw [List.drop_of_length_le (by omega)]
      simpa [inr] using hR
    · rw [List.drop_of_length_le (by omega)]
      simp [inr]; omega
  | d + 1, k, A, y, σ, hd, hk, g3, g4, g5, g9, hR, hne, hBl, hA => by
    have hkl : k < (L b.mv).length := by omega
    have f3 : (σ ++ [Row.mix (edgD ((L b.mv).getD k default))])[i3]? = _ := get_old g3
    have f4 : (σ ++ [Row.mix (edgD ((L b.mv).getD k default))])[i4]? = _ := get_old g4
    have f5 : (σ ++ [Row.mix (edgD ((L b.mv).getD k default))])[i5]? = _ := get_old g5
    have f9 : (σ ++ [Row.mix (edgD ((L b.mv).getD k default))])[i9]? = _ := get_old g9
    have fn : (σ ++ [Row.mix (edgD ((L b.mv).getD k default))])[σ.length]? = some (.mix (edgD ((L b.mv).getD k default))) := get_snoc
    have hR2 : RowL (σ ++ [Row.mix (edgD ((L b.mv).getD k default))]) B A y := by
      rcases hR with hR | ⟨r, e1, e2, e3, e4⟩
      · exact .inl hR
      · exact .inr ⟨r, e1, get_old e2, e3, e4⟩
    have hBl2 : B ≤ (σ ++ [Row.mix (edgD ((L b.mv).getD k default))]).length := by simp; omega
    have hold : ∀ j row, j < B → σ[j]? = some row → (σ ++ [Row.mix (edgD ((L b.mv).getD k default))])[j]? = some row := fun j row _ h => get_old h
    have hsn := store_new106 σ ((L b.mv).getD k default) [.p (pI 0), .p (pI 0), .p (pI 0)] rfl
    have hi9 : i9 < σ.length := get_lt g9
    have hlen : (σ ++ [Row.mix (edgD ((L b.mv).getD k default))]).length = σ.length + 1 := by simp
    rw [drop_getD hkl, inr_cons]
    generalize hn : (L b.mv).getD k default = n at *
    have hld : (loadN σ 3 (.pptr (eEdgs (L b.mv)) (k * 3))).map DV.agg = some (.agg (edgD n)) := by rw [← hn]; exact load106_D hkl σ
    have key : f67_L1 guardT 0 (.ptr i3 0) (.ptr i4 0) (.ptr i5 0) y (.ptr i9 0) x13 x14 (N q) (.p (eEs b.mv)) (N (L b.mv).length) (N k) σ =
        if stepC a b x m n = true then (append PP 0 true 116 116 y (.p (.sl true 1 (celP (m.a, n.a)))) (σ ++ [.mix (edgD n)])).bind fun r => f67_L1 guardT 0 (.ptr i3 0) (.ptr i4 0) (.ptr i5 0) r.1 (.ptr i9 0) x13 x14 (N q) (.p (eEs b.mv)) (N (L b.mv).length) (N (k + 1)) r.2
        else f67_L1 guardT 0 (.ptr i3 0) (.ptr i4 0) (.ptr i5 0) y (.ptr i9 0) x13 x14 (N q) (.p (eEs b.mv)) (N (L b.mv).length) (N (k + 1)) (σ ++ [.mix (edgD n)]) := by
      rw [f67_L1_eq guardT rfl]
      generalize (σ ++ [Row.mix (edgD n)]) = ρ at *
      have hk1 : k ≤ 1000000 := by omega
      by_cases c1 : m.f = x.1
      · by_cases c2 : n.f = x.2
        · by_cases c3 : m.t = (L b.out).getD x.2.toNat 0
          · by_cases c4 : n.t = (L a.out).getD x.1.toNat 0
            · have hs : stepC a b x m n = true := stepC_iff.2 ⟨c1, c2, c3, c4⟩
              rw [if_pos hs]
              simp (disch := omega) only [N, b_lss, ltT, gG, idx23 hkl, load106, hld, zero106, hsn, fa106_0, fa106_1, fa106_2, fa120_0, fa120_1, fa25_2, shift_ptr, shift_pptr, Nat.zero_add, Nat.add_zero, pureFn_fn, List.append_nil, List.singleton_append, List.cons_append, List.nil_append, load3, load22, ed_0 f9, ed_0 fn, ed_1 f9, ed_1 fn, ed_2 f9, ed_2 fn, ld120_0 f5, ld120_1 f5, cm_2 f3, cm_2 f4, b_eql, eqT c1, eqT c2, idx22i h0.1 h0.2, idx22i h1.1 h1.2, ldOut h0.2, ldOut h1.2, eqT c3, eqT c4, bld120, bs116, f67_J0_eq, add1]
            · have hs : ¬ stepC a b x m n = true := fun e => c4 (stepC_iff.1 e).2.2.2
              rw [if_neg hs]
              simp (disch := omega) only [N, b_lss, ltT, gG, idx23 hkl, load106, hld, zero106, hsn, fa106_0, fa106_1, fa106_2, fa120_0, fa120_1, fa25_2, shift_ptr, shift_pptr, Nat.zero_add, Nat.add_zero, pureFn_fn, List.append_nil, List.singleton_append, List.cons_append, List.nil_append, load3, load22, ed_0 f9, ed_0 fn, ed_1 f9, ed_1 fn, ed_2 f9, ed_2 fn, ld120_0 f5, ld120_1 f5, cm_2 f3, cm_2 f4, b_eql, eqT c1, eqT c2, idx22i h0.1 h0.2, idx22i h1.1 h1.2, ldOut h0.2, ldOut h1.2, eqT c3, eqF c4, f67_J0_eq, add1]
          · have hs : ¬ stepC a b x m n = true := fun e => c3 (stepC_iff.1 e).2.2.1
            rw [if_neg hs]
            simp (disch := omega) only [N, b_lss, ltT, gG, idx23 hkl, load106, hld, zero106, hsn, fa106_0, fa106_1, fa106_2, fa120_0, fa120_1, fa25_2, shift_ptr, shift_pptr, Nat.zero_add, Nat.add_zero, pureFn_fn, List.append_nil, List.singleton_append, List.cons_append, List.nil_append, load3, load22, ed_0 f9, ed_0 fn, ed_1 f9, ed_1 fn, ed_2 f9, ed_2 fn, ld120_0 f5, ld120_1 f5, cm_2 f3, cm_2 f4, b_eql, eqT c1, eqT c2, idx22i h0.1 h0.2, idx22i h1.1 h1.2, ldOut h0.2, ldOut h1.2, eqF c3, f67_J0_eq, add1]
        · have hs : ¬ stepC a b x m n = true := fun e => c2 (stepC_iff.1 e).2.1
          rw [if_neg hs]
          simp (disch := omega) only [N, b_lss, ltT, gG, idx23 hkl, load106, hld, zero106, hsn, fa106_0, fa106_1, fa106_2, fa120_0, fa120_1, fa25_2, shift_ptr, shift_pptr, Nat.zero_add, Nat.add_zero, pureFn_fn, List.append_nil, List.singleton_append, List.cons_append, List.nil_append, load3, load22, ed_0 f9, ed_0 fn, ed_1 f9, ed_1 fn, ld120_0 f5, ld120_1 f5, b_eql, eqT c1, eqF c2, f67_J0_eq, add1]
      · have hs : ¬ stepC a b x m n = true := fun e => c1 (stepC_iff.1 e).1
        rw [if_neg hs]
        simp (disch := omega) only [N, b_lss, ltT, gG, idx23 hkl, load106, hld, zero106, hsn, fa106_0, fa106_1, fa106_2, fa120_0, fa120_1, fa25_2, shift_ptr, shift_pptr, Nat.zero_add, Nat.add_zero, pureFn_fn, List.append_nil, List.singleton_append, List.cons_append, List.nil_append, load3, load22, ed_0 f9, ed_0 fn, ed_1 f9, ed_1 fn, ld120_0 f5, ld120_1 f5, b_eql, eqF c1, f67_J0_eq, add1]
    rw [key]
    by_cases hs : stepC a b x m n = true
    · rw [if_pos hs, if_pos hs]
      obtain ⟨σ2, p1, p2, p3, p4⟩ := hR2.push (lo := 0) (by omega) (Nat.zero_le _) hBl2 true (fun _ => rfl) (m.a, n.a)
      have hrB : ∀ r, y = .rsl r 2 0 A.length → B ≤ r := fun r e => by
        rcases hR with ⟨_, e2⟩ | ⟨r', e1, _, e3, _⟩
        · rw [e2] at e; exact absurd e (by simp)
        · rw [e1] at e; injection e with e; omega
      have kp : ∀ j row, j < B → (σ ++ [Row.mix (edgD n)])[j]? = some row → σ2[j]? = some row := fun j row hj h => p3 j row (fun r e => by have := hrB r e; omega) h
      have q9 : σ2[i9]? = some (.mix (edgD m)) := p3 i9 _ (fun r e => hne r e) f9
      obtain ⟨y', σ', r1, r2, r3, r4, r5⟩ := st_L1 (i9 := i9) (m := m) (x13 := x13) (x14 := x14) hq d (k + 1) (A ++ [(m.a, n.a)]) _ σ2 (by omega) (by omega) (kp i3 _ hB.1 f3) (kp i4 _ hB.2.1 f4) (kp i5 _ hB.2.2 f5) q9 p2 (fun r e => by injection e with e; omega) (by omega) (by simp; omega)
      refine ⟨y', σ', ?_, ?_, fun j row hj h => r3 j row hj (kp j row hj (get_old h)), r4, ?_⟩
      · rw [p1]
        simp only [gG]
        exact r1
      · rw [← List.append_assoc]; exact r2
      · rw [← List.append_assoc]; exact r5
    · rw [if_neg hs, if_neg hs, List.nil_append]
      obtain ⟨y', σ', r1, r2, r3, r4, r5⟩ := st_L1 (i9 := i9) (m := m) (x13 := x13) (x14 := x14) hq d (k + 1) A y (σ ++ [Row.mix (edgD n)]) (by omega) (by omega) f3 f4 f5 f9 hR2 hne (by omega) (by omega)
      exact ⟨y', σ', r1, r2, fun j row hj h => r3 j row hj (get_old h), r4, r5⟩
theorem st_L0 (ha : (L a.mv).length ≤ 60) : ∀ (d q : Nat) (A : List E) (y : DV) (σ : Store), (L a.mv).length - q = d → q ≤ (L a.mv).length →
    σ[i3]? = some (.mix (eCmp a)) → σ[i4]? = some (.mix (eCmp b)) → σ[i5]? = some (.mix (cel x)) → RowL σ B A y → B ≤ σ.length → A.length ≤ 60 * q →
    ∃ y' σ' A', A' = A ++ ((L a.mv).drop q).flatMap (fun m => inr a b x m (L b.mv)) ∧ f67_L0 guardT 0 (.ptr i3 0) (.ptr i4 0) (.ptr i5 0) y (.p (eEs a.mv)) (N (L a.mv).length) (N q) σ =
      (plainFn CC 0 (DV.fn 69 []) [y', .fn 70 []] σ').bind (fun r => (plainFn CC 0 (DV.fn 107 []) [y'] r.2).bind fun r => some (r.1, r.2)) ∧ RowL σ' B A' y' ∧ A'.length ≤ 3600
  | 0, q, A, y, σ, hd, hq, g3, g4, g5, hR, hBl, hA => by
    refine ⟨y, σ, A, by rw [List.drop_of_length_le (by omega)]; simp, ?_, hR, by omega⟩
    rw [f67_L0_eq guardT rfl]
    simp (disch := omega) only [N, b_lss, ltF, gG]
  | d + 1, q, A, y, σ, hd, hq, g3, g4, g5, hR, hBl, hA => by
    have hql : q < (L a.mv).length := by omega
    have hsn := store_new106 σ ((L a.mv).getD q default) [.p (pI 0), .p (pI 0), .p (pI 0)] rfl
    have f3 : (σ ++ [Row.mix (edgD ((L a.mv).getD q default))])[i3]? = _ := get_old g3
    have f4 : (σ ++ [Row.mix (edgD ((L a.mv).getD q default))])[i4]? = _ := get_old g4
    have f5 : (σ ++ [Row.mix (edgD ((L a.mv).getD q default))])[i5]? = _ := get_old g5
    have fn : (σ ++ [Row.mix (edgD ((L a.mv).getD q default))])[σ.length]? = some (.mix (edgD ((L a.mv).getD q default))) := get_snoc
    have hR2 : RowL (σ ++ [Row.mix (edgD ((L a.mv).getD q default))]) B A y := by
      rcases hR with hR | ⟨r, e1, e2, e3, e4⟩
      · exact .inl hR
      · exact .inr ⟨r, e1, get_old e2, e3, e4⟩
    have hne : ∀ r, y = .rsl r 2 0 A.length → σ.length ≠ r := fun r e => by
      rcases hR with ⟨_, e2⟩ | ⟨r', e1, e2, _, _⟩
      · rw [e2] at e; exact absurd e (by simp)
      · rw [e1] at e; injection e with e; have := get_lt e2; omega
    have hld : (loadN σ 3 (.pptr (eEdgs (L a.mv)) (q * 3))).map DV.agg = some (.agg (edgD ((L a.mv).getD q default))) := load106_D hql σ
    obtain ⟨y1, σ1, r1, r2, r3, r4, r5⟩ := st_L1 hb h0 h1 hB (q := q) (i9 := σ.length) (m := (L a.mv).getD q default) (x13 := .p (eEs a.mv)) (x14 := N (L a.mv).length) (by omega) ((L b.mv).length - 0) 0 A y _ rfl (Nat.zero_le _) f3 f4 f5 fn hR2 hne (by simp; omega) (by omega)
    rw [List.drop_zero] at r2 r5
    obtain ⟨y', σ', A', w1, w2, w3, w4⟩ := st_L0 ha d (q + 1) _ y1 σ1 (by omega) (by omega) (r3 i3 _ hB.1 f3) (r3 i4 _ hB.2.1 f4) (r3 i5 _ hB.2.2 f5) r2 r4 (by omega)
    refine ⟨y', σ', A', ?_, ?_, w3, w4⟩
    · rw [w1, drop_getD hql, List.flatMap_cons, List.append_assoc]
    · rw [← w2, ← r1, f67_L0_eq guardT rfl]
      simp (disch := omega) only [N, b_lss, ltT, gG, idx23 hql, load106, hld, zero106, hsn, fa25_3, shift_ptr, shift_pptr, Nat.zero_add, Nat.add_zero, pureFn_fn, List.append_nil, List.singleton_append, List.cons_append, List.nil_append, load23, cm_3 f4, len23]
      rfl
end
theorem sort_nil {σ : Store} {lo : Nat} : CC lo 69 [.p .nilsl, .fn 70 []] σ = some (.tuple [], σ) := by
  have hl : len PP 116 (.p .nilsl) σ = some (.p (.int .i64 0)) := by simp [len, uL]
  obtain ⟨b, e1, _, _⟩ := bl_ok (n := 0) (by omega)
  have c1 : CC lo 109 [.p .nilsl, .p (.int .i64 0), .p (.int .i64 0), N b, .fn 70 []] σ = some (.tuple [], σ) := by
    have c2 : CC lo 124 [.p .nilsl, .p (.int .i64 0), .p (.int .i64 0), .fn 70 []] σ = some (.tuple [], σ) := by
      refine F124_call ?_
      have e : binOp PP .add 3 (.p (.int .i64 0)) (.p (.int .i64 1)) = some (.p (.int .i64 1)) := by rw [b_add]; rfl
      rw [F124_eq]
      simp only [e, gG]
      rw [f124_L0_eq guardT rfl]
      simp (disch := omega) only [b_lss, ltF, gG]
    have e : binOp PP .sub 3 (.p (.int .i64 0)) (.p (.int .i64 0)) = some (.p (.int .i64 0)) := by rw [b_sub]; rfl
    refine F109_call ?_
    rw [F109_eq, f109_L0_eq guardT rfl]
    simp (disch := omega) only [e, gG, b_leq, leT, plainFn_fn, List.append_nil]
    rw [c2]
    simp only [gG]
  have e2 : convert PP 3 174 (.p (.int .i64 0)) = some (U 0) := cv_iu (m := 0) (by omega)
  refine F69_call ?_
  rw [F69_eq]
  simp only [U, N] at e1 e2 c1
  simp only [hl, gG, e2, pureFn_fn, plainFn_fn, List.append_nil, e1]
  rw [c1]
  simp only [gG]
def eBs (A : List E) : PV := if A = [] then .nilsl else .sl false A.length (celsP A)
theorem loosens_cels (A : List E) : loosens (celsP A) = celsP A := by
  induction A with
  | nil => rfl
  | cons a A ih =>
    have e1 : celsP (a :: A) = pI a.1 :: pI a.2 :: celsP A := rfl
    rw [e1]
    simp only [loosens, ih]
    rfl
theorem mapO_cels (σ : Store) (n d : Nat) (A : List E) : mapO (thawP n σ (d + 1)) (cels A) = some (celsP A) := by
  induction A with
  | nil => rfl
  | cons a A ih =>
    have e1 : celsP (a :: A) = pI a.1 :: pI a.2 :: celsP A := rfl
    have e2 : cels (a :: A) = .p (pI a.1) :: .p (pI a.2) :: cels A := rfl
    rw [e1, e2]
    simp only [mapO, ih]
    rfl
theorem thaw_row {σ : Store} {B lo : Nat} {A : List E} {y : DV} (h : RowL σ B A y) (hlo : lo ≤ B) : thawAll lo σ y = some (.p (eBs A)) := by
  rcases h with ⟨rfl, rfl⟩ | ⟨r, rfl, h1, h2, h3⟩
  · rfl
  · have e : ((cels A).drop 0).take (A.length * 2) = cels A := by rw [List.drop_zero, List.take_of_length_le (by rw [cels_len]; exact Nat.le_refl _)]
    have e2 : lo ≤ r := by omega
    have e3 : 0 + A.length * 2 ≤ (cels A).length := by rw [cels_len]; omega
    simp only [thawAll, thawPart, thaw, thaw1, thawP, e2, if_true, h1, e3, e, mapO_cels, Option.map_some, eBs, h3, if_false]
theorem S67 {a b : Cmp} {x : E} {σ : Store} (ha : (L a.mv).length ≤ 60) (hb : (L b.mv).length ≤ 60) (h0 : 0 ≤ x.1 ∧ x.1.toNat < (L a.out).length) (h1 : 0 ≤ x.2 ∧ x.2.toNat < (L b.out).length) (hs : Asc (stepsL a b x)) :
    pureV CC 67 [.agg (eCmp a), .agg (eCmp b), val x] σ = some (.p (eBs (stepsL a b x))) := by
  have g3 : ([Row.mix (eCmp a), Row.mix (eCmp b), Row.mix (cel x)] : Store)[0]? = some (.mix (eCmp a)) := rfl
  have g4 : ([Row.mix (eCmp a), Row.mix (eCmp b), Row.mix (cel x)] : Store)[1]? = some (.mix (eCmp b)) := rfl
  have g5 : ([Row.mix (eCmp a), Row.mix (eCmp b), Row.mix (cel x)] : Store)[2]? = some (.mix (cel x)) := rfl
  obtain ⟨y', σ', A', w1, w2, w3, w4⟩ := st_L0 hb h0 h1 (B := 3) (i3 := 0) (i4 := 1) (i5 := 2) (by omega) ha ((L a.mv).length - 0) 0 [] (.p .nilsl) _ rfl (Nat.zero_le _) g3 g4 g5 (.inl ⟨rfl, rfl⟩) (Nat.le_refl _) (by simp)
  rw [List.drop_zero, List.nil_append] at w1
  have w1 : A' = stepsL a b x := w1
  subst w1
  have fin : ∃ σ2, RowL σ2 3 (stepsL a b x) y' ∧ (plainFn CC 0 (DV.fn 69 []) [y', .fn 70 []] σ').bind (fun r => (plainFn CC 0 (DV.fn 107 []) [y'] r.2).bind fun r => some (r.1, r.2)) = some (y', σ2) := by
    simp only [plainFn_fn, List.append_nil]
    rcases w3 with ⟨e1, rfl⟩ | ⟨r, rfl, e2, e3, e4⟩
    · refine ⟨σ', .inl ⟨e1, rfl⟩, ?_⟩
      rw [sort_nil]
      simp only [gG]
      rw [cmpct_nil]
      simp only [gG]
    · obtain ⟨e, k1⟩ := sort_same (lo := 0) (Nat.zero_le _) e2 (by omega) hs
      have e5 : (σ' ++ e)[r]? = some (.mix (cels (stepsL a b x))) := by rw [List.getElem?_append_left (get_lt e2)]; exact e2
      refine ⟨σ' ++ e, .inr ⟨r, rfl, e5, e3, e4⟩, ?_⟩
      rw [k1]
      simp only [gG]
      rw [cmpct_ok e5 (by omega) hs]
      simp only [gG]
  obtain ⟨σ2, k1, k2⟩ := fin
  refine pureV_free (by simp [cmp_view]; rfl) rfl (F67_call (r := (y', σ2)) ?_) (thaw_row k1 (Nat.zero_le _))
  rw [F67_eq]
  simp only [N] at w2
  simp only [box_cmp, box_val, gG, List.length_nil, List.nil_append, List.length_cons, List.cons_append, fa25_3, shift_ptr, shift_pptr, Nat.zero_add, Nat.add_zero, pureFn_fn, List.append_nil, List.singleton_append, List.cons_append, List.nil_append, load23, cm_3 g3, len23]
  exact w2.trans k2
end Go.D.StB
end
/- Seat 2: beginnings, membership and binary search over pairs of states. -/
section
set_option linter.unusedVariables false
set_option linter.unusedSimpArgs false
namespace Go.D.StB
open Go.D.Srt
def begL (a b : Cmp) : List E := (L a.init).flatMap fun s => (L b.init).map fun u => (s, u)
theorem celsP_app (A B : List E) : celsP (A ++ B) = celsP A ++ celsP B := by simp [celsP]
theorem Out.pushE {σ : Store} {lo : Nat} {A : List E} {x : DV} (ho : Out σ lo 2 A.length (celsP A) x) (hn : A.length ≤ 10000000) (hlo : lo ≤ σ.length) (e : E) :
    ∃ x' σ', append PP lo false 116 116 x (.p (.sl true 1 (celP e))) σ = some (x', σ') ∧ Out σ' lo 2 (A ++ [e]).length (celsP (A ++ [e])) x' ∧ Others σ σ' x ∧ Fresh σ x x' ∧ lo ≤ σ'.length := by
  obtain ⟨x', σ', h1, h2, h3, h4⟩ := Out.pushF (vs := celP e) srcB u116 sE bytesB zeroB rfl (by decide) (by decide) (by decide) rfl ho hn hlo
  refine ⟨x', σ', h1, ?_, h3, h4, ?_⟩
  · rw [celsP_app, List.length_append]
    exact h2
  · rcases h2.2 with ⟨h, _⟩ | ⟨_, r, ver, _, h, h5⟩
    · omega
    · have := get_lt h; omega
theorem bg_L1 {b : Cmp} {s : Int} {i3 : Nat} {x11 x12 x13 : DV} (hb : (L b.init).length ≤ 1000) (q : Nat) (hx : x13 = N q) (hq : q ≤ 1000) : ∀ (d k : Nat) (A : List E) (y : DV) (σ : Store), (L b.init).length - k = d → k ≤ (L b.init).length →
    (∀ c : Unit, σ[i3]? = some (.mix (eCmp b))) → Out σ 2 2 A.length (celsP A) y → i3 < 2 → 2 ≤ σ.length → A.length ≤ 1000 * q + k →
    ∃ y' σ', f65_L1 guardT 0 (.ptr i3 0) y (.p (.int .i64 s)) x11 x12 x13 (.p (eSl b.init)) (N (L b.init).length) (N k) σ = f65_L0 guardT 0 (.ptr i3 0) y' x11 x12 (N (q + 1)) σ' ∧
      Out σ' 2 2 (A ++ ((L b.init).drop k).map fun u => (s, u)).length (celsP (A ++ ((L b.init).drop k).map fun u => (s, u))) y' ∧ σ'[i3]? = some (.mix (eCmp b)) ∧ 2 ≤ σ'.length
  | 0, k, A, y, σ, hd, hk, g3, hO, h3, hl, hA => by
    refine ⟨y, σ, ?_, by rw [List.drop_of_length_le (by omega)]; simpa using hO, g3 (), hl⟩
    subst hx
    rw [f65_L1_eq guardT rfl]
    simp (disch := omega) only [N, b_lss, ltF, gG, add1]
  | d + 1, k, A, y, σ, hd, hk, g3, hO, h3, hl, hA => by
    have hkl : k < (L b.init).length := by omega
    have e0 : (L b.init).drop k = (L b.init).getD k 0 :: (L b.init).drop (k + 1) := by
      rw [List.getD_eq_getElem?_getD, List.getElem?_eq_getElem hkl]; exact List.drop_eq_getElem_cons hkl
    obtain ⟨y1, σ1, p1, p2, p3, p4, p5⟩ := Out.pushE hO (by omega) hl (s, (L b.init).getD k 0)
    have p1 : append PP 0 false 116 116 y (.p (.sl true 1 (celP (s, (L b.init).getD k 0)))) σ = some (y1, σ1) := append_lo0 hO p1
    have g3' : σ1[i3]? = some (.mix (eCmp b)) := p3 i3 _ (g3 ()) fun r ver sz n cs e => by
      rcases hO.2 with ⟨_, e2⟩ | ⟨_, r2, ver2, e2, _, e3⟩
      · rw [e2] at e; exact absurd e (by simp)
      · rw [e2] at e; injection e with e; omega
    obtain ⟨y', σ', r1, r2, r3, r4⟩ := bg_L1 (s := s) (x11 := x11) (x12 := x12) hb q hx hq d (k + 1) (A ++ [(s, (L b.init).getD k 0)]) y1 σ1 (by omega) (by omega) (fun _ => g3') p2 h3 p5 (by simp; omega)
    refine ⟨y', σ', ?_, ?_, r3, r4⟩
    · rw [← r1, f65_L1_eq guardT rfl]
      simp (disch := omega) only [N, b_lss, ltT, gG, idx22 hkl, load3, ldOut hkl, bld120, bs116, p1, add1]
    · rw [e0, List.map_cons, ← List.singleton_append, ← List.append_assoc]
      exact r2
where
  append_lo0 {σ : Store} {A : List E} {y y1 : DV} {σ1 : Store} {v : DV} (hO : Out σ 2 2 A.length (celsP A) y) (h : append PP 2 false 116 116 y v σ = some (y1, σ1)) : append PP 0 false 116 116 y v σ = some (y1, σ1) := by
    rw [← h]
    rcases hO.2 with ⟨_, rfl⟩ | ⟨_, r, ver, rfl, _, h5⟩
    · simp only [append]
    · simp only [append, appTok, h5, Nat.zero_le]
theorem bg_L0 {a b : Cmp} {i3 : Nat} (ha : (L a.init).length ≤ 1000) (hb : (L b.init).length ≤ 1000) (h3 : i3 < 2) : ∀ (d q : Nat) (A : List E) (y : DV) (σ : Store), (L a.init).length - q = d → q ≤ (L a.init).length →
    σ[i3]? = some (.mix (eCmp b)) → Out σ 2 2 A.length (celsP A) y → 2 ≤ σ.length → A.length ≤ 1000 * q →
    ∃ y' σ' A', A' = A ++ ((L a.init).drop q).flatMap (fun s => (L b.init).map fun u => (s, u)) ∧ f65_L0 guardT 0 (.ptr i3 0) y (.p (eSl a.init)) (N (L a.init).length) (N q) σ = some (y', σ') ∧ Out σ' 2 2 A'.length (celsP A') y'
  | 0, q, A, y, σ, hd, hq, g3, hO, hl, hA => by
    refine ⟨y, σ, A, by rw [List.drop_of_length_le (by omega)]; simp, ?_, hO⟩
    rw [f65_L0_eq guardT rfl]
    simp (disch := omega) only [N, b_lss, ltF, gG]
  | d + 1, q, A, y, σ, hd, hq, g3, hO, hl, hA => by
    have hql : q < (L a.init).length := by omega
    have e0 : (L a.init).drop q = (L a.init).getD q 0 :: (L a.init).drop (q + 1) := by
      rw [List.getD_eq_getElem?_getD, List.getElem?_eq_getElem hql]; exact List.drop_eq_getElem_cons hql
    obtain ⟨y1, σ1, r1, r2, r3, r4⟩ := bg_L1 (s := (L a.init).getD q 0) (x11 := .p (eSl a.init)) (x12 := N (L a.init).length) hb q rfl (by omega) ((L b.init).length - 0) 0 A y σ rfl (Nat.zero_le _) (fun _ => g3) hO h3 hl (by omega)
    rw [List.drop_zero] at r2
    obtain ⟨y', σ', A', w1, w2, w3⟩ := bg_L0 ha hb h3 d (q + 1) _ y1 σ1 (by omega) (by omega) r3 r2 r4 (by simp; omega)
    refine ⟨y', σ', A', ?_, ?_, w3⟩
    · rw [w1, e0, List.flatMap_cons, List.append_assoc]
    · rw [← w2, ← r1, f65_L0_eq guardT rfl]
      simp (disch := omega) only [N, b_lss, ltT, gG, idx22 hql, load3, ldOut hql, fa25_1, shift_ptr, shift_pptr, Nat.zero_add, Nat.add_zero, pureFn_fn, List.append_nil, List.singleton_append, List.cons_append, List.nil_append, load22, cm_1 g3, len22]
      rfl
theorem out_eBs {σ : Store} {A : List E} {x : DV} {lo m : Nat} (h : Out σ lo 2 A.length (celsP A) x) : thawAll m σ x = some (.p (eBs A)) := by
  rw [Out.twAll h m, loosens_cels]
  unfold eBs
  by_cases e : A = []
  · subst e; rfl
  · rw [if_neg e, if_neg (fun h => e (List.length_eq_zero_iff.1 h))]
theorem S65 {a b : Cmp} {σ : Store} (ha : (L a.init).length ≤ 1000) (hb : (L b.init).length ≤ 1000) : pureV CC 65 [.agg (eCmp a), .agg (eCmp b)] σ = some (.p (eBs (begL a b))) := by
  have g0 : ([Row.mix (eCmp a), Row.mix (eCmp b)] : Store)[0]? = some (.mix (eCmp a)) := rfl
  have g1 : ([Row.mix (eCmp a), Row.mix (eCmp b)] : Store)[1]? = some (.mix (eCmp b)) := rfl
  obtain ⟨y', σ', A', w1, w2, w3⟩ := bg_L0 (i3 := 1) ha hb (by omega) ((L a.init).length - 0) 0 [] (.p .nilsl) _ rfl (Nat.zero_le _) g1 Out.zero (Nat.le_refl _) (by simp)
  rw [List.drop_zero, List.nil_append] at w1
  have w1 : A' = begL a b := w1
  subst w1
  refine pureV_free (by simp [cmp_view]) rfl (F65_call (r := (y', σ')) ?_) (out_eBs w3)
  rw [F65_eq]
  simp only [N] at w2
  simp only [box_cmp, gG, List.length_nil, List.nil_append, List.length_cons, List.cons_append, fa25_1, shift_ptr, shift_pptr, Nat.zero_add, Nat.add_zero, pureFn_fn, List.append_nil, List.singleton_append, List.cons_append, List.nil_append, load22, cm_1 g0, len22]
  exact w2
end Go.D.StB
end
/- Seat 2: binary search, and the number of a pair. -/
section
set_option linter.unusedVariables false
set_option linter.unusedSimpArgs false
namespace Go.D.StB
open Go.D.Srt
theorem ge_at {A : List E} {k : Nat} (hk : k < A.length) : ge A k = A[k] := by unfold ge; rw [List.getD_eq_getElem?_getD, List.getElem?_eq_getElem hk]; rfl
end Go.D.StB
end
/- Seat 2: Composed, first part: all pairs that are reached. -/
section
set_option linter.unusedVariables false
set_option linter.unusedSimpArgs false
namespace Go.D.StB
open Go.D.Srt
def addAll (A : List E) : List E → List E
  | [] => A
  | y :: l => addAll (if A.contains y = true then A else A ++ [y]) l
structure CS (a b : Cmp) (q : Nat) (A : List E) (σ : Store) : Prop where
  ca : σ[0]? = some (.mix (eCmp a))
  cb : σ[1]? = some (.mix (eCmp b))
  cg : ∃ z, σ[2]? = some (.mix z) ∧ z.length = 3
  q3 : 3 ≤ q
  ex : ∃ y, σ[q]? = some (.mix [y]) ∧ RowL σ 3 A y ∧ (∀ r, y = .rsl r 2 0 A.length → r ≠ q)
theorem RowL.snoc {σ : Store} {B : Nat} {A : List E} {x : DV} (h : RowL σ B A x) (row : Row) : RowL (σ ++ [row]) B A x := by
  rcases h with h | ⟨r, e1, e2, e3, e4⟩
  · exact .inl h
  · exact .inr ⟨r, e1, get_old e2, e3, e4⟩
theorem CS.snoc {a b : Cmp} {q : Nat} {A : List E} {σ : Store} (h : CS a b q A σ) (row : Row) : CS a b q A (σ ++ [row]) := by
  obtain ⟨z, h1, h2⟩ := h.cg
  obtain ⟨y, h3, h4, h5⟩ := h.ex
  exact ⟨get_old h.ca, get_old h.cb, ⟨z, get_old h1, h2⟩, h.q3, y, get_old h3, h4.snoc row, h5⟩
theorem len116 (A : List E) (σ : Store) : len PP 116 (.p (eBs A)) σ = some (N A.length) := by
  unfold eBs
  by_cases e : A = []
  · subst e; simp [len, uL]
  · simp [e, len, uL]
theorem celsP_get {A : List E} {i : Nat} (h : i < A.length) : (((celsP A).drop (i * 2)).take 2).map DV.p = cel (ge A i) := by
  rw [List.map_take, List.map_drop, celsP_map, cels_get h]
theorem idxB {A : List E} {i : Nat} (h : i < A.length) : indexAddr PP 116 (.p (eBs A)) (.p (.int .i64 (i : Nat))) = some (.pptr (celsP A) (i * 2)) := by
  have h2 : (0 : Int) ≤ (i : Int) ∧ (i : Int) < (A.length : Nat) := by omega
  have e : A ≠ [] := by rintro rfl; simp at h
  simp [indexAddr, uL, sE, eBs, e, h2, h]
theorem ldB {A : List E} {i : Nat} (h : i < A.length) (σ : Store) : load PP 120 (.pptr (celsP A) (i * 2)) σ = some (val (ge A i)) := by
  have e : i * 2 + 2 ≤ (celsP A).length := by rw [celsP_len]; omega
  rw [loadE]
  simp only [loadN, e, if_true, celsP_get h, Option.map_some]
  rfl
theorem stNew {σ : Store} (e : E) {lo : Nat} (hlo : lo ≤ σ.length) : store PP lo 120 (.ptr σ.length 0) (val e) (σ ++ [.mix [.p (pI 0), .p (pI 0)]]) = some (σ ++ [.mix (cel e)]) := by
  have e1 : (val e).cells = cel e := rfl
  have e2 : (σ ++ [Row.mix [.p (pI 0), .p (pI 0)]])[σ.length]? = some (.mix [.p (pI 0), .p (pI 0)]) := get_snoc
  have e3 : splice [DV.p (pI 0), .p (pI 0)] 0 (cel e) = cel e := rfl
  simp only [store, sE, e1, cel_len, if_true, storeN, hlo, e2, cel_one, e3]
  rw [List.set_append_right _ _ (Nat.le_refl _), Nat.sub_self]
  rfl
section
variable {a b : Cmp} {q : Nat}
end
end Go.D.StB
end
/- Seat 2: Composed, second part: the numbers of first pairs, pairs and edges. -/
section
set_option linter.unusedVariables false
set_option linter.unusedSimpArgs false
namespace Go.D.StB
open Go.D.Srt
structure C2 (a b : Cmp) (q r t : Nat) (B : List E) (σ : Store) : Prop where
  ca : σ[0]? = some (.mix (eCmp a))
  cb : σ[1]? = some (.mix (eCmp b))
  cg : ∃ z, σ[2]? = some (.mix z) ∧ z.length = 3
  cq : σ[q]? = some (.mix [.rsl r 2 0 B.length])
  cr : σ[r]? = some (.mix (cels B))
  ne : 3 ≤ t ∧ t ≠ q ∧ t ≠ r
def KM (σ σ' : Store) : Prop := ∀ (j : Nat) (cs : List DV), σ[j]? = some (.mix cs) → σ'[j]? = some (.mix cs)
theorem KM.trans {σ σ' σ'' : Store} (h : KM σ σ') (h2 : KM σ' σ'') : KM σ σ'' := fun j cs e => h2 j cs (h j cs e)
theorem fa47_2 (x : DV) : fieldAddr PP 47 x 2 = shiftPtr x 2 := Eq.trans (by kernel_rfl) rfl
theorem load45 (x : DV) (σ : Store) : load PP 45 x σ = load1 x σ := Eq.trans (by kernel_rfl) rfl
theorem bs22_1 (p : Int) (σ : Store) : buildSlice PP none 22 1 [(0, .p (.int .i64 p))] σ = some (.p (.sl true 1 [pI p]), σ) := Eq.trans (by kernel_rfl) rfl
theorem src22 : srcType PP 22 = true := Eq.trans (by kernel_rfl) rfl
section
variable {a b : Cmp} {q r t : Nat} {B : List E} (hB : Asc B) (hBn : B.length ≤ 1000)
include hB hBn
end
end Go.D.StB
end
/- Seat 2: Composed, third part: pairs and edges. -/
section
set_option linter.unusedVariables false
set_option linter.unusedSimpArgs false
namespace Go.D.StB
open Go.D.Srt
theorem src48 : srcType PP 48 = true := Eq.trans (by kernel_rfl) rfl
theorem s47 : size? PP 47 = some 3 := Eq.trans (by kernel_rfl) rfl
section
variable {a b : Cmp} {q r t : Nat} {B : List E} (hB : Asc B) (hBn : B.length ≤ 1000)
include hB hBn
end
end Go.D.StB
end
/- Seat 2: Composed in plain terms: what is reached is closed and without doubles; steps ascend. -/
section
set_option linter.unusedVariables false
set_option linter.unusedSimpArgs false
namespace Go.D.StB
open Go.D.Srt
theorem ordE_lt (x y : Edg) : ordE x y < 0 ↔ x.f < y.f ∨ (x.f = y.f ∧ (x.t < y.t ∨ (x.t = y.t ∧ x.a < y.a))) := by
  have h1 : ∀ c1 c2 c3 : Int, orL [c1, c2, c3] < 0 ↔ c1 < 0 ∨ (c1 = 0 ∧ (c2 < 0 ∨ (c2 = 0 ∧ c3 < 0))) := fun c1 c2 c3 => by
    simp only [orL]
    repeat' split
    all_goals omega
  have h2 : ∀ u v : Int, cmpI u v < 0 ↔ u < v := fun u v => by unfold cmpI; split <;> (try split) <;> omega
  have h3 : ∀ u v : Int, cmpI u v = 0 ↔ u = v := fun u v => by unfold cmpI; split <;> (try split) <;> omega
  unfold ordE
  rw [h1, h2, h2, h2, h3, h3]
theorem adj_pair {α : Type} {R : α → α → Prop} (ht : ∀ x y z, R x y → R y z → R x z) : ∀ {l : List α}, (∀ i (h : i + 1 < l.length), R l[i] l[i + 1]) → l.Pairwise R
  | [], _ => List.Pairwise.nil
  | [x], _ => by simp
  | x :: y :: l, h => by
    have ih : (y :: l).Pairwise R := adj_pair ht fun i hi => h (i + 1) (by simpa using hi)
    have h0 : R x y := h 0 (by simp)
    rw [List.pairwise_cons]
    refine ⟨fun z hz => ?_, ih⟩
    rcases List.mem_cons.1 hz with rfl | hz
    · exact h0
    · rw [List.pairwise_cons] at ih
      exact ht _ _ _ h0 (ih.1 z hz)
theorem mv_pair {c : Cmp} {n : Nat} (h : COk c n) : (L c.mv).Pairwise fun x y => ordE x y < 0 := by
  refine adj_pair (fun x y z h1 h2 => ?_) fun i hi => ?_
  · rw [ordE_lt] at *; omega
  · have := h.mo i hi
    rwa [List.getD_eq_getElem?_getD, List.getD_eq_getElem?_getD, List.getElem?_eq_getElem (by omega), List.getElem?_eq_getElem hi] at this
theorem init_pair {c : Cmp} {n : Nat} (h : COk c n) : (L c.init).Pairwise fun x y => x < y := by
  refine adj_pair (fun x y z h1 h2 => by omega) fun i hi => ?_
  have := h.inc i hi
  rwa [List.getD_eq_getElem?_getD, List.getD_eq_getElem?_getD, List.getElem?_eq_getElem (by omega), List.getElem?_eq_getElem hi] at this
theorem mem_steps {a b : Cmp} {x y : E} : y ∈ stepsL a b x ↔ ∃ m ∈ L a.mv, ∃ n ∈ L b.mv, stepC a b x m n = true ∧ y = (m.a, n.a) := by
  simp only [stepsL, inr, List.mem_flatMap, List.mem_map, List.mem_filter]
  constructor
  · rintro ⟨m, hm, n, ⟨hn, hs⟩, rfl⟩
    exact ⟨m, hm, n, hn, hs, rfl⟩
  · rintro ⟨m, hm, n, hn, hs, rfl⟩
    exact ⟨m, hm, n, ⟨hn, hs⟩, rfl⟩
theorem steps_asc {a b : Cmp} {na nb : Nat} (ha : COk a na) (hb : COk b nb) (x : E) : Asc (stepsL a b x) := by
  unfold Asc stepsL
  rw [List.pairwise_flatMap]
  refine ⟨fun m hm => ?_, (mv_pair ha).imp_of_mem fun {m m'} hm hm' h => ?_⟩
  · unfold inr
    rw [List.pairwise_map, List.pairwise_filter]
    refine (mv_pair hb).imp fun {n n'} h h1 h2 => ?_
    rw [ordE_lt] at h
    rw [stepC_iff] at h1 h2
    right
    refine ⟨rfl, ?_⟩
    show n.a < n'.a
    omega
  · intro u hu v hv
    unfold inr at hu hv
    rw [List.mem_map] at hu hv
    obtain ⟨n, hn, rfl⟩ := hu
    obtain ⟨n', hn', rfl⟩ := hv
    rw [List.mem_filter, stepC_iff] at hn hn'
    rw [ordE_lt] at h
    left
    show m.a < m'.a
    omega
/-- Pairs of states. -/
def InR (na nb : Nat) (x : E) : Prop := (0 ≤ x.1 ∧ x.1 < na) ∧ (0 ≤ x.2 ∧ x.2 < nb)
theorem steps_in {a b : Cmp} {na nb : Nat} (ha : COk a na) (hb : COk b nb) {x y : E} (h : y ∈ stepsL a b x) : InR na nb y := by
  rw [mem_steps] at h
  obtain ⟨m, hm, n, hn, _, rfl⟩ := h
  exact ⟨(ha.ml m hm).2.1, (hb.ml n hn).2.1⟩
theorem beg_in {a b : Cmp} {na nb : Nat} (ha : COk a na) (hb : COk b nb) {y : E} (h : y ∈ begL a b) : InR na nb y := by
  unfold begL at h
  rw [List.mem_flatMap] at h
  obtain ⟨s, hs, h⟩ := h
  rw [List.mem_map] at h
  obtain ⟨u, hu, rfl⟩ := h
  exact ⟨ha.il s hs, hb.il u hu⟩
theorem beg_asc {a b : Cmp} {na nb : Nat} (ha : COk a na) (hb : COk b nb) : Asc (begL a b) := by
  unfold Asc begL
  rw [List.pairwise_flatMap]
  refine ⟨fun s hs => ?_, (init_pair ha).imp fun {s s'} h => ?_⟩
  · rw [List.pairwise_map]
    exact (init_pair hb).imp fun {u u'} h => .inr ⟨rfl, h⟩
  · intro u hu v hv
    rw [List.mem_map] at hu hv
    obtain ⟨_, _, rfl⟩ := hu
    obtain ⟨_, _, rfl⟩ := hv
    exact .inl h
theorem asc_nodup {A : List E} (h : Asc A) : A.Nodup := by
  refine List.Pairwise.imp (fun {x y} h e => ?_) h
  subst e
  unfold ltB at h
  omega
theorem addAll_mem (A l : List E) (x : E) : x ∈ addAll A l ↔ x ∈ A ∨ x ∈ l := by
  induction l generalizing A with
  | nil => simp [addAll]
  | cons y l ih =>
    unfold addAll
    rw [ih]
    by_cases h : A.contains y = true
    · rw [if_pos h, List.mem_cons]
      constructor
      · rintro (h | h)
        · exact .inl h
        · exact .inr (.inr h)
      · rintro (h2 | rfl | h2)
        · exact .inl h2
        · exact .inl (List.contains_iff_mem.1 h)
        · exact .inr h2
    · rw [if_neg h, List.mem_append, List.mem_singleton, List.mem_cons, or_assoc]
theorem addAll_nodup (A l : List E) (h : A.Nodup) : (addAll A l).Nodup := by
  induction l generalizing A with
  | nil => exact h
  | cons y l ih =>
    unfold addAll
    by_cases hc : A.contains y = true
    · rw [if_pos hc]; exact ih A h
    · rw [if_neg hc]
      refine ih _ ?_
      rw [List.nodup_append]
      refine ⟨h, by simp, fun u hu v hv e => hc ?_⟩
      rw [List.mem_singleton] at hv
      subst hv
      subst e
      exact List.contains_iff_mem.2 hu
/-- What holds of the lists on the way. -/
structure IG (na nb : Nat) (A : List E) : Prop where
  nd : A.Nodup
  ir : ∀ x ∈ A, InR na nb x
theorem IG.len {na nb : Nat} {A : List E} (h : IG na nb A) : A.length ≤ na * nb := by
  have h1 : (A.map fun x : E => [x.1, x.2]).Nodup := by
    rw [List.nodup_iff_pairwise_ne, List.pairwise_map]
    refine List.Pairwise.imp (fun {x y} h e => h ?_) h.nd
    simp only [List.cons.injEq, and_true] at e
    exact Prod.ext e.1 e.2
  have h2 := nodup_le (u := allTo [na, nb]) h1 fun l hl => by
    rw [List.mem_map] at hl
    obtain ⟨x, hx, rfl⟩ := hl
    have hi := h.ir x hx
    refine allTo_mem rfl fun i g1 g2 => ?_
    match i, g1 with
    | 0, _ => exact hi.1
    | 1, _ => exact hi.2
  rw [List.length_map, allTo_len] at h2
  simpa using h2
theorem IG.add {a b : Cmp} {na nb : Nat} (ha : COk a na) (hb : COk b nb) {A : List E} (h : IG na nb A) (x : E) : IG na nb (addAll A (stepsL a b x)) :=
  ⟨addAll_nodup _ _ h.nd, fun y hy => by
    rcases (addAll_mem _ _ _).1 hy with h1 | h1
    · exact h.ir y h1
    · exact steps_in ha hb h1⟩
theorem IG.beg {a b : Cmp} {na nb : Nat} (ha : COk a na) (hb : COk b nb) : IG na nb (begL a b) := ⟨asc_nodup (beg_asc ha hb), fun x hx => beg_in ha hb hx⟩
theorem le100 {a b : Cmp} {na nb : Nat} (ha : COk a na) (hb : COk b nb) : na * nb ≤ 100 := Nat.le_trans (Nat.mul_le_mul ha.n10 hb.n10) (by decide)
end Go.D.StB
end
/- Seat 2: what Composed answers for right components. -/
section
set_option linter.unusedVariables false
set_option linter.unusedSimpArgs false
namespace Go.D.StB
open Go.D.Srt
theorem tp_agg (n : Nat) (σ : Store) (cs : List DV) : thawPart n σ (.agg cs) = (mapO (thaw n σ) cs).map .agg := rfl
theorem ta_tup (n : Nat) (σ : Store) (vs : List DV) : thawAll n σ (.tuple vs) = (mapO (thawPart n σ) vs).map .tuple := rfl
theorem cellV_ptr (P : Program) (t : TypeId) (r off : Nat) (σ : Store) : cellV P t (.ptr r off) σ = load P t (.ptr r off) σ := rfl
section
variable {a b : Cmp} {na nb : Nat} (ha : COk a na) (hb : COk b nb)
include ha hb
theorem S67c {x : E} (hx : InR na nb x) (σ : Store) : pureV CC 67 [.agg (eCmp a), .agg (eCmp b), val x] σ = some (.p (eBs (stepsL a b x))) := by
  have h1 := ha.o
  have h2 := hb.o
  have h3 := hx.1
  have h4 := hx.2
  exact S67 ha.m60 hb.m60 ⟨h3.1, by omega⟩ ⟨h4.1, by omega⟩ (steps_asc ha hb x)
theorem steps_len (x : E) : (stepsL a b x).length ≤ 100 := by
  have h : IG na nb (stepsL a b x) := ⟨asc_nodup (steps_asc ha hb x), fun y hy => steps_in ha hb hy⟩
  exact Nat.le_trans h.len (le100 ha hb)
end
end Go.D.StB
end
/- Seat 2: rules; what the search of both components does at a node. -/
section
set_option linter.unusedVariables false
set_option linter.unusedSimpArgs false
namespace Go.D.Ci
open Go.D.StB Go.D.Srt Go.D.RnG
structure Rle where
  A : Cmp
  B : Cmp
  aa : OW
  ga : OW
  ab : OW
  gb : OW
def eRule (x : Rle) : List DV := [.p (pI x.A.n), .p (eSl x.A.init), .p (eSl x.A.out), .p (eEs x.A.mv), .p (pI x.B.n), .p (eSl x.B.init), .p (eSl x.B.out), .p (eEs x.B.mv), .p (eWt x.aa), .p (eWt x.ga), .p (eWt x.ab), .p (eWt x.gb)]
theorem box_ru (x : Rle) : boxV (.agg (eRule x)) = some (eRule x) := rfl
theorem ru_view (x : Rle) : view (.agg (eRule x)) = .agg (eRule x) := by simp [view, viewCell, eRule, loosen_sl, loosen_es, loosen_wt, loosen]
theorem fa84_0 (x : DV) : fieldAddr PP 84 x 0 = shiftPtr x 0 := Eq.trans (by kernel_rfl) rfl
theorem fa84_1 (x : DV) : fieldAddr PP 84 x 1 = shiftPtr x 4 := Eq.trans (by kernel_rfl) rfl
theorem fa84_2 (x : DV) : fieldAddr PP 84 x 2 = shiftPtr x 8 := Eq.trans (by kernel_rfl) rfl
theorem fa84_3 (x : DV) : fieldAddr PP 84 x 3 = shiftPtr x 9 := Eq.trans (by kernel_rfl) rfl
theorem fa84_4 (x : DV) : fieldAddr PP 84 x 4 = shiftPtr x 10 := Eq.trans (by kernel_rfl) rfl
theorem fa84_5 (x : DV) : fieldAddr PP 84 x 5 = shiftPtr x 11 := Eq.trans (by kernel_rfl) rfl
theorem load84 (x : DV) (σ : Store) : load PP 84 x σ = (loadN σ 12 x).map .agg := Eq.trans (by kernel_rfl) rfl
theorem zero84 : zeroOf PP 84 = some [.p (pI 0), .p .nilsl, .p .nilsl, .p .nilsl, .p (pI 0), .p .nilsl, .p .nilsl, .p .nilsl, .p .nilsl, .p .nilsl, .p .nilsl, .p .nilsl] := Eq.trans (by kernel_rfl) rfl
theorem s84 : size? PP 84 = some 12 := Eq.trans (by kernel_rfl) rfl
section
variable {σ : Store} {r : Nat} {x : Rle} (h : σ[r]? = some (.mix (eRule x)))
include h
theorem ru_all : load PP 84 (.ptr r 0) σ = some (.agg (eRule x)) := by rw [load84, loadN_ptr (vs := eRule x) h rfl (by simp [eRule])]; rfl
theorem ru_A : load PP 25 (.ptr r 0) σ = some (.agg (eCmp x.A)) := by rw [load25, loadN_ptr (vs := eCmp x.A) h rfl (by simp [eRule])]; rfl
theorem ru_B : load PP 25 (.ptr r 4) σ = some (.agg (eCmp x.B)) := by rw [load25, loadN_ptr (vs := eCmp x.B) h rfl (by simp [eRule])]; rfl
theorem ru_oA : load PP 22 (.ptr r 2) σ = some (.p (eSl x.A.out)) := by rw [load22, load1_ptr h rfl]
theorem ru_oB : load PP 22 (.ptr r 6) σ = some (.p (eSl x.B.out)) := by rw [load22, load1_ptr h rfl]
theorem ru_aa : load PP 27 (.ptr r 8) σ = some (.p (eWt x.aa)) := by rw [load27v, load1_ptr h rfl]
theorem ru_ga : load PP 27 (.ptr r 9) σ = some (.p (eWt x.ga)) := by rw [load27v, load1_ptr h rfl]
theorem ru_ab : load PP 27 (.ptr r 10) σ = some (.p (eWt x.ab)) := by rw [load27v, load1_ptr h rfl]
theorem ru_gb : load PP 27 (.ptr r 11) σ = some (.p (eWt x.gb)) := by rw [load27v, load1_ptr h rfl]
end
structure ROk (x : Rle) (na nb : Nat) : Prop where
  A : COk x.A na
  B : COk x.B nb
  aa : WOk (wl x.aa) (wl x.aa).length
  ga : WOk (wl x.ga) (wl x.ga).length
  ab : WOk (wl x.ab) (wl x.ab).length
  gb : WOk (wl x.gb) (wl x.gb).length
def swp (p : Pr) : Pr := ⟨p.o, p.i⟩
def gpr (x : Rle) (n : List Int) : Pr := ⟨outC x.B (n.getD 1 0), outC x.A (n.getD 0 0)⟩
def gA (x : Rle) (n : List Int) : Int := nextW (wl x.ga) (n.getD 2 0) (gpr x n)
def gB (x : Rle) (n : List Int) : Int := nextW (wl x.gb) (n.getD 3 0) (swp (gpr x n))
def ndE (n : List Int) : E := (n.getD 0 0, n.getD 1 0)
def visGF (ga gb : Int) (p : List Int) : List E → List QE → Sum (List Int) (List QE)
  | [], q => .inr q
  | y :: ys, q => if ga = -1 ∨ gb = -1 then .inl (p ++ [y.1, y.2]) else visGF ga gb p ys (addN q [y.1, y.2, ga, gb] (p ++ [y.1, y.2]))
def visG (x : Rle) (y : QE) (q : List QE) : Sum (List Int) (List QE) := visGF (gA x y.n) (gB x y.n) y.p (stepsL x.A x.B (ndE y.n)) q
/-- Right nodes. -/
structure NOkG (na nb : Nat) (x : Rle) (l : List Int) : Prop where
  len : l.length = 4
  at0 : 0 ≤ l.getD 0 0 ∧ l.getD 0 0 < na
  at1 : 0 ≤ l.getD 1 0 ∧ l.getD 1 0 < nb
  a : 0 ≤ l.getD 2 0 ∧ l.getD 2 0 < ((wl x.ga).length : Nat)
  b : 0 ≤ l.getD 3 0 ∧ l.getD 3 0 < ((wl x.gb).length : Nat)
structure IQG (na nb : Nat) (x : Rle) (q : List QE) : Prop where
  nd : (q.map (·.n)).Nodup
  ok : ∀ y ∈ q, NOkG na nb x y.n
  pl : ∀ y ∈ q, y.p.length ≤ 2 * q.length
theorem IQG.add {na nb : Nat} {x : Rle} {q : List QE} {l p : List Int} (h : IQG na nb x q) (hn : NOkG na nb x l) (hp : p.length ≤ 2 * q.length + 2) : IQG na nb x (addN q l p) := by
  unfold addN
  split
  · exact h
  · rename_i hh
    have hh : ¬ ∃ x ∈ q, x.n = l := fun e => hh (hasN_mem.2 e)
    have hm : ∀ y ∈ q ++ [(⟨l, p⟩ : QE)], y ∈ q ∨ y = ⟨l, p⟩ := fun y hy => by simpa using hy
    refine ⟨?_, fun y hy => ?_, fun y hy => ?_⟩
    · rw [List.map_append, List.nodup_append]
      refine ⟨h.nd, by simp, fun a ha b hb => ?_⟩
      obtain ⟨x, hx, rfl⟩ := List.mem_map.1 ha
      have : b = l := by simpa using hb
      subst this
      exact fun e => hh ⟨x, hx, e⟩
    · rcases hm y hy with h1 | rfl
      · exact h.ok y h1
      · exact hn
    · rw [List.length_append]
      rcases hm y hy with h1 | rfl
      · have := h.pl y h1; simp; omega
      · simp; omega
theorem IQG.le {na nb : Nat} {x : Rle} {q : List QE} (hx : ROk x na nb) (h : IQG na nb x q) : q.length ≤ 3600 := by
  have h1 : (q.map (·.n)).length ≤ (allTo [10, 10, 6, 6]).length := by
    refine nodup_le h.nd fun l hl => ?_
    obtain ⟨y, hy, rfl⟩ := List.mem_map.1 hl
    have hk := h.ok y hy
    have h6 := hx.ga.n6
    have h7 := hx.gb.n6
    have h8 := hx.A.n10
    have h9 := hx.B.n10
    refine allTo_mem (by rw [hk.len]; rfl) fun i h1 h2 => ?_
    rw [← getD_at 0 h1]
    have hi : i < 4 := by rw [hk.len] at h1; exact h1
    match i, hi with
    | 0, _ => have := hk.at0; show _ ∧ _ < ((10 : Nat) : Int); omega
    | 1, _ => have := hk.at1; show _ ∧ _ < ((10 : Nat) : Int); omega
    | 2, _ => have := hk.a; show _ ∧ _ < ((6 : Nat) : Int); omega
    | 3, _ => have := hk.b; show _ ∧ _ < ((6 : Nat) : Int); omega
  rw [allTo_len, List.length_map] at h1
  exact h1
theorem outC_ltr {c : Cmp} {n : Nat} (hc : COk c n) {s : Int} (hs : 0 ≤ s ∧ s < n) : ltr (outC c s) = true := hc.ol s.toNat (by omega)
theorem gpr_ok {x : Rle} {na nb : Nat} (hx : ROk x na nb) {n : List Int} (hn : NOkG na nb x n) : badP (gpr x n) = false ∧ badP (swp (gpr x n)) = false := by
  have h1 := outC_ltr hx.A hn.at0
  have h2 := outC_ltr hx.B hn.at1
  simp only [badP, gpr, swp, h1, h2]
  exact ⟨rfl, rfl⟩
theorem fa149_0 (x : DV) : fieldAddr PP 149 x 0 = shiftPtr x 0 := Eq.trans (by kernel_rfl) rfl
theorem fa149_1 (x : DV) : fieldAddr PP 149 x 1 = shiftPtr x 2 := Eq.trans (by kernel_rfl) rfl
theorem fa149_2 (x : DV) : fieldAddr PP 149 x 2 = shiftPtr x 3 := Eq.trans (by kernel_rfl) rfl
theorem bld149 (a b c d : Int) : build PP 149 [(0, val (a, b)), (1, .p (pI c)), (2, .p (pI d))] = some (.agg (nodeD [a, b, c, d])) := Eq.trans (by kernel_rfl) rfl
theorem s149 : size? PP 149 = some 4 := Eq.trans (by kernel_rfl) rfl
theorem zero149 : zeroOf PP 149 = some (nodeD [0, 0, 0, 0]) := Eq.trans (by kernel_rfl) rfl
theorem nodeG_at {n : List Int} {i : Nat} (hi : i < n.length) : (nodeD n)[i]? = some (.p (pI (n.getD i 0))) := by
  simp only [nodeD, List.getElem?_map]
  rw [List.getElem?_eq_getElem hi, getD_at 0 hi]
  rfl
section
variable {σ0 : Store} {na nb : Nat} {x : Rle} (hx : ROk x na nb)
include hx
theorem L98_0 {y : QE} {m s to b : Nat} {ga gb : Int} {q0 : List QE} {ys : List E} (hn : y.n.length = 4) (hbs : b ≠ s) (hpl : y.p.length ≤ 2 * q0.length) (hys : ∀ e ∈ ys, InR na nb e) (hyl : ys.length ≤ 100)
    (hga : ga ≠ -1 → 0 ≤ ga ∧ ga < ((wl x.ga).length : Nat)) (hgb : gb ≠ -1 → 0 ≤ gb ∧ gb < ((wl x.gb).length : Nat)) :
    ∀ (d k : Nat) (σ : Store) (q : List QE), ys.length - k = d → k ≤ ys.length → SS σ0 σ m s q to → IQG na nb x q → q0 <+: q → σ[b]? = some (.mix (qeD y)) →
    ∃ v σ', f98_L0 guardT σ0.length (.ptr s 0) (.ptr b 0) (.p (.int .i64 ga)) (.p (.int .i64 gb)) (.p (eBs ys)) (N ys.length) (N k) σ = some (v, σ') ∧
      ((∃ p, visGF ga gb y.p (ys.drop k) q = .inl p ∧ p ≠ [] ∧ ∃ a u, v = .osl a u 1 p.length (eInts p)) ∨ (∃ q', visGF ga gb y.p (ys.drop k) q = .inr q' ∧ v = .p .nilsl ∧ SS σ0 σ' m s q' to ∧ IQG na nb x q' ∧ q0 <+: q'))
  | 0, k, σ, q, hk, hkl, hS, hI, hpre, hb => by
    refine ⟨.p .nilsl, σ, ?_, .inr ⟨q, by rw [List.drop_of_length_le (by omega)]; rfl, rfl, hS, hI, hpre⟩⟩
    rw [f98_L0_eq guardT rfl]
    simp (disch := omega) only [N, b_lss, ltF, gG]
  | d + 1, k, σ, q, hk, hkl, hS, hI, hpre, hb => by
    have hkk : k < ys.length := by omega
    have hql := hI.le hx
    have hlle := hS.lle
    have hpq : y.p.length ≤ 2 * q.length := Nat.le_trans hpl (Nat.mul_le_mul_left 2 hpre.length_le)
    have e0 : ys.drop k = ge ys k :: ys.drop (k + 1) := by
      rw [ge_at hkk]; exact List.drop_eq_getElem_cons hkk
    have her : InR na nb (ge ys k) := by rw [ge_at hkk]; exact hys _ (List.getElem_mem hkk)
    rw [e0]
    have hsn := stNew (lo := σ0.length) (σ := σ) (ge ys k) hlle
    have gE : (σ ++ [Row.mix (cel (ge ys k))])[σ.length]? = some (.mix (cel (ge ys k))) := get_snoc
    have gb1 : (σ ++ [Row.mix (cel (ge ys k))])[b]? = some (.mix (qeD y)) := get_old hb
    have hS1 := hS.snoc (.mix (cel (ge ys k)))
    have hldB := fun σ' => ldB hkk σ'
    have hlen1 : (σ ++ [Row.mix (cel (ge ys k))]).length = σ.length + 1 := by simp
    generalize hE : ge ys k = e at *
    generalize hρ : σ ++ [Row.mix (cel e)] = ρ at *
    have lb4 : load1 (.ptr b 4) ρ = some (.p (ePth y.p)) := load1_ptr gb1 (by
      have e : (nodeD y.n).length = 4 := by rw [nodeD_len, hn]
      rw [qeD, List.getElem?_append_right (by omega), e]; rfl)
    obtain ⟨v1, σ3, ver, c1, cx, c2⟩ := clone_app (p := y.p) (l2 := [e.1, e.2]) (n := 2) (lo := σ0.length) (lo1 := ρ.length) (σ := ρ) (by omega) rfl (by decide) (by decide) hS1.lle
    have gE3 := cx _ _ gE
    have hS4 := hS1.snoc (.tok ver)
    have gE4 : (ρ ++ [Row.tok ver])[σ.length]? = some (.mix (cel e)) := get_old gE
    have gb4 : (ρ ++ [Row.tok ver])[b]? = some (.mix (qeD y)) := get_old gb1
    have lE : load PP 120 (.ptr σ.length 0) (ρ ++ [Row.tok ver]) = some (val e) := by
      rw [loadE, loadN_ptr (vs := cel e) gE4 rfl (by simp [cel])]; rfl
    unfold visGF
    by_cases hbr : ga = -1 ∨ gb = -1
    · rw [if_pos hbr]
      refine ⟨.osl ρ.length ver 1 (y.p ++ [e.1, e.2]).length (eInts (y.p ++ [e.1, e.2])), ρ ++ [.tok ver], ?_, .inl ⟨_, rfl, by simp, _, _, rfl⟩⟩
      rw [f98_L0_eq guardT rfl]
      by_cases h1 : ga = -1
      · simp (disch := omega) only [N, b_lss, ltT, gG, idxB hkk, hldB, zeroB, hsn, hρ, faF1, shift_ptr, shift_pptr, Nat.zero_add, Nat.add_zero, pureFn_fn, List.append_nil, List.singleton_append, List.cons_append, List.nil_append, load22, lb4, c1, fa120_0, fa120_1, load3, ld120_0 gE3, ld120_1 gE3, bs22_2v, c2, b_eql, eqT h1]
      · have h2 : gb = -1 := by rcases hbr with h | h; exact absurd h h1; exact h
        simp (disch := omega) only [N, b_lss, ltT, gG, idxB hkk, hldB, zeroB, hsn, hρ, faF1, shift_ptr, shift_pptr, Nat.zero_add, Nat.add_zero, pureFn_fn, List.append_nil, List.singleton_append, List.cons_append, List.nil_append, load22, lb4, c1, fa120_0, fa120_1, load3, ld120_0 gE3, ld120_1 gE3, bs22_2v, c2, b_eql, eqF h1, eqT h2]
    · rw [if_neg hbr]
      have h1 : ga ≠ -1 := fun h => hbr (.inl h)
      have h2 : gb ≠ -1 := fun h => hbr (.inr h)
      have hne : y.p ++ [e.1, e.2] ≠ [] := by simp
      obtain ⟨υ, a1, a2, a3⟩ := add_ok hS4 (n := [e.1, e.2, ga, gb]) rfl (p := y.p ++ [e.1, e.2]) (x := .osl ρ.length ver 1 (y.p ++ [e.1, e.2]).length (eInts (y.p ++ [e.1, e.2]))) (.inr ⟨hne, _, _, rfl⟩) (by omega)
      have hI2 : IQG na nb x (addN q [e.1, e.2, ga, gb] (y.p ++ [e.1, e.2])) := hI.add ⟨rfl, her.1, her.2, hga h1, hgb h2⟩ (by simp; omega)
      obtain ⟨v, σ'', f1, f2⟩ := L98_0 hn hbs hpl hys hyl hga hgb d (k + 1) υ _ (by omega) (by omega) a2 hI2 (hpre.trans (addN_pre _ _ _)) (a3 b _ hbs gb4)
      refine ⟨v, σ'', ?_, f2⟩
      have hbld := bld149 e.1 e.2 ga gb
      have hbld : build PP 149 [(0, val e), (1, .p (pI ga)), (2, .p (pI gb))] = some (.agg (nodeD [e.1, e.2, ga, gb])) := hbld
      rw [f98_L0_eq guardT rfl]
      simp (disch := omega) only [N, b_lss, ltT, gG, idxB hkk, hldB, zeroB, hsn, hρ, faF1, shift_ptr, shift_pptr, Nat.zero_add, Nat.add_zero, pureFn_fn, List.append_nil, List.singleton_append, List.cons_append, List.nil_append, load22, lb4, c1, fa120_0, fa120_1, load3, ld120_0 gE3, ld120_1 gE3, bs22_2v, c2, b_eql, eqF h1, eqF h2, lE, hbld, a1, add1]
      exact f1
theorem hv98 {rr : Nat} (hr : σ0[rr]? = some (.mix (eRule x))) : HV σ0 98 [.ptr rr 0] (visG x) (IQG na nb x) := by
  intro σ q i to y m s hS hI hy hi
  have hm := List.mem_of_getElem? hy
  have hyn := hI.ok y hm
  have hsl : s < σ.length := by obtain ⟨lay, e, _⟩ := hS.st; exact get_lt e
  have hlle := hS.lle
  obtain ⟨hp1, hp2⟩ := gpr_ok hx hyn
  have hn4 := hyn.len
  have i0 : (nodeD y.n)[0]? = some (.p (pI (y.n.getD 0 0))) := nodeG_at (by omega)
  have i1 : (nodeD y.n)[1]? = some (.p (pI (y.n.getD 1 0))) := nodeG_at (by omega)
  have i2 : (nodeD y.n)[2]? = some (.p (pI (y.n.getD 2 0))) := nodeG_at (by omega)
  have i3 : (nodeD y.n)[3]? = some (.p (pI (y.n.getD 3 0))) := nodeG_at (by omega)
  have hin : InR na nb (ndE y.n) := ⟨hyn.at0, hyn.at1⟩
  have hoA : (y.n.getD 0 0).toNat < (L x.A.out).length := by have := hx.A.o; have := hyn.at0; omega
  have hoB : (y.n.getD 1 0).toNat < (L x.B.out).length := by have := hx.B.o; have := hyn.at1; omega
  have S1 := hS.snoc (.mix (qeD y))
  have S2 := S1.snoc (.mix (nodeD y.n))
  have S3 := S2.snoc (.mix (prD (gpr x y.n)))
  have g1 : (σ ++ [Row.mix (qeD y)])[σ.length]? = some (.mix (qeD y)) := get_snoc
  have hl1 : loadN (σ ++ [Row.mix (qeD y)]) 4 (.ptr σ.length 0) = some (nodeD y.n) := loadN_ptr g1 (by
    have e : (nodeD y.n).length = 4 := by rw [nodeD_len, hn4]
    rw [List.drop_zero, qeD, List.take_append_of_le_length (by omega), List.take_of_length_le (by omega)]) (by simp [qeD, nodeD_len, hn4])
  have n1 := storeNew (lo := σ0.length) (cs := nodeD y.n) (z := nodeD [0, 0, 0, 0]) s149 (σ ++ [Row.mix (qeD y)]) rfl (by rw [nodeD_len, hn4]) (nodeD_one _) S1.lle
  have g2 : ((σ ++ [Row.mix (qeD y)]) ++ [Row.mix (nodeD y.n)])[(σ ++ [Row.mix (qeD y)]).length]? = some (.mix (nodeD y.n)) := get_snoc
  have r2 := S2.low _ _ hr
  have hbld : build PP 98 [(0, .p (pI ((L x.B.out).getD (y.n.getD 1 0).toNat 0))), (1, .p (pI ((L x.A.out).getD (y.n.getD 0 0).toNat 0)))] = some (.agg (prD (gpr x y.n))) := bld98 _ _
  have n2 := storeNew (lo := σ0.length) (cs := prD (gpr x y.n)) (z := [.p (pI 0), .p (pI 0)]) s98 ((σ ++ [Row.mix (qeD y)]) ++ [Row.mix (nodeD y.n)]) rfl rfl rfl S2.lle
  have g3 : (((σ ++ [Row.mix (qeD y)]) ++ [Row.mix (nodeD y.n)]) ++ [Row.mix (prD (gpr x y.n))])[((σ ++ [Row.mix (qeD y)]) ++ [Row.mix (nodeD y.n)]).length]? = some (.mix (prD (gpr x y.n))) := get_snoc
  have g2' := get_old (r := .mix (prD (gpr x y.n))) g2
  have r3 := S3.low _ _ hr
  have hbs : σ.length ≠ s := by omega
  have hb3 : (((σ ++ [Row.mix (qeD y)]) ++ [Row.mix (nodeD y.n)]) ++ [Row.mix (prD (gpr x y.n))])[σ.length]? = some (.mix (qeD y)) := get_old (get_old g1)
  generalize hZ1 : (σ ++ [Row.mix (qeD y)]).length = z1 at *
  generalize hZ2 : ((σ ++ [Row.mix (qeD y)]) ++ [Row.mix (nodeD y.n)]).length = z2 at *
  generalize hσ3 : ((σ ++ [Row.mix (qeD y)]) ++ [Row.mix (nodeD y.n)]) ++ [Row.mix (prD (gpr x y.n))] = σ3 at *
  generalize hσ2 : (σ ++ [Row.mix (qeD y)]) ++ [Row.mix (nodeD y.n)] = σ2 at *
  have hpl2 : loadN σ3 2 (.ptr z2 0) = some (prD (gpr x y.n)) := loadN_ptr g3 rfl (by simp [prD])
  have hp0 : load1 (.ptr z2 0) σ3 = some (.p (pI (gpr x y.n).i)) := load1_ptr g3 rfl
  have hp1' : load1 (.ptr z2 1) σ3 = some (.p (pI (gpr x y.n).o)) := load1_ptr g3 rfl
  have hbld2 : build PP 98 [(0, .p (pI (gpr x y.n).o)), (1, .p (pI (gpr x y.n).i))] = some (.agg (prD (swp (gpr x y.n)))) := bld98 _ _
  have hA := S94 (σ := σ3) hx.ga hyn.a hp1
  have hB := S94 (σ := σ3) hx.gb hyn.b hp2
  have l120 : load PP 120 (.ptr z1 0) σ3 = some (val (ndE y.n)) := by
    rw [loadE, loadN_ptr (vs := cel (ndE y.n)) g2' ?_ (by rw [nodeD_len, hn4]; decide)]; rfl
    obtain ⟨a, b, c, d, hh⟩ := len4 hn4
    rw [hh]; rfl
  have h67 := S67c hx.A hx.B hin σ3
  obtain ⟨v, σ', e1, e2⟩ := L98_0 hx (q0 := q) (y := y) (b := σ.length) (s := s) (ga := gA x y.n) (gb := gB x y.n) (ys := stepsL x.A x.B (ndE y.n)) hn4 hbs (hI.pl y hm) (fun e he => steps_in hx.A hx.B he) (steps_len hx.A hx.B _)
    (fun h => next_rng hx.ga hyn.a hp1 h) (fun h => next_rng hx.gb hyn.b hp2 h) _ 0 σ3 q (Nat.sub_zero _) (Nat.zero_le _) S3 hI (List.prefix_refl _) hb3
  refine ⟨v, σ', ?_, e2⟩
  show CC σ0.length 98 ([.ptr s 0, .agg (qeD y)] ++ [.ptr rr 0]) σ = _
  refine F98_call ?_
  rw [F98_eq]
  simp only [box_agg (qeD_one y), gG, faF0, shift_ptr, shift_pptr, Nat.zero_add, Nat.add_zero, pureFn_fn, List.append_nil, List.singleton_append, List.cons_append, List.nil_append, loadN', hl1, Option.map_some, zero149, hZ1, n1, hσ2, fa84_0, fa84_1, fa84_3, fa84_5, fa25_2, Nat.reduceAdd, ru_oB r2, ru_oA r2, fa149_0, fa149_1, fa149_2, fa120_0, fa120_1, load3, load1_ptr (off := 0) g2 i0, load1_ptr (off := 1) g2 i1, idx22i hyn.at0.1 hoA, idx22i hyn.at1.1 hoB, load1_getD hoA, load1_getD hoB, hbld, zero98, hZ2, n2, hσ3,
    ru_ga r3, ru_gb r3, load1_ptr (off := 2) g2' i2, load1_ptr (off := 3) g2' i3, fa98_0, fa98_1, load98, hpl2, hp0, hp1', hbld2, hA, hB, ru_A r3, ru_B r3, l120, h67, len116]
  exact e1
end
end Go.D.Ci
end
/- What a call's arguments are, as values of D: rules. -/
section
set_option linter.unusedVariables false
set_option linter.unusedSimpArgs false
set_option maxRecDepth 100000
namespace Go.D
open Go.ChangeShapes Go.WideShapes Go.ChangeAt Go.RowKit
theorem u23r : PP.underlying 23 = some (.slice 106) := Eq.trans (by kernel_rfl) rfl
theorem dec106 {a : List PV} (h : Plain PP 106 a) : ∃ e : Edg, a = [pI e.f, pI e.t, pI e.a] := by
  have h1 := h.inv_struct Go.Proofs.Try.underlying106
  obtain ⟨a1, b1, h2, h3, rfl⟩ := PlainL.inv_cons h1
  obtain ⟨a2, b2, h4, h5, rfl⟩ := PlainL.inv_cons h3
  obtain ⟨a3, b3, h6, h7, rfl⟩ := PlainL.inv_cons h5
  obtain ⟨x, rfl⟩ := dec3 h2
  obtain ⟨y, rfl⟩ := dec3 h4
  obtain ⟨z, rfl⟩ := dec3 h6
  obtain rfl := PlainL.inv_nil h7
  exact ⟨⟨x, y, z⟩, rfl⟩
theorem flat106 (l : List Edg) : l.flatMap (fun e => [pI e.f, pI e.t, pI e.a]) = eEdgs l := by
  induction l with
  | nil => rfl
  | cons a l ih => simp [ih, eEdgs]
theorem dec23 {a : List PV} (h : Plain PP 23 a) : ∃ o, a = [eEs o] := by
  rcases h.inv_slice u23r with rfl | ⟨n, xs, hx, rfl⟩
  · exact ⟨none, rfl⟩
  · obtain ⟨l, rfl, rfl⟩ := hx.inv_rep (f := fun e : Edg => [pI e.f, pI e.t, pI e.a]) fun a ha => dec106 ha
    exact ⟨some l, by rw [flat106]; rfl⟩
theorem dec25 {a : List PV} (h : Plain PP 25 a) : ∃ c : Cmp, a = [pI c.n, eSl c.init, eSl c.out, eEs c.mv] := by
  have h1 := h.inv_struct Go.Proofs.Try.underlying25
  obtain ⟨a1, b1, h2, h3, rfl⟩ := PlainL.inv_cons h1
  obtain ⟨a2, b2, h4, h5, rfl⟩ := PlainL.inv_cons h3
  obtain ⟨a3, b3, h6, h7, rfl⟩ := PlainL.inv_cons h5
  obtain ⟨a4, b4, h8, h9, rfl⟩ := PlainL.inv_cons h7
  obtain ⟨x, rfl⟩ := dec3 h2
  obtain ⟨y, rfl⟩ := dec22 h4
  obtain ⟨z, rfl⟩ := dec22 h6
  obtain ⟨w, rfl⟩ := dec23 h8
  obtain rfl := PlainL.inv_nil h9
  exact ⟨⟨x, y, z, w⟩, rfl⟩
theorem read_ru {H : Type} {enc : TypeId × Value → H} {W : World} {hd : Bool} {r : Reach} {b0 : Nat} {v : Value} {d : DataW H} {ps : List MemPlace} (hok : Value.okWide PP W r b0 84 v) (h : DataW.Trod enc PP W 0 (fun _ => true) hd 84 v d ps) : ∃ x : Ci.Rle, VRel (fun _ _ => none) (memOf W) (.agg (Ci.eRule x)) v := by
  obtain ⟨c, h1, h2⟩ := read_struct 12 Go.Proofs.Try.underlying84 (by kernel_rfl) hok h
  have h3 := h1.inv_struct Go.Proofs.Try.underlying84
  obtain ⟨a1, b1, k1, h5, rfl⟩ := PlainL.inv_cons h3
  obtain ⟨a2, b2, k2, h7, rfl⟩ := PlainL.inv_cons h5
  obtain ⟨a3, b3, k3, h9, rfl⟩ := PlainL.inv_cons h7
  obtain ⟨a4, b4, k4, h11, rfl⟩ := PlainL.inv_cons h9
  obtain ⟨a5, b5, k5, h13, rfl⟩ := PlainL.inv_cons h11
  obtain ⟨a6, b6, k6, h15, rfl⟩ := PlainL.inv_cons h13
  obtain ⟨x, rfl⟩ := dec25 k1
  obtain ⟨y, rfl⟩ := dec25 k2
  obtain ⟨p, rfl⟩ := dec27 k3
  obtain ⟨q, rfl⟩ := dec27 k4
  obtain ⟨s, rfl⟩ := dec27 k5
  obtain ⟨t, rfl⟩ := dec27 k6
  obtain rfl := PlainL.inv_nil h15
  exact ⟨⟨x, y, p, q, s, t⟩, h2⟩
end Go.D
end
/- Seat 2: Composed, joined. -/
section
set_option linter.unusedVariables false
set_option linter.unusedSimpArgs false
namespace Go.D.StB
open Go.D.Srt
theorem b_neq' (t : TypeId) (x y : Int) : binOp PP .neq t (.p (.int .i64 x)) (.p (.int .i64 y)) = some (.p (.bool (!decide (x = y)))) := b_neq _ _ _ _
section
variable {a b : Cmp} {na nb : Nat} (ha : COk a na) (hb : COk b nb)
include ha hb
end
end Go.D.StB
end
/- Seat 2: the error of a rule; what BrokenIn answers if no path breaks a guarantee. -/
section
set_option linter.unusedVariables false
set_option linter.unusedSimpArgs false
namespace Go.D.Ci
open Go.D.StB Go.D.Srt Go.D.RnG
structure RSl (x : Rle) : Prop where
  A : CSm x.A
  B : CSm x.B
  aa : WSm x.aa
  ga : WSm x.ga
  ab : WSm x.ab
  gb : WSm x.gb
def ruL (x : Rle) : List Int := [cmpE x.A, wchE (wl x.aa), wchE (wl x.ga), cmpE x.B, wchE (wl x.ab), wchE (wl x.gb)]
def ruE (x : Rle) : Int := orL (ruL x)
theorem rok_of {x : Rle} (h : RSl x) (h0 : ruE x = 0) : ROk x x.A.n.toNat x.B.n.toNat := by
  have hz := fun a (ha : a ∈ ruL x) => orL_zero h0 a ha
  exact ⟨cok_of h.A (hz _ (by simp [ruL])), cok_of h.B (hz _ (by simp [ruL])), wok_of (hz _ (by simp [ruL])), wok_of (hz _ (by simp [ruL])), wok_of (hz _ (by simp [ruL])), wok_of (hz _ (by simp [ruL]))⟩
theorem bs160_6 (a b c d e f : Int) (σ : Store) : buildSlice PP none 160 6 [(0, .p (pI a)), (1, .p (pI b)), (2, .p (pI c)), (3, .p (pI d)), (4, .p (pI e)), (5, .p (pI f))] σ = some (.p (.sl true 6 (eInts [a, b, c, d, e, f])), σ) := Eq.trans (by kernel_rfl) rfl
theorem S96 {x : Rle} {σ : Store} (h : RSl x) : pureV CC 96 [.agg (eRule x)] σ = some (.p (pI (ruE x))) := by
  have g0 : ([Row.mix (eRule x)] : Store)[0]? = some (.mix (eRule x)) := rfl
  refine pureV_free (by simp [ru_view]) rfl (F96_call (r := (.p (pI (ruE x)), [.mix (eRule x)])) ?_) rfl
  rw [F96_eq]
  have h52 : ∀ σ, pureV CC 52 [.p (.sl true 6 (eInts (ruL x)))] σ = some (.p (pI (ruE x))) := fun σ => S52t rfl (by simp [ruL])
  unfold ruL at h52
  simp only [box_ru, gG, List.length_nil, List.nil_append, fa84_0, fa84_1, fa84_2, fa84_3, fa84_4, fa84_5, shift_ptr, shift_pptr, Nat.zero_add, Nat.add_zero, pureFn_fn, List.append_nil, List.singleton_append, List.cons_append, List.nil_append, ru_A g0, ru_B g0, ru_aa g0, ru_ga g0, ru_ab g0, ru_gb g0, S29 h.A, S29 h.B, S33 h.aa, S33 h.ga, S33 h.ab, S33 h.gb, bs160_6, h52]
def begQ (x : Rle) : List QE := (begL x.A x.B).map fun e => ⟨[e.1, e.2, 0, 0], [e.1, e.2]⟩
def brRes (x : Rle) : Option (List Int) := bfsQ (visG x) 3601 0 (begQ x)
def begCG (l : List E) : List PV := l.flatMap fun e => eInts [e.1, e.2, 0, 0] ++ [.sl true 2 (eInts [e.1, e.2])]
theorem begCG_loosen : ∀ l : List E, loosens (begCG l) = qsP (l.map fun e => ⟨[e.1, e.2, 0, 0], [e.1, e.2]⟩)
  | [] => rfl
  | s :: l => by
    show loosens ((eInts [s.1, s.2, 0, 0] ++ [.sl true 2 (eInts [s.1, s.2])]) ++ begCG l) = qeP ⟨[s.1, s.2, 0, 0], [s.1, s.2]⟩ ++ qsP (l.map fun e => ⟨[e.1, e.2, 0, 0], [e.1, e.2]⟩)
    rw [loosens_app, loosens_app, loosens_ints, begCG_loosen l]
    simp [loosens, loosen, qeP, ePth, loosens_ints, eInts]
theorem begQ_nodup {x : Rle} {na nb : Nat} (hx : ROk x na nb) : ((begQ x).map (·.n)).Nodup := by
  have e : (begQ x).map (·.n) = (begL x.A x.B).map fun e => [e.1, e.2, 0, 0] := by simp [begQ]
  rw [e]
  exact (IG.beg hx.A hx.B).nd.map _ fun a b hab e => hab (by
    simp only [List.cons.injEq, and_true] at e
    exact Prod.ext e.1 e.2)
theorem nok0G {x : Rle} {na nb : Nat} (hx : ROk x na nb) {e : E} (he : e ∈ begL x.A x.B) : NOkG na nb x [e.1, e.2, 0, 0] := by
  have h1 := hx.ga.n1
  have h2 := hx.gb.n1
  have h3 := beg_in hx.A hx.B he
  refine ⟨rfl, h3.1, h3.2, ?_, ?_⟩
  · show (0 : Int) ≤ 0 ∧ (0 : Int) < _; omega
  · show (0 : Int) ≤ 0 ∧ (0 : Int) < _; omega
theorem iqg0 {x : Rle} {na nb : Nat} (hx : ROk x na nb) : IQG na nb x (begQ x) := by
  refine ⟨begQ_nodup hx, fun y hy => ?_, fun y hy => ?_⟩
  · obtain ⟨e, he, rfl⟩ := List.mem_map.1 hy
    exact nok0G hx he
  · have := List.length_pos_of_mem hy
    obtain ⟨e, he, rfl⟩ := List.mem_map.1 hy
    simp only [List.length_cons, List.length_nil]
    omega
theorem bld149a (a b : Int) : build PP 149 [(0, val (a, b))] = some (.agg (nodeD [a, b, 0, 0])) := Eq.trans (by kernel_rfl) rfl
theorem L47 {B : List E} (hB : B.length ≤ 1000) (x1 : DV) : ∀ (d i : Nat) (y : DV) (σ : Store), B.length - i = d → i ≤ B.length → Out σ 0 5 i (begCG (B.take i)) y →
    ∃ y' σ', f47_L0 guardT 0 x1 y (.p (eBs B)) (N B.length) (N i) σ = f47_L0 guardT 0 x1 y' (.p (eBs B)) (N B.length) (N B.length) σ' ∧ Out σ' 0 5 B.length (begCG B) y' ∧ ∀ (j : Nat) (row : Row), (∀ v, row ≠ .tok v) → σ[j]? = some row → σ'[j]? = some row
  | 0, i, y, σ, hd, hi, ho => by
    have : i = B.length := by omega
    subst this
    rw [List.take_length] at ho
    exact ⟨y, σ, rfl, ho, fun _ _ _ h => h⟩
  | d + 1, i, y, σ, hd, hi, ho => by
    have h : i < B.length := by omega
    have hsn := stNew (lo := 0) (σ := σ) (ge B i) (Nat.zero_le _)
    have gE : (σ ++ [Row.mix (cel (ge B i))])[σ.length]? = some (.mix (cel (ge B i))) := get_snoc
    have hldB := fun σ' => ldB h σ'
    have lE : load PP 120 (.ptr σ.length 0) (σ ++ [Row.mix (cel (ge B i))]) = some (val (ge B i)) := by
      rw [loadE, loadN_ptr (vs := cel (ge B i)) gE rfl (by simp [cel])]; rfl
    have ho2 := ho.snoc (r := .mix (cel (ge B i)))
    obtain ⟨y', σ', e1, o1, t1, _⟩ := Out.pushF (vs := eInts [(ge B i).1, (ge B i).2, 0, 0] ++ [.sl true 2 (eInts [(ge B i).1, (ge B i).2])]) srcS uS sF bytesF zeroF (by simp [nodeD]) (by decide) (by decide) (by decide) rfl ho2 (by omega) (Nat.zero_le _)
    have e2 : begCG (B.take (i + 1)) = begCG (B.take i) ++ (eInts [(ge B i).1, (ge B i).2, 0, 0] ++ [.sl true 2 (eInts [(ge B i).1, (ge B i).2])]) := by
      rw [List.take_succ_eq_append_getElem h, ge_at h]
      simp only [begCG, List.flatMap_append, List.flatMap_cons, List.flatMap_nil, List.append_nil]
    rw [← e2] at o1
    obtain ⟨y'', σ'', f1, f2, f3⟩ := L47 hB x1 d (i + 1) y' σ' (by omega) (by omega) o1
    refine ⟨y'', σ'', Eq.trans ?_ f1, f2, fun j row hj e => f3 j row hj (t1 j row (get_old e) fun r ver sz n cs ex => ?_)⟩
    · have hbld : build PP 149 [(0, val (ge B i))] = some (.agg (nodeD [(ge B i).1, (ge B i).2, 0, 0])) := bld149a _ _
      rw [f47_L0_eq guardT rfl]
      simp (disch := omega) only [N, b_lss, ltT, gG, idxB h, hldB, zeroB, hsn, lE, hbld, fa120_0, fa120_1, shift_ptr, shift_pptr, Nat.zero_add, Nat.add_zero, pureFn_fn, List.append_nil, List.singleton_append, List.cons_append, List.nil_append, load3, ld120_0 gE, ld120_1 gE, bs22_2v, bldFp, bsp, e1, add1]
    · rintro rfl
      rcases ho2.2 with ⟨_, hz⟩ | ⟨_, r2, ver2, e3, e4, _⟩
      · rw [hz] at ex; exact absurd ex (by simp)
      · rw [ex] at e3
        injection e3 with e5
        rw [← e5, get_old e] at e4
        injection e4 with e4
        exact hj ver2 e4
theorem S47n {x : Rle} {na nb : Nat} {σ : Store} (hs : RSl x) (h0 : ruE x = 0) (hx : ROk x na nb) (hn : brRes x = none) : pureV CC 47 [.agg (eRule x)] σ = some (.tuple [.p .nilsl, .p (pI 25)]) := by
  have hbl : (begL x.A x.B).length ≤ 100 := Nat.le_trans (IG.beg hx.A hx.B).len (le100 hx.A hx.B)
  have hq : (begQ x).foldl addE [] = begQ x := by
    have := addE_fold (begQ x) [] (by simpa using begQ_nodup hx)
    simpa using this
  have hF : ∃ σ', F47 guardT 0 (.agg (eRule x)) [] = some (.tuple [.p .nilsl, .p (pI 25)], σ') := by
    rw [F47_eq]
    simp only [box_ru, gG, List.nil_append, List.length_nil]
    generalize hσ : ([.mix (eRule x)] : Store) = τ
    have t0 : τ[0]? = some (.mix (eRule x)) := by rw [← hσ]; rfl
    obtain ⟨y, σ1, e1, o1, k1⟩ := L47 (B := begL x.A x.B) (by omega) (.ptr 0 0) _ 0 (.p .nilsl) τ rfl (Nat.zero_le _) Out.zero
    have u0 := k1 0 _ (fun v => by simp) t0
    have hrun : pureFn CC (.fn 97 []) [y, .fn 98 [.ptr 0 0]] σ1 = some (.p .nilsl) := by
      show pureV CC 97 ([y, .fn 98 [.ptr 0 0]] ++ []) σ1 = _
      rw [List.append_nil]
      by_cases h0 : (begL x.A x.B).length = 0
      · have hy : y = .p .nilsl := by
          rcases o1.2 with ⟨_, h⟩ | ⟨h, _⟩
          · exact h
          · exact absurd h0 h
        rw [hy]
        exact run_nil rfl
      · have hvw := o1.vw
        rw [if_neg h0, begCG_loosen] at hvw
        have hlen : (begQ x).length = (begL x.A x.B).length := by simp [begQ]
        rw [← hlen] at hvw
        have hvw : view y = .p (.sl false (begQ x).length (qsP (begQ x))) := hvw
        rw [pureV_view (args' := [.p (.sl false (begQ x).length (qsP (begQ x))), .fn 98 [.ptr 0 0]]) (by simp only [List.map_cons, List.map_nil, hvw, fn_view]) (by simp [view, viewCell, loosen, loosens_qs])]
        have := run_ok (hv98 hx u0) (fun q hq => hq.le hx) (by decide) (bq := begQ x) (fun y hy => by obtain ⟨s, _, rfl⟩ := List.mem_map.1 hy; rfl) (by rw [hlen]; omega) (by rw [hq]; exact iqg0 hx) rfl
        rw [hq] at this
        have hn : bfsQ (visG x) (3600 + 1) 0 (begQ x) = none := hn
        rw [hn] at this
        exact this
    have hst : f47_L0 guardT 0 (.ptr 0 0) (.p .nilsl) (.p (eBs (begL x.A x.B))) (N (begL x.A x.B).length) (.p (.int .i64 0)) τ = _ := e1
    refine ⟨σ1, ?_⟩
    have h65 := fun σ => S65 (a := x.A) (b := x.B) (σ := σ) hx.A.sm.i hx.B.sm.i
    simp only [ru_all t0, pureFn_fn, List.append_nil, S96 hs, b_neq', eqT h0, gG, fa84_0, fa84_1, shift_ptr, shift_pptr, Nat.zero_add, Nat.add_zero, pureFn_fn, List.append_nil, List.singleton_append, List.cons_append, List.nil_append, ru_A t0, ru_B t0, h65, len116]
    rw [hst, f47_L0_eq guardT rfl]
    simp (disch := omega) only [N, b_lss, ltF, gG, hrun, eq22_nn]
  obtain ⟨σ', h1⟩ := hF
  exact pureV_free (by simp [ru_view]) rfl (F47_call h1) rfl
end Go.D.Ci
end
/- Equations of functions 24, 25, 26, 76, 77, 113, 114, 115, 5, printed by gen.py. -/
section
set_option linter.unusedVariables false
set_option maxRecDepth 10000
namespace Go.D
open _root_.Go.D.Code (fstC sndC)
open _root_.Go.D.Ann (left right)
noncomputable def c76_0 : Code := bodyOf Go.Proofs.Try.f76
noncomputable def a76_0 : Ann := (pol 76).ann
noncomputable def a76_9 : Ann := right (left (right (right (right a76_0))))
noncomputable def a76_10 : Ann := left a76_9
noncomputable def c76_11 : Code := fstC (fstC (sndC (fstC (sndC (sndC (sndC c76_0))))))
noncomputable def c76_23 : Code := sndC (sndC (sndC (sndC c76_0)))
noncomputable def a76_23 : Ann := right (right (right (right a76_0)))
noncomputable def f76_L0 (G : GuardT) (lo : Nat) (x6 x7 x14 x15 x16 : DV) (σ : Store) : Option (DV × Store) :=
 codeF G PP (pol 76) CC lo (.loop c76_11) a76_10 [Z, Z, Z, Z, Z, Z, x6, x7, Z, Z, Z, Z, Z, Z, x14, x15, x16, Z, Z, Z, Z, Z, Z, Z, Z, Z, Z, Z, Z, Z, Z, Z] σ
 (blockC 0 a76_9 (seqC G PP (pol 76) CC lo c76_23 a76_23 (finR PP Go.Proofs.Try.f76.results.toList)))
noncomputable def F76 (G : GuardT) (lo : Nat) (x0 x1 : DV) (σ : Store) : Option (DV × Store) :=
 codeF G PP (pol 76) CC lo c76_0 a76_0 [x0, x1, Z, Z, Z, Z, Z, Z, Z, Z, Z, Z, Z, Z, Z, Z, Z, Z, Z, Z, Z, Z, Z, Z, Z, Z, Z, Z, Z, Z, Z, Z] σ (finR PP Go.Proofs.Try.f76.results.toList)
theorem f76_L0_eq (G : GuardT) (hG : GuardOk G) (lo : Nat) (x6 x7 x14 x15 x16 : DV) (σ : Store) : f76_L0 G lo x6 x7 x14 x15 x16 σ =
 (binOp PP .lss 3 x16 x15).bind fun x17 =>
 condK x17
 (
 (indexAddr PP 22 x14 x16).bind fun x18 =>
 (load PP 3 x18 σ).bind fun x19 =>
 (binOp PP .quo 3 x19 (DV.p (PV.int IntKind.i64 (3)))).bind fun x22 =>
 (binOp PP .rem 3 x19 (DV.p (PV.int IntKind.i64 (3)))).bind fun x24 =>
 (build PP 98 [(0, x22), (1, x24)]).bind fun x25 =>
 (buildSlice PP none 31 1 [(0, x25)] σ).bind fun r26_2 =>
 (append PP lo false 31 31 x7 r26_2.1 r26_2.2).bind fun r27_3 =>
 (binOp PP .add 3 x16 (DV.p (PV.int IntKind.i64 (1)))).bind fun x28 =>
 f76_L0 G lo x6 r27_3.1 x14 x15 x28 r27_3.2
 )
 (
 (binOp PP .neq 22 x6 (DV.p PV.nilsl)).bind fun x31 =>
 some ((DV.tuple [x7, x31]), σ)
 ) := (loopF_eq G hG).trans (by kernel_rfl)
theorem F76_eq (G : GuardT) (lo : Nat) (x0 x1 : DV) (σ : Store) : F76 G lo x0 x1 σ =
 (boxV x0).bind fun z2 =>
 (boxV x1).bind fun z3 =>
 (build PP 182 []).bind fun x10 =>
 (buildSlice PP none 183 1 [(0, x10)] ((σ ++ [Row.mix z2]) ++ [Row.mix z3])).bind fun r11_1 =>
 (pureFn CC (DV.fn 113 []) [r11_1.1, (DV.fn 114 [(DV.ptr (List.length σ) 0), (DV.ptr (List.length (σ ++ [Row.mix z2])) 0)])] r11_1.2).bind fun x13 =>
 (len PP 22 x13 r11_1.2).bind fun x15 =>
 f76_L0 G lo x13 (DV.p PV.nilsl) x13 x15 (DV.p (PV.int IntKind.i64 (0))) r11_1.2 := by kernel_rfl
theorem F76_call {lo : Nat} {x0 x1 : DV} {σ : Store} {r : DV × Store} (h : F76 guardT lo x0 x1 σ = some r) : CC lo 76 [x0, x1] σ = some r :=
 callL_run Go.Proofs.Try.func76 (by decide +kernel) rfl (by decide +kernel) h
noncomputable def c113_0 : Code := bodyOf Go.Proofs.Try.f113
noncomputable def a113_0 : Ann := (pol 113).ann
noncomputable def a113_7 : Ann := right (left (right (right a113_0)))
noncomputable def a113_8 : Ann := left a113_7
noncomputable def c113_9 : Code := fstC (fstC (sndC (fstC (sndC (sndC c113_0)))))
noncomputable def c113_21 : Code := sndC (sndC (sndC c113_0))
noncomputable def a113_21 : Ann := right (right (right a113_0))
noncomputable def a113_22 : Ann := left a113_21
noncomputable def a113_23 : Ann := left a113_22
noncomputable def c113_24 : Code := fstC (fstC (fstC c113_21))
noncomputable def a113_30 : Ann := right (left a113_23)
noncomputable def a113_37 : Ann := right (right (right (left a113_30)))
noncomputable def a113_38 : Ann := left a113_37
noncomputable def c113_39 : Code := fstC (fstC (sndC (sndC (sndC (fstC (sndC c113_24))))))
noncomputable def c113_59 : Code := sndC c113_21
noncomputable def a113_59 : Ann := right a113_21
noncomputable def f113_L0 (G : GuardT) (lo : Nat) (x1 x5 x15 x16 x17 : DV) (σ : Store) : Option (DV × Store) :=
 codeF G PP (pol 113) CC lo (.loop c113_9) a113_8 [Z, x1, Z, Z, Z, x5, Z, Z, Z, Z, Z, Z, Z, Z, Z, x15, x16, x17, Z, Z, Z, Z, Z, Z, Z, Z, Z, Z, Z, Z, Z, Z, Z, Z, Z, Z, Z, Z, Z, Z, Z, Z, Z, Z, Z, Z, Z, Z, Z, Z, Z, Z, Z, Z, Z] σ
 (blockC 0 a113_7 (seqC G PP (pol 113) CC lo c113_21 a113_21 (finR PP Go.Proofs.Try.f113.results.toList)))
noncomputable def f113_L1 (G : GuardT) (lo : Nat) (x1 x5 : DV) (σ : Store) : Option (DV × Store) :=
 codeF G PP (pol 113) CC lo (.loop c113_24) a113_23 [Z, x1, Z, Z, Z, x5, Z, Z, Z, Z, Z, Z, Z, Z, Z, Z, Z, Z, Z, Z, Z, Z, Z, Z, Z, Z, Z, Z, Z, Z, Z, Z, Z, Z, Z, Z, Z, Z, Z, Z, Z, Z, Z, Z, Z, Z, Z, Z, Z, Z, Z, Z, Z, Z, Z] σ
 (blockC 2 a113_22 (seqC G PP (pol 113) CC lo c113_59 a113_59 (finR PP Go.Proofs.Try.f113.results.toList)))
noncomputable def f113_L2 (G : GuardT) (lo : Nat) (x1 x5 x41 x42 x43 : DV) (σ : Store) : Option (DV × Store) :=
 codeF G PP (pol 113) CC lo (.loop c113_39) a113_38 [Z, x1, Z, Z, Z, x5, Z, Z, Z, Z, Z, Z, Z, Z, Z, Z, Z, Z, Z, Z, Z, Z, Z, Z, Z, Z, Z, Z, Z, Z, Z, Z, Z, Z, Z, Z, Z, Z, Z, Z, Z, x41, x42, x43, Z, Z, Z, Z, Z, Z, Z, Z, Z, Z, Z] σ
 (blockC 4 a113_37 (blockC 3 a113_30 (loopC G PP (pol 113) CC lo c113_24 a113_23 (blockC 2 a113_22 (seqC G PP (pol 113) CC lo c113_59 a113_59 (finR PP Go.Proofs.Try.f113.results.toList))))))
noncomputable def F113 (G : GuardT) (lo : Nat) (x0 x1 : DV) (σ : Store) : Option (DV × Store) :=
 codeF G PP (pol 113) CC lo c113_0 a113_0 [x0, x1, Z, Z, Z, Z, Z, Z, Z, Z, Z, Z, Z, Z, Z, Z, Z, Z, Z, Z, Z, Z, Z, Z, Z, Z, Z, Z, Z, Z, Z, Z, Z, Z, Z, Z, Z, Z, Z, Z, Z, Z, Z, Z, Z, Z, Z, Z, Z, Z, Z, Z, Z, Z, Z] σ (finR PP Go.Proofs.Try.f113.results.toList)
theorem f113_L0_eq (G : GuardT) (hG : GuardOk G) (lo : Nat) (x1 x5 x15 x16 x17 : DV) (σ : Store) : f113_L0 G lo x1 x5 x15 x16 x17 σ =
 (binOp PP .lss 3 x17 x16).bind fun x18 =>
 condK x18
 (
 (indexAddr PP 183 x15 x17).bind fun x19 =>
 (load PP 182 x19 σ).bind fun x20 =>
 (zeroOf PP 182).bind fun z7 =>
 (store PP lo 182 (DV.ptr (List.length σ) 0) x20 (σ ++ [Row.mix z7])).bind fun σ1 =>
 (fieldAddr PP 182 (DV.ptr (List.length σ) 0) 0).bind fun x22 =>
 (load PP 180 x22 σ1).bind fun x23 =>
 (fieldAddr PP 182 (DV.ptr (List.length σ) 0) 1).bind fun x24 =>
 (load PP 22 x24 σ1).bind fun x25 =>
 (plainFn CC lo (DV.fn 115 []) [x5, x23, x25] σ1).bind fun r26_2 =>
 (binOp PP .add 3 x17 (DV.p (PV.int IntKind.i64 (1)))).bind fun x27 =>
 f113_L0 G lo x1 x5 x15 x16 x27 r26_2.2
 )
 (
 f113_L1 G lo x1 x5 σ
 ) := (loopF_eq G hG).trans (by kernel_rfl)
theorem f113_L1_eq (G : GuardT) (hG : GuardOk G) (lo : Nat) (x1 x5 : DV) (σ : Store) : f113_L1 G lo x1 x5 σ =
 (nilCheckV x5).bind fun x29 =>
 (fieldAddr PP 213 x29 1).bind fun x30 =>
 (load PP 183 x30 σ).bind fun x31 =>
 (len PP 183 x31 σ).bind fun x32 =>
 (binOp PP .gtr 3 x32 (DV.p (PV.int IntKind.i64 (0)))).bind fun x33 =>
 condK x33
 (
 (nilCheckV x5).bind fun x35 =>
 (fieldAddr PP 213 x35 1).bind fun x36 =>
 (load PP 183 x36 σ).bind fun x37 =>
 (nilCheckV x5).bind fun x39 =>
 (fieldAddr PP 213 x39 1).bind fun x40 =>
 (store PP lo 183 x40 (DV.p PV.nilsl) σ).bind fun σ3 =>
 (len PP 183 x37 σ3).bind fun x42 =>
 f113_L2 G lo x1 x5 x37 x42 (DV.p (PV.int IntKind.i64 (0))) σ3
 )
 (
 some ((DV.p PV.nilsl), σ)
 ) := (loopF_eq G hG).trans (by kernel_rfl)
theorem f113_L2_eq (G : GuardT) (hG : GuardOk G) (lo : Nat) (x1 x5 x41 x42 x43 : DV) (σ : Store) : f113_L2 G lo x1 x5 x41 x42 x43 σ =
 (binOp PP .lss 3 x43 x42).bind fun x44 =>
 condK x44
 (
 (indexAddr PP 183 x41 x43).bind fun x45 =>
 (load PP 182 x45 σ).bind fun x46 =>
 (zeroOf PP 182).bind fun z10 =>
 (store PP lo 182 (DV.ptr (List.length σ) 0) x46 (σ ++ [Row.mix z10])).bind fun σ4 =>
 (load PP 182 (DV.ptr (List.length σ) 0) σ4).bind fun x49 =>
 (plainFn CC lo x1 [x5, x49] σ4).bind fun r50_5 =>
 (binOp PP .neq 22 r50_5.1 (DV.p PV.nilsl)).bind fun x52 =>
 condK x52
 (
 some (r50_5.1, r50_5.2)
 )
 (
 (binOp PP .add 3 x43 (DV.p (PV.int IntKind.i64 (1)))).bind fun x54 =>
 f113_L2 G lo x1 x5 x41 x42 x54 r50_5.2
 )
 )
 (
 f113_L1 G lo x1 x5 σ
 ) := (loopF_eq G hG).trans (by kernel_rfl)
theorem F113_eq (G : GuardT) (lo : Nat) (x0 x1 : DV) (σ : Store) : F113 G lo x0 x1 σ =
 (build PP 213 [(0, (DV.map (List.length σ)))]).bind fun x13 =>
 (boxV x13).bind fun z14 =>
 (len PP 183 x0 ((σ ++ [Row.map []]) ++ [Row.mix z14])).bind fun x16 =>
 f113_L0 G lo x1 (DV.ptr (List.length (σ ++ [Row.map []])) 0) x0 x16 (DV.p (PV.int IntKind.i64 (0))) ((σ ++ [Row.map []]) ++ [Row.mix z14]) := by kernel_rfl
theorem F113_call {lo : Nat} {x0 x1 : DV} {σ : Store} {r : DV × Store} (h : F113 guardT lo x0 x1 σ = some r) : CC lo 113 [x0, x1] σ = some r :=
 callL_run Go.Proofs.Try.func113 (by decide +kernel) rfl (by decide +kernel) h
noncomputable def c114_0 : Code := bodyOf Go.Proofs.Try.f114
noncomputable def a114_0 : Ann := (pol 114).ann
noncomputable def a114_5 : Ann := right (left (right a114_0))
noncomputable def a114_6 : Ann := left a114_5
noncomputable def c114_7 : Code := fstC (fstC (sndC (fstC (sndC c114_0))))
noncomputable def a114_14 : Ann := left (right (right (left a114_6)))
noncomputable def a114_24 : Ann := right (left (right (right (right (left a114_14)))))
noncomputable def a114_25 : Ann := left a114_24
noncomputable def c114_26 : Code := fstC (fstC (sndC (fstC (sndC (sndC (sndC (fstC (fstC (sndC (sndC c114_7))))))))))
noncomputable def c114_40 : Code := sndC (sndC (sndC (sndC (fstC (fstC (sndC (sndC c114_7)))))))
noncomputable def a114_40 : Ann := right (right (right (right (left a114_14))))
noncomputable def c114_59 : Code := sndC (sndC (sndC c114_7))
noncomputable def a114_59 : Ann := right (right (right (left a114_6)))
noncomputable def c114_60 : Code := sndC (sndC c114_0)
noncomputable def a114_60 : Ann := right (right a114_0)
noncomputable def f114_L0 (G : GuardT) (lo : Nat) (x0 x2 x3 x5 x14 : DV) (σ : Store) : Option (DV × Store) :=
 codeF G PP (pol 114) CC lo (.loop c114_7) a114_6 [x0, Z, x2, x3, Z, x5, Z, Z, Z, Z, Z, Z, Z, Z, x14, Z, Z, Z, Z, Z, Z, Z, Z, Z, Z, Z, Z, Z, Z, Z, Z, Z, Z, Z, Z, Z, Z, Z, Z, Z, Z, Z, Z, Z, Z, Z, Z, Z, Z, Z, Z, Z, Z, Z, Z, Z, Z, Z, Z, Z, Z, Z, Z, Z, Z, Z, Z, Z, Z, Z, Z, Z, Z, Z, Z] σ
 (blockC 0 a114_5 (seqC G PP (pol 114) CC lo c114_60 a114_60 (finR PP Go.Proofs.Try.f114.results.toList)))
noncomputable def f114_L1 (G : GuardT) (lo : Nat) (x0 x2 x3 x5 x7 x8 x9 x10 x14 x24 x25 x26 : DV) (σ : Store) : Option (DV × Store) :=
 codeF G PP (pol 114) CC lo (.loop c114_26) a114_25 [x0, Z, x2, x3, Z, x5, Z, x7, x8, x9, x10, Z, Z, Z, x14, Z, Z, Z, Z, Z, Z, Z, Z, Z, x24, x25, x26, Z, Z, Z, Z, Z, Z, Z, Z, Z, Z, Z, Z, Z, Z, Z, Z, Z, Z, Z, Z, Z, Z, Z, Z, Z, Z, Z, Z, Z, Z, Z, Z, Z, Z, Z, Z, Z, Z, Z, Z, Z, Z, Z, Z, Z, Z, Z, Z] σ
 (blockC 2 a114_24 (seqC G PP (pol 114) CC lo c114_40 a114_40 (blockC 1 a114_14 (seqC G PP (pol 114) CC lo c114_59 a114_59 (loopC G PP (pol 114) CC lo c114_7 a114_6 (blockC 0 a114_5 (seqC G PP (pol 114) CC lo c114_60 a114_60 (finR PP Go.Proofs.Try.f114.results.toList))))))))
def f114_J0_fr (x0 x2 x3 x5 x14 : DV) : Frame := [x0, Z, x2, x3, Z, x5, Z, Z, Z, Z, Z, Z, Z, Z, x14, Z, Z, Z, Z, Z, Z, Z, Z, Z, Z, Z, Z, Z, Z, Z, Z, Z, Z, Z, Z, Z, Z, Z, Z, Z, Z, Z, Z, Z, Z, Z, Z, Z, Z, Z, Z, Z, Z, Z, Z, Z, Z, Z, Z, Z, Z, Z, Z, Z, Z, Z, Z, Z, Z, Z, Z, Z, Z, Z, Z]
noncomputable def f114_J0 (G : GuardT) (lo : Nat) (x0 x2 x3 x5 x14 : DV) (σ : Store) : Option (DV × Store) :=
 (seqC G PP (pol 114) CC lo c114_59 a114_59 (loopC G PP (pol 114) CC lo c114_7 a114_6 (blockC 0 a114_5 (seqC G PP (pol 114) CC lo c114_60 a114_60 (finR PP Go.Proofs.Try.f114.results.toList))))) .normal (f114_J0_fr x0 x2 x3 x5 x14) σ
noncomputable def F114 (G : GuardT) (lo : Nat) (x0 x1 x2 x3 : DV) (σ : Store) : Option (DV × Store) :=
 codeF G PP (pol 114) CC lo c114_0 a114_0 [x0, x1, x2, x3, Z, Z, Z, Z, Z, Z, Z, Z, Z, Z, Z, Z, Z, Z, Z, Z, Z, Z, Z, Z, Z, Z, Z, Z, Z, Z, Z, Z, Z, Z, Z, Z, Z, Z, Z, Z, Z, Z, Z, Z, Z, Z, Z, Z, Z, Z, Z, Z, Z, Z, Z, Z, Z, Z, Z, Z, Z, Z, Z, Z, Z, Z, Z, Z, Z, Z, Z, Z, Z, Z, Z] σ (finR PP Go.Proofs.Try.f114.results.toList)
theorem f114_L0_eq (G : GuardT) (hG : GuardOk G) (lo : Nat) (x0 x2 x3 x5 x14 : DV) (σ : Store) : f114_L0 G lo x0 x2 x3 x5 x14 σ =
 (binOp PP .lss 3 x14 (DV.p (PV.int IntKind.i64 (9)))).bind fun x15 =>
 condK x15
 (
 (binOp PP .quo 3 x14 (DV.p (PV.int IntKind.i64 (3)))).bind fun x18 =>
 (binOp PP .rem 3 x14 (DV.p (PV.int IntKind.i64 (3)))).bind fun x20 =>
 (build PP 98 [(0, x18), (1, x20)]).bind fun x21 =>
 (zeroOf PP 98).bind fun z8 =>
 (store PP lo 98 (DV.ptr (List.length σ) 0) x21 (σ ++ [Row.mix z8])).bind fun σ1 =>
 (fieldAddr PP 182 x5 0).bind fun x22 =>
 (load PP 180 x22 σ1).bind fun x23 =>
 (zeroOf PP 180).bind fun z9 =>
 (store PP lo 180 (DV.ptr (List.length σ1) 0) x23 (σ1 ++ [Row.mix z9])).bind fun σ2 =>
 (load PP 56 x2 σ2).bind fun x24 =>
 (len PP 56 x24 σ2).bind fun x25 =>
 f114_L1 G lo x0 x2 x3 x5 x14 (DV.ptr (List.length σ) 0) (DV.ptr (List.length σ1) 0) (DV.p (PV.bool true)) x14 x24 x25 (DV.p (PV.int IntKind.i64 (0))) σ2
 )
 (
 some ((DV.p PV.nilsl), σ)
 ) := (loopF_eq G hG).trans (by kernel_rfl)
theorem f114_L1_gen (G : GuardT) (hG : GuardOk G) (lo : Nat) (N0 : Frame → Store → Option (DV × Store)) (x0 x2 x3 x5 x7 x8 x9 x10 x14 x24 x25 x26 : DV) (σ : Store) : codeF G PP (pol 114) CC lo (.loop c114_26) a114_25 [x0, Z, x2, x3, Z, x5, Z, x7, x8, x9, x10, Z, Z, Z, x14, Z, Z, Z, Z, Z, Z, Z, Z, Z, x24, x25, x26, Z, Z, Z, Z, Z, Z, Z, Z, Z, Z, Z, Z, Z, Z, Z, Z, Z, Z, Z, Z, Z, Z, Z, Z, Z, Z, Z, Z, Z, Z, Z, Z, Z, Z, Z, Z, Z, Z, Z, Z, Z, Z, Z, Z, Z, Z, Z, Z] σ
 (blockC 2 a114_24 (seqC G PP (pol 114) CC lo c114_40 a114_40 (blockC 1 a114_14 (splitC N0 (seqC G PP (pol 114) CC lo c114_59 a114_59 (loopC G PP (pol 114) CC lo c114_7 a114_6 (blockC 0 a114_5 (seqC G PP (pol 114) CC lo c114_60 a114_60 (finR PP Go.Proofs.Try.f114.results.toList))))))))) =
 (binOp PP .lss 3 x26 x25).bind fun x27 =>
 condK x27
 (
 (indexAddr PP 56 x24 x26).bind fun x29 =>
 (load PP 27 x29 σ).bind fun x30 =>
 (fieldAddr PP 182 x5 0).bind fun x34 =>
 (fieldAddr PP 180 x34 0).bind fun x35 =>
 (indexAddr PP 178 x35 x26).bind fun x36 =>
 (load PP 3 x36 σ).bind fun x37 =>
 (load PP 98 x8 σ).bind fun x38 =>
 (pureFn CC (DV.fn 94 []) [x30, x37, x38] σ).bind fun x39 =>
 (fieldAddr PP 180 x9 0).bind fun x40 =>
 (indexAddr PP 178 x40 x26).bind fun x41 =>
 (store PP lo 3 x41 x39 σ).bind fun σ3 =>
 G _ x10 true (some (x26, σ3)) σ3 fun x44 σ4 =>
 G _ x10 true ((fieldAddr PP 180 x9 0).bind fun v => some (v, σ4)) σ4 fun x45 σ5 =>
 G _ x10 true ((indexAddr PP 178 x45 x44).bind fun v => some (v, σ5)) σ5 fun x46 σ6 =>
 G _ x10 true ((load PP 3 x46 σ6).bind fun v => some (v, σ6)) σ6 fun x47 σ7 =>
 G _ x10 true ((binOp PP .neq 3 x47 (DV.p (PV.int IntKind.i64 (-1)))).bind fun v => some (v, σ7)) σ7 fun x48 σ8 =>
 (pickV x10 x48 (DV.p (PV.bool false))).bind fun x49 =>
 (binOp PP .add 3 x26 (DV.p (PV.int IntKind.i64 (1)))).bind fun x50 =>
 codeF G PP (pol 114) CC lo (.loop c114_26) a114_25 [x0, Z, x2, x3, Z, x5, Z, x7, x8, x9, x49, Z, Z, Z, x14, Z, Z, Z, Z, Z, Z, Z, Z, Z, x24, x25, x50, Z, Z, Z, Z, Z, Z, Z, Z, Z, Z, Z, Z, Z, Z, Z, Z, Z, Z, Z, Z, Z, Z, Z, Z, Z, Z, Z, Z, Z, Z, Z, Z, Z, Z, Z, Z, Z, Z, Z, Z, Z, Z, Z, Z, Z, Z, Z, Z] σ8 (blockC 2 a114_24 (seqC G PP (pol 114) CC lo c114_40 a114_40 (blockC 1 a114_14 (splitC N0 (seqC G PP (pol 114) CC lo c114_59 a114_59 (loopC G PP (pol 114) CC lo c114_7 a114_6 (blockC 0 a114_5 (seqC G PP (pol 114) CC lo c114_60 a114_60 (finR PP Go.Proofs.Try.f114.results.toList)))))))))
 )
 (
 (unOp .not x10).bind fun x52 =>
 condK x52
 (
 N0 (f114_J0_fr x0 x2 x3 x5 x14) σ
 )
 (
 (fieldAddr PP 182 x5 1).bind fun x53 =>
 (load PP 22 x53 σ).bind fun x54 =>
 (plainFn CC lo (DV.fn 99 []) [x54] σ).bind fun r55_9 =>
 (buildSlice PP none 22 1 [(0, x7)] r55_9.2).bind fun r57_10 =>
 (append PP lo false 22 22 r55_9.1 r57_10.1 r57_10.2).bind fun r58_11 =>
 (load PP 27 x3 r58_11.2).bind fun x59 =>
 (fieldAddr PP 182 x5 0).bind fun x60 =>
 (fieldAddr PP 180 x60 1).bind fun x61 =>
 (load PP 3 x61 r58_11.2).bind fun x62 =>
 (load PP 98 x8 r58_11.2).bind fun x63 =>
 (pureFn CC (DV.fn 94 []) [x59, x62, x63] r58_11.2).bind fun x64 =>
 (fieldAddr PP 180 x9 1).bind fun x65 =>
 (store PP lo 3 x65 x64 r58_11.2).bind fun σ12 =>
 (fieldAddr PP 180 x9 1).bind fun x66 =>
 (load PP 3 x66 σ12).bind fun x67 =>
 (binOp PP .eql 3 x67 (DV.p (PV.int IntKind.i64 (-1)))).bind fun x68 =>
 condK x68
 (
 some (r58_11.1, σ12)
 )
 (
 (load PP 180 x9 σ12).bind fun x71 =>
 (plainFn CC lo (DV.fn 115 []) [x0, x71, r58_11.1] σ12).bind fun r73_13 =>
 N0 (f114_J0_fr x0 x2 x3 x5 x14) r73_13.2
 )
 )
 ) := (loopF_eq G hG).trans (by kernel_rfl)
theorem f114_L1_eq (G : GuardT) (hG : GuardOk G) (lo : Nat) (x0 x2 x3 x5 x7 x8 x9 x10 x14 x24 x25 x26 : DV) (σ : Store) : f114_L1 G lo x0 x2 x3 x5 x7 x8 x9 x10 x14 x24 x25 x26 σ =
 (binOp PP .lss 3 x26 x25).bind fun x27 =>
 condK x27
 (
 (indexAddr PP 56 x24 x26).bind fun x29 =>
 (load PP 27 x29 σ).bind fun x30 =>
 (fieldAddr PP 182 x5 0).bind fun x34 =>
 (fieldAddr PP 180 x34 0).bind fun x35 =>
 (indexAddr PP 178 x35 x26).bind fun x36 =>
 (load PP 3 x36 σ).bind fun x37 =>
 (load PP 98 x8 σ).bind fun x38 =>
 (pureFn CC (DV.fn 94 []) [x30, x37, x38] σ).bind fun x39 =>
 (fieldAddr PP 180 x9 0).bind fun x40 =>
 (indexAddr PP 178 x40 x26).bind fun x41 =>
 (store PP lo 3 x41 x39 σ).bind fun σ3 =>
 G _ x10 true (some (x26, σ3)) σ3 fun x44 σ4 =>
 G _ x10 true ((fieldAddr PP 180 x9 0).bind fun v => some (v, σ4)) σ4 fun x45 σ5 =>
 G _ x10 true ((indexAddr PP 178 x45 x44).bind fun v => some (v, σ5)) σ5 fun x46 σ6 =>
 G _ x10 true ((load PP 3 x46 σ6).bind fun v => some (v, σ6)) σ6 fun x47 σ7 =>
 G _ x10 true ((binOp PP .neq 3 x47 (DV.p (PV.int IntKind.i64 (-1)))).bind fun v => some (v, σ7)) σ7 fun x48 σ8 =>
 (pickV x10 x48 (DV.p (PV.bool false))).bind fun x49 =>
 (binOp PP .add 3 x26 (DV.p (PV.int IntKind.i64 (1)))).bind fun x50 =>
 f114_L1 G lo x0 x2 x3 x5 x7 x8 x9 x49 x14 x24 x25 x50 σ8
 )
 (
 (unOp .not x10).bind fun x52 =>
 condK x52
 (
 f114_J0 G lo x0 x2 x3 x5 x14 σ
 )
 (
 (fieldAddr PP 182 x5 1).bind fun x53 =>
 (load PP 22 x53 σ).bind fun x54 =>
 (plainFn CC lo (DV.fn 99 []) [x54] σ).bind fun r55_9 =>
 (buildSlice PP none 22 1 [(0, x7)] r55_9.2).bind fun r57_10 =>
 (append PP lo false 22 22 r55_9.1 r57_10.1 r57_10.2).bind fun r58_11 =>
 (load PP 27 x3 r58_11.2).bind fun x59 =>
 (fieldAddr PP 182 x5 0).bind fun x60 =>
 (fieldAddr PP 180 x60 1).bind fun x61 =>
 (load PP 3 x61 r58_11.2).bind fun x62 =>
 (load PP 98 x8 r58_11.2).bind fun x63 =>
 (pureFn CC (DV.fn 94 []) [x59, x62, x63] r58_11.2).bind fun x64 =>
 (fieldAddr PP 180 x9 1).bind fun x65 =>
 (store PP lo 3 x65 x64 r58_11.2).bind fun σ12 =>
 (fieldAddr PP 180 x9 1).bind fun x66 =>
 (load PP 3 x66 σ12).bind fun x67 =>
 (binOp PP .eql 3 x67 (DV.p (PV.int IntKind.i64 (-1)))).bind fun x68 =>
 condK x68
 (
 some (r58_11.1, σ12)
 )
 (
 (load PP 180 x9 σ12).bind fun x71 =>
 (plainFn CC lo (DV.fn 115 []) [x0, x71, r58_11.1] σ12).bind fun r73_13 =>
 f114_J0 G lo x0 x2 x3 x5 x14 r73_13.2
 )
 )
 ) := by
 have h := f114_L1_gen (N0 := (seqC G PP (pol 114) CC lo c114_59 a114_59 (loopC G PP (pol 114) CC lo c114_7 a114_6 (blockC 0 a114_5 (seqC G PP (pol 114) CC lo c114_60 a114_60 (finR PP Go.Proofs.Try.f114.results.toList))))) .normal) G hG lo x0 x2 x3 x5 x7 x8 x9 x10 x14 x24 x25 x26 σ
 simp only [splitC_eta] at h
 exact h
theorem f114_J0_eq (G : GuardT) (lo : Nat) (x0 x2 x3 x5 x14 : DV) (σ : Store) : f114_J0 G lo x0 x2 x3 x5 x14 σ =
 (binOp PP .add 3 x14 (DV.p (PV.int IntKind.i64 (1)))).bind fun x74 =>
 f114_L0 G lo x0 x2 x3 x5 x74 σ := by kernel_rfl
theorem F114_eq (G : GuardT) (lo : Nat) (x0 x1 x2 x3 : DV) (σ : Store) : F114 G lo x0 x1 x2 x3 σ =
 (boxV x1).bind fun z5 =>
 f114_L0 G lo x0 x2 x3 (DV.ptr (List.length σ) 0) (DV.p (PV.int IntKind.i64 (0))) (σ ++ [Row.mix z5]) := by kernel_rfl
theorem F114_call {lo : Nat} {x0 x1 x2 x3 : DV} {σ : Store} {r : DV × Store} (h : F114 guardT lo x0 x1 x2 x3 σ = some r) : CC lo 114 [x0, x1, x2, x3] σ = some r :=
 callL_run Go.Proofs.Try.func114 (by decide +kernel) rfl (by decide +kernel) h
noncomputable def c115_0 : Code := bodyOf Go.Proofs.Try.f115
noncomputable def a115_0 : Ann := (pol 115).ann
noncomputable def F115 (G : GuardT) (lo : Nat) (x0 x1 x2 : DV) (σ : Store) : Option (DV × Store) :=
 codeF G PP (pol 115) CC lo c115_0 a115_0 [x0, x1, x2, Z, Z, Z, Z, Z, Z, Z, Z, Z, Z, Z, Z, Z, Z, Z, Z, Z, Z, Z, Z, Z, Z, Z, Z, Z, Z, Z] σ (finR PP Go.Proofs.Try.f115.results.toList)
theorem F115_eq (G : GuardT) (lo : Nat) (x0 x1 x2 : DV) (σ : Store) : F115 G lo x0 x1 x2 σ =
 (boxV x1).bind fun z4 =>
 (nilCheckV x0).bind fun x7 =>
 (fieldAddr PP 213 x7 0).bind fun x8 =>
 (load PP 211 x8 (σ ++ [Row.mix z4])).bind fun x9 =>
 (load PP 180 (DV.ptr (List.length σ) 0) (σ ++ [Row.mix z4])).bind fun x10 =>
 (lookup PP 211 x9 x10 false (σ ++ [Row.mix z4])).bind fun x11 =>
 (unOp .not x11).bind fun x12 =>
 condK x12
 (
 (nilCheckV x0).bind fun x14 =>
 (fieldAddr PP 213 x14 0).bind fun x15 =>
 (load PP 211 x15 (σ ++ [Row.mix z4])).bind fun x16 =>
 (load PP 180 (DV.ptr (List.length σ) 0) (σ ++ [Row.mix z4])).bind fun x17 =>
 (mapUpdate PP lo 211 x16 x17 (DV.p (PV.bool true)) (σ ++ [Row.mix z4])).bind fun σ1 =>
 (nilCheckV x0).bind fun x20 =>
 (fieldAddr PP 213 x20 1).bind fun x21 =>
 (load PP 183 x21 σ1).bind fun x22 =>
 (load PP 180 (DV.ptr (List.length σ) 0) σ1).bind fun x23 =>
 (build PP 182 [(0, x23), (1, x2)]).bind fun x25 =>
 (buildSlice PP none 183 1 [(0, x25)] σ1).bind fun r26_2 =>
 (append PP lo false 183 183 x22 r26_2.1 r26_2.2).bind fun r27_3 =>
 (nilCheckV x0).bind fun x28 =>
 (fieldAddr PP 213 x28 1).bind fun x29 =>
 (store PP lo 183 x29 r27_3.1 r27_3.2).bind fun σ4 =>
 some ((DV.tuple []), σ4)
 )
 (
 some ((DV.tuple []), (σ ++ [Row.mix z4]))
 ) := by kernel_rfl
theorem F115_call {lo : Nat} {x0 x1 x2 : DV} {σ : Store} {r : DV × Store} (h : F115 guardT lo x0 x1 x2 σ = some r) : CC lo 115 [x0, x1, x2] σ = some r :=
 callL_run Go.Proofs.Try.func115 (by decide +kernel) rfl (by decide +kernel) h
end Go.D
end
/- The search over watched: the program's add and run. -/
section
set_option linter.unusedVariables false
set_option linter.unusedSimpArgs false
namespace Go.D.RnW
theorem neq22_osl (r ver sz n : Nat) (cs : List PV) : binOp PP .neq 22 (.osl r ver sz n cs) (.p .nilsl) = some (.p (.bool true)) := Eq.trans (by kernel_rfl) rfl
theorem uM : PP.underlying 211 = some (.map 180 4) := Eq.trans (by kernel_rfl) rfl
theorem uS : PP.underlying 183 = some (.slice 182) := Eq.trans (by kernel_rfl) rfl
theorem sF : size? PP 182 = some 5 := Eq.trans (by kernel_rfl) rfl
theorem sS : size? PP 183 = some 1 := Eq.trans (by kernel_rfl) rfl
theorem bytesF : bytes? PP 182 = some 56 := Eq.trans (by kernel_rfl) rfl
theorem zeroF : zeroOf PP 182 = some (nodeD [0, 0, 0, 0] ++ [.p .nilsl]) := Eq.trans (by kernel_rfl) rfl
theorem srcS : srcType PP 183 = true := Eq.trans (by kernel_rfl) rfl
theorem zvB : zeroVal PP 4 = some (.p (.bool false)) := Eq.trans (by kernel_rfl) rfl
theorem loadM (x : DV) (σ : Store) : load PP 211 x σ = load1 x σ := Eq.trans (by kernel_rfl) rfl
theorem loadS (x : DV) (σ : Store) : load PP 183 x σ = load1 x σ := Eq.trans (by kernel_rfl) rfl
theorem loadN' (x : DV) (σ : Store) : load PP 180 x σ = (loadN σ 4 x).map .agg := Eq.trans (by kernel_rfl) rfl
theorem loadF (x : DV) (σ : Store) : load PP 182 x σ = (loadN σ 5 x).map .agg := Eq.trans (by kernel_rfl) rfl
theorem faS0 (x : DV) : fieldAddr PP 213 x 0 = shiftPtr x 0 := Eq.trans (by kernel_rfl) rfl
theorem faS1 (x : DV) : fieldAddr PP 213 x 1 = shiftPtr x 1 := Eq.trans (by kernel_rfl) rfl
theorem faF0 (x : DV) : fieldAddr PP 182 x 0 = shiftPtr x 0 := Eq.trans (by kernel_rfl) rfl
theorem faF1 (x : DV) : fieldAddr PP 182 x 1 = shiftPtr x 4 := Eq.trans (by kernel_rfl) rfl
theorem bldS (r : Nat) : build PP 213 [(0, .map r)] = some (.agg [.map r, .p .nilsl]) := Eq.trans (by kernel_rfl) rfl
theorem bldFp (a b c d : Int) (v : PV) : build PP 182 [(0, .agg (nodeD [a, b, c, d])), (1, .p v)] = some (.agg (nodeD [a, b, c, d] ++ [.p v])) := Eq.trans (by kernel_rfl) rfl
theorem bldFo (a b c d : Int) (r ver sz n : Nat) (cs : List PV) : build PP 182 [(0, .agg (nodeD [a, b, c, d])), (1, .osl r ver sz n cs)] = some (.agg (nodeD [a, b, c, d] ++ [.osl r ver sz n cs])) := Eq.trans (by kernel_rfl) rfl
theorem bsp (a b c d : Int) (v : PV) (σ : Store) : buildSlice PP none 183 1 [(0, .agg (nodeD [a, b, c, d] ++ [.p v]))] σ = some (.p (.sl true 1 (eInts [a, b, c, d] ++ [v])), σ) := Eq.trans (by kernel_rfl) rfl
theorem bso (a b c d : Int) (r ver sz n : Nat) (cs : List PV) (σ : Store) : buildSlice PP none 183 1 [(0, .agg (nodeD [a, b, c, d] ++ [.osl r ver sz n cs]))] σ = some (.p (.sl true 1 (eInts [a, b, c, d] ++ [.sl false n cs])), σ) := Eq.trans (by kernel_rfl) rfl
theorem keyOkE (a b c d : Int) : keyOk PP 40 180 (.agg (nodeD [a, b, c, d])) = true := Eq.trans (by kernel_rfl) rfl
theorem eqAtE (a b c d a' b' c' d' : Int) : eqAt PP 40 180 (.agg (nodeD [a, b, c, d])) (.agg (nodeD [a', b', c', d'])) = (match (match some (a == a') with | some true => (match some (b == b') with | some true => (match some (c == c') with | some true => some true | r => r) | r => r) | r => r) with | some true => (match some (d == d') with | some true => some true | r => r) | r => r) := by kernel_rfl
theorem len4 {n : List Int} (h : n.length = 4) : ∃ a b c d, n = [a, b, c, d] := by
  match n, h with
  | [a, b, c, d], _ => exact ⟨a, b, c, d, rfl⟩
theorem keyOkL {n : List Int} (h : n.length = 4) : keyOk PP 40 180 (.agg (nodeD n)) = true := by
  obtain ⟨a, b, c, d, rfl⟩ := len4 h
  exact keyOkE a b c d
theorem beqD (x y : Int) : (x == y) = decide (y = x) := by
  by_cases e : y = x
  · subst e; simp
  · have e' : ¬ x = y := fun h => e h.symm
    simp [e, e']
theorem eqAtL {n n' : List Int} (h : n.length = 4) (h' : n'.length = 4) : eqAt PP 40 180 (.agg (nodeD n)) (.agg (nodeD n')) = some (decide (n' = n)) := by
  obtain ⟨a, b, c, d, rfl⟩ := len4 h
  obtain ⟨a', b', c', d', rfl⟩ := len4 h'
  rw [eqAtE]
  simp only [beqD]
  by_cases ha : a' = a <;> by_cases hb : b' = b <;> by_cases hc : c' = c <;> by_cases hd : d' = d <;> simp [ha, hb, hc, hd]
theorem findKeyL {n : List Int} (h : n.length = 4) : ∀ q : List QE, (∀ x ∈ q, x.n.length = 4) → findKey PP 180 (.agg (nodeD n)) (entN q) = some (if hasN q n = true then some (.p (.bool true)) else none)
  | [], _ => rfl
  | x :: q, hq => by
    have ih := findKeyL h q fun y hy => hq y (by simp [hy])
    have e : entN (x :: q) = (.agg (nodeD x.n), .p (.bool true)) :: entN q := rfl
    have e2 : hasN (x :: q) n = (decide (x.n = n) || hasN q n) := rfl
    rw [e, findKey, eqAtL h (hq x (by simp)), e2]
    cases decide (x.n = n) with
    | true => rfl
    | false => simp only [Bool.false_or]; exact ih
theorem updKeyL {n : List Int} (p : List Int) (h : n.length = 4) : ∀ q : List QE, (∀ x ∈ q, x.n.length = 4) → hasN q n = false → updKey PP 180 (.agg (nodeD n)) (.p (.bool true)) (entN q) = some (entN (q ++ [⟨n, p⟩]))
  | [], _, _ => rfl
  | x :: q, hq, hn => by
    have e2 : hasN (x :: q) n = (decide (x.n = n) || hasN q n) := rfl
    rw [e2, Bool.or_eq_false_iff] at hn
    have ih := updKeyL p h q (fun y hy => hq y (by simp [hy])) hn.2
    have e : entN (x :: q) = (.agg (nodeD x.n), .p (.bool true)) :: entN q := rfl
    rw [e, updKey, eqAtL h (hq x (by simp)), hn.1, ih]
    rfl
structure SS (σ0 σ : Store) (m s : Nat) (q : List QE) (to : Nat) : Prop where
  mp : σ[m]? = some (.map (entN q))
  st : ∃ lay, σ[s]? = some (.mix [.map m, lay]) ∧ Out σ σ0.length 5 (q.length - to) (qsP (q.drop to)) lay
  le : to ≤ q.length
  ml : σ0.length ≤ m
  sl : σ0.length ≤ s
  ln : ∀ x ∈ q, x.n.length = 4
  low : Ext σ0 σ
theorem ext_len {σ σ' : Store} (h : Ext σ σ') : σ.length ≤ σ'.length := by
  cases hl : σ.length with
  | zero => exact Nat.zero_le _
  | succ n =>
    have h1 : n < σ.length := by omega
    exact get_lt (h n _ (List.getElem?_eq_getElem h1))
theorem SS.lle {σ0 σ : Store} {m s : Nat} {q : List QE} {to : Nat} (h : SS σ0 σ m s q to) : σ0.length ≤ σ.length := ext_len h.low
theorem SS.snoc {σ0 σ : Store} {m s : Nat} {q : List QE} {to : Nat} (h : SS σ0 σ m s q to) (r : Row) : SS σ0 (σ ++ [r]) m s q to := by
  obtain ⟨lay, h1, h2⟩ := h.st
  exact ⟨get_old h.mp, ⟨lay, get_old h1, h2.snoc⟩, h.le, h.ml, h.sl, h.ln, h.low.trans (Ext.snoc σ r)⟩
/-- Boxes that are kept. -/
def KeepB (σ σ' : Store) (s : Nat) : Prop := ∀ (j : Nat) (cs : List DV), j ≠ s → σ[j]? = some (.mix cs) → σ'[j]? = some (.mix cs)
theorem KeepB.trans {a b c : Store} {s : Nat} (h : KeepB a b s) (h2 : KeepB b c s) : KeepB a c s := fun j cs hj e => h2 j cs hj (h j cs hj e)
theorem keepB_snoc (σ : Store) (r : Row) (s : Nat) : KeepB σ (σ ++ [r]) s := fun j cs _ e => get_old e
theorem store1 {t lo : Nat} (hs : size? PP t = some 1) {σ : Store} {r off : Nat} {O : List DV} {v : DV} (h : σ[r]? = some (.mix O)) (ht : off < O.length) (hv : v.one = true) (hc : v.cells = [v]) (hlo : lo ≤ r) :
    store PP lo t (.ptr r off) v σ = some (σ.set r (.mix (O.set off v))) := by
  have h1 : off + 1 ≤ O.length := ht
  have h2 : splice O off [v] = O.set off v := by
    unfold splice
    rw [List.set_eq_take_append_cons_drop]
    simp [ht]
  simp [store, hs, hc, storeN, h, hv, h1, h2, hlo]
theorem storeNew {t n lo : Nat} (hs : size? PP t = some n) {cs z : List DV} (σ : Store) (hz : z.length = n) (hc : cs.length = n) (ho : cs.all DV.one = true) (hlo : lo ≤ σ.length) : store PP lo t (.ptr σ.length 0) (.agg cs) (σ ++ [.mix z]) = some (σ ++ [.mix cs]) := by
  have e : splice z 0 cs = cs := by simp [splice, hz, hc]
  simp [store, hs, DV.cells, storeN, hc, hz, ho, e, hlo]
theorem nodeD_len (n : List Int) : (nodeD n).length = n.length := by simp [nodeD]
theorem nodeD_one (n : List Int) : (nodeD n).all DV.one = true := by simp [nodeD, DV.one]
theorem box_agg {cs : List DV} (h : cs.all DV.one = true) : boxV (.agg cs) = some cs := by
  simp [boxV, DV.cells, h]
theorem out_one {σ : Store} {lo sz n : Nat} {cs : List PV} {x : DV} (ho : Out σ lo sz n cs x) : x.one = true ∧ x.cells = [x] := by
  rcases ho.2 with ⟨_, rfl⟩ | ⟨_, q, ver, rfl, _⟩ <;> exact ⟨rfl, rfl⟩
theorem lenS {σ σ' : Store} {lo sz n : Nat} {cs : List PV} {x : DV} (ho : Out σ lo sz n cs x) : len PP 183 x σ' = some (.p (pI (n : Nat))) := by
  rcases ho.2 with ⟨rfl, rfl⟩ | ⟨_, q, ver, rfl, _⟩ <;> simp [len, uS]
/-- Paths as they are handed to add. -/
def PthV (p : List Int) (x : DV) : Prop := x = .p (ePth p) ∨ (p ≠ [] ∧ ∃ r ver, x = .osl r ver 1 p.length (eInts p))
theorem bldF {n p : List Int} {x : DV} (hn : n.length = 4) (hx : PthV p x) (σ : Store) : ∃ y, build PP 182 [(0, .agg (nodeD n)), (1, x)] = some y ∧ buildSlice PP none 183 1 [(0, y)] σ = some (.p (.sl true 1 (qeP ⟨n, p⟩)), σ) := by
  obtain ⟨a, b, c, d, rfl⟩ := len4 hn
  rcases hx with rfl | ⟨h0, r, ver, rfl⟩
  · exact ⟨_, bldFp a b c d _, bsp a b c d _ _⟩
  · refine ⟨_, bldFo a b c d _ _ _ _ _, (bso a b c d _ _ _ _ _ _).trans ?_⟩
    simp [qeP, ePth, h0]
theorem add_ok {σ0 σ : Store} {m s to : Nat} {q : List QE} {n p : List Int} {x : DV} (h : SS σ0 σ m s q to) (hn : n.length = 4) (hx : PthV p x) (hq : q.length ≤ 100000) :
    ∃ σ', plainFn CC σ0.length (.fn 115 []) [.ptr s 0, .agg (nodeD n), x] σ = some (.tuple [], σ') ∧ SS σ0 σ' m s (addN q n p) to ∧ KeepB σ σ' s := by
  obtain ⟨lay, h1, h2⟩ := h.st
  have hB : (σ ++ [Row.mix (nodeD n)])[σ.length]? = some (.mix (nodeD n)) := get_snoc
  have hm : (σ ++ [Row.mix (nodeD n)])[m]? = some (.map (entN q)) := get_old h.mp
  have hs : (σ ++ [Row.mix (nodeD n)])[s]? = some (.mix [.map m, lay]) := get_old h1
  have hld : ∀ ρ : Store, ρ[σ.length]? = some (.mix (nodeD n)) → loadN ρ 4 (.ptr σ.length 0) = some (nodeD n) := fun ρ hρ =>
    loadN_ptr hρ (by rw [List.drop_zero, List.take_of_length_le (by rw [nodeD_len, hn]; exact Nat.le_refl _)]) (by rw [nodeD_len, hn]; exact Nat.le_refl _)
  have hlk : lookup PP 211 (.map m) (.agg (nodeD n)) false (σ ++ [.mix (nodeD n)]) = some (.p (.bool (hasN q n))) := by
    simp only [lookup, uM, keyOkL hn, if_true, hm, findKeyL hn q h.ln, zvB]
    cases hasN q n <;> rfl
  show ∃ σ', CC σ0.length 115 ([.ptr s 0, .agg (nodeD n), x] ++ []) σ = _ ∧ _
  rw [List.append_nil]
  unfold addN
  cases hh : hasN q n with
  | true =>
    rw [hh] at hlk
    refine ⟨σ ++ [.mix (nodeD n)], F115_call ?_, by simp only [if_true]; exact h.snoc _, keepB_snoc _ _ _⟩
    rw [F115_eq]
    have hbox : boxV (.agg (nodeD n)) = some (nodeD n) := box_agg (nodeD_one n)
    simp only [hbox, gG, nil_ptr, faS0, shift_ptr, shift_pptr, Nat.zero_add, Nat.add_zero, pureFn_fn, List.append_nil, List.singleton_append, List.cons_append, List.nil_append, loadM, load1_ptr (off := 0) hs rfl, loadN', hld _ hB, hlk]
  | false =>
    rw [hh] at hlk
    have hup : mapUpdate PP σ0.length 211 (.map m) (.agg (nodeD n)) (.p (.bool true)) (σ ++ [.mix (nodeD n)]) = some ((σ ++ [Row.mix (nodeD n)]).set m (.map (entN (q ++ [⟨n, p⟩])))) := by
      simp only [mapUpdate, uM, keyOkL hn, h.ml, DV.isUndef, and_self, if_true, hm, updKeyL p hn q h.ln hh, Option.map_some]
    have hmB : m ≠ σ.length := by have := get_lt h.mp; omega
    have hms : m ≠ s := by
      intro e
      have := h.mp
      rw [e, h1] at this
      exact absurd this (by simp)
    have hρB : ((σ ++ [Row.mix (nodeD n)]).set m (.map (entN (q ++ [⟨n, p⟩]))))[σ.length]? = some (.mix (nodeD n)) := get_set_ne hB (fun e => hmB e.symm)
    have hρs : ((σ ++ [Row.mix (nodeD n)]).set m (.map (entN (q ++ [⟨n, p⟩]))))[s]? = some (.mix [.map m, lay]) := get_set_ne hs (fun e => hms e.symm)
    have hρm : ((σ ++ [Row.mix (nodeD n)]).set m (.map (entN (q ++ [⟨n, p⟩]))))[m]? = some (.map (entN (q ++ [⟨n, p⟩]))) := by rw [List.getElem?_set_self (get_lt hm)]
    have hρo : Out ((σ ++ [Row.mix (nodeD n)]).set m (.map (entN (q ++ [⟨n, p⟩])))) σ0.length 5 (q.length - to) (qsP (q.drop to)) lay := by
      refine ⟨h2.1, ?_⟩
      rcases h2.2 with hz | ⟨hz, r, ver, e1, e2, e3⟩
      · exact .inl hz
      · refine .inr ⟨hz, r, ver, e1, get_set_ne (get_old e2) ?_, e3⟩
        intro e
        rw [e, h.mp] at e2
        exact absurd e2 (by simp)
    have hρlow : ∀ j row, j ≠ m → σ[j]? = some row → ((σ ++ [Row.mix (nodeD n)]).set m (.map (entN (q ++ [⟨n, p⟩]))))[j]? = some row := fun j row hj e => get_set_ne (get_old e) hj
    have hρlen : σ0.length ≤ ((σ ++ [Row.mix (nodeD n)]).set m (.map (entN (q ++ [⟨n, p⟩])))).length := by
      have := h.lle
      simp; omega
    generalize (σ ++ [Row.mix (nodeD n)]).set m (.map (entN (q ++ [⟨n, p⟩]))) = ρ at *
    obtain ⟨y, hy1, hy2⟩ := bldF hn hx ρ
    obtain ⟨x', σ', e1, o1, t1, f1⟩ := Out.pushF (vs := qeP ⟨n, p⟩) srcS uS sF bytesF zeroF (by simp [nodeD]) (by decide) (by decide) (by decide) (by rw [qeP_len, hn]) hρo (by omega) hρlen
    have gs : σ'[s]? = some (.mix [.map m, lay]) := t1 s _ hρs fun r ver sz n' cs e => by
      rintro rfl
      rcases hρo.2 with ⟨_, hz⟩ | ⟨_, r2, ver2, e3, e4, _⟩
      · rw [hz] at e; exact absurd e (by simp)
      · rw [e] at e3
        injection e3 with e5
        rw [← e5, hρs] at e4
        exact absurd e4 (by simp)
    have gm : σ'[m]? = some (.map (entN (q ++ [⟨n, p⟩]))) := t1 m _ hρm fun r ver sz n' cs e => by
      rintro rfl
      rcases hρo.2 with ⟨_, hz⟩ | ⟨_, r2, ver2, e3, e4, _⟩
      · rw [hz] at e; exact absurd e (by simp)
      · rw [e] at e3
        injection e3 with e5
        rw [← e5, hρm] at e4
        exact absurd e4 (by simp)
    have hone := out_one o1
    have hst := store1 (lo := σ0.length) sS gs (off := 1) (v := x') (by simp) hone.1 hone.2 h.sl
    have hmix : ∀ j cs, j ≠ s → ρ[j]? = some (.mix cs) → (σ'.set s (.mix [.map m, x']))[j]? = some (.mix cs) := by
      intro j cs hj e
      refine get_set_ne (t1 j _ e fun r ver sz n' cs' e2 => ?_) hj
      rintro rfl
      rcases hρo.2 with ⟨_, hz⟩ | ⟨_, r2, ver2, e3, e4, _⟩
      · rw [hz] at e2; exact absurd e2 (by simp)
      · rw [e2] at e3
        injection e3 with e5
        rw [← e5, e] at e4
        exact absurd e4 (by simp)
    have hql : q.length - to + 1 = (q ++ [(⟨n, p⟩ : QE)]).length - to := by have := h.le; simp; omega
    have hqd : qsP (q.drop to) ++ qeP ⟨n, p⟩ = qsP ((q ++ [(⟨n, p⟩ : QE)]).drop to) := by
      rw [List.drop_append_of_le_length h.le, qsP_app]
      simp [qsP]
    refine ⟨σ'.set s (.mix [.map m, x']), F115_call ?_, ?_, fun j cs hj e => hmix j cs hj (hρlow j _ ?_ e)⟩
    · rw [F115_eq]
      have hbox : boxV (.agg (nodeD n)) = some (nodeD n) := box_agg (nodeD_one n)
      simp only [hbox, gG, nil_ptr, faS0, faS1, shift_ptr, shift_pptr, Nat.zero_add, Nat.add_zero, pureFn_fn, List.append_nil, List.singleton_append, List.cons_append, List.nil_append, loadM, loadS, load1_ptr (off := 0) hs rfl, loadN', hld _ hB, hlk, hup, load1_ptr (off := 1) hρs rfl, hld _ hρB, hy1, hy2, e1, hst, List.set_cons_succ, List.set_cons_zero]
    · simp only [Bool.false_eq_true, if_false]
      refine ⟨get_set_ne gm hms, ⟨x', by rw [List.getElem?_set_self (get_lt gs)], ?_⟩, by have := h.le; simp; omega, h.ml, h.sl, ?_, ?_⟩
      · rw [← hql, ← hqd]
        refine ⟨o1.1, ?_⟩
        rcases o1.2 with hz | ⟨hz, r, ver, e3, e4, e5⟩
        · exact .inl hz
        · refine .inr ⟨hz, r, ver, e3, get_set_ne e4 ?_, e5⟩
          rintro rfl
          rw [gs] at e4
          exact absurd e4 (by simp)
      · intro y hy
        rcases List.mem_append.1 hy with hy | hy
        · exact h.ln y hy
        · rw [List.mem_singleton.1 hy]; exact hn
      · intro j row e
        have hj := get_lt e
        have hjm : j ≠ m := by have := h.ml; omega
        have hjs : j ≠ s := by have := h.sl; omega
        refine get_set_ne (t1 j row (hρlow j row hjm (h.low j row e)) fun r ver sz n' cs e2 => ?_) hjs
        rcases hρo.2 with ⟨_, hz⟩ | ⟨_, r2, ver2, e3, e4, e6⟩
        · rw [hz] at e2; exact absurd e2 (by simp)
        · rw [e2] at e3
          injection e3 with e5
          omega
    · intro e2
      rw [e2, h.mp] at e
      exact absurd e (by simp)
section
variable {σ0 : Store} {fv : FuncId} {caps : List DV} {vis : QE → List QE → Sum (List Int) (List QE)} {I : List QE → Prop} {B : Nat}
/-- What is asked of a visit. -/
def HV (σ0 : Store) (fv : FuncId) (caps : List DV) (vis : QE → List QE → Sum (List Int) (List QE)) (I : List QE → Prop) : Prop :=
  ∀ (σ : Store) (q : List QE) (i to : Nat) (x : QE) (m s : Nat), SS σ0 σ m s q to → I q → q[i]? = some x → i < to →
    ∃ r σ', plainFn CC σ0.length (.fn fv caps) [.ptr s 0, .agg (qeD x)] σ = some (r, σ') ∧
      ((∃ p, vis x q = .inl p ∧ p ≠ [] ∧ ∃ a v, r = .osl a v 1 p.length (eInts p)) ∨ (∃ q', vis x q = .inr q' ∧ r = .p .nilsl ∧ SS σ0 σ' m s q' to ∧ I q' ∧ q <+: q'))
def RR (r : DV) : Option (List Int) → Prop
  | none => r = .p .nilsl
  | some p => p ≠ [] ∧ ∃ a v, r = .osl a v 1 p.length (eInts p)
theorem idxS {a v n j : Nat} {cs : List PV} (h : j < n) : indexAddr PP 183 (.osl a v 5 n cs) (.p (pI (j : Nat))) = some (.pptr cs (j * 5)) := by
  have h2 : (0 : Int) ≤ (j : Int) ∧ (j : Int) < (n : Nat) := by omega
  simp [indexAddr, uS, sF, h2, h]
theorem qeD_len (x : QE) (h : x.n.length = 4) : (qeD x).length = 5 := by simp [qeD, nodeD, h]
theorem qeD_one (x : QE) : (qeD x).all DV.one = true := by simp [qeD, nodeD, DV.one]
theorem zlen : (nodeD [0, 0, 0, 0] ++ [.p .nilsl] : List DV).length = 5 := rfl
theorem part_at {q : List QE} {fr to i : Nat} {x : QE} (hl : ∀ y ∈ q, y.n.length = 4) (hf : fr ≤ i) (hi : i < to) (ht : to ≤ q.length) (hx : q[i]? = some x) (σ : Store) :
    loadN σ 5 (.pptr (qsP ((q.take to).drop fr)) ((i - fr) * 5)) = some (qeD x) := by
  have hl2 : ∀ y ∈ (q.take to).drop fr, y.n.length = 4 := fun y hy => hl y (List.mem_of_mem_take (List.mem_of_mem_drop hy))
  have e1 : ((q.take to).drop fr)[i - fr]? = some x := by
    rw [List.getElem?_drop, show fr + (i - fr) = i by omega, List.getElem?_take]
    simp [hi, hx]
  have e2 := qsP_at (K := 4) hl2 e1
  have e3 := qsP_len (K := 4) hl2
  have e4 : ((q.take to).drop fr).length = to - fr := by rw [List.length_drop, List.length_take]; omega
  have e5 : (i - fr) * 5 + 5 ≤ (qsP ((q.take to).drop fr)).length := by rw [e3, e4]; omega
  simp only [loadN, e5, if_true]
  rw [e2, qeP_map]
theorem L2_step (hv : HV σ0 fv caps vis I) {σ : Store} {m s fr to i a v : Nat} {q : List QE} {x : QE} (h : SS σ0 σ m s q to) (hI : I q) (hf : fr ≤ i) (hi : i < to) (hx : q[i]? = some x) (hq : q.length ≤ 100000) :
    ∃ r σ', (∃ p, vis x q = .inl p ∧ p ≠ [] ∧ (∃ a v, r = .osl a v 1 p.length (eInts p)) ∧ f113_L2 guardT σ0.length (.fn fv caps) (.ptr s 0) (.osl a v 5 (to - fr) (qsP ((q.take to).drop fr))) (.p (pI ((to - fr : Nat)))) (.p (pI ((i - fr : Nat)))) σ = some (r, σ')) ∨
      (∃ q', vis x q = .inr q' ∧ SS σ0 σ' m s q' to ∧ I q' ∧ q <+: q' ∧ f113_L2 guardT σ0.length (.fn fv caps) (.ptr s 0) (.osl a v 5 (to - fr) (qsP ((q.take to).drop fr))) (.p (pI ((to - fr : Nat)))) (.p (pI ((i - fr : Nat)))) σ =
        f113_L2 guardT σ0.length (.fn fv caps) (.ptr s 0) (.osl a v 5 (to - fr) (qsP ((q.take to).drop fr))) (.p (pI ((to - fr : Nat)))) (.p (pI ((i + 1 - fr : Nat)))) σ') := by
  have hto := h.le
  have hxl : x.n.length = 4 := h.ln x (List.mem_of_getElem? hx)
  have h1 : ((i - fr : Nat) : Int) < ((to - fr : Nat) : Int) := by omega
  have h2 : i - fr < to - fr := by omega
  have hld := part_at (σ := σ) h.ln hf hi hto hx
  have hsn := storeNew (lo := σ0.length) (z := nodeD [0, 0, 0, 0] ++ [.p .nilsl]) sF σ zlen (qeD_len x hxl) (qeD_one x) h.lle
  have hl2 : loadN (σ ++ [Row.mix (qeD x)]) 5 (.ptr σ.length 0) = some (qeD x) := loadN_ptr get_snoc (by rw [List.drop_zero, List.take_of_length_le (by rw [qeD_len x hxl]; exact Nat.le_refl _)]) (by rw [qeD_len x hxl]; exact Nat.le_refl _)
  obtain ⟨r, σ', e1, hr⟩ := hv _ q i to x m s (h.snoc (.mix (qeD x))) hI hx hi
  refine ⟨r, σ', ?_⟩
  rcases hr with ⟨p, hp, hp0, a', v', rfl⟩ | ⟨q', hq', rfl, k1, k2, k3⟩
  · refine .inl ⟨p, hp, hp0, ⟨a', v', rfl⟩, ?_⟩
    rw [f113_L2_eq guardT rfl]
    simp only [b_lss, b_eql, b_neq, b_leq, b_geq, b_gtr, h1, gG, idxS h2, loadF, hld, zeroF, hsn, hl2, e1, neq22_osl]
  · refine .inr ⟨q', hq', k1, k2, k3, ?_⟩
    rw [f113_L2_eq guardT rfl]
    simp only [b_lss, b_eql, b_neq, b_leq, b_geq, b_gtr, h1, gG, idxS h2, loadF, hld, zeroF, hsn, hl2, e1, neq22_nn, b_add, wrap_succ (show i - fr ≤ 1000000 by omega), show i - fr + 1 = i + 1 - fr by omega]
theorem L1_end {σ : Store} {m s to : Nat} {q : List QE} (h : SS σ0 σ m s q to) (hq : q.length = to) (x1 : DV) : f113_L1 guardT σ0.length x1 (.ptr s 0) σ = some (.p .nilsl, σ) := by
  obtain ⟨lay, h1, h2⟩ := h.st
  have hz : q.length - to = 0 := by omega
  have hl := lenS (σ' := σ) h2
  rw [hz] at hl
  rw [f113_L1_eq guardT rfl]
  simp only [nil_ptr, faS1, shift_ptr, shift_pptr, Nat.zero_add, Nat.add_zero, pureFn_fn, List.append_nil, List.singleton_append, List.cons_append, List.nil_append, loadS, load1_ptr (off := 1) h1 rfl, hl, b_lss, b_eql, b_neq, b_leq, b_geq, b_gtr, gG, show ¬ ((0 : Nat) : Int) > 0 by decide]
theorem L1_go {σ : Store} {m s to : Nat} {q : List QE} (h : SS σ0 σ m s q to) (hq : to < q.length) (x1 : DV) :
    ∃ a v σ', SS σ0 σ' m s q q.length ∧ f113_L1 guardT σ0.length x1 (.ptr s 0) σ = f113_L2 guardT σ0.length x1 (.ptr s 0) (.osl a v 5 (q.length - to) (qsP ((q.take q.length).drop to))) (.p (pI ((q.length - to : Nat)))) (.p (pI ((to - to : Nat)))) σ' := by
  obtain ⟨lay, h1, h2⟩ := h.st
  obtain ⟨a, v, rfl⟩ := h2.osl (by omega)
  have hl := fun σ' => lenS (σ' := σ') h2
  have hst := store1 (lo := σ0.length) sS h1 (off := 1) (v := .p .nilsl) (by simp) rfl rfl h.sl
  have hms : m ≠ s := by
    intro e
    have := h.mp
    rw [e, h1] at this
    exact absurd this (by simp)
  refine ⟨a, v, σ.set s (.mix [.map m, .p .nilsl]), ⟨get_set_ne h.mp hms, ⟨.p .nilsl, by rw [List.getElem?_set_self (get_lt h1)], ?_⟩, Nat.le_refl _, h.ml, h.sl, h.ln, fun j row e => ?_⟩, ?_⟩
  · rw [Nat.sub_self, List.drop_length]
    exact Out.zero
  · exact get_set_ne (h.low j row e) (by have := get_lt e; have := h.sl; omega)
  · rw [f113_L1_eq guardT rfl]
    have hp : ((q.length - to : Nat) : Int) > 0 := by omega
    simp only [nil_ptr, faS1, shift_ptr, shift_pptr, Nat.zero_add, Nat.add_zero, pureFn_fn, List.append_nil, List.singleton_append, List.cons_append, List.nil_append, loadS, load1_ptr (off := 1) h1 rfl, hl, b_lss, b_eql, b_neq, b_leq, b_geq, b_gtr, gG, hp, hst, List.set_cons_succ, List.set_cons_zero, List.take_length, Nat.sub_self]
    rfl
theorem bfsQ_none {k i : Nat} {q : List QE} (h : q[i]? = none) : bfsQ vis (k + 1) i q = none := by
  unfold bfsQ
  rw [h]
theorem run_L2 (hv : HV σ0 fv caps vis I) (hB : ∀ q, I q → q.length ≤ B) (hB2 : B ≤ 100000) : ∀ (k i fr to : Nat) (q : List QE) (σ : Store) (a v m s : Nat), B - i = k → fr ≤ i → i ≤ to → SS σ0 σ m s q to → I q →
    ∃ r σ', f113_L2 guardT σ0.length (.fn fv caps) (.ptr s 0) (.osl a v 5 (to - fr) (qsP ((q.take to).drop fr))) (.p (pI ((to - fr : Nat)))) (.p (pI ((i - fr : Nat)))) σ = some (r, σ') ∧ RR r (bfsQ vis (k + 1) i q) := by
  intro k
  induction k with
  | zero =>
    intro i fr to q σ a v m s hk hf hi h hI
    have hqB := hB q hI
    have hto := h.le
    have hit : i = to := by omega
    have hend : q.length = to := by omega
    refine ⟨.p .nilsl, σ, ?_, ?_⟩
    · rw [f113_L2_eq guardT rfl]
      have h1 : ¬ ((i - fr : Nat) : Int) < ((to - fr : Nat) : Int) := by omega
      simp only [b_lss, b_eql, b_neq, b_leq, b_geq, b_gtr, h1, gG, L1_end h hend]
    · rw [bfsQ_none (List.getElem?_eq_none (by omega))]
      rfl
  | succ k ih =>
    have main : ∀ (i fr to : Nat) (q : List QE) (σ : Store) (a v m s : Nat), B - i = k + 1 → fr ≤ i → i < to → SS σ0 σ m s q to → I q →
        ∃ r σ', f113_L2 guardT σ0.length (.fn fv caps) (.ptr s 0) (.osl a v 5 (to - fr) (qsP ((q.take to).drop fr))) (.p (pI ((to - fr : Nat)))) (.p (pI ((i - fr : Nat)))) σ = some (r, σ') ∧ RR r (bfsQ vis (k + 1 + 1) i q) := by
      intro i fr to q σ a v m s hk hf hi h hI
      have hqB := hB q hI
      have hto := h.le
      have hiq : i < q.length := by omega
      have hx : q[i]? = some q[i] := List.getElem?_eq_getElem hiq
      obtain ⟨r, σ', hr⟩ := L2_step hv (a := a) (v := v) h hI hf hi hx (by omega)
      rcases hr with ⟨p, hp, hp0, hp1, e⟩ | ⟨q', hq', k1, k2, k3, e⟩
      · refine ⟨r, σ', e, ?_⟩
        unfold bfsQ
        rw [hx]
        simp only [hp]
        exact ⟨hp0, hp1⟩
      · have ht : q'.take to = q.take to := by
          obtain ⟨t, rfl⟩ := k3
          rw [List.take_append_of_le_length hto]
        obtain ⟨r2, σ2, e2, hr2⟩ := ih (i + 1) fr to q' σ' a v m s (by omega) (by omega) (by omega) k1 k2
        rw [ht] at e2
        refine ⟨r2, σ2, e.trans e2, ?_⟩
        unfold bfsQ
        rw [hx]
        simp only [hq']
        exact hr2
    intro i fr to q σ a v m s hk hf hi h hI
    by_cases hlt : i < to
    · exact main i fr to q σ a v m s hk hf hlt h hI
    · have hit : i = to := by omega
      subst hit
      have hto := h.le
      have h1 : ¬ ((i - fr : Nat) : Int) < ((i - fr : Nat) : Int) := by omega
      have hL : f113_L2 guardT σ0.length (.fn fv caps) (.ptr s 0) (.osl a v 5 (i - fr) (qsP ((q.take i).drop fr))) (.p (pI ((i - fr : Nat)))) (.p (pI ((i - fr : Nat)))) σ = f113_L1 guardT σ0.length (.fn fv caps) (.ptr s 0) σ := by
        rw [f113_L2_eq guardT rfl]
        simp only [b_lss, b_eql, b_neq, b_leq, b_geq, b_gtr, h1, gG]
      rw [hL]
      by_cases hend : q.length = i
      · refine ⟨.p .nilsl, σ, L1_end h hend _, ?_⟩
        rw [bfsQ_none (List.getElem?_eq_none (by omega))]
        rfl
      · obtain ⟨a', v', σ', k1, e⟩ := L1_go h (by omega) (.fn fv caps)
        rw [e]
        exact main i i q.length q σ' a' v' m s hk (Nat.le_refl _) (by omega) k1 hI
theorem addE_len (q : List QE) (x : QE) : (addE q x).length ≤ q.length + 1 := by
  unfold addE addN
  split
  · omega
  · simp
theorem run_L0 {bq : List QE} (hb : ∀ x ∈ bq, x.n.length = 4) (hbn : bq.length ≤ 100000) (x1 : DV) : ∀ (k j : Nat) (σ : Store) (m s : Nat), bq.length - j = k → j ≤ bq.length → SS σ0 σ m s ((bq.take j).foldl addE []) 0 → ((bq.take j).foldl addE []).length ≤ j →
    ∃ σ', f113_L0 guardT σ0.length x1 (.ptr s 0) (.p (.sl false bq.length (qsP bq))) (.p (pI (bq.length : Nat))) (.p (pI (j : Nat))) σ = f113_L1 guardT σ0.length x1 (.ptr s 0) σ' ∧ SS σ0 σ' m s (bq.foldl addE []) 0
  | 0, j, σ, m, s, hk, hj, h, hl => by
    have : j = bq.length := by omega
    subst this
    rw [List.take_length] at h
    refine ⟨σ, ?_, h⟩
    rw [f113_L0_eq guardT rfl]
    have h1 : ¬ ((bq.length : Nat) : Int) < ((bq.length : Nat) : Int) := by omega
    simp only [b_lss, b_eql, b_neq, b_leq, b_geq, b_gtr, h1, gG]
  | k + 1, j, σ, m, s, hk, hj, h, hl => by
    have hjl : j < bq.length := by omega
    have hx : bq[j]? = some bq[j] := List.getElem?_eq_getElem hjl
    have hxl : (bq[j]).n.length = 4 := hb _ (List.getElem_mem hjl)
    have h1 : (j : Int) < ((bq.length : Nat) : Int) := by omega
    have hidx : indexAddr PP 183 (.p (.sl false bq.length (qsP bq))) (.p (pI (j : Nat))) = some (.pptr (qsP bq) (j * 5)) := by
      have h2 : (0 : Int) ≤ (j : Int) ∧ (j : Int) < (bq.length : Nat) := by omega
      simp [indexAddr, uS, sF, h2, hjl]
    have hld := part_at (σ := σ) (fr := 0) (to := bq.length) hb (Nat.zero_le _) hjl (Nat.le_refl _) hx
    rw [List.take_length, List.drop_zero, Nat.sub_zero] at hld
    have hsn := storeNew (lo := σ0.length) (z := nodeD [0, 0, 0, 0] ++ [.p .nilsl]) sF σ zlen (qeD_len bq[j] hxl) (qeD_one bq[j]) h.lle
    have hg : (σ ++ [Row.mix (qeD bq[j])])[σ.length]? = some (.mix (qeD bq[j])) := get_snoc
    have hl2 : loadN (σ ++ [Row.mix (qeD bq[j])]) 4 (.ptr σ.length 0) = some (nodeD bq[j].n) := loadN_ptr hg (by
      have e : (nodeD bq[j].n).length = 4 := by rw [nodeD_len, hxl]
      rw [List.drop_zero, qeD, List.take_append_of_le_length (by omega), List.take_of_length_le (by omega)]) (by rw [qeD_len _ hxl]; omega)
    have hl3 : load1 (.ptr σ.length 4) (σ ++ [Row.mix (qeD bq[j])]) = some (.p (ePth bq[j].p)) := load1_ptr hg (by
      have e : (nodeD bq[j].n).length = 4 := by rw [nodeD_len, hxl]
      rw [qeD, List.getElem?_append_right (by omega), e]; rfl)
    obtain ⟨σ', e1, k1, _⟩ := add_ok (h.snoc (.mix (qeD bq[j]))) hxl (x := .p (ePth bq[j].p)) (p := bq[j].p) (.inl rfl) (by omega)
    have hts : (bq.take (j + 1)).foldl addE [] = addN ((bq.take j).foldl addE []) bq[j].n bq[j].p := by
      rw [List.take_succ_eq_append_getElem hjl, List.foldl_append]; rfl
    rw [← hts] at k1
    obtain ⟨σ2, e2, k2⟩ := run_L0 hb hbn x1 k (j + 1) σ' m s (by omega) (by omega) k1 (by
      rw [hts]
      exact Nat.le_trans (addE_len ((bq.take j).foldl addE []) bq[j]) (by omega))
    refine ⟨σ2, ?_, k2⟩
    rw [f113_L0_eq guardT rfl]
    simp only [b_lss, b_eql, b_neq, b_leq, b_geq, b_gtr, h1, gG, hidx, loadF, hld, zeroF, hsn, faF0, faF1, shift_ptr, shift_pptr, Nat.zero_add, Nat.add_zero, pureFn_fn, List.append_nil, List.singleton_append, List.cons_append, List.nil_append, loadN', hl2, load22, hl3, e1, b_add, wrap_succ (show j ≤ 1000000 by omega)]
    exact e2
theorem run_nil (hc : caps.all rowFree1 = false) : pureV CC 113 [.p .nilsl, .fn fv caps] σ0 = some (.p .nilsl) := by
  have hs0 : SS σ0 ((σ0 ++ [Row.map []]) ++ [Row.mix [.map σ0.length, .p .nilsl]]) σ0.length (σ0 ++ [Row.map []]).length [] 0 := by
    refine ⟨get_old get_snoc, ⟨.p .nilsl, get_snoc, ?_⟩, Nat.le_refl _, Nat.le_refl _, by simp, fun x hx => absurd hx (by simp), (Ext.snoc _ _).trans (Ext.snoc _ _)⟩
    exact Out.zero
  refine pureV_rows rfl (by simp [rowFree, hc]) (F113_call (r := (.p .nilsl, (σ0 ++ [Row.map []]) ++ [Row.mix [.map σ0.length, .p .nilsl]])) ?_) rfl
  have hln : ∀ σ, len PP 183 (.p .nilsl) σ = some (.p (pI 0)) := fun σ => by simp [len, uS]
  have hbox : boxV (.agg [.map σ0.length, .p .nilsl]) = some [.map σ0.length, .p .nilsl] := rfl
  rw [F113_eq]
  simp only [bldS, hbox, gG, hln]
  rw [f113_L0_eq guardT rfl]
  simp only [b_lss, b_eql, b_neq, b_leq, b_geq, b_gtr, Int.lt_irrefl, gG, L1_end hs0 rfl]
theorem run_ok (hv : HV σ0 fv caps vis I) (hB : ∀ q, I q → q.length ≤ B) (hB2 : B ≤ 100000) {bq : List QE} (hb : ∀ x ∈ bq, x.n.length = 4) (hbn : bq.length ≤ 100000) (hI : I (bq.foldl addE [])) (hc : caps.all rowFree1 = false) :
    pureV CC 113 [.p (.sl false bq.length (qsP bq)), .fn fv caps] σ0 = some (match bfsQ vis (B + 1) 0 (bq.foldl addE []) with | none => .p .nilsl | some p => .p (.sl false p.length (eInts p))) := by
  have hs0 : SS σ0 ((σ0 ++ [Row.map []]) ++ [Row.mix [.map σ0.length, .p .nilsl]]) σ0.length (σ0 ++ [Row.map []]).length [] 0 := by
    refine ⟨get_old get_snoc, ⟨.p .nilsl, get_snoc, ?_⟩, Nat.le_refl _, Nat.le_refl _, by simp, fun x hx => absurd hx (by simp), (Ext.snoc _ _).trans (Ext.snoc _ _)⟩
    exact Out.zero
  obtain ⟨σ1, e1, k1⟩ := run_L0 hb hbn (.fn fv caps) _ 0 _ _ _ (Nat.sub_zero _) (Nat.zero_le _) hs0 (Nat.le_refl _)
  have key : ∃ r σ', f113_L1 guardT σ0.length (.fn fv caps) (.ptr (σ0 ++ [Row.map []]).length 0) σ1 = some (r, σ') ∧ RR r (bfsQ vis (B + 1) 0 (bq.foldl addE [])) := by
    by_cases h0 : (bq.foldl addE []).length = 0
    · refine ⟨.p .nilsl, σ1, L1_end k1 h0 _, ?_⟩
      rw [bfsQ_none (List.getElem?_eq_none (by omega))]
      rfl
    · obtain ⟨a, v, σ2, k2, e2⟩ := L1_go k1 (by omega) (.fn fv caps)
      rw [e2]
      exact run_L2 hv hB hB2 B 0 0 _ _ σ2 a v _ _ (Nat.sub_zero _) (Nat.le_refl _) (Nat.zero_le _) k2 hI
  obtain ⟨r, σ', e3, hr⟩ := key
  have hv1 : view (.p (.sl false bq.length (qsP bq))) = .p (.sl false bq.length (qsP bq)) := by simp [view, viewCell, loosen, loosens_qs]
  refine pureV_rows (by simp [hv1, fn_view]) (by simp [rowFree, hc]) (F113_call (r := (r, σ')) ?_) ?_
  · have hln : ∀ σ, len PP 183 (.p (.sl false bq.length (qsP bq))) σ = some (.p (pI (bq.length : Nat))) := fun σ => by simp [len, uS]
    have hbox : boxV (.agg [.map σ0.length, .p .nilsl]) = some [.map σ0.length, .p .nilsl] := rfl
    rw [F113_eq]
    simp only [bldS, hbox, gG, hln]
    exact e1.trans e3
  · cases hbq : bfsQ vis (B + 1) 0 (bq.foldl addE []) with
    | none =>
      rw [hbq] at hr
      have hr : r = .p .nilsl := hr
      subst hr
      rfl
    | some p =>
      rw [hbq] at hr
      obtain ⟨_, a, v, rfl⟩ := hr
      simp [thawAll, thawPart, thaw, thaw1, thawP, loosens_ints]
end
end Go.D.RnW
end
/- What the search for unimplied watches does at a node. -/
section
set_option linter.unusedVariables false
set_option linter.unusedSimpArgs false
namespace Go.D
def prC (c : Nat) : Pr := ⟨(c / 3 : Nat), (c % 3 : Nat)⟩
def toK (ls : List W3) (n : List Int) (pr : Pr) : Nat → List Int
  | 0 => n
  | i + 1 => (toK ls n pr i).set i (nextW (ls.getD i []) (n.getD i 0) pr)
def keepK (ls : List W3) (n : List Int) (pr : Pr) : Nat → Bool
  | 0 => true
  | i + 1 => keepK ls n pr i && !decide (nextW (ls.getD i []) (n.getD i 0) pr = -1)
def toW (ls : List W3) (w : W3) (n : List Int) (pr : Pr) : List Int := (toK ls n pr ls.length).set 3 (nextW w (n.getD 3 0) pr)
def visWF (ls : List W3) (w : W3) (x : QE) : Nat → Nat → List QE → Sum (List Int) (List QE)
  | 0, _, q => .inr q
  | r + 1, c, q => if keepK ls x.n (prC c) ls.length = true then
      if nextW w (x.n.getD 3 0) (prC c) = -1 then .inl (x.p ++ [(c : Int)]) else visWF ls w x r (c + 1) (addN q (toW ls w x.n (prC c)) (x.p ++ [(c : Int)]))
    else visWF ls w x r (c + 1) q
def visW (ls : List W3) (w : W3) (x : QE) (q : List QE) : Sum (List Int) (List QE) := visWF ls w x 9 0 q
/-- Right nodes. -/
structure NOk (ls : List W3) (w : W3) (n : List Int) : Prop where
  len : n.length = 4
  own : ∀ i, i < ls.length → 0 ≤ n.getD i 0 ∧ n.getD i 0 < ((ls.getD i []).length : Nat)
  oth : 0 ≤ n.getD 3 0 ∧ n.getD 3 0 < (w.length : Nat)
  rest : ∀ i, ls.length ≤ i → i < 3 → n.getD i 0 = 0
structure WsOk (ls : List W3) (w : W3) : Prop where
  k : ls.length ≤ 3
  l : ∀ i, i < ls.length → WOk (ls.getD i []) (ls.getD i []).length
  w : WOk w w.length
theorem badC {c : Nat} (h : c < 9) : badP (prC c) = false := by
  have h1 : c / 3 ≤ 2 := by omega
  have h2 : c % 3 ≤ 2 := by omega
  have a1 : ltr ((c / 3 : Nat) : Int) = true := ltr_iff.2 (by omega)
  have a2 : ltr ((c % 3 : Nat) : Int) = true := ltr_iff.2 (by omega)
  simp only [badP, prC, a1, a2]; rfl
theorem toK_len (ls : List W3) (n : List Int) (pr : Pr) : ∀ i, (toK ls n pr i).length = n.length
  | 0 => rfl
  | i + 1 => by rw [toK, List.length_set, toK_len ls n pr i]
theorem getD_set_eq {α : Type} (d : α) {l : List α} {i : Nat} {v : α} (h : i < l.length) : (l.set i v).getD i d = v := by
  rw [List.getD_eq_getElem?_getD, List.getElem?_set_self h]; rfl
theorem getD_set_ne {α : Type} (d : α) {l : List α} {i j : Nat} {v : α} (h : i ≠ j) : (l.set i v).getD j d = l.getD j d := by
  rw [List.getD_eq_getElem?_getD, List.getElem?_set_ne h, List.getD_eq_getElem?_getD]
theorem toK_at {ls : List W3} {n : List Int} {pr : Pr} (hn : n.length = 4) : ∀ (k : Nat), k ≤ 4 → ∀ j, (toK ls n pr k).getD j 0 = if j < k then nextW (ls.getD j []) (n.getD j 0) pr else n.getD j 0
  | 0, _, j => by simp [toK]
  | k + 1, hk, j => by
    have ih := toK_at (ls := ls) (pr := pr) hn k (by omega) j
    rw [toK]
    by_cases e : k = j
    · subst e
      rw [getD_set_eq 0 (by rw [toK_len, hn]; omega), if_pos (by omega)]
    · rw [getD_set_ne 0 e, ih]
      by_cases h : j < k
      · rw [if_pos h, if_pos (by omega)]
      · rw [if_neg h, if_neg (by omega)]
theorem keepK_iff {ls : List W3} {n : List Int} {pr : Pr} : ∀ k, keepK ls n pr k = true ↔ ∀ i, i < k → nextW (ls.getD i []) (n.getD i 0) pr ≠ -1
  | 0 => by simp [keepK]
  | k + 1 => by
    rw [keepK, Bool.and_eq_true, keepK_iff k]
    constructor
    · rintro ⟨h1, h2⟩ i hi
      by_cases e : i = k
      · subst e; simpa using h2
      · exact h1 i (by omega)
    · intro h
      exact ⟨fun i hi => h i (by omega), by simpa using h k (by omega)⟩
theorem toW_ok {ls : List W3} {w : W3} {n : List Int} {c : Nat} (hw : WsOk ls w) (hn : NOk ls w n) (hc : c < 9) (hk : keepK ls n (prC c) ls.length = true) (hb : nextW w (n.getD 3 0) (prC c) ≠ -1) : NOk ls w (toW ls w n (prC c)) := by
  have h3 := hw.k
  have e : ∀ i, i < 3 → (toW ls w n (prC c)).getD i 0 = if i < ls.length then nextW (ls.getD i []) (n.getD i 0) (prC c) else n.getD i 0 := by
    intro i hi
    rw [toW, getD_set_ne 0 (by omega), toK_at hn.len _ (by omega)]
  refine ⟨by rw [toW, List.length_set, toK_len, hn.len], fun i hi => ?_, ?_, fun i h1 h2 => ?_⟩
  · rw [e i (by omega), if_pos hi]
    exact next_rng (hw.l i hi) (hn.own i hi) (badC hc) ((keepK_iff _).1 hk i hi)
  · rw [toW, getD_set_eq 0 (by rw [toK_len, hn.len]; decide)]
    exact next_rng hw.w hn.oth (badC hc) hb
  · rw [e i h2, if_neg (by omega)]
    exact hn.rest i h1 h2
open RnW
theorem idx178 (b : Nat) {i : Nat} (h : i < 3) : indexAddr PP 178 (.ptr b 0) (.p (pI (i : Nat))) = some (.ptr b i) := by
  match i, h with
  | 0, _ => exact Eq.trans (by kernel_rfl) rfl
  | 1, _ => exact Eq.trans (by kernel_rfl) rfl
  | 2, _ => exact Eq.trans (by kernel_rfl) rfl
theorem fa180_0 (x : DV) : fieldAddr PP 180 x 0 = shiftPtr x 0 := Eq.trans (by kernel_rfl) rfl
theorem fa180_1 (x : DV) : fieldAddr PP 180 x 1 = shiftPtr x 3 := Eq.trans (by kernel_rfl) rfl
theorem s180 : size? PP 180 = some 4 := Eq.trans (by kernel_rfl) rfl
theorem zero180 : zeroOf PP 180 = some (nodeD [0, 0, 0, 0]) := Eq.trans (by kernel_rfl) rfl
theorem sz3 : size? PP 3 = some 1 := Eq.trans (by kernel_rfl) rfl
theorem SS.setMix {σ0 σ : Store} {m s to y : Nat} {q : List QE} {cs cs' : List DV} (h : RnW.SS σ0 σ m s q to) (hy : σ[y]? = some (.mix cs)) (hys : y ≠ s) (hlo : σ0.length ≤ y) : RnW.SS σ0 (σ.set y (.mix cs')) m s q to := by
  obtain ⟨lay, h1, h2⟩ := h.st
  have hmy : m ≠ y := by
    intro e
    have := h.mp
    rw [e, hy] at this
    exact absurd this (by simp)
  refine ⟨get_set_ne h.mp hmy, ⟨lay, get_set_ne h1 (fun e => hys e.symm), h2.1, ?_⟩, h.le, h.ml, h.sl, h.ln, fun j row e => get_set_ne (h.low j row e) (by have := get_lt e; omega)⟩
  rcases h2.2 with hz | ⟨hz, r, ver, e1, e2, e3⟩
  · exact .inl hz
  · refine .inr ⟨hz, r, ver, e1, get_set_ne e2 ?_, e3⟩
    intro e
    rw [e, hy] at e2
    exact absurd e2 (by simp)
theorem qeD_at {x : QE} (h : x.n.length = 4) {i : Nat} (hi : i < 4) : (qeD x)[i]? = some (.p (pI (x.n.getD i 0))) := by
  have e : (nodeD x.n).length = 4 := by rw [nodeD_len, h]
  rw [qeD, List.getElem?_append_left (by omega)]
  simp only [nodeD, List.getElem?_map]
  rw [List.getElem?_eq_getElem (by omega), getD_at 0 (by omega)]
  rfl
theorem nodeD_at {n : List Int} {i : Nat} (hi : i < n.length) : (nodeD n)[i]? = some (.p (pI (n.getD i 0))) := by
  simp only [nodeD, List.getElem?_map]
  rw [List.getElem?_eq_getElem hi, getD_at 0 hi]
  rfl
theorem nodeD_set (n : List Int) (i : Nat) (v : Int) : (nodeD n).set i (.p (pI v)) = nodeD (n.set i v) := by
  simp [nodeD, List.map_set]
section
variable {σ0 : Store} {r2 r3 : Nat} {ws : Option (List OW)} {w : OW} (h2 : σ0[r2]? = some (.mix [.p (eWs ws)])) (h3 : σ0[r3]? = some (.mix [.p (eWt w)])) (hw : WsOk ((L ws).map wl) (wl w))
include hw
omit hw in
theorem lsD {i : Nat} (hi : i < (L ws).length) : ((L ws).map wl).getD i [] = wl ((L ws).getD i none) := by
  rw [getD_at [] (by simpa using hi), getD_at none hi, List.getElem_map]
theorem L114_1 {x : QE} {m s to b z y : Nat} {q : List QE} {pr : Pr} (hx : NOk ((L ws).map wl) (wl w) x.n) (hp : badP pr = false) (hys : y ≠ s) (hyb : y ≠ b) (hyz : y ≠ z) (hlo : σ0.length ≤ y) (x2 x3 x14 : DV) :
    ∀ (k i : Nat) (σ : Store), (L ws).length - i = k → i ≤ (L ws).length → SS σ0 σ m s q to → σ[b]? = some (.mix (qeD x)) → σ[z]? = some (.mix (prD pr)) → σ[y]? = some (.mix (nodeD (toK ((L ws).map wl) x.n pr i))) →
    ∃ σ', f114_L1 guardT σ0.length (.ptr s 0) x2 x3 (.ptr b 0) x14 (.ptr z 0) (.ptr y 0) (.p (.bool (keepK ((L ws).map wl) x.n pr i))) x14 (.p (eWs ws)) (.p (pI ((L ws).length : Nat))) (.p (pI (i : Nat))) σ =
      f114_L1 guardT σ0.length (.ptr s 0) x2 x3 (.ptr b 0) x14 (.ptr z 0) (.ptr y 0) (.p (.bool (keepK ((L ws).map wl) x.n pr (L ws).length))) x14 (.p (eWs ws)) (.p (pI ((L ws).length : Nat))) (.p (pI ((L ws).length : Nat))) σ' ∧
      SS σ0 σ' m s q to ∧ σ'[b]? = some (.mix (qeD x)) ∧ σ'[z]? = some (.mix (prD pr)) ∧ σ'[y]? = some (.mix (nodeD (toK ((L ws).map wl) x.n pr (L ws).length))) ∧ σ'.length = σ.length
  | 0, i, σ, hk, hi, hS, hb, hz, hy => by
    have : i = (L ws).length := by omega
    subst this
    exact ⟨σ, rfl, hS, hb, hz, hy, rfl⟩
  | k + 1, i, σ, hk, hi, hS, hb, hz, hy => by
    have h : i < (L ws).length := by omega
    have h' : (i : Int) < ((L ws).length : Nat) := by omega
    have hk3 := hw.k
    rw [List.length_map] at hk3
    have e : (L ws).getD i none = (L ws).getD i none := rfl
    have hwi := hw.l i (by rw [List.length_map]; exact h)
    have hown := hx.own i (by rw [List.length_map]; exact h)
    rw [lsD h] at hwi hown
    have hS94 := S94 (σ := σ) hwi hown hp
    have hyl : (toK ((L ws).map wl) x.n pr i).length = 4 := by rw [toK_len, hx.len]
    have hst := store1 (lo := σ0.length) sz3 hy (off := i) (v := .p (pI (nextW (wl ((L ws).getD i none)) (x.n.getD i 0) pr))) (by rw [nodeD_len, hyl]; omega) rfl rfl hlo
    rw [nodeD_set] at hst
    have hto : toK ((L ws).map wl) x.n pr (i + 1) = (toK ((L ws).map wl) x.n pr i).set i (nextW (wl ((L ws).getD i none)) (x.n.getD i 0) pr) := by rw [toK, lsD h]
    have hkp : keepK ((L ws).map wl) x.n pr (i + 1) = (keepK ((L ws).map wl) x.n pr i && !decide (nextW (wl ((L ws).getD i none)) (x.n.getD i 0) pr = -1)) := by rw [keepK, lsD h]
    rw [← hto] at hst
    have gy : (σ.set y (.mix (nodeD (toK ((L ws).map wl) x.n pr (i + 1)))))[y]? = some (.mix (nodeD (toK ((L ws).map wl) x.n pr (i + 1)))) := by rw [List.getElem?_set_self (get_lt hy)]
    have hyl2 : (toK ((L ws).map wl) x.n pr (i + 1)).length = 4 := by rw [toK_len, hx.len]
    have gyi : load1 (.ptr y i) (σ.set y (.mix (nodeD (toK ((L ws).map wl) x.n pr (i + 1))))) = some (.p (pI (nextW (wl ((L ws).getD i none)) (x.n.getD i 0) pr))) := by
      refine load1_ptr gy ?_
      rw [nodeD_at (by omega), hto, getD_set_eq 0 (by omega)]
    obtain ⟨σ', e1, k1, k2, k3, k4, k5⟩ := L114_1 hx hp hys hyb hyz hlo x2 x3 x14 k (i + 1) (σ.set y (.mix (nodeD (toK ((L ws).map wl) x.n pr (i + 1))))) (by omega) (by omega) (SS.setMix hS hy hys hlo) (get_set_ne hb (fun e => hyb e.symm)) (get_set_ne hz (fun e => hyz e.symm)) gy
    refine ⟨σ', Eq.trans ?_ e1, k1, k2, k3, k4, by rw [k5, List.length_set]⟩
    have hpl : loadN σ 2 (.ptr z 0) = some (prD pr) := loadN_ptr hz rfl (by simp [prD])
    rw [f114_L1_eq guardT rfl, hkp]
    cases hkk : keepK ((L ws).map wl) x.n pr i <;>
      simp only [b_lss, b_eql, b_neq, b_leq, b_geq, b_gtr, h', gG, idx56 h, load27', load1_ws h, faF0, fa180_0, shift_ptr, shift_pptr, Nat.zero_add, Nat.add_zero, pureFn_fn, List.append_nil, List.singleton_append, List.cons_append, List.nil_append, idx178 _ (show i < 3 by omega), load3, load1_ptr (off := i) hb (qeD_at hx.len (by omega)), load98, hpl, hS94, hst, gyi, Bool.true_and, Bool.false_and, b_add, wrap_succ (show i ≤ 1000000 by omega)]
end
end Go.D
end
/- Unimplied watches: the program's search. -/
section
set_option linter.unusedVariables false
set_option linter.unusedSimpArgs false
namespace Go.D
open RnW
/-- What holds of all that is found. -/
structure IW (ls : List W3) (w : W3) (q : List QE) : Prop where
  nd : (q.map (·.n)).Nodup
  ok : ∀ x ∈ q, NOk ls w x.n
  pl : ∀ x ∈ q, x.p.length < q.length
  pr : ∀ x ∈ q, ∀ v ∈ x.p, (0 : Int) ≤ v ∧ v < 9
theorem IW.add {ls : List W3} {w : W3} {q : List QE} {n p : List Int} (h : IW ls w q) (hn : NOk ls w n) (hp : p.length ≤ q.length) (hv : ∀ v ∈ p, (0 : Int) ≤ v ∧ v < 9) : IW ls w (addN q n p) := by
  unfold addN
  split
  · exact h
  · rename_i hh
    have hh : ¬ ∃ x ∈ q, x.n = n := fun e => hh (hasN_mem.2 e)
    have hm : ∀ y ∈ q ++ [(⟨n, p⟩ : QE)], y ∈ q ∨ y = ⟨n, p⟩ := fun y hy => by simpa using hy
    refine ⟨?_, fun y hy => ?_, fun y hy => ?_, fun y hy => ?_⟩
    · rw [List.map_append, List.nodup_append]
      refine ⟨h.nd, by simp, fun a ha b hb => ?_⟩
      obtain ⟨x, hx, rfl⟩ := List.mem_map.1 ha
      have : b = n := by simpa using hb
      subst this
      exact fun e => hh ⟨x, hx, e⟩
    · rcases hm y hy with h1 | rfl
      · exact h.ok y h1
      · exact hn
    · rw [List.length_append]
      rcases hm y hy with h1 | rfl
      · have := h.pl y h1; simp; omega
      · simp; omega
    · rcases hm y hy with h1 | rfl
      · exact h.pr y h1
      · exact hv
theorem IW.le {ls : List W3} {w : W3} {q : List QE} (hw : WsOk ls w) (h : IW ls w q) : q.length ≤ 1296 := by
  have h1 : (q.map (·.n)).length ≤ (allTo [6, 6, 6, 6]).length := by
    refine nodup_le h.nd fun n hn => ?_
    obtain ⟨x, hx, rfl⟩ := List.mem_map.1 hn
    have hk := h.ok x hx
    refine allTo_mem (by rw [hk.len]; rfl) fun i h1 h2 => ?_
    have hi : i < 4 := by rw [hk.len] at h1; exact h1
    have e6 : (([6, 6, 6, 6] : List Nat)[i] : Nat) = 6 := by
      match i, hi with
      | 0, _ => rfl
      | 1, _ => rfl
      | 2, _ => rfl
      | 3, _ => rfl
    rw [e6, ← getD_at 0 h1]
    by_cases h3 : i < 3
    · by_cases hl : i < ls.length
      · have a := hk.own i hl
        have b := (hw.l i hl).n6
        omega
      · rw [hk.rest i (by omega) h3]; omega
    · have : i = 3 := by omega
      subst this
      have a := hk.oth
      have b := hw.w.n6
      omega
  rw [allTo_len, List.length_map] at h1
  exact h1
section
variable {σ0 : Store} {r2 r3 : Nat} {ws : Option (List OW)} {w : OW} (h2 : σ0[r2]? = some (.mix [.p (eWs ws)])) (h3 : σ0[r3]? = some (.mix [.p (eWt w)])) (hw : WsOk ((L ws).map wl) (wl w))
include h2 h3 hw
theorem L114_0 {x : QE} {m s to b : Nat} {q0 : List QE} (hx : NOk ((L ws).map wl) (wl w) x.n) (hbs : b ≠ s) (hpx : ∀ v ∈ x.p, (0 : Int) ≤ v ∧ v < 9) (hpl : x.p.length < q0.length) :
    ∀ (k c : Nat) (σ : Store) (q : List QE), 9 - c = k → c ≤ 9 → SS σ0 σ m s q to → IW ((L ws).map wl) (wl w) q → q0 <+: q → σ[b]? = some (.mix (qeD x)) →
    ∃ r σ', f114_L0 guardT σ0.length (.ptr s 0) (.ptr r2 0) (.ptr r3 0) (.ptr b 0) (.p (pI (c : Nat))) σ = some (r, σ') ∧
      ((∃ p, visWF ((L ws).map wl) (wl w) x k c q = .inl p ∧ p ≠ [] ∧ ∃ a v, r = .osl a v 1 p.length (eInts p)) ∨ (∃ q', visWF ((L ws).map wl) (wl w) x k c q = .inr q' ∧ r = .p .nilsl ∧ SS σ0 σ' m s q' to ∧ IW ((L ws).map wl) (wl w) q' ∧ q0 <+: q'))
  | 0, c, σ, q, hk, hc, hS, hI, hpre, hb => by
    have hn : ¬ (c : Int) < 9 := by omega
    refine ⟨.p .nilsl, σ, ?_, .inr ⟨q, rfl, rfl, hS, hI, hpre⟩⟩
    rw [f114_L0_eq guardT rfl]
    simp only [b_lss, b_eql, b_neq, b_leq, b_geq, b_gtr, hn, gG]
  | k + 1, c, σ, q, hk, hc, hS, hI, hpre, hb => by
    have hc9 : c < 9 := by omega
    have h' : (c : Int) < 9 := by omega
    have hql := hI.le hw
    have hp := badC hc9
    have hlle := hS.lle
    have hbl := get_lt hb
    have hpq : x.p.length < q.length := Nat.lt_of_lt_of_le hpl hpre.length_le
    -- the boxes
    have n1 := storeNew (lo := σ0.length) (cs := prD (prC c)) (z := [.p (pI 0), .p (pI 0)]) s98 σ rfl rfl rfl hlle
    have n2 := storeNew (lo := σ0.length) (cs := nodeD x.n) (z := nodeD [0, 0, 0, 0]) s180 (σ ++ [Row.mix (prD (prC c))]) rfl (by rw [nodeD_len, hx.len]) (nodeD_one _) (by simp; omega)
    have hb1 : (σ ++ [Row.mix (prD (prC c))])[b]? = some (.mix (qeD x)) := get_old hb
    have ln4 : loadN (σ ++ [Row.mix (prD (prC c))]) 4 (.ptr b 0) = some (nodeD x.n) := loadN_ptr hb1 (by
      have e : (nodeD x.n).length = 4 := by rw [nodeD_len, hx.len]
      rw [List.drop_zero, qeD, List.take_append_of_le_length (by omega), List.take_of_length_le (by omega)]) (by simp [qeD, nodeD, hx.len])
    have gy : ((σ ++ [Row.mix (prD (prC c))]) ++ [Row.mix (nodeD x.n)])[(σ ++ [Row.mix (prD (prC c))]).length]? = some (.mix (nodeD x.n)) := get_snoc
    have gz : ((σ ++ [Row.mix (prD (prC c))]) ++ [Row.mix (nodeD x.n)])[σ.length]? = some (.mix (prD (prC c))) := get_old get_snoc
    have gb : ((σ ++ [Row.mix (prD (prC c))]) ++ [Row.mix (nodeD x.n)])[b]? = some (.mix (qeD x)) := get_old hb1
    have hS2 : SS σ0 ((σ ++ [Row.mix (prD (prC c))]) ++ [Row.mix (nodeD x.n)]) m s q to := (hS.snoc _).snoc _
    have hyl : (σ ++ [Row.mix (prD (prC c))]).length = σ.length + 1 := by simp
    have hsl : s < σ.length := by obtain ⟨lay, e, _⟩ := hS.st; exact get_lt e
    generalize hY : (σ ++ [Row.mix (prD (prC c))]).length = y at *
    generalize hR : (σ ++ [Row.mix (prD (prC c))]) ++ [Row.mix (nodeD x.n)] = ρ at *
    have hr2 : ρ[r2]? = some (.mix [.p (eWs ws)]) := hS2.low _ _ h2
    obtain ⟨σ', e1, k1, k2, k3, k4, k5⟩ := L114_1 hw hx hp (y := y) (z := σ.length) (b := b) (by omega) (by omega) (by omega) (by omega) (.ptr r2 0) (.ptr r3 0) (.p (pI (c : Nat))) _ 0 ρ (Nat.sub_zero _) (Nat.zero_le _) hS2 gb gz gy
    have hJ : ∀ σ'', f114_J0 guardT σ0.length (.ptr s 0) (.ptr r2 0) (.ptr r3 0) (.ptr b 0) (.p (pI (c : Nat))) σ'' = f114_L0 guardT σ0.length (.ptr s 0) (.ptr r2 0) (.ptr r3 0) (.ptr b 0) (.p (pI (c + 1 : Nat))) σ'' := by
      intro σ''
      rw [f114_J0_eq]
      simp only [b_add, wrap_succ (show c ≤ 1000000 by omega), gG]
    have hnl : ¬ (((L ws).length : Nat) : Int) < ((L ws).length : Nat) := by omega
    have head : ∀ R, f114_L1 guardT σ0.length (.ptr s 0) (.ptr r2 0) (.ptr r3 0) (.ptr b 0) (.p (pI (c : Nat))) (.ptr σ.length 0) (.ptr y 0) (.p (.bool (keepK ((L ws).map wl) x.n (prC c) (L ws).length))) (.p (pI (c : Nat))) (.p (eWs ws)) (.p (pI ((L ws).length : Nat))) (.p (pI ((L ws).length : Nat))) σ' = R →
        f114_L0 guardT σ0.length (.ptr s 0) (.ptr r2 0) (.ptr r3 0) (.ptr b 0) (.p (pI (c : Nat))) σ = R := by
      intro R hRR
      rw [f114_L0_eq guardT rfl]
      have hbld : build PP 98 [(0, .p (pI ((c / 3 : Nat)))), (1, .p (pI ((c % 3 : Nat))))] = some (.agg (prD (prC c))) := bld98 _ _
      simp only [b_lss, b_eql, b_neq, b_leq, b_geq, b_gtr, h', gG, b_quo3 c (by omega), b_rem3, hbld, zero98, n1, faF0, shift_ptr, shift_pptr, Nat.zero_add, Nat.add_zero, pureFn_fn, List.append_nil, List.singleton_append, List.cons_append, List.nil_append, loadN', ln4, zero180, hY, n2, hR, load56, load1_ptr (off := 0) hr2 rfl, len56]
      exact e1.trans hRR
    have hlen3 : ((L ws).map wl).length = (L ws).length := List.length_map _
    unfold visWF
    rw [hlen3]
    cases hkk : keepK ((L ws).map wl) x.n (prC c) (L ws).length with
    | false =>
      obtain ⟨r, σ'', f1, f2⟩ := L114_0 hx hbs hpx hpl k (c + 1) σ' q (by omega) (by omega) k1 hI hpre k2
      refine ⟨r, σ'', head _ ?_, ?_⟩
      · rw [f114_L1_eq guardT rfl, hkk]
        simp only [b_lss, b_eql, b_neq, b_leq, b_geq, b_gtr, hnl, gG, hJ]
        exact f1
      · simp only [Bool.false_eq_true, if_false]
        exact f2
    | true =>
      simp only [if_true]
      have hoth := hx.oth
      have hr3 : σ'[r3]? = some (.mix [.p (eWt w)]) := k1.low _ _ h3
      obtain ⟨v1, σ1, ver, c1, _, c2⟩ := clone_app (p := x.p) (l2 := [(c : Int)]) (n := 1) (lo := σ0.length) (lo1 := σ0.length) (σ := σ') (by omega) rfl (by decide) (by decide) k1.lle
      have c2 : append PP σ0.length false 22 22 v1 (.p (.sl true 1 [pI (c : Nat)])) σ1 = some (.osl σ'.length ver 1 (x.p ++ [(c : Int)]).length (eInts (x.p ++ [(c : Int)])), σ' ++ [.tok ver]) := c2
      have t3 : (σ' ++ [Row.tok ver])[r3]? = some (.mix [.p (eWt w)]) := get_old hr3
      have tb : (σ' ++ [Row.tok ver])[b]? = some (.mix (qeD x)) := get_old k2
      have tz : (σ' ++ [Row.tok ver])[σ.length]? = some (.mix (prD (prC c))) := get_old k3
      have ty : (σ' ++ [Row.tok ver])[y]? = some (.mix (nodeD (toK ((L ws).map wl) x.n (prC c) (L ws).length))) := get_old k4
      have tS := k1.snoc (.tok ver)
      have hpl2 : loadN (σ' ++ [Row.tok ver]) 2 (.ptr σ.length 0) = some (prD (prC c)) := loadN_ptr tz rfl (by simp [prD])
      have hS94 := S94 (σ := σ' ++ [Row.tok ver]) hw.w hoth hp
      have hyl2 : (toK ((L ws).map wl) x.n (prC c) (L ws).length).length = 4 := by rw [toK_len, hx.len]
      have hst := store1 (lo := σ0.length) sz3 ty (off := 3) (v := .p (pI (nextW (wl w) (x.n.getD 3 0) (prC c)))) (by rw [nodeD_len, hyl2]; omega) rfl rfl (by omega)
      rw [nodeD_set] at hst
      have hto : (toK ((L ws).map wl) x.n (prC c) (L ws).length).set 3 (nextW (wl w) (x.n.getD 3 0) (prC c)) = toW ((L ws).map wl) (wl w) x.n (prC c) := by rw [toW, hlen3]
      rw [hto] at hst
      have hyl3 : (toW ((L ws).map wl) (wl w) x.n (prC c)).length = 4 := by rw [← hto, List.length_set, hyl2]
      have uS := SS.setMix (cs' := nodeD (toW ((L ws).map wl) (wl w) x.n (prC c))) tS ty (by omega) (by omega)
      have uy : ((σ' ++ [Row.tok ver]).set y (.mix (nodeD (toW ((L ws).map wl) (wl w) x.n (prC c)))))[y]? = some (.mix (nodeD (toW ((L ws).map wl) (wl w) x.n (prC c)))) := by rw [List.getElem?_set_self (get_lt ty)]
      have ub : ((σ' ++ [Row.tok ver]).set y (.mix (nodeD (toW ((L ws).map wl) (wl w) x.n (prC c)))))[b]? = some (.mix (qeD x)) := get_set_ne tb (by omega)
      have uy3 : load1 (.ptr y 3) ((σ' ++ [Row.tok ver]).set y (.mix (nodeD (toW ((L ws).map wl) (wl w) x.n (prC c))))) = some (.p (pI (nextW (wl w) (x.n.getD 3 0) (prC c)))) := by
        refine load1_ptr uy ?_
        rw [nodeD_at (by omega), ← hto, getD_set_eq 0 (by omega)]
      have uy4 : loadN ((σ' ++ [Row.tok ver]).set y (.mix (nodeD (toW ((L ws).map wl) (wl w) x.n (prC c))))) 4 (.ptr y 0) = some (nodeD (toW ((L ws).map wl) (wl w) x.n (prC c))) :=
        loadN_ptr uy (by rw [List.drop_zero, List.take_of_length_le (by rw [nodeD_len, hyl3]; exact Nat.le_refl _)]) (by rw [nodeD_len, hyl3]; exact Nat.le_refl _)
      have lb4 : load1 (.ptr b 4) σ' = some (.p (ePth x.p)) := load1_ptr k2 (by
        have e : (nodeD x.n).length = 4 := by rw [nodeD_len, hx.len]
        rw [qeD, List.getElem?_append_right (by omega), e]; rfl)
      generalize (σ' ++ [Row.tok ver]).set y (.mix (nodeD (toW ((L ws).map wl) (wl w) x.n (prC c)))) = τ at *
      by_cases hbk : nextW (wl w) (x.n.getD 3 0) (prC c) = -1
      · rw [hbk] at hst uy3 hS94
        refine ⟨.osl σ'.length ver 1 (x.p ++ [(c : Int)]).length (eInts (x.p ++ [(c : Int)])), τ, head _ ?_, .inl ⟨x.p ++ [(c : Int)], by rw [if_pos hbk], by simp, _, _, rfl⟩⟩
        rw [f114_L1_eq guardT rfl, hkk]
        simp only [b_lss, b_eql, b_neq, b_leq, b_geq, b_gtr, hnl, gG, faF0, faF1, fa180_0, fa180_1, shift_ptr, shift_pptr, Nat.zero_add, Nat.add_zero, pureFn_fn, List.append_nil, List.singleton_append, List.cons_append, List.nil_append, load22, lb4, c1, bs22_1, c2, load27', load1_ptr (off := 0) t3 rfl, load3, load1_ptr (off := 3) tb (qeD_at hx.len (by decide)), load98, hpl2, hS94, hst, uy3]
      · rw [if_neg hbk]
        have hne : x.p ++ [(c : Int)] ≠ [] := by simp
        obtain ⟨υ, a1, a2, a3⟩ := add_ok uS hyl3 (p := x.p ++ [(c : Int)]) (x := .osl σ'.length ver 1 (x.p ++ [(c : Int)]).length (eInts (x.p ++ [(c : Int)]))) (.inr ⟨hne, _, _, rfl⟩) (by omega)
        have hI2 : IW ((L ws).map wl) (wl w) (addN q (toW ((L ws).map wl) (wl w) x.n (prC c)) (x.p ++ [(c : Int)])) := by
          refine hI.add (toW_ok hw hx hc9 (by rw [hlen3]; exact hkk) hbk) (by simp; omega) fun v hv => ?_
          rcases List.mem_append.1 hv with h | h
          · exact hpx v h
          · rw [List.mem_singleton.1 h]; omega
        obtain ⟨r, σ'', f1, f2⟩ := L114_0 hx hbs hpx hpl k (c + 1) υ _ (by omega) (by omega) a2 hI2 (hpre.trans (addN_pre _ _ _)) (a3 b _ hbs ub)
        refine ⟨r, σ'', head _ ?_, f2⟩
        rw [f114_L1_eq guardT rfl, hkk]
        simp only [b_lss, b_eql, b_neq, b_leq, b_geq, b_gtr, hnl, gG, faF0, faF1, fa180_0, fa180_1, shift_ptr, shift_pptr, Nat.zero_add, Nat.add_zero, pureFn_fn, List.append_nil, List.singleton_append, List.cons_append, List.nil_append, load22, lb4, c1, bs22_1, c2, load27', load1_ptr (off := 0) t3 rfl, load3, load1_ptr (off := 3) tb (qeD_at hx.len (by decide)), load98, hpl2, hS94, hst, uy3, hbk, loadN', uy4, a1, hJ]
        exact f1
theorem hv114 : HV σ0 114 [.ptr r2 0, .ptr r3 0] (visW ((L ws).map wl) (wl w)) (IW ((L ws).map wl) (wl w)) := by
  intro σ q i to x m s hS hI hx hi
  have hm := List.mem_of_getElem? hx
  have hxn := hI.ok x hm
  have hsl : s < σ.length := by obtain ⟨lay, e, _⟩ := hS.st; exact get_lt e
  obtain ⟨r, σ', e1, e2⟩ := L114_0 h2 h3 hw (q0 := q) hxn (b := σ.length) (s := s) (by omega) (hI.pr x hm) (hI.pl x hm) _ 0 (σ ++ [.mix (qeD x)]) q (Nat.sub_zero _) (Nat.zero_le _) (hS.snoc _) hI (List.prefix_refl _) get_snoc
  refine ⟨r, σ', ?_, e2⟩
  show CC σ0.length 114 ([.ptr s 0, .agg (qeD x)] ++ [.ptr r2 0, .ptr r3 0]) σ = _
  refine F114_call ?_
  rw [F114_eq]
  simp only [box_agg (qeD_one x), gG]
  exact e1
end
end Go.D
end
/- Lists that grow from a literal; equal lists; what unimplied answers. -/
section
set_option linter.unusedVariables false
set_option linter.unusedSimpArgs false
namespace Go.D
def pathP (p : List Int) : List Pr := p.map fun c => prC c.toNat
def unRes (ls : List W3) (w : W3) : Option (List Int) := bfsQ (visW ls w) 1297 0 [⟨[0, 0, 0, 0], []⟩]
theorem nok0 {ls : List W3} {w : W3} (hw : WsOk ls w) : NOk ls w [0, 0, 0, 0] := by
  have h3 := hw.k
  refine ⟨rfl, fun i hi => ?_, ?_, fun i h1 h2 => ?_⟩
  · have := (hw.l i hi).n1
    have e : ([0, 0, 0, 0] : List Int).getD i 0 = 0 := by
      match i, (show i < 3 by omega) with
      | 0, _ => rfl
      | 1, _ => rfl
      | 2, _ => rfl
    rw [e]; omega
  · have := hw.w.n1
    show (0 : Int) ≤ 0 ∧ (0 : Int) < _
    omega
  · match i, h2 with
    | 0, _ => rfl
    | 1, _ => rfl
    | 2, _ => rfl
theorem iw0 {ls : List W3} {w : W3} (hw : WsOk ls w) : IW ls w [⟨[0, 0, 0, 0], []⟩] := by
  refine ⟨by simp, fun x hx => ?_, fun x hx => ?_, fun x hx v hv => ?_⟩
  · rw [List.mem_singleton.1 hx]; exact nok0 hw
  · rw [List.mem_singleton.1 hx]; simp
  · rw [List.mem_singleton.1 hx] at hv; exact absurd hv (by simp)
theorem visWF_ok {ls : List W3} {w : W3} (hw : WsOk ls w) {x : QE} (hx : NOk ls w x.n) (hpx : ∀ v ∈ x.p, (0 : Int) ≤ v ∧ v < 9) : ∀ (k c : Nat) (q : List QE), 9 - c = k → c ≤ 9 → IW ls w q → x.p.length < q.length →
    (∃ p, visWF ls w x k c q = .inl p ∧ (∀ v ∈ p, (0 : Int) ≤ v ∧ v < 9) ∧ p ≠ [] ∧ p.length ≤ 1300) ∨ (∃ q', visWF ls w x k c q = .inr q' ∧ IW ls w q' ∧ q <+: q')
  | 0, c, q, hk, hc, hI, hl => .inr ⟨q, rfl, hI, List.prefix_refl _⟩
  | k + 1, c, q, hk, hc, hI, hl => by
    have hc9 : c < 9 := by omega
    have hq := hI.le hw
    have hv : ∀ v ∈ x.p ++ [(c : Int)], (0 : Int) ≤ v ∧ v < 9 := by
      intro v hv
      rcases List.mem_append.1 hv with h | h
      · exact hpx v h
      · rw [List.mem_singleton.1 h]; omega
    unfold visWF
    split
    · rename_i h1
      split
      · exact .inl ⟨_, rfl, hv, by simp, by simp; omega⟩
      · rename_i h2
        have hI2 := hI.add (toW_ok hw hx hc9 h1 h2) (p := x.p ++ [(c : Int)]) (by simp; omega) hv
        have hpre := addN_pre q (toW ls w x.n (prC c)) (x.p ++ [(c : Int)])
        rcases visWF_ok hw hx hpx k (c + 1) _ (by omega) (by omega) hI2 (Nat.lt_of_lt_of_le hl hpre.length_le) with h | ⟨q', a1, a2, a3⟩
        · exact .inl h
        · exact .inr ⟨q', a1, a2, hpre.trans a3⟩
    · exact visWF_ok hw hx hpx k (c + 1) q (by omega) (by omega) hI hl
theorem bfsW_ok {ls : List W3} {w : W3} (hw : WsOk ls w) : ∀ (k i : Nat) (q : List QE) {p : List Int}, IW ls w q → bfsQ (visW ls w) k i q = some p → (∀ v ∈ p, (0 : Int) ≤ v ∧ v < 9) ∧ p ≠ [] ∧ p.length ≤ 1300
  | 0, i, q, p, hI, h => by simp [bfsQ] at h
  | k + 1, i, q, p, hI, h => by
    unfold bfsQ at h
    split at h
    · exact absurd h (by simp)
    · rename_i x hx
      have hm := List.mem_of_getElem? hx
      rcases visWF_ok hw (hI.ok x hm) (hI.pr x hm) 9 0 q rfl (by omega) hI (hI.pl x hm) with ⟨p', a1, a2, a3, a4⟩ | ⟨q', a1, a2, a3⟩
      · have a1 : visW ls w x q = .inl p' := a1
        rw [a1] at h
        have : p' = p := by simpa using h
        subst this
        exact ⟨a2, a3, a4⟩
      · have a1 : visW ls w x q = .inr q' := a1
        rw [a1] at h
        exact bfsW_ok hw k (i + 1) q' a2 h
theorem build182 : build PP 182 [] = some (.agg (nodeD [0, 0, 0, 0] ++ [.p .nilsl])) := Eq.trans (by kernel_rfl) rfl
theorem L76 {p : List Int} (hp : ∀ v ∈ p, (0 : Int) ≤ v ∧ v < 9) (hl : p.length ≤ 1300) (x6 : DV) : ∀ (k i : Nat) (x : DV) (σ : Store), p.length - i = k → i ≤ p.length → Out σ 0 2 i (ePrs ((pathP p).take i)) x →
    ∃ x' σ', f76_L0 guardT 0 x6 x (.p (.sl false p.length (eInts p))) (.p (pI (p.length : Nat))) (.p (pI (i : Nat))) σ = ((binOp PP .neq 22 x6 (.p .nilsl)).bind fun x31 => some (.tuple [x', x31], σ')) ∧ Out σ' 0 2 p.length (ePrs (pathP p)) x'
  | 0, i, x, σ, hk, hi, ho => by
    have : i = p.length := by omega
    subst this
    have hn : ¬ ((p.length : Nat) : Int) < (p.length : Nat) := by omega
    rw [List.take_of_length_le (by simp [pathP])] at ho
    refine ⟨x, σ, ?_, ho⟩
    rw [f76_L0_eq guardT rfl]
    simp only [b_lss, b_eql, b_neq, b_leq, b_geq, b_gtr, hn, gG]
  | k + 1, i, x, σ, hk, hi, ho => by
    have h : i < p.length := by omega
    have h' : (i : Int) < (p.length : Nat) := by omega
    have hv := hp _ (List.getElem_mem h)
    have hc : p[i] = ((p[i].toNat : Nat) : Int) := by omega
    obtain ⟨x', σ', e1, o1, _⟩ := ho.push31 (p := prC p[i].toNat) (by omega) (Nat.zero_le _)
    have hbld : build PP 98 [(0, .p (pI ((p[i].toNat / 3 : Nat)))), (1, .p (pI ((p[i].toNat % 3 : Nat))))] = some (.agg (prD (prC p[i].toNat))) := bld98 _ _
    have e3 : ePrs ((pathP p).take (i + 1)) = ePrs ((pathP p).take i) ++ ePrs [prC p[i].toNat] := by
      rw [List.take_succ_eq_append_getElem (by simpa [pathP] using h), prs_append]
      simp [pathP]
    rw [← e3] at o1
    obtain ⟨x'', σ'', f1, f2⟩ := L76 hp hl x6 k (i + 1) x' σ' (by omega) (by omega) o1
    refine ⟨x'', σ'', ?_, f2⟩
    rw [f76_L0_eq guardT rfl]
    simp only [b_lss, b_eql, b_neq, b_leq, b_geq, b_gtr, h', gG, idx22x h, load3, load1_ints h]
    rw [hc]
    simp only [b_quo3 _ (show p[i].toNat ≤ 1000000 by omega), b_rem3, gG, hbld, bs31_1, e1, b_add, wrap_succ (show i ≤ 1000000 by omega)]
    exact f1
theorem S76 {ws : Option (List OW)} {w : OW} {σ : Store} (hw : WsOk ((L ws).map wl) (wl w)) : pureV CC 76 [.p (eWs ws), .p (eWt w)] σ =
    some (match unRes ((L ws).map wl) (wl w) with | none => .tuple [.p .nilsl, .p (.bool false)] | some p => .tuple [.p (ePs (some (pathP p))), .p (.bool true)]) := by
  have hrun := RnW.run_ok (σ0 := ([Row.mix [.p (eWs ws)], Row.mix [.p (eWt w)]] : Store)) (hv114 (r2 := 0) (r3 := 1) rfl rfl hw) (fun q hq => hq.le hw) (by decide) (bq := [⟨[0, 0, 0, 0], []⟩]) (fun x hx => by rw [List.mem_singleton.1 hx]; rfl) (by simp) (iw0 hw) rfl
  have hrun2 : pureV CC 113 [.p (.sl true 1 (eInts [0, 0, 0, 0] ++ [.nilsl])), .fn 114 [.ptr 0 0, .ptr 1 0]] ([Row.mix [.p (eWs ws)], Row.mix [.p (eWt w)]] : Store) = some (match unRes ((L ws).map wl) (wl w) with | none => .p .nilsl | some p => .p (.sl false p.length (eInts p))) := by
    rw [pureV_view (args' := [.p (.sl false 1 (qsP [⟨[0, 0, 0, 0], []⟩])), .fn 114 [.ptr 0 0, .ptr 1 0]]) rfl rfl]
    exact hrun
  have hbs := RnW.bsp 0 0 0 0 .nilsl
  cases hu : unRes ((L ws).map wl) (wl w) with
  | none =>
    rw [hu] at hrun2
    obtain ⟨x', σ', f1, f2⟩ := L76 (p := []) (fun v hv => absurd hv (by simp)) (by decide) (.p .nilsl) _ 0 (.p .nilsl) ([Row.mix [.p (eWs ws)], Row.mix [.p (eWt w)]] : Store) rfl (Nat.le_refl _) Out.zero
    have hn : ¬ ((0 : Nat) : Int) < (0 : Nat) := by decide
    refine pureV_free (by simp [ws_view, wt_view]) rfl (F76_call (r := (.tuple [.p .nilsl, .p (.bool false)], ([Row.mix [.p (eWs ws)], Row.mix [.p (eWt w)]] : Store))) ?_) rfl
    rw [F76_eq]
    simp only [box_ws, box_wt, gG, build182, hbs, List.length_nil, List.length_cons, shift_ptr, shift_pptr, Nat.zero_add, Nat.add_zero, pureFn_fn, List.append_nil, List.singleton_append, List.cons_append, List.nil_append, hrun2, len22_nil]
    rw [f76_L0_eq guardT rfl]
    simp only [b_lss, b_eql, b_neq, b_leq, b_geq, b_gtr, Int.lt_irrefl, gG, neq22_nn]
  | some p =>
    rw [hu] at hrun2
    obtain ⟨hp, hp0, hpl⟩ := bfsW_ok hw _ _ _ (iw0 hw) hu
    obtain ⟨x', σ', f1, f2⟩ := L76 hp hpl (.p (.sl false p.length (eInts p))) _ 0 (.p .nilsl) ([Row.mix [.p (eWs ws)], Row.mix [.p (eWt w)]] : Store) rfl (Nat.zero_le _) Out.zero
    have hpn : ¬ p.length = 0 := fun e => hp0 (List.length_eq_zero_iff.1 e)
    refine pureV_free (by simp [ws_view, wt_view]) rfl (F76_call (r := (.tuple [x', .p (.bool true)], σ')) ?_) ?_
    · rw [F76_eq]
      have hln : ∀ σ, len PP 22 (.p (.sl false p.length (eInts p))) σ = some (.p (pI (p.length : Nat))) := fun σ => by simp [len, u22]
      simp only [box_ws, box_wt, gG, build182, hbs, List.length_nil, List.length_cons, shift_ptr, shift_pptr, Nat.zero_add, Nat.add_zero, pureFn_fn, List.append_nil, List.singleton_append, List.cons_append, List.nil_append, hrun2, hln]
      refine f1.trans ?_
      simp only [neq22_sl, gG]
    · obtain ⟨r, ver, rfl⟩ := f2.osl hpn
      simp [thawAll, mapO, thawPart, thaw, thaw1, thawP, loosen, loosens_prs, ePs, pathP]
end Go.D
end
/- Seat 2: the circular rule is sound, in plain terms. -/
section
set_option linter.unusedVariables false
set_option linter.unusedSimpArgs false
namespace Go.D.Ci
open Go.D.StB Go.D.Srt
theorem hasN_pre {q q' : List QE} {n : List Int} (h : q <+: q') (hh : hasN q n = true) : hasN q' n = true := by
  obtain ⟨t, rfl⟩ := h
  rw [hasN_app, hh]; rfl
theorem addN_has (q : List QE) (n p : List Int) : hasN (addN q n p) n = true := by
  unfold addN
  split
  · assumption
  · rw [hasN_app]; simp [hasN]
/-- A search without a find ends with a closed list. -/
theorem bfs_closed {vis : QE → List QE → Sum (List Int) (List QE)} {I : List QE → Prop} {P : QE → List QE → Prop} {B : Nat} (hB : ∀ q, I q → q.length ≤ B)
    (hs : ∀ x q, I q → x ∈ q → (∃ p, vis x q = .inl p) ∨ ∃ q', vis x q = .inr q' ∧ I q' ∧ q <+: q' ∧ P x q') (hm : ∀ x q q', q <+: q' → P x q → P x q') :
    ∀ (k i : Nat) (q : List QE), B + 1 ≤ k + i → I q → (∀ (j : Nat) (x : QE), j < i → q[j]? = some x → P x q) → bfsQ vis k i q = none → ∃ q', q <+: q' ∧ ∀ x ∈ q', P x q'
  | 0, i, q, hk, hI, hj, hn => by
    have := hB q hI
    refine ⟨q, List.prefix_refl _, fun x hx => ?_⟩
    obtain ⟨j, hj2, rfl⟩ := List.getElem_of_mem hx
    exact hj j _ (by omega) (List.getElem?_eq_getElem hj2)
  | k + 1, i, q, hk, hI, hj, hn => by
    unfold bfsQ at hn
    split at hn
    · rename_i hq
      have hql : q.length ≤ i := List.getElem?_eq_none_iff.1 hq
      refine ⟨q, List.prefix_refl _, fun x hx => ?_⟩
      obtain ⟨j, hj2, rfl⟩ := List.getElem_of_mem hx
      exact hj j _ (by omega) (List.getElem?_eq_getElem hj2)
    · rename_i x hx
      rcases hs x q hI (List.mem_of_getElem? hx) with ⟨p, h1⟩ | ⟨q', h1, h2, h3, h4⟩
      · rw [h1] at hn; exact absurd hn (by simp)
      · rw [h1] at hn
        obtain ⟨q2, k1, k2⟩ := bfs_closed hB hs hm k (i + 1) q' (by omega) h2 (fun j y hj2 hy => by
          obtain ⟨t, rfl⟩ := h3
          by_cases e : j = i
          · subst e
            have hl := (List.getElem?_eq_some_iff.1 hx).1
            rw [List.getElem?_append_left hl, hx] at hy
            injection hy with hy
            rw [← hy]; exact h4
          · have hl := (List.getElem?_eq_some_iff.1 hx).1
            rw [List.getElem?_append_left (by omega)] at hy
            exact hm y q _ (List.prefix_append _ _) (hj j y (by omega) hy)) hn
        exact ⟨q2, h3.trans k1, k2⟩
theorem bfs_none {vis : QE → List QE → Sum (List Int) (List QE)} {J : List QE → Prop} (hs : ∀ x q, J q → x ∈ q → ∃ q', vis x q = .inr q' ∧ J q') : ∀ (k i : Nat) (q : List QE), J q → bfsQ vis k i q = none
  | 0, _, _, _ => rfl
  | k + 1, i, q, h => by
    unfold bfsQ
    split
    · rfl
    · rename_i x hx
      obtain ⟨q', h1, h2⟩ := hs x q h (List.mem_of_getElem? hx)
      rw [h1]
      exact bfs_none hs k (i + 1) q' h2
def PV1 (c : Cmp) (wa wg : W3) (x : QE) (q : List QE) (e : Edg) : Prop :=
  e.f = x.n.getD 0 0 → nextW wg (x.n.getD 2 0) (vpr c e) ≠ -1 ∧ (nextW wa (x.n.getD 1 0) (vpr c e) ≠ -1 → hasN q [e.a, nextW wa (x.n.getD 1 0) (vpr c e), nextW wg (x.n.getD 2 0) (vpr c e)] = true)
theorem visVF_closed {c : Cmp} {wa wg : W3} {x : QE} : ∀ (r k : Nat) (q q' : List QE), visVF c wa wg x r k q = .inr q' → q <+: q' ∧ ∀ k', k ≤ k' → k' < k + r → PV1 c wa wg x q' ((L c.mv).getD k' default)
  | 0, k, q, q', h => by
    have : q = q' := by simpa [visVF] using h
    subst this
    exact ⟨List.prefix_refl _, fun k' h1 h2 => by omega⟩
  | r + 1, k, q, q', h => by
    unfold visVF at h
    have step : ∀ q2, visVF c wa wg x r (k + 1) q2 = .inr q' → q <+: q2 → PV1 c wa wg x q2 ((L c.mv).getD k default) → q <+: q' ∧ ∀ k', k ≤ k' → k' < k + (r + 1) → PV1 c wa wg x q' ((L c.mv).getD k' default) := by
      intro q2 h2 hp h3
      obtain ⟨a, b⟩ := visVF_closed r (k + 1) q2 q' h2
      refine ⟨hp.trans a, fun k' h4 h5 => ?_⟩
      by_cases e : k' = k
      · subst e
        intro hf
        obtain ⟨u, v⟩ := h3 hf
        exact ⟨u, fun hw => hasN_pre a (v hw)⟩
      · exact b k' (by omega) (by omega)
    split at h
    · rename_i hf
      split at h
      · exact absurd h (by simp)
      · rename_i hg
        split at h
        · rename_i ha
          exact step q h (List.prefix_refl _) fun _ => ⟨hg, fun hw => absurd ha hw⟩
        · exact step _ h (addN_pre _ _ _) fun _ => ⟨hg, fun _ => addN_has _ _ _⟩
    · rename_i hf
      exact step q h (List.prefix_refl _) fun hf2 => absurd hf2 hf
theorem vi_closed {c : Cmp} {n : Nat} {wa wg : W3} (hc : COk c n) (ha : WOk wa wa.length) (hg : WOk wg wg.length) (h : viRes c wa wg = none) :
    ∃ V : List Int → Prop, (∀ s ∈ L c.init, V [s, 0, 0]) ∧ ∀ a u v, V [a, u, v] → ∀ e ∈ L c.mv, e.f = a → nextW wg v (vpr c e) ≠ -1 ∧ (nextW wa u (vpr c e) ≠ -1 → V [e.a, nextW wa u (vpr c e), nextW wg v (vpr c e)]) := by
  obtain ⟨q', h1, h2⟩ := bfs_closed (I := IV n wa wg) (P := fun x q => ∀ e ∈ L c.mv, PV1 c wa wg x q e) (B := 360) (fun q hq => hq.le hc.n10 ha hg) (fun x q hI hx => by
      rcases visVF_ok hc ha hg (hI.ok x hx) (hI.pp x hx) _ 0 q rfl (Nat.zero_le _) hI (hI.pl x hx) with ⟨p, h1, _⟩ | ⟨q', h1, h2, h3⟩
      · exact .inl ⟨p, h1⟩
      · refine .inr ⟨q', h1, h2, h3, fun e he => ?_⟩
        obtain ⟨k, hk, rfl⟩ := List.getElem_of_mem he
        have := (visVF_closed _ 0 q q' h1).2 k (Nat.zero_le _) (by omega)
        rwa [getD_at default hk] at this)
    (fun x q q' hp h e he hf => ⟨(h e he hf).1, fun hw => hasN_pre hp ((h e he hf).2 hw)⟩) 361 0 (initQ c) (by decide) (iv0 hc ha hg) (fun j x hj => by omega) h
  refine ⟨fun l => hasN q' l = true, fun s hs => hasN_pre h1 (hasN_mem.2 ⟨_, List.mem_map.2 ⟨s, hs, rfl⟩, rfl⟩), fun a u v hV e he hf => ?_⟩
  obtain ⟨x, hx, hxn⟩ := hasN_mem.1 hV
  have := h2 x hx e he
  unfold PV1 at this
  rw [hxn] at this
  exact this hf
def PW1 (ls : List W3) (w : W3) (x : QE) (q : List QE) (c : Nat) : Prop :=
  keepK ls x.n (prC c) ls.length = true → nextW w (x.n.getD 3 0) (prC c) ≠ -1 ∧ hasN q (toW ls w x.n (prC c)) = true
theorem visWF_closed {ls : List W3} {w : W3} {x : QE} : ∀ (r k : Nat) (q q' : List QE), visWF ls w x r k q = .inr q' → q <+: q' ∧ ∀ k', k ≤ k' → k' < k + r → PW1 ls w x q' k'
  | 0, k, q, q', h => by
    have : q = q' := by simpa [visWF] using h
    subst this
    exact ⟨List.prefix_refl _, fun k' h1 h2 => by omega⟩
  | r + 1, k, q, q', h => by
    unfold visWF at h
    have step : ∀ q2, visWF ls w x r (k + 1) q2 = .inr q' → q <+: q2 → PW1 ls w x q2 k → q <+: q' ∧ ∀ k', k ≤ k' → k' < k + (r + 1) → PW1 ls w x q' k' := by
      intro q2 h2 hp h3
      obtain ⟨a, b⟩ := visWF_closed r (k + 1) q2 q' h2
      refine ⟨hp.trans a, fun k' h4 h5 => ?_⟩
      by_cases e : k' = k
      · subst e
        intro hf
        exact ⟨(h3 hf).1, hasN_pre a (h3 hf).2⟩
      · exact b k' (by omega) (by omega)
    split at h
    · rename_i hf
      split at h
      · exact absurd h (by simp)
      · rename_i hg
        exact step _ h (addN_pre _ _ _) fun _ => ⟨hg, addN_has _ _ _⟩
    · rename_i hf
      exact step q h (List.prefix_refl _) fun hf2 => absurd hf2 hf
theorem un_closed {ls : List W3} {w : W3} (hw : WsOk ls w) (h : unRes ls w = none) :
    ∃ V : List Int → Prop, V [0, 0, 0, 0] ∧ ∀ n, V n → ∀ c, c < 9 → keepK ls n (prC c) ls.length = true → nextW w (n.getD 3 0) (prC c) ≠ -1 ∧ V (toW ls w n (prC c)) := by
  obtain ⟨q', h1, h2⟩ := bfs_closed (I := IW ls w) (P := fun x q => ∀ c, c < 9 → PW1 ls w x q c) (B := 1296) (fun q hq => hq.le hw) (fun x q hI hx => by
      rcases visWF_ok hw (hI.ok x hx) (hI.pr x hx) 9 0 q rfl (by omega) hI (hI.pl x hx) with ⟨p, h1, _⟩ | ⟨q', h1, h2, h3⟩
      · exact .inl ⟨p, h1⟩
      · exact .inr ⟨q', h1, h2, h3, fun c hc => (visWF_closed 9 0 q q' h1).2 c (Nat.zero_le _) (by omega)⟩)
    (fun x q q' hp h c hc hf => ⟨(h c hc hf).1, hasN_pre hp (h c hc hf).2⟩) 1297 0 [⟨[0, 0, 0, 0], []⟩] (by decide) (iw0 hw) (fun j x hj => by omega) h
  refine ⟨fun l => hasN q' l = true, hasN_pre h1 rfl, fun n hV c hc hf => ?_⟩
  obtain ⟨x, hx, rfl⟩ := hasN_mem.1 hV
  exact h2 x hx c hc hf
theorem wok_turn {l : W3} (h : WOk l l.length) : WOk (turn3 l) (turn3 l).length := by
  rw [turn3_len]; exact turn3_ok h
theorem wsok2 {a b w : W3} (ha : WOk a a.length) (hb : WOk b b.length) (hw : WOk w w.length) : WsOk [a, b] w := by
  refine ⟨by simp, fun i hi => ?_, hw⟩
  match i, hi with
  | 0, _ => exact ha
  | 1, _ => exact hb
theorem ltr_rng {n : Int} (h : ltr n = true) : 0 ≤ n ∧ n ≤ 2 := ltr_iff.1 h
theorem pr_code {p : Pr} (h : badP p = false) : ∃ c, c < 9 ∧ prC c = p := by
  simp only [badP, Bool.or_eq_false_iff, Bool.not_eq_false'] at h
  have h1 := ltr_rng h.1
  have h2 := ltr_rng h.2
  refine ⟨p.i.toNat * 3 + p.o.toNat, by omega, ?_⟩
  obtain ⟨i, o⟩ := p
  simp only at h1 h2
  have a : (i.toNat * 3 + o.toNat) / 3 = i.toNat := by omega
  have b : (i.toNat * 3 + o.toNat) % 3 = o.toNat := by omega
  simp only [prC, a, b, Pr.mk.injEq]
  omega
theorem next_turn {l : W3} {s : Int} {p : Pr} (hs : 0 ≤ s ∧ s < (l.length : Nat)) (hp : badP p = false) : nextW (turn3 l) s p = nextW l s (swp p) := by
  simp only [badP, Bool.or_eq_false_iff, Bool.not_eq_false'] at hp
  have h1 := ltr_rng hp.1
  have h2 := ltr_rng hp.2
  exact turn3_cell (by omega) (by omega) (by omega)
def un1 (x : Rle) : Option (List Int) := unRes [wl x.ga, turn3 (wl x.gb)] (wl x.aa)
def un2 (x : Rle) : Option (List Int) := unRes [wl x.ga, turn3 (wl x.gb)] (turn3 (wl x.ab))
theorem circ {x : Rle} {na nb : Nat} (hx : ROk x na nb) (v1 : viRes x.A (wl x.aa) (wl x.ga) = none) (v2 : viRes x.B (wl x.ab) (wl x.gb) = none) (u1 : un1 x = none) (u2 : un2 x = none) : brRes x = none := by
  obtain ⟨VA, a1, a2⟩ := vi_closed hx.A hx.aa hx.ga v1
  obtain ⟨VB, b1, b2⟩ := vi_closed hx.B hx.ab hx.gb v2
  obtain ⟨W1, c1, c2⟩ := un_closed (wsok2 hx.ga (wok_turn hx.gb) hx.aa) u1
  obtain ⟨W2, d1, d2⟩ := un_closed (wsok2 hx.ga (wok_turn hx.gb) (wok_turn hx.ab)) u2
  refine bfs_none (J := fun q => ∀ y ∈ q, NOkG na nb x y.n ∧ ∃ s u g h sA sB : Int, y.n = [s, u, g, h] ∧ (0 ≤ sA ∧ sA < ((wl x.aa).length : Nat)) ∧ (0 ≤ sB ∧ sB < ((wl x.ab).length : Nat)) ∧ VA [s, sA, g] ∧ VB [u, sB, h] ∧ W1 [g, h, 0, sA] ∧ W2 [g, h, 0, sB]) ?_ _ _ _ ?_
  · intro y q hJ hy
    obtain ⟨hn, s, u, g, h, sA, sB, e, rA, rB, hA, hB, h1, h2⟩ := hJ y hy
    obtain ⟨p1, p2⟩ := gpr_ok hx hn
    have rg := hn.a
    have rh := hn.b
    rw [e] at rg rh
    have rg : 0 ≤ g ∧ g < ((wl x.ga).length : Nat) := rg
    have rh : 0 ≤ h ∧ h < ((wl x.gb).length : Nat) := rh
    have egA : gA x y.n = nextW (wl x.ga) g (gpr x y.n) := by rw [gA, e]; rfl
    have egB : gB x y.n = nextW (wl x.gb) h (swp (gpr x y.n)) := by rw [gB, e]; rfl
    have ep : gpr x y.n = ⟨outC x.B u, outC x.A s⟩ := by rw [gpr, e]; rfl
    have end0 : ndE y.n = (s, u) := by rw [ndE, e]; rfl
    unfold visG
    rw [end0]
    -- one step of both
    have key : ∀ z ∈ stepsL x.A x.B (s, u), gA x y.n ≠ -1 ∧ gB x y.n ≠ -1 ∧ ∃ sA' sB' : Int, (0 ≤ sA' ∧ sA' < ((wl x.aa).length : Nat)) ∧ (0 ≤ sB' ∧ sB' < ((wl x.ab).length : Nat)) ∧ VA [z.1, sA', gA x y.n] ∧ VB [z.2, sB', gB x y.n] ∧ W1 [gA x y.n, gB x y.n, 0, sA'] ∧ W2 [gA x y.n, gB x y.n, 0, sB'] := by
      intro z hz
      obtain ⟨m, hm, n, hn2, hst, rfl⟩ := mem_steps.1 hz
      obtain ⟨m1, n1, m2, n2⟩ := stepC_iff.1 hst
      have m1 : m.f = s := m1
      have n1 : n.f = u := n1
      have vm : vpr x.A m = gpr x y.n := by
        rw [ep, vpr, m1]
        have : m.t = outC x.B u := m2
        rw [this]
      have vn : vpr x.B n = swp (gpr x y.n) := by
        rw [ep, vpr, n1]
        have : n.t = outC x.A s := n2
        rw [this]; rfl
      obtain ⟨ka, la⟩ := a2 s sA g hA m hm m1
      obtain ⟨kb, lb⟩ := b2 u sB h hB n hn2 n1
      rw [vm] at ka la
      rw [vn] at kb lb
      rw [← egA] at ka la
      rw [← egB] at kb lb
      obtain ⟨c, hc9, hc⟩ := pr_code p1
      have tg : nextW (turn3 (wl x.gb)) h (gpr x y.n) = gB x y.n := by rw [next_turn rh p1, egB]
      have hk : ∀ z : Int, keepK [wl x.ga, turn3 (wl x.gb)] [g, h, 0, z] (prC c) 2 = true := by
        intro z
        rw [keepK_iff, hc]
        intro i hi
        match i, hi with
        | 0, _ => show nextW (wl x.ga) g (gpr x y.n) ≠ -1; rw [← egA]; exact ka
        | 1, _ => show nextW (turn3 (wl x.gb)) h (gpr x y.n) ≠ -1; rw [tg]; exact kb
      have tw : ∀ (w : W3) (z : Int), toW [wl x.ga, turn3 (wl x.gb)] w [g, h, 0, z] (prC c) = [gA x y.n, gB x y.n, 0, nextW w z (gpr x y.n)] := by
        intro w z
        rw [hc, ← tg, egA]
        rfl
      obtain ⟨w1, w1'⟩ := c2 _ h1 c hc9 (hk sA)
      obtain ⟨w2, w2'⟩ := d2 _ h2 c hc9 (hk sB)
      rw [tw] at w1' w2'
      rw [hc] at w1 w2
      have w1 : nextW (wl x.aa) sA (gpr x y.n) ≠ -1 := w1
      have w2 : nextW (turn3 (wl x.ab)) sB (gpr x y.n) ≠ -1 := w2
      rw [next_turn rB p1] at w2 w2'
      exact ⟨ka, kb, _, _, next_rng hx.aa rA p1 w1, next_rng hx.ab rB p2 w2, la w1, lb w2, w1', w2'⟩
    have go : ∀ (l : List E), (∀ z ∈ l, z ∈ stepsL x.A x.B (s, u)) → ∀ q, (∀ y ∈ q, NOkG na nb x y.n ∧ ∃ s u g h sA sB : Int, y.n = [s, u, g, h] ∧ (0 ≤ sA ∧ sA < ((wl x.aa).length : Nat)) ∧ (0 ≤ sB ∧ sB < ((wl x.ab).length : Nat)) ∧ VA [s, sA, g] ∧ VB [u, sB, h] ∧ W1 [g, h, 0, sA] ∧ W2 [g, h, 0, sB]) →
        ∃ q', visGF (gA x y.n) (gB x y.n) y.p l q = .inr q' ∧ ∀ y ∈ q', NOkG na nb x y.n ∧ ∃ s u g h sA sB : Int, y.n = [s, u, g, h] ∧ (0 ≤ sA ∧ sA < ((wl x.aa).length : Nat)) ∧ (0 ≤ sB ∧ sB < ((wl x.ab).length : Nat)) ∧ VA [s, sA, g] ∧ VB [u, sB, h] ∧ W1 [g, h, 0, sA] ∧ W2 [g, h, 0, sB] := by
      intro l
      induction l with
      | nil => exact fun _ q hq => ⟨q, rfl, hq⟩
      | cons z l ih =>
        intro hl q hq
        have hz := hl z (by simp)
        obtain ⟨ka, kb, sA', sB', r1, r2, r3, r4, r5, r6⟩ := key z hz
        have hzr := steps_in hx.A hx.B hz
        have ra := next_rng hx.ga hn.a p1 ka
        have rb := next_rng hx.gb hn.b p2 kb
        unfold visGF
        rw [if_neg (fun h => h.elim ka kb)]
        refine ih (fun w hw => hl w (by simp [hw])) _ fun w hw => ?_
        unfold addN at hw
        split at hw
        · exact hq w hw
        · rcases List.mem_append.1 hw with hw | hw
          · exact hq w hw
          · rw [List.mem_singleton.1 hw]
            exact ⟨⟨rfl, hzr.1, hzr.2, ra, rb⟩, z.1, z.2, _, _, sA', sB', rfl, r1, r2, r3, r4, r5, r6⟩
    exact go _ (fun z hz => hz) q hJ
  · intro y hy
    obtain ⟨e, he, rfl⟩ := List.mem_map.1 hy
    have h1 := hx.aa.n1
    have h2 := hx.ab.n1
    obtain ⟨s, hs, u, hu, rfl⟩ : ∃ s ∈ L x.A.init, ∃ u ∈ L x.B.init, e = (s, u) := by
      simp only [begL, List.mem_flatMap, List.mem_map] at he
      obtain ⟨s, hs, u, hu, rfl⟩ := he
      exact ⟨s, hs, u, hu, rfl⟩
    exact ⟨nok0G hx he, s, u, 0, 0, 0, 0, rfl, ⟨by omega, by omega⟩, ⟨by omega, by omega⟩, a1 s hs, b1 u hu, c1, d1⟩
end Go.D.Ci
end
/- Unimplied watches: the reference's search. -/
section
set_option linter.unusedVariables false
set_option linter.unusedSimpArgs false
namespace Go.D
theorem Grow.below {σ σ' : Store} {B sz n : Nat} {cs : List PV} {x : DV} (h : Grow σ B sz n cs x) (he : ∀ (j : Nat) (row : Row), j < σ.length → σ[j]? = some row → σ'[j]? = some row) : Grow σ' B sz n cs x :=
  h.ext fun j row e => he j row (get_lt e) e
section
variable {ws : Option (List OW)} {w : OW} (hw : WsOk ((L ws).map wl) (wl w)) {x : QE} {q : List QE} {i c : Nat} (hx : NOk ((L ws).map wl) (wl w) x.n) (hxi : q[i]? = some x) (hc : c < 9)
include hw hx hxi hc
end
end Go.D
end
/- Unimplied watches: the reference answers as the program. -/
section
set_option linter.unusedVariables false
set_option linter.unusedSimpArgs false
namespace Go.D
section
variable {ws : Option (List OW)} {w : OW} (hw : WsOk ((L ws).map wl) (wl w))
include hw
end
end Go.D
end
/- OpenUnimplied: the law answers true. -/
section
set_option linter.unusedVariables false
set_option linter.unusedSimpArgs false
namespace Go.D
end Go.D
end
