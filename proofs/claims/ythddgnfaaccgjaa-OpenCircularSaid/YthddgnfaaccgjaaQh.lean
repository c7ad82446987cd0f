/- The search over guarded: the program's add and run. -/
import Derived.Test.YthddgnfaaccgjaaQg
import Derived.Test.YthddgnfaaccgjaaQa
section
set_option linter.unusedVariables false
set_option linter.unusedSimpArgs false
namespace Go.D.RnG
theorem neq22_osl (r ver sz n : Nat) (cs : List PV) : binOp PP .neq 22 (.osl r ver sz n cs) (.p .nilsl) = some (.p (.bool true)) := Eq.trans (by kernel_rfl) rfl
theorem uM : PP.underlying 193 = some (.map 149 4) := Eq.trans (by kernel_rfl) rfl
theorem uS : PP.underlying 147 = some (.slice 151) := Eq.trans (by kernel_rfl) rfl
theorem sF : size? PP 151 = some 5 := Eq.trans (by kernel_rfl) rfl
theorem sS : size? PP 147 = some 1 := Eq.trans (by kernel_rfl) rfl
theorem bytesF : bytes? PP 151 = some 56 := Eq.trans (by kernel_rfl) rfl
theorem zeroF : zeroOf PP 151 = some (nodeD [0, 0, 0, 0] ++ [.p .nilsl]) := Eq.trans (by kernel_rfl) rfl
theorem srcS : srcType PP 147 = true := Eq.trans (by kernel_rfl) rfl
theorem zvB : zeroVal PP 4 = some (.p (.bool false)) := Eq.trans (by kernel_rfl) rfl
theorem loadM (x : DV) (σ : Store) : load PP 193 x σ = load1 x σ := Eq.trans (by kernel_rfl) rfl
theorem loadS (x : DV) (σ : Store) : load PP 147 x σ = load1 x σ := Eq.trans (by kernel_rfl) rfl
theorem loadN' (x : DV) (σ : Store) : load PP 149 x σ = (loadN σ 4 x).map .agg := Eq.trans (by kernel_rfl) rfl
theorem loadF (x : DV) (σ : Store) : load PP 151 x σ = (loadN σ 5 x).map .agg := Eq.trans (by kernel_rfl) rfl
theorem faS0 (x : DV) : fieldAddr PP 195 x 0 = shiftPtr x 0 := Eq.trans (by kernel_rfl) rfl
theorem faS1 (x : DV) : fieldAddr PP 195 x 1 = shiftPtr x 1 := Eq.trans (by kernel_rfl) rfl
theorem faF0 (x : DV) : fieldAddr PP 151 x 0 = shiftPtr x 0 := Eq.trans (by kernel_rfl) rfl
theorem faF1 (x : DV) : fieldAddr PP 151 x 1 = shiftPtr x 4 := Eq.trans (by kernel_rfl) rfl
theorem bldS (r : Nat) : build PP 195 [(0, .map r)] = some (.agg [.map r, .p .nilsl]) := Eq.trans (by kernel_rfl) rfl
theorem bldFp (a b c d : Int) (v : PV) : build PP 151 [(0, .agg (nodeD [a, b, c, d])), (1, .p v)] = some (.agg (nodeD [a, b, c, d] ++ [.p v])) := Eq.trans (by kernel_rfl) rfl
theorem bldFo (a b c d : Int) (r ver sz n : Nat) (cs : List PV) : build PP 151 [(0, .agg (nodeD [a, b, c, d])), (1, .osl r ver sz n cs)] = some (.agg (nodeD [a, b, c, d] ++ [.osl r ver sz n cs])) := Eq.trans (by kernel_rfl) rfl
theorem bsp (a b c d : Int) (v : PV) (σ : Store) : buildSlice PP none 147 1 [(0, .agg (nodeD [a, b, c, d] ++ [.p v]))] σ = some (.p (.sl true 1 (eInts [a, b, c, d] ++ [v])), σ) := Eq.trans (by kernel_rfl) rfl
theorem bso (a b c d : Int) (r ver sz n : Nat) (cs : List PV) (σ : Store) : buildSlice PP none 147 1 [(0, .agg (nodeD [a, b, c, d] ++ [.osl r ver sz n cs]))] σ = some (.p (.sl true 1 (eInts [a, b, c, d] ++ [.sl false n cs])), σ) := Eq.trans (by kernel_rfl) rfl
theorem keyOkE (a b c d : Int) : keyOk PP 40 149 (.agg (nodeD [a, b, c, d])) = true := Eq.trans (by kernel_rfl) rfl
theorem eqAtE (a b c d a' b' c' d' : Int) : eqAt PP 40 149 (.agg (nodeD [a, b, c, d])) (.agg (nodeD [a', b', c', d'])) = (match (match some (a == a') with | some true => (match some (b == b') with | some true => some true | r => r) | r => r) with | some true => (match some (c == c') with | some true => (match some (d == d') with | some true => some true | r => r) | r => r) | r => r) := by kernel_rfl
theorem len4 {n : List Int} (h : n.length = 4) : ∃ a b c d, n = [a, b, c, d] := by
  match n, h with
  | [a, b, c, d], _ => exact ⟨a, b, c, d, rfl⟩
theorem keyOkL {n : List Int} (h : n.length = 4) : keyOk PP 40 149 (.agg (nodeD n)) = true := by
  obtain ⟨a, b, c, d, rfl⟩ := len4 h
  exact keyOkE a b c d
theorem beqD (x y : Int) : (x == y) = decide (y = x) := by
  by_cases e : y = x
  · subst e; simp
  · have e' : ¬ x = y := fun h => e h.symm
    simp [e, e']
theorem eqAtL {n n' : List Int} (h : n.length = 4) (h' : n'.length = 4) : eqAt PP 40 149 (.agg (nodeD n)) (.agg (nodeD n')) = some (decide (n' = n)) := by
  obtain ⟨a, b, c, d, rfl⟩ := len4 h
  obtain ⟨a', b', c', d', rfl⟩ := len4 h'
  rw [eqAtE]
  simp only [beqD]
  by_cases ha : a' = a <;> by_cases hb : b' = b <;> by_cases hc : c' = c <;> by_cases hd : d' = d <;> simp [ha, hb, hc, hd]
theorem findKeyL {n : List Int} (h : n.length = 4) : ∀ q : List QE, (∀ x ∈ q, x.n.length = 4) → findKey PP 149 (.agg (nodeD n)) (entN q) = some (if hasN q n = true then some (.p (.bool true)) else none)
  | [], _ => rfl
  | x :: q, hq => by
    have ih := findKeyL h q fun y hy => hq y (by simp [hy])
    have e : entN (x :: q) = (.agg (nodeD x.n), .p (.bool true)) :: entN q := rfl
    have e2 : hasN (x :: q) n = (decide (x.n = n) || hasN q n) := rfl
    rw [e, findKey, eqAtL h (hq x (by simp)), e2]
    cases decide (x.n = n) with
    | true => rfl
    | false => simp only [Bool.false_or]; exact ih
theorem updKeyL {n : List Int} (p : List Int) (h : n.length = 4) : ∀ q : List QE, (∀ x ∈ q, x.n.length = 4) → hasN q n = false → updKey PP 149 (.agg (nodeD n)) (.p (.bool true)) (entN q) = some (entN (q ++ [⟨n, p⟩]))
  | [], _, _ => rfl
  | x :: q, hq, hn => by
    have e2 : hasN (x :: q) n = (decide (x.n = n) || hasN q n) := rfl
    rw [e2, Bool.or_eq_false_iff] at hn
    have ih := updKeyL p h q (fun y hy => hq y (by simp [hy])) hn.2
    have e : entN (x :: q) = (.agg (nodeD x.n), .p (.bool true)) :: entN q := rfl
    rw [e, updKey, eqAtL h (hq x (by simp)), hn.1, ih]
    rfl
structure SS (σ0 σ : Store) (m s : Nat) (q : List QE) (to : Nat) : Prop where
  mp : σ[m]? = some (.map (entN q))
  st : ∃ lay, σ[s]? = some (.mix [.map m, lay]) ∧ Out σ σ0.length 5 (q.length - to) (qsP (q.drop to)) lay
  le : to ≤ q.length
  ml : σ0.length ≤ m
  sl : σ0.length ≤ s
  ln : ∀ x ∈ q, x.n.length = 4
  low : Ext σ0 σ
theorem ext_len {σ σ' : Store} (h : Ext σ σ') : σ.length ≤ σ'.length := by
  cases hl : σ.length with
  | zero => exact Nat.zero_le _
  | succ n =>
    have h1 : n < σ.length := by omega
    exact get_lt (h n _ (List.getElem?_eq_getElem h1))
theorem SS.lle {σ0 σ : Store} {m s : Nat} {q : List QE} {to : Nat} (h : SS σ0 σ m s q to) : σ0.length ≤ σ.length := ext_len h.low
theorem SS.snoc {σ0 σ : Store} {m s : Nat} {q : List QE} {to : Nat} (h : SS σ0 σ m s q to) (r : Row) : SS σ0 (σ ++ [r]) m s q to := by
  obtain ⟨lay, h1, h2⟩ := h.st
  exact ⟨get_old h.mp, ⟨lay, get_old h1, h2.snoc⟩, h.le, h.ml, h.sl, h.ln, h.low.trans (Ext.snoc σ r)⟩
/-- Boxes that are kept. -/
def KeepB (σ σ' : Store) (s : Nat) : Prop := ∀ (j : Nat) (cs : List DV), j ≠ s → σ[j]? = some (.mix cs) → σ'[j]? = some (.mix cs)
theorem KeepB.trans {a b c : Store} {s : Nat} (h : KeepB a b s) (h2 : KeepB b c s) : KeepB a c s := fun j cs hj e => h2 j cs hj (h j cs hj e)
theorem keepB_snoc (σ : Store) (r : Row) (s : Nat) : KeepB σ (σ ++ [r]) s := fun j cs _ e => get_old e
theorem store1 {t lo : Nat} (hs : size? PP t = some 1) {σ : Store} {r off : Nat} {O : List DV} {v : DV} (h : σ[r]? = some (.mix O)) (ht : off < O.length) (hv : v.one = true) (hc : v.cells = [v]) (hlo : lo ≤ r) :
    store PP lo t (.ptr r off) v σ = some (σ.set r (.mix (O.set off v))) := by
  have h1 : off + 1 ≤ O.length := ht
  have h2 : splice O off [v] = O.set off v := by
    unfold splice
    rw [List.set_eq_take_append_cons_drop]
    simp [ht]
  simp [store, hs, hc, storeN, h, hv, h1, h2, hlo]
theorem storeNew {t n lo : Nat} (hs : size? PP t = some n) {cs z : List DV} (σ : Store) (hz : z.length = n) (hc : cs.length = n) (ho : cs.all DV.one = true) (hlo : lo ≤ σ.length) : store PP lo t (.ptr σ.length 0) (.agg cs) (σ ++ [.mix z]) = some (σ ++ [.mix cs]) := by
  have e : splice z 0 cs = cs := by simp [splice, hz, hc]
  simp [store, hs, DV.cells, storeN, hc, hz, ho, e, hlo]
theorem nodeD_len (n : List Int) : (nodeD n).length = n.length := by simp [nodeD]
theorem nodeD_one (n : List Int) : (nodeD n).all DV.one = true := by simp [nodeD, DV.one]
theorem box_agg {cs : List DV} (h : cs.all DV.one = true) : boxV (.agg cs) = some cs := by
  simp [boxV, DV.cells, h]
theorem out_one {σ : Store} {lo sz n : Nat} {cs : List PV} {x : DV} (ho : Out σ lo sz n cs x) : x.one = true ∧ x.cells = [x] := by
  rcases ho.2 with ⟨_, rfl⟩ | ⟨_, q, ver, rfl, _⟩ <;> exact ⟨rfl, rfl⟩
theorem lenS {σ σ' : Store} {lo sz n : Nat} {cs : List PV} {x : DV} (ho : Out σ lo sz n cs x) : len PP 147 x σ' = some (.p (pI (n : Nat))) := by
  rcases ho.2 with ⟨rfl, rfl⟩ | ⟨_, q, ver, rfl, _⟩ <;> simp [len, uS]
/-- Paths as they are handed to add. -/
def PthV (p : List Int) (x : DV) : Prop := x = .p (ePth p) ∨ (p ≠ [] ∧ ∃ r ver, x = .osl r ver 1 p.length (eInts p))
theorem bldF {n p : List Int} {x : DV} (hn : n.length = 4) (hx : PthV p x) (σ : Store) : ∃ y, build PP 151 [(0, .agg (nodeD n)), (1, x)] = some y ∧ buildSlice PP none 147 1 [(0, y)] σ = some (.p (.sl true 1 (qeP ⟨n, p⟩)), σ) := by
  obtain ⟨a, b, c, d, rfl⟩ := len4 hn
  rcases hx with rfl | ⟨h0, r, ver, rfl⟩
  · exact ⟨_, bldFp a b c d _, bsp a b c d _ _⟩
  · refine ⟨_, bldFo a b c d _ _ _ _ _, (bso a b c d _ _ _ _ _ _).trans ?_⟩
    simp [qeP, ePth, h0]
theorem add_ok {σ0 σ : Store} {m s to : Nat} {q : List QE} {n p : List Int} {x : DV} (h : SS σ0 σ m s q to) (hn : n.length = 4) (hx : PthV p x) (hq : q.length ≤ 100000) :
    ∃ σ', plainFn CC σ0.length (.fn 100 []) [.ptr s 0, .agg (nodeD n), x] σ = some (.tuple [], σ') ∧ SS σ0 σ' m s (addN q n p) to ∧ KeepB σ σ' s := by
  obtain ⟨lay, h1, h2⟩ := h.st
  have hB : (σ ++ [Row.mix (nodeD n)])[σ.length]? = some (.mix (nodeD n)) := get_snoc
  have hm : (σ ++ [Row.mix (nodeD n)])[m]? = some (.map (entN q)) := get_old h.mp
  have hs : (σ ++ [Row.mix (nodeD n)])[s]? = some (.mix [.map m, lay]) := get_old h1
  have hld : ∀ ρ : Store, ρ[σ.length]? = some (.mix (nodeD n)) → loadN ρ 4 (.ptr σ.length 0) = some (nodeD n) := fun ρ hρ =>
    loadN_ptr hρ (by rw [List.drop_zero, List.take_of_length_le (by rw [nodeD_len, hn]; exact Nat.le_refl _)]) (by rw [nodeD_len, hn]; exact Nat.le_refl _)
  have hlk : lookup PP 193 (.map m) (.agg (nodeD n)) false (σ ++ [.mix (nodeD n)]) = some (.p (.bool (hasN q n))) := by
    simp only [lookup, uM, keyOkL hn, if_true, hm, findKeyL hn q h.ln, zvB]
    cases hasN q n <;> rfl
  show ∃ σ', CC σ0.length 100 ([.ptr s 0, .agg (nodeD n), x] ++ []) σ = _ ∧ _
  rw [List.append_nil]
  unfold addN
  cases hh : hasN q n with
  | true =>
    rw [hh] at hlk
    refine ⟨σ ++ [.mix (nodeD n)], F100_call ?_, by simp only [if_true]; exact h.snoc _, keepB_snoc _ _ _⟩
    rw [F100_eq]
    have hbox : boxV (.agg (nodeD n)) = some (nodeD n) := box_agg (nodeD_one n)
    simp only [hbox, gG, nil_ptr, faS0, shift_ptr, shift_pptr, Nat.zero_add, Nat.add_zero, pureFn_fn, List.append_nil, List.singleton_append, List.cons_append, List.nil_append, loadM, load1_ptr (off := 0) hs rfl, loadN', hld _ hB, hlk]
  | false =>
    rw [hh] at hlk
    have hup : mapUpdate PP σ0.length 193 (.map m) (.agg (nodeD n)) (.p (.bool true)) (σ ++ [.mix (nodeD n)]) = some ((σ ++ [Row.mix (nodeD n)]).set m (.map (entN (q ++ [⟨n, p⟩])))) := by
      simp only [mapUpdate, uM, keyOkL hn, h.ml, DV.isUndef, and_self, if_true, hm, updKeyL p hn q h.ln hh, Option.map_some]
    have hmB : m ≠ σ.length := by have := get_lt h.mp; omega
    have hms : m ≠ s := by
      intro e
      have := h.mp
      rw [e, h1] at this
      exact absurd this (by simp)
    have hρB : ((σ ++ [Row.mix (nodeD n)]).set m (.map (entN (q ++ [⟨n, p⟩]))))[σ.length]? = some (.mix (nodeD n)) := get_set_ne hB (fun e => hmB e.symm)
    have hρs : ((σ ++ [Row.mix (nodeD n)]).set m (.map (entN (q ++ [⟨n, p⟩]))))[s]? = some (.mix [.map m, lay]) := get_set_ne hs (fun e => hms e.symm)
    have hρm : ((σ ++ [Row.mix (nodeD n)]).set m (.map (entN (q ++ [⟨n, p⟩]))))[m]? = some (.map (entN (q ++ [⟨n, p⟩]))) := by rw [List.getElem?_set_self (get_lt hm)]
    have hρo : Out ((σ ++ [Row.mix (nodeD n)]).set m (.map (entN (q ++ [⟨n, p⟩])))) σ0.length 5 (q.length - to) (qsP (q.drop to)) lay := by
      refine ⟨h2.1, ?_⟩
      rcases h2.2 with hz | ⟨hz, r, ver, e1, e2, e3⟩
      · exact .inl hz
      · refine .inr ⟨hz, r, ver, e1, get_set_ne (get_old e2) ?_, e3⟩
        intro e
        rw [e, h.mp] at e2
        exact absurd e2 (by simp)
    have hρlow : ∀ j row, j ≠ m → σ[j]? = some row → ((σ ++ [Row.mix (nodeD n)]).set m (.map (entN (q ++ [⟨n, p⟩]))))[j]? = some row := fun j row hj e => get_set_ne (get_old e) hj
    have hρlen : σ0.length ≤ ((σ ++ [Row.mix (nodeD n)]).set m (.map (entN (q ++ [⟨n, p⟩])))).length := by
      have := h.lle
      simp; omega
    generalize (σ ++ [Row.mix (nodeD n)]).set m (.map (entN (q ++ [⟨n, p⟩]))) = ρ at *
    obtain ⟨y, hy1, hy2⟩ := bldF hn hx ρ
    obtain ⟨x', σ', e1, o1, t1, f1⟩ := Out.pushF (vs := qeP ⟨n, p⟩) srcS uS sF bytesF zeroF (by simp [nodeD]) (by decide) (by decide) (by decide) (by rw [qeP_len, hn]) hρo (by omega) hρlen
    have gs : σ'[s]? = some (.mix [.map m, lay]) := t1 s _ hρs fun r ver sz n' cs e => by
      rintro rfl
      rcases hρo.2 with ⟨_, hz⟩ | ⟨_, r2, ver2, e3, e4, _⟩
      · rw [hz] at e; exact absurd e (by simp)
      · rw [e] at e3
        injection e3 with e5
        rw [← e5, hρs] at e4
        exact absurd e4 (by simp)
    have gm : σ'[m]? = some (.map (entN (q ++ [⟨n, p⟩]))) := t1 m _ hρm fun r ver sz n' cs e => by
      rintro rfl
      rcases hρo.2 with ⟨_, hz⟩ | ⟨_, r2, ver2, e3, e4, _⟩
      · rw [hz] at e; exact absurd e (by simp)
      · rw [e] at e3
        injection e3 with e5
        rw [← e5, hρm] at e4
        exact absurd e4 (by simp)
    have hone := out_one o1
    have hst := store1 (lo := σ0.length) sS gs (off := 1) (v := x') (by simp) hone.1 hone.2 h.sl
    have hmix : ∀ j cs, j ≠ s → ρ[j]? = some (.mix cs) → (σ'.set s (.mix [.map m, x']))[j]? = some (.mix cs) := by
      intro j cs hj e
      refine get_set_ne (t1 j _ e fun r ver sz n' cs' e2 => ?_) hj
      rintro rfl
      rcases hρo.2 with ⟨_, hz⟩ | ⟨_, r2, ver2, e3, e4, _⟩
      · rw [hz] at e2; exact absurd e2 (by simp)
      · rw [e2] at e3
        injection e3 with e5
        rw [← e5, e] at e4
        exact absurd e4 (by simp)
    have hql : q.length - to + 1 = (q ++ [(⟨n, p⟩ : QE)]).length - to := by have := h.le; simp; omega
    have hqd : qsP (q.drop to) ++ qeP ⟨n, p⟩ = qsP ((q ++ [(⟨n, p⟩ : QE)]).drop to) := by
      rw [List.drop_append_of_le_length h.le, qsP_app]
      simp [qsP]
    refine ⟨σ'.set s (.mix [.map m, x']), F100_call ?_, ?_, fun j cs hj e => hmix j cs hj (hρlow j _ ?_ e)⟩
    · rw [F100_eq]
      have hbox : boxV (.agg (nodeD n)) = some (nodeD n) := box_agg (nodeD_one n)
      simp only [hbox, gG, nil_ptr, faS0, faS1, shift_ptr, shift_pptr, Nat.zero_add, Nat.add_zero, pureFn_fn, List.append_nil, List.singleton_append, List.cons_append, List.nil_append, loadM, loadS, load1_ptr (off := 0) hs rfl, loadN', hld _ hB, hlk, hup, load1_ptr (off := 1) hρs rfl, hld _ hρB, hy1, hy2, e1, hst, List.set_cons_succ, List.set_cons_zero]
    · simp only [Bool.false_eq_true, if_false]
      refine ⟨get_set_ne gm hms, ⟨x', by rw [List.getElem?_set_self (get_lt gs)], ?_⟩, by have := h.le; simp; omega, h.ml, h.sl, ?_, ?_⟩
      · rw [← hql, ← hqd]
        refine ⟨o1.1, ?_⟩
        rcases o1.2 with hz | ⟨hz, r, ver, e3, e4, e5⟩
        · exact .inl hz
        · refine .inr ⟨hz, r, ver, e3, get_set_ne e4 ?_, e5⟩
          rintro rfl
          rw [gs] at e4
          exact absurd e4 (by simp)
      · intro y hy
        rcases List.mem_append.1 hy with hy | hy
        · exact h.ln y hy
        · rw [List.mem_singleton.1 hy]; exact hn
      · intro j row e
        have hj := get_lt e
        have hjm : j ≠ m := by have := h.ml; omega
        have hjs : j ≠ s := by have := h.sl; omega
        refine get_set_ne (t1 j row (hρlow j row hjm (h.low j row e)) fun r ver sz n' cs e2 => ?_) hjs
        rcases hρo.2 with ⟨_, hz⟩ | ⟨_, r2, ver2, e3, e4, e6⟩
        · rw [hz] at e2; exact absurd e2 (by simp)
        · rw [e2] at e3
          injection e3 with e5
          omega
    · intro e2
      rw [e2, h.mp] at e
      exact absurd e (by simp)
section
variable {σ0 : Store} {fv : FuncId} {caps : List DV} {vis : QE → List QE → Sum (List Int) (List QE)} {I : List QE → Prop} {B : Nat}
/-- What is asked of a visit. -/
def HV (σ0 : Store) (fv : FuncId) (caps : List DV) (vis : QE → List QE → Sum (List Int) (List QE)) (I : List QE → Prop) : Prop :=
  ∀ (σ : Store) (q : List QE) (i to : Nat) (x : QE) (m s : Nat), SS σ0 σ m s q to → I q → q[i]? = some x → i < to →
    ∃ r σ', plainFn CC σ0.length (.fn fv caps) [.ptr s 0, .agg (qeD x)] σ = some (r, σ') ∧
      ((∃ p, vis x q = .inl p ∧ p ≠ [] ∧ ∃ a v, r = .osl a v 1 p.length (eInts p)) ∨ (∃ q', vis x q = .inr q' ∧ r = .p .nilsl ∧ SS σ0 σ' m s q' to ∧ I q' ∧ q <+: q'))
def RR (r : DV) : Option (List Int) → Prop
  | none => r = .p .nilsl
  | some p => p ≠ [] ∧ ∃ a v, r = .osl a v 1 p.length (eInts p)
theorem idxS {a v n j : Nat} {cs : List PV} (h : j < n) : indexAddr PP 147 (.osl a v 5 n cs) (.p (pI (j : Nat))) = some (.pptr cs (j * 5)) := by
  have h2 : (0 : Int) ≤ (j : Int) ∧ (j : Int) < (n : Nat) := by omega
  simp [indexAddr, uS, sF, h2, h]
theorem qeD_len (x : QE) (h : x.n.length = 4) : (qeD x).length = 5 := by simp [qeD, nodeD, h]
theorem qeD_one (x : QE) : (qeD x).all DV.one = true := by simp [qeD, nodeD, DV.one]
theorem zlen : (nodeD [0, 0, 0, 0] ++ [.p .nilsl] : List DV).length = 5 := rfl
theorem part_at {q : List QE} {fr to i : Nat} {x : QE} (hl : ∀ y ∈ q, y.n.length = 4) (hf : fr ≤ i) (hi : i < to) (ht : to ≤ q.length) (hx : q[i]? = some x) (σ : Store) :
    loadN σ 5 (.pptr (qsP ((q.take to).drop fr)) ((i - fr) * 5)) = some (qeD x) := by
  have hl2 : ∀ y ∈ (q.take to).drop fr, y.n.length = 4 := fun y hy => hl y (List.mem_of_mem_take (List.mem_of_mem_drop hy))
  have e1 : ((q.take to).drop fr)[i - fr]? = some x := by
    rw [List.getElem?_drop, show fr + (i - fr) = i by omega, List.getElem?_take]
    simp [hi, hx]
  have e2 := qsP_at (K := 4) hl2 e1
  have e3 := qsP_len (K := 4) hl2
  have e4 : ((q.take to).drop fr).length = to - fr := by rw [List.length_drop, List.length_take]; omega
  have e5 : (i - fr) * 5 + 5 ≤ (qsP ((q.take to).drop fr)).length := by rw [e3, e4]; omega
  simp only [loadN, e5, if_true]
  rw [e2, qeP_map]
theorem L2_step (hv : HV σ0 fv caps vis I) {σ : Store} {m s fr to i a v : Nat} {q : List QE} {x : QE} (h : SS σ0 σ m s q to) (hI : I q) (hf : fr ≤ i) (hi : i < to) (hx : q[i]? = some x) (hq : q.length ≤ 100000) :
    ∃ r σ', (∃ p, vis x q = .inl p ∧ p ≠ [] ∧ (∃ a v, r = .osl a v 1 p.length (eInts p)) ∧ f97_L2 guardT σ0.length (.fn fv caps) (.ptr s 0) (.osl a v 5 (to - fr) (qsP ((q.take to).drop fr))) (.p (pI ((to - fr : Nat)))) (.p (pI ((i - fr : Nat)))) σ = some (r, σ')) ∨
      (∃ q', vis x q = .inr q' ∧ SS σ0 σ' m s q' to ∧ I q' ∧ q <+: q' ∧ f97_L2 guardT σ0.length (.fn fv caps) (.ptr s 0) (.osl a v 5 (to - fr) (qsP ((q.take to).drop fr))) (.p (pI ((to - fr : Nat)))) (.p (pI ((i - fr : Nat)))) σ =
        f97_L2 guardT σ0.length (.fn fv caps) (.ptr s 0) (.osl a v 5 (to - fr) (qsP ((q.take to).drop fr))) (.p (pI ((to - fr : Nat)))) (.p (pI ((i + 1 - fr : Nat)))) σ') := by
  have hto := h.le
  have hxl : x.n.length = 4 := h.ln x (List.mem_of_getElem? hx)
  have h1 : ((i - fr : Nat) : Int) < ((to - fr : Nat) : Int) := by omega
  have h2 : i - fr < to - fr := by omega
  have hld := part_at (σ := σ) h.ln hf hi hto hx
  have hsn := storeNew (lo := σ0.length) (z := nodeD [0, 0, 0, 0] ++ [.p .nilsl]) sF σ zlen (qeD_len x hxl) (qeD_one x) h.lle
  have hl2 : loadN (σ ++ [Row.mix (qeD x)]) 5 (.ptr σ.length 0) = some (qeD x) := loadN_ptr get_snoc (by rw [List.drop_zero, List.take_of_length_le (by rw [qeD_len x hxl]; exact Nat.le_refl _)]) (by rw [qeD_len x hxl]; exact Nat.le_refl _)
  obtain ⟨r, σ', e1, hr⟩ := hv _ q i to x m s (h.snoc (.mix (qeD x))) hI hx hi
  refine ⟨r, σ', ?_⟩
  rcases hr with ⟨p, hp, hp0, a', v', rfl⟩ | ⟨q', hq', rfl, k1, k2, k3⟩
  · refine .inl ⟨p, hp, hp0, ⟨a', v', rfl⟩, ?_⟩
    rw [f97_L2_eq guardT rfl]
    simp only [b_lss, b_eql, b_neq, b_leq, b_geq, b_gtr, h1, gG, idxS h2, loadF, hld, zeroF, hsn, hl2, e1, neq22_osl]
  · refine .inr ⟨q', hq', k1, k2, k3, ?_⟩
    rw [f97_L2_eq guardT rfl]
    simp only [b_lss, b_eql, b_neq, b_leq, b_geq, b_gtr, h1, gG, idxS h2, loadF, hld, zeroF, hsn, hl2, e1, neq22_nn, b_add, wrap_succ (show i - fr ≤ 1000000 by omega), show i - fr + 1 = i + 1 - fr by omega]
theorem L1_end {σ : Store} {m s to : Nat} {q : List QE} (h : SS σ0 σ m s q to) (hq : q.length = to) (x1 : DV) : f97_L1 guardT σ0.length x1 (.ptr s 0) σ = some (.p .nilsl, σ) := by
  obtain ⟨lay, h1, h2⟩ := h.st
  have hz : q.length - to = 0 := by omega
  have hl := lenS (σ' := σ) h2
  rw [hz] at hl
  rw [f97_L1_eq guardT rfl]
  simp only [nil_ptr, faS1, shift_ptr, shift_pptr, Nat.zero_add, Nat.add_zero, pureFn_fn, List.append_nil, List.singleton_append, List.cons_append, List.nil_append, loadS, load1_ptr (off := 1) h1 rfl, hl, b_lss, b_eql, b_neq, b_leq, b_geq, b_gtr, gG, show ¬ ((0 : Nat) : Int) > 0 by decide]
theorem L1_go {σ : Store} {m s to : Nat} {q : List QE} (h : SS σ0 σ m s q to) (hq : to < q.length) (x1 : DV) :
    ∃ a v σ', SS σ0 σ' m s q q.length ∧ f97_L1 guardT σ0.length x1 (.ptr s 0) σ = f97_L2 guardT σ0.length x1 (.ptr s 0) (.osl a v 5 (q.length - to) (qsP ((q.take q.length).drop to))) (.p (pI ((q.length - to : Nat)))) (.p (pI ((to - to : Nat)))) σ' := by
  obtain ⟨lay, h1, h2⟩ := h.st
  obtain ⟨a, v, rfl⟩ := h2.osl (by omega)
  have hl := fun σ' => lenS (σ' := σ') h2
  have hst := store1 (lo := σ0.length) sS h1 (off := 1) (v := .p .nilsl) (by simp) rfl rfl h.sl
  have hms : m ≠ s := by
    intro e
    have := h.mp
    rw [e, h1] at this
    exact absurd this (by simp)
  refine ⟨a, v, σ.set s (.mix [.map m, .p .nilsl]), ⟨get_set_ne h.mp hms, ⟨.p .nilsl, by rw [List.getElem?_set_self (get_lt h1)], ?_⟩, Nat.le_refl _, h.ml, h.sl, h.ln, fun j row e => ?_⟩, ?_⟩
  · rw [Nat.sub_self, List.drop_length]
    exact Out.zero
  · exact get_set_ne (h.low j row e) (by have := get_lt e; have := h.sl; omega)
  · rw [f97_L1_eq guardT rfl]
    have hp : ((q.length - to : Nat) : Int) > 0 := by omega
    simp only [nil_ptr, faS1, shift_ptr, shift_pptr, Nat.zero_add, Nat.add_zero, pureFn_fn, List.append_nil, List.singleton_append, List.cons_append, List.nil_append, loadS, load1_ptr (off := 1) h1 rfl, hl, b_lss, b_eql, b_neq, b_leq, b_geq, b_gtr, gG, hp, hst, List.set_cons_succ, List.set_cons_zero, List.take_length, Nat.sub_self]
    rfl
theorem bfsQ_none {k i : Nat} {q : List QE} (h : q[i]? = none) : bfsQ vis (k + 1) i q = none := by
  unfold bfsQ
  rw [h]
theorem run_L2 (hv : HV σ0 fv caps vis I) (hB : ∀ q, I q → q.length ≤ B) (hB2 : B ≤ 100000) : ∀ (k i fr to : Nat) (q : List QE) (σ : Store) (a v m s : Nat), B - i = k → fr ≤ i → i ≤ to → SS σ0 σ m s q to → I q →
    ∃ r σ', f97_L2 guardT σ0.length (.fn fv caps) (.ptr s 0) (.osl a v 5 (to - fr) (qsP ((q.take to).drop fr))) (.p (pI ((to - fr : Nat)))) (.p (pI ((i - fr : Nat)))) σ = some (r, σ') ∧ RR r (bfsQ vis (k + 1) i q) := by
  intro k
  induction k with
  | zero =>
    intro i fr to q σ a v m s hk hf hi h hI
    have hqB := hB q hI
    have hto := h.le
    have hit : i = to := by omega
    have hend : q.length = to := by omega
    refine ⟨.p .nilsl, σ, ?_, ?_⟩
    · rw [f97_L2_eq guardT rfl]
      have h1 : ¬ ((i - fr : Nat) : Int) < ((to - fr : Nat) : Int) := by omega
      simp only [b_lss, b_eql, b_neq, b_leq, b_geq, b_gtr, h1, gG, L1_end h hend]
    · rw [bfsQ_none (List.getElem?_eq_none (by omega))]
      rfl
  | succ k ih =>
    have main : ∀ (i fr to : Nat) (q : List QE) (σ : Store) (a v m s : Nat), B - i = k + 1 → fr ≤ i → i < to → SS σ0 σ m s q to → I q →
        ∃ r σ', f97_L2 guardT σ0.length (.fn fv caps) (.ptr s 0) (.osl a v 5 (to - fr) (qsP ((q.take to).drop fr))) (.p (pI ((to - fr : Nat)))) (.p (pI ((i - fr : Nat)))) σ = some (r, σ') ∧ RR r (bfsQ vis (k + 1 + 1) i q) := by
      intro i fr to q σ a v m s hk hf hi h hI
      have hqB := hB q hI
      have hto := h.le
      have hiq : i < q.length := by omega
      have hx : q[i]? = some q[i] := List.getElem?_eq_getElem hiq
      obtain ⟨r, σ', hr⟩ := L2_step hv (a := a) (v := v) h hI hf hi hx (by omega)
      rcases hr with ⟨p, hp, hp0, hp1, e⟩ | ⟨q', hq', k1, k2, k3, e⟩
      · refine ⟨r, σ', e, ?_⟩
        unfold bfsQ
        rw [hx]
        simp only [hp]
        exact ⟨hp0, hp1⟩
      · have ht : q'.take to = q.take to := by
          obtain ⟨t, rfl⟩ := k3
          rw [List.take_append_of_le_length hto]
        obtain ⟨r2, σ2, e2, hr2⟩ := ih (i + 1) fr to q' σ' a v m s (by omega) (by omega) (by omega) k1 k2
        rw [ht] at e2
        refine ⟨r2, σ2, e.trans e2, ?_⟩
        unfold bfsQ
        rw [hx]
        simp only [hq']
        exact hr2
    intro i fr to q σ a v m s hk hf hi h hI
    by_cases hlt : i < to
    · exact main i fr to q σ a v m s hk hf hlt h hI
    · have hit : i = to := by omega
      subst hit
      have hto := h.le
      have h1 : ¬ ((i - fr : Nat) : Int) < ((i - fr : Nat) : Int) := by omega
      have hL : f97_L2 guardT σ0.length (.fn fv caps) (.ptr s 0) (.osl a v 5 (i - fr) (qsP ((q.take i).drop fr))) (.p (pI ((i - fr : Nat)))) (.p (pI ((i - fr : Nat)))) σ = f97_L1 guardT σ0.length (.fn fv caps) (.ptr s 0) σ := by
        rw [f97_L2_eq guardT rfl]
        simp only [b_lss, b_eql, b_neq, b_leq, b_geq, b_gtr, h1, gG]
      rw [hL]
      by_cases hend : q.length = i
      · refine ⟨.p .nilsl, σ, L1_end h hend _, ?_⟩
        rw [bfsQ_none (List.getElem?_eq_none (by omega))]
        rfl
      · obtain ⟨a', v', σ', k1, e⟩ := L1_go h (by omega) (.fn fv caps)
        rw [e]
        exact main i i q.length q σ' a' v' m s hk (Nat.le_refl _) (by omega) k1 hI
theorem addE_len (q : List QE) (x : QE) : (addE q x).length ≤ q.length + 1 := by
  unfold addE addN
  split
  · omega
  · simp
theorem run_L0 {bq : List QE} (hb : ∀ x ∈ bq, x.n.length = 4) (hbn : bq.length ≤ 100000) (x1 : DV) : ∀ (k j : Nat) (σ : Store) (m s : Nat), bq.length - j = k → j ≤ bq.length → SS σ0 σ m s ((bq.take j).foldl addE []) 0 → ((bq.take j).foldl addE []).length ≤ j →
    ∃ σ', f97_L0 guardT σ0.length x1 (.ptr s 0) (.p (.sl false bq.length (qsP bq))) (.p (pI (bq.length : Nat))) (.p (pI (j : Nat))) σ = f97_L1 guardT σ0.length x1 (.ptr s 0) σ' ∧ SS σ0 σ' m s (bq.foldl addE []) 0
  | 0, j, σ, m, s, hk, hj, h, hl => by
    have : j = bq.length := by omega
    subst this
    rw [List.take_length] at h
    refine ⟨σ, ?_, h⟩
    rw [f97_L0_eq guardT rfl]
    have h1 : ¬ ((bq.length : Nat) : Int) < ((bq.length : Nat) : Int) := by omega
    simp only [b_lss, b_eql, b_neq, b_leq, b_geq, b_gtr, h1, gG]
  | k + 1, j, σ, m, s, hk, hj, h, hl => by
    have hjl : j < bq.length := by omega
    have hx : bq[j]? = some bq[j] := List.getElem?_eq_getElem hjl
    have hxl : (bq[j]).n.length = 4 := hb _ (List.getElem_mem hjl)
    have h1 : (j : Int) < ((bq.length : Nat) : Int) := by omega
    have hidx : indexAddr PP 147 (.p (.sl false bq.length (qsP bq))) (.p (pI (j : Nat))) = some (.pptr (qsP bq) (j * 5)) := by
      have h2 : (0 : Int) ≤ (j : Int) ∧ (j : Int) < (bq.length : Nat) := by omega
      simp [indexAddr, uS, sF, h2, hjl]
    have hld := part_at (σ := σ) (fr := 0) (to := bq.length) hb (Nat.zero_le _) hjl (Nat.le_refl _) hx
    rw [List.take_length, List.drop_zero, Nat.sub_zero] at hld
    have hsn := storeNew (lo := σ0.length) (z := nodeD [0, 0, 0, 0] ++ [.p .nilsl]) sF σ zlen (qeD_len bq[j] hxl) (qeD_one bq[j]) h.lle
    have hg : (σ ++ [Row.mix (qeD bq[j])])[σ.length]? = some (.mix (qeD bq[j])) := get_snoc
    have hl2 : loadN (σ ++ [Row.mix (qeD bq[j])]) 4 (.ptr σ.length 0) = some (nodeD bq[j].n) := loadN_ptr hg (by
      have e : (nodeD bq[j].n).length = 4 := by rw [nodeD_len, hxl]
      rw [List.drop_zero, qeD, List.take_append_of_le_length (by omega), List.take_of_length_le (by omega)]) (by rw [qeD_len _ hxl]; omega)
    have hl3 : load1 (.ptr σ.length 4) (σ ++ [Row.mix (qeD bq[j])]) = some (.p (ePth bq[j].p)) := load1_ptr hg (by
      have e : (nodeD bq[j].n).length = 4 := by rw [nodeD_len, hxl]
      rw [qeD, List.getElem?_append_right (by omega), e]; rfl)
    obtain ⟨σ', e1, k1, _⟩ := add_ok (h.snoc (.mix (qeD bq[j]))) hxl (x := .p (ePth bq[j].p)) (p := bq[j].p) (.inl rfl) (by omega)
    have hts : (bq.take (j + 1)).foldl addE [] = addN ((bq.take j).foldl addE []) bq[j].n bq[j].p := by
      rw [List.take_succ_eq_append_getElem hjl, List.foldl_append]; rfl
    rw [← hts] at k1
    obtain ⟨σ2, e2, k2⟩ := run_L0 hb hbn x1 k (j + 1) σ' m s (by omega) (by omega) k1 (by
      rw [hts]
      exact Nat.le_trans (addE_len ((bq.take j).foldl addE []) bq[j]) (by omega))
    refine ⟨σ2, ?_, k2⟩
    rw [f97_L0_eq guardT rfl]
    simp only [b_lss, b_eql, b_neq, b_leq, b_geq, b_gtr, h1, gG, hidx, loadF, hld, zeroF, hsn, faF0, faF1, shift_ptr, shift_pptr, Nat.zero_add, Nat.add_zero, pureFn_fn, List.append_nil, List.singleton_append, List.cons_append, List.nil_append, loadN', hl2, load22, hl3, e1, b_add, wrap_succ (show j ≤ 1000000 by omega)]
    exact e2
theorem run_nil (hc : caps.all rowFree1 = false) : pureV CC 97 [.p .nilsl, .fn fv caps] σ0 = some (.p .nilsl) := by
  have hs0 : SS σ0 ((σ0 ++ [Row.map []]) ++ [Row.mix [.map σ0.length, .p .nilsl]]) σ0.length (σ0 ++ [Row.map []]).length [] 0 := by
    refine ⟨get_old get_snoc, ⟨.p .nilsl, get_snoc, ?_⟩, Nat.le_refl _, Nat.le_refl _, by simp, fun x hx => absurd hx (by simp), (Ext.snoc _ _).trans (Ext.snoc _ _)⟩
    exact Out.zero
  refine pureV_rows rfl (by simp [rowFree, hc]) (F97_call (r := (.p .nilsl, (σ0 ++ [Row.map []]) ++ [Row.mix [.map σ0.length, .p .nilsl]])) ?_) rfl
  have hln : ∀ σ, len PP 147 (.p .nilsl) σ = some (.p (pI 0)) := fun σ => by simp [len, uS]
  have hbox : boxV (.agg [.map σ0.length, .p .nilsl]) = some [.map σ0.length, .p .nilsl] := rfl
  rw [F97_eq]
  simp only [bldS, hbox, gG, hln]
  rw [f97_L0_eq guardT rfl]
  simp only [b_lss, b_eql, b_neq, b_leq, b_geq, b_gtr, Int.lt_irrefl, gG, L1_end hs0 rfl]
theorem run_ok (hv : HV σ0 fv caps vis I) (hB : ∀ q, I q → q.length ≤ B) (hB2 : B ≤ 100000) {bq : List QE} (hb : ∀ x ∈ bq, x.n.length = 4) (hbn : bq.length ≤ 100000) (hI : I (bq.foldl addE [])) (hc : caps.all rowFree1 = false) :
    pureV CC 97 [.p (.sl false bq.length (qsP bq)), .fn fv caps] σ0 = some (match bfsQ vis (B + 1) 0 (bq.foldl addE []) with | none => .p .nilsl | some p => .p (.sl false p.length (eInts p))) := by
  have hs0 : SS σ0 ((σ0 ++ [Row.map []]) ++ [Row.mix [.map σ0.length, .p .nilsl]]) σ0.length (σ0 ++ [Row.map []]).length [] 0 := by
    refine ⟨get_old get_snoc, ⟨.p .nilsl, get_snoc, ?_⟩, Nat.le_refl _, Nat.le_refl _, by simp, fun x hx => absurd hx (by simp), (Ext.snoc _ _).trans (Ext.snoc _ _)⟩
    exact Out.zero
  obtain ⟨σ1, e1, k1⟩ := run_L0 hb hbn (.fn fv caps) _ 0 _ _ _ (Nat.sub_zero _) (Nat.zero_le _) hs0 (Nat.le_refl _)
  have key : ∃ r σ', f97_L1 guardT σ0.length (.fn fv caps) (.ptr (σ0 ++ [Row.map []]).length 0) σ1 = some (r, σ') ∧ RR r (bfsQ vis (B + 1) 0 (bq.foldl addE [])) := by
    by_cases h0 : (bq.foldl addE []).length = 0
    · refine ⟨.p .nilsl, σ1, L1_end k1 h0 _, ?_⟩
      rw [bfsQ_none (List.getElem?_eq_none (by omega))]
      rfl
    · obtain ⟨a, v, σ2, k2, e2⟩ := L1_go k1 (by omega) (.fn fv caps)
      rw [e2]
      exact run_L2 hv hB hB2 B 0 0 _ _ σ2 a v _ _ (Nat.sub_zero _) (Nat.le_refl _) (Nat.zero_le _) k2 hI
  obtain ⟨r, σ', e3, hr⟩ := key
  have hv1 : view (.p (.sl false bq.length (qsP bq))) = .p (.sl false bq.length (qsP bq)) := by simp [view, viewCell, loosen, loosens_qs]
  refine pureV_rows (by simp [hv1, fn_view]) (by simp [rowFree, hc]) (F97_call (r := (r, σ')) ?_) ?_
  · have hln : ∀ σ, len PP 147 (.p (.sl false bq.length (qsP bq))) σ = some (.p (pI (bq.length : Nat))) := fun σ => by simp [len, uS]
    have hbox : boxV (.agg [.map σ0.length, .p .nilsl]) = some [.map σ0.length, .p .nilsl] := rfl
    rw [F97_eq]
    simp only [bldS, hbox, gG, hln]
    exact e1.trans e3
  · cases hbq : bfsQ vis (B + 1) 0 (bq.foldl addE []) with
    | none =>
      rw [hbq] at hr
      have hr : r = .p .nilsl := hr
      subst hr
      rfl
    | some p =>
      rw [hbq] at hr
      obtain ⟨_, a, v, rfl⟩ := hr
      simp [thawAll, thawPart, thaw, thaw1, thawP, loosens_ints]
end
end Go.D.RnG
end
/- The search over walked: the program's add and run. -/
section
set_option linter.unusedVariables false
set_option linter.unusedSimpArgs false
namespace Go.D.RnV
theorem neq22_osl (r ver sz n : Nat) (cs : List PV) : binOp PP .neq 22 (.osl r ver sz n cs) (.p .nilsl) = some (.p (.bool true)) := Eq.trans (by kernel_rfl) rfl
theorem uM : PP.underlying 197 = some (.map 163 4) := Eq.trans (by kernel_rfl) rfl
theorem uS : PP.underlying 161 = some (.slice 165) := Eq.trans (by kernel_rfl) rfl
theorem sF : size? PP 165 = some 4 := Eq.trans (by kernel_rfl) rfl
theorem sS : size? PP 161 = some 1 := Eq.trans (by kernel_rfl) rfl
theorem bytesF : bytes? PP 165 = some 48 := Eq.trans (by kernel_rfl) rfl
theorem zeroF : zeroOf PP 165 = some (nodeD [0, 0, 0] ++ [.p .nilsl]) := Eq.trans (by kernel_rfl) rfl
theorem srcS : srcType PP 161 = true := Eq.trans (by kernel_rfl) rfl
theorem zvB : zeroVal PP 4 = some (.p (.bool false)) := Eq.trans (by kernel_rfl) rfl
theorem loadM (x : DV) (σ : Store) : load PP 197 x σ = load1 x σ := Eq.trans (by kernel_rfl) rfl
theorem loadS (x : DV) (σ : Store) : load PP 161 x σ = load1 x σ := Eq.trans (by kernel_rfl) rfl
theorem loadN' (x : DV) (σ : Store) : load PP 163 x σ = (loadN σ 3 x).map .agg := Eq.trans (by kernel_rfl) rfl
theorem loadF (x : DV) (σ : Store) : load PP 165 x σ = (loadN σ 4 x).map .agg := Eq.trans (by kernel_rfl) rfl
theorem faS0 (x : DV) : fieldAddr PP 199 x 0 = shiftPtr x 0 := Eq.trans (by kernel_rfl) rfl
theorem faS1 (x : DV) : fieldAddr PP 199 x 1 = shiftPtr x 1 := Eq.trans (by kernel_rfl) rfl
theorem faF0 (x : DV) : fieldAddr PP 165 x 0 = shiftPtr x 0 := Eq.trans (by kernel_rfl) rfl
theorem faF1 (x : DV) : fieldAddr PP 165 x 1 = shiftPtr x 3 := Eq.trans (by kernel_rfl) rfl
theorem bldS (r : Nat) : build PP 199 [(0, .map r)] = some (.agg [.map r, .p .nilsl]) := Eq.trans (by kernel_rfl) rfl
theorem bldFp (a b c : Int) (v : PV) : build PP 165 [(0, .agg (nodeD [a, b, c])), (1, .p v)] = some (.agg (nodeD [a, b, c] ++ [.p v])) := Eq.trans (by kernel_rfl) rfl
theorem bldFo (a b c : Int) (r ver sz n : Nat) (cs : List PV) : build PP 165 [(0, .agg (nodeD [a, b, c])), (1, .osl r ver sz n cs)] = some (.agg (nodeD [a, b, c] ++ [.osl r ver sz n cs])) := Eq.trans (by kernel_rfl) rfl
theorem bsp (a b c : Int) (v : PV) (σ : Store) : buildSlice PP none 161 1 [(0, .agg (nodeD [a, b, c] ++ [.p v]))] σ = some (.p (.sl true 1 (eInts [a, b, c] ++ [v])), σ) := Eq.trans (by kernel_rfl) rfl
theorem bso (a b c : Int) (r ver sz n : Nat) (cs : List PV) (σ : Store) : buildSlice PP none 161 1 [(0, .agg (nodeD [a, b, c] ++ [.osl r ver sz n cs]))] σ = some (.p (.sl true 1 (eInts [a, b, c] ++ [.sl false n cs])), σ) := Eq.trans (by kernel_rfl) rfl
theorem keyOkE (a b c : Int) : keyOk PP 40 163 (.agg (nodeD [a, b, c])) = true := Eq.trans (by kernel_rfl) rfl
theorem eqAtE (a b c a' b' c' : Int) : eqAt PP 40 163 (.agg (nodeD [a, b, c])) (.agg (nodeD [a', b', c'])) = (match some (a == a') with | some true => (match some (b == b') with | some true => (match some (c == c') with | some true => some true | r => r) | r => r) | r => r) := by kernel_rfl
theorem len3 {n : List Int} (h : n.length = 3) : ∃ a b c, n = [a, b, c] := by
  match n, h with
  | [a, b, c], _ => exact ⟨a, b, c, rfl⟩
theorem keyOkL {n : List Int} (h : n.length = 3) : keyOk PP 40 163 (.agg (nodeD n)) = true := by
  obtain ⟨a, b, c, rfl⟩ := len3 h
  exact keyOkE a b c
theorem beqD (x y : Int) : (x == y) = decide (y = x) := by
  by_cases e : y = x
  · subst e; simp
  · have e' : ¬ x = y := fun h => e h.symm
    simp [e, e']
theorem eqAtL {n n' : List Int} (h : n.length = 3) (h' : n'.length = 3) : eqAt PP 40 163 (.agg (nodeD n)) (.agg (nodeD n')) = some (decide (n' = n)) := by
  obtain ⟨a, b, c, rfl⟩ := len3 h
  obtain ⟨a', b', c', rfl⟩ := len3 h'
  rw [eqAtE]
  simp only [beqD]
  by_cases ha : a' = a <;> by_cases hb : b' = b <;> by_cases hc : c' = c <;> simp [ha, hb, hc]
theorem findKeyL {n : List Int} (h : n.length = 3) : ∀ q : List QE, (∀ x ∈ q, x.n.length = 3) → findKey PP 163 (.agg (nodeD n)) (entN q) = some (if hasN q n = true then some (.p (.bool true)) else none)
  | [], _ => rfl
  | x :: q, hq => by
    have ih := findKeyL h q fun y hy => hq y (by simp [hy])
    have e : entN (x :: q) = (.agg (nodeD x.n), .p (.bool true)) :: entN q := rfl
    have e2 : hasN (x :: q) n = (decide (x.n = n) || hasN q n) := rfl
    rw [e, findKey, eqAtL h (hq x (by simp)), e2]
    cases decide (x.n = n) with
    | true => rfl
    | false => simp only [Bool.false_or]; exact ih
theorem updKeyL {n : List Int} (p : List Int) (h : n.length = 3) : ∀ q : List QE, (∀ x ∈ q, x.n.length = 3) → hasN q n = false → updKey PP 163 (.agg (nodeD n)) (.p (.bool true)) (entN q) = some (entN (q ++ [⟨n, p⟩]))
  | [], _, _ => rfl
  | x :: q, hq, hn => by
    have e2 : hasN (x :: q) n = (decide (x.n = n) || hasN q n) := rfl
    rw [e2, Bool.or_eq_false_iff] at hn
    have ih := updKeyL p h q (fun y hy => hq y (by simp [hy])) hn.2
    have e : entN (x :: q) = (.agg (nodeD x.n), .p (.bool true)) :: entN q := rfl
    rw [e, updKey, eqAtL h (hq x (by simp)), hn.1, ih]
    rfl
structure SS (σ0 σ : Store) (m s : Nat) (q : List QE) (to : Nat) : Prop where
  mp : σ[m]? = some (.map (entN q))
  st : ∃ lay, σ[s]? = some (.mix [.map m, lay]) ∧ Out σ σ0.length 4 (q.length - to) (qsP (q.drop to)) lay
  le : to ≤ q.length
  ml : σ0.length ≤ m
  sl : σ0.length ≤ s
  ln : ∀ x ∈ q, x.n.length = 3
  low : Ext σ0 σ
theorem ext_len {σ σ' : Store} (h : Ext σ σ') : σ.length ≤ σ'.length := by
  cases hl : σ.length with
  | zero => exact Nat.zero_le _
  | succ n =>
    have h1 : n < σ.length := by omega
    exact get_lt (h n _ (List.getElem?_eq_getElem h1))
theorem SS.lle {σ0 σ : Store} {m s : Nat} {q : List QE} {to : Nat} (h : SS σ0 σ m s q to) : σ0.length ≤ σ.length := ext_len h.low
theorem SS.snoc {σ0 σ : Store} {m s : Nat} {q : List QE} {to : Nat} (h : SS σ0 σ m s q to) (r : Row) : SS σ0 (σ ++ [r]) m s q to := by
  obtain ⟨lay, h1, h2⟩ := h.st
  exact ⟨get_old h.mp, ⟨lay, get_old h1, h2.snoc⟩, h.le, h.ml, h.sl, h.ln, h.low.trans (Ext.snoc σ r)⟩
/-- Boxes that are kept. -/
def KeepB (σ σ' : Store) (s : Nat) : Prop := ∀ (j : Nat) (cs : List DV), j ≠ s → σ[j]? = some (.mix cs) → σ'[j]? = some (.mix cs)
theorem KeepB.trans {a b c : Store} {s : Nat} (h : KeepB a b s) (h2 : KeepB b c s) : KeepB a c s := fun j cs hj e => h2 j cs hj (h j cs hj e)
theorem keepB_snoc (σ : Store) (r : Row) (s : Nat) : KeepB σ (σ ++ [r]) s := fun j cs _ e => get_old e
theorem store1 {t lo : Nat} (hs : size? PP t = some 1) {σ : Store} {r off : Nat} {O : List DV} {v : DV} (h : σ[r]? = some (.mix O)) (ht : off < O.length) (hv : v.one = true) (hc : v.cells = [v]) (hlo : lo ≤ r) :
    store PP lo t (.ptr r off) v σ = some (σ.set r (.mix (O.set off v))) := by
  have h1 : off + 1 ≤ O.length := ht
  have h2 : splice O off [v] = O.set off v := by
    unfold splice
    rw [List.set_eq_take_append_cons_drop]
    simp [ht]
  simp [store, hs, hc, storeN, h, hv, h1, h2, hlo]
theorem storeNew {t n lo : Nat} (hs : size? PP t = some n) {cs z : List DV} (σ : Store) (hz : z.length = n) (hc : cs.length = n) (ho : cs.all DV.one = true) (hlo : lo ≤ σ.length) : store PP lo t (.ptr σ.length 0) (.agg cs) (σ ++ [.mix z]) = some (σ ++ [.mix cs]) := by
  have e : splice z 0 cs = cs := by simp [splice, hz, hc]
  simp [store, hs, DV.cells, storeN, hc, hz, ho, e, hlo]
theorem nodeD_len (n : List Int) : (nodeD n).length = n.length := by simp [nodeD]
theorem nodeD_one (n : List Int) : (nodeD n).all DV.one = true := by simp [nodeD, DV.one]
theorem box_agg {cs : List DV} (h : cs.all DV.one = true) : boxV (.agg cs) = some cs := by
  simp [boxV, DV.cells, h]
theorem out_one {σ : Store} {lo sz n : Nat} {cs : List PV} {x : DV} (ho : Out σ lo sz n cs x) : x.one = true ∧ x.cells = [x] := by
  rcases ho.2 with ⟨_, rfl⟩ | ⟨_, q, ver, rfl, _⟩ <;> exact ⟨rfl, rfl⟩
theorem lenS {σ σ' : Store} {lo sz n : Nat} {cs : List PV} {x : DV} (ho : Out σ lo sz n cs x) : len PP 161 x σ' = some (.p (pI (n : Nat))) := by
  rcases ho.2 with ⟨rfl, rfl⟩ | ⟨_, q, ver, rfl, _⟩ <;> simp [len, uS]
/-- Paths as they are handed to add. -/
def PthV (p : List Int) (x : DV) : Prop := x = .p (ePth p) ∨ (p ≠ [] ∧ ∃ r ver, x = .osl r ver 1 p.length (eInts p))
theorem bldF {n p : List Int} {x : DV} (hn : n.length = 3) (hx : PthV p x) (σ : Store) : ∃ y, build PP 165 [(0, .agg (nodeD n)), (1, x)] = some y ∧ buildSlice PP none 161 1 [(0, y)] σ = some (.p (.sl true 1 (qeP ⟨n, p⟩)), σ) := by
  obtain ⟨a, b, c, rfl⟩ := len3 hn
  rcases hx with rfl | ⟨h0, r, ver, rfl⟩
  · exact ⟨_, bldFp a b c _, bsp a b c _ _⟩
  · refine ⟨_, bldFo a b c _ _ _ _ _, (bso a b c _ _ _ _ _ _).trans ?_⟩
    simp [qeP, ePth, h0]
theorem add_ok {σ0 σ : Store} {m s to : Nat} {q : List QE} {n p : List Int} {x : DV} (h : SS σ0 σ m s q to) (hn : n.length = 3) (hx : PthV p x) (hq : q.length ≤ 100000) :
    ∃ σ', plainFn CC σ0.length (.fn 105 []) [.ptr s 0, .agg (nodeD n), x] σ = some (.tuple [], σ') ∧ SS σ0 σ' m s (addN q n p) to ∧ KeepB σ σ' s := by
  obtain ⟨lay, h1, h2⟩ := h.st
  have hB : (σ ++ [Row.mix (nodeD n)])[σ.length]? = some (.mix (nodeD n)) := get_snoc
  have hm : (σ ++ [Row.mix (nodeD n)])[m]? = some (.map (entN q)) := get_old h.mp
  have hs : (σ ++ [Row.mix (nodeD n)])[s]? = some (.mix [.map m, lay]) := get_old h1
  have hld : ∀ ρ : Store, ρ[σ.length]? = some (.mix (nodeD n)) → loadN ρ 3 (.ptr σ.length 0) = some (nodeD n) := fun ρ hρ =>
    loadN_ptr hρ (by rw [List.drop_zero, List.take_of_length_le (by rw [nodeD_len, hn]; exact Nat.le_refl _)]) (by rw [nodeD_len, hn]; exact Nat.le_refl _)
  have hlk : lookup PP 197 (.map m) (.agg (nodeD n)) false (σ ++ [.mix (nodeD n)]) = some (.p (.bool (hasN q n))) := by
    simp only [lookup, uM, keyOkL hn, if_true, hm, findKeyL hn q h.ln, zvB]
    cases hasN q n <;> rfl
  show ∃ σ', CC σ0.length 105 ([.ptr s 0, .agg (nodeD n), x] ++ []) σ = _ ∧ _
  rw [List.append_nil]
  unfold addN
  cases hh : hasN q n with
  | true =>
    rw [hh] at hlk
    refine ⟨σ ++ [.mix (nodeD n)], F105_call ?_, by simp only [if_true]; exact h.snoc _, keepB_snoc _ _ _⟩
    rw [F105_eq]
    have hbox : boxV (.agg (nodeD n)) = some (nodeD n) := box_agg (nodeD_one n)
    simp only [hbox, gG, nil_ptr, faS0, shift_ptr, shift_pptr, Nat.zero_add, Nat.add_zero, pureFn_fn, List.append_nil, List.singleton_append, List.cons_append, List.nil_append, loadM, load1_ptr (off := 0) hs rfl, loadN', hld _ hB, hlk]
  | false =>
    rw [hh] at hlk
    have hup : mapUpdate PP σ0.length 197 (.map m) (.agg (nodeD n)) (.p (.bool true)) (σ ++ [.mix (nodeD n)]) = some ((σ ++ [Row.mix (nodeD n)]).set m (.map (entN (q ++ [⟨n, p⟩])))) := by
      simp only [mapUpdate, uM, keyOkL hn, h.ml, DV.isUndef, and_self, if_true, hm, updKeyL p hn q h.ln hh, Option.map_some]
    have hmB : m ≠ σ.length := by have := get_lt h.mp; omega
    have hms : m ≠ s := by
      intro e
      have := h.mp
      rw [e, h1] at this
      exact absurd this (by simp)
    have hρB : ((σ ++ [Row.mix (nodeD n)]).set m (.map (entN (q ++ [⟨n, p⟩]))))[σ.length]? = some (.mix (nodeD n)) := get_set_ne hB (fun e => hmB e.symm)
    have hρs : ((σ ++ [Row.mix (nodeD n)]).set m (.map (entN (q ++ [⟨n, p⟩]))))[s]? = some (.mix [.map m, lay]) := get_set_ne hs (fun e => hms e.symm)
    have hρm : ((σ ++ [Row.mix (nodeD n)]).set m (.map (entN (q ++ [⟨n, p⟩]))))[m]? = some (.map (entN (q ++ [⟨n, p⟩]))) := by rw [List.getElem?_set_self (get_lt hm)]
    have hρo : Out ((σ ++ [Row.mix (nodeD n)]).set m (.map (entN (q ++ [⟨n, p⟩])))) σ0.length 4 (q.length - to) (qsP (q.drop to)) lay := by
      refine ⟨h2.1, ?_⟩
      rcases h2.2 with hz | ⟨hz, r, ver, e1, e2, e3⟩
      · exact .inl hz
      · refine .inr ⟨hz, r, ver, e1, get_set_ne (get_old e2) ?_, e3⟩
        intro e
        rw [e, h.mp] at e2
        exact absurd e2 (by simp)
    have hρlow : ∀ j row, j ≠ m → σ[j]? = some row → ((σ ++ [Row.mix (nodeD n)]).set m (.map (entN (q ++ [⟨n, p⟩]))))[j]? = some row := fun j row hj e => get_set_ne (get_old e) hj
    have hρlen : σ0.length ≤ ((σ ++ [Row.mix (nodeD n)]).set m (.map (entN (q ++ [⟨n, p⟩])))).length := by
      have := h.lle
      simp; omega
    generalize (σ ++ [Row.mix (nodeD n)]).set m (.map (entN (q ++ [⟨n, p⟩]))) = ρ at *
    obtain ⟨y, hy1, hy2⟩ := bldF hn hx ρ
    obtain ⟨x', σ', e1, o1, t1, f1⟩ := Out.pushF (vs := qeP ⟨n, p⟩) srcS uS sF bytesF zeroF (by simp [nodeD]) (by decide) (by decide) (by decide) (by rw [qeP_len, hn]) hρo (by omega) hρlen
    have gs : σ'[s]? = some (.mix [.map m, lay]) := t1 s _ hρs fun r ver sz n' cs e => by
      rintro rfl
      rcases hρo.2 with ⟨_, hz⟩ | ⟨_, r2, ver2, e3, e4, _⟩
      · rw [hz] at e; exact absurd e (by simp)
      · rw [e] at e3
        injection e3 with e5
        rw [← e5, hρs] at e4
        exact absurd e4 (by simp)
    have gm : σ'[m]? = some (.map (entN (q ++ [⟨n, p⟩]))) := t1 m _ hρm fun r ver sz n' cs e => by
      rintro rfl
      rcases hρo.2 with ⟨_, hz⟩ | ⟨_, r2, ver2, e3, e4, _⟩
      · rw [hz] at e; exact absurd e (by simp)
      · rw [e] at e3
        injection e3 with e5
        rw [← e5, hρm] at e4
        exact absurd e4 (by simp)
    have hone := out_one o1
    have hst := store1 (lo := σ0.length) sS gs (off := 1) (v := x') (by simp) hone.1 hone.2 h.sl
    have hmix : ∀ j cs, j ≠ s → ρ[j]? = some (.mix cs) → (σ'.set s (.mix [.map m, x']))[j]? = some (.mix cs) := by
      intro j cs hj e
      refine get_set_ne (t1 j _ e fun r ver sz n' cs' e2 => ?_) hj
      rintro rfl
      rcases hρo.2 with ⟨_, hz⟩ | ⟨_, r2, ver2, e3, e4, _⟩
      · rw [hz] at e2; exact absurd e2 (by simp)
      · rw [e2] at e3
        injection e3 with e5
        rw [← e5, e] at e4
        exact absurd e4 (by simp)
    have hql : q.length - to + 1 = (q ++ [(⟨n, p⟩ : QE)]).length - to := by have := h.le; simp; omega
    have hqd : qsP (q.drop to) ++ qeP ⟨n, p⟩ = qsP ((q ++ [(⟨n, p⟩ : QE)]).drop to) := by
      rw [List.drop_append_of_le_length h.le, qsP_app]
      simp [qsP]
    refine ⟨σ'.set s (.mix [.map m, x']), F105_call ?_, ?_, fun j cs hj e => hmix j cs hj (hρlow j _ ?_ e)⟩
    · rw [F105_eq]
      have hbox : boxV (.agg (nodeD n)) = some (nodeD n) := box_agg (nodeD_one n)
      simp only [hbox, gG, nil_ptr, faS0, faS1, shift_ptr, shift_pptr, Nat.zero_add, Nat.add_zero, pureFn_fn, List.append_nil, List.singleton_append, List.cons_append, List.nil_append, loadM, loadS, load1_ptr (off := 0) hs rfl, loadN', hld _ hB, hlk, hup, load1_ptr (off := 1) hρs rfl, hld _ hρB, hy1, hy2, e1, hst, List.set_cons_succ, List.set_cons_zero]
    · simp only [Bool.false_eq_true, if_false]
      refine ⟨get_set_ne gm hms, ⟨x', by rw [List.getElem?_set_self (get_lt gs)], ?_⟩, by have := h.le; simp; omega, h.ml, h.sl, ?_, ?_⟩
      · rw [← hql, ← hqd]
        refine ⟨o1.1, ?_⟩
        rcases o1.2 with hz | ⟨hz, r, ver, e3, e4, e5⟩
        · exact .inl hz
        · refine .inr ⟨hz, r, ver, e3, get_set_ne e4 ?_, e5⟩
          rintro rfl
          rw [gs] at e4
          exact absurd e4 (by simp)
      · intro y hy
        rcases List.mem_append.1 hy with hy | hy
        · exact h.ln y hy
        · rw [List.mem_singleton.1 hy]; exact hn
      · intro j row e
        have hj := get_lt e
        have hjm : j ≠ m := by have := h.ml; omega
        have hjs : j ≠ s := by have := h.sl; omega
        refine get_set_ne (t1 j row (hρlow j row hjm (h.low j row e)) fun r ver sz n' cs e2 => ?_) hjs
        rcases hρo.2 with ⟨_, hz⟩ | ⟨_, r2, ver2, e3, e4, e6⟩
        · rw [hz] at e2; exact absurd e2 (by simp)
        · rw [e2] at e3
          injection e3 with e5
          omega
    · intro e2
      rw [e2, h.mp] at e
      exact absurd e (by simp)
section
variable {σ0 : Store} {fv : FuncId} {caps : List DV} {vis : QE → List QE → Sum (List Int) (List QE)} {I : List QE → Prop} {B : Nat}
/-- What is asked of a visit. -/
def HV (σ0 : Store) (fv : FuncId) (caps : List DV) (vis : QE → List QE → Sum (List Int) (List QE)) (I : List QE → Prop) : Prop :=
  ∀ (σ : Store) (q : List QE) (i to : Nat) (x : QE) (m s : Nat), SS σ0 σ m s q to → I q → q[i]? = some x → i < to →
    ∃ r σ', plainFn CC σ0.length (.fn fv caps) [.ptr s 0, .agg (qeD x)] σ = some (r, σ') ∧
      ((∃ p, vis x q = .inl p ∧ p ≠ [] ∧ ∃ a v, r = .osl a v 1 p.length (eInts p)) ∨ (∃ q', vis x q = .inr q' ∧ r = .p .nilsl ∧ SS σ0 σ' m s q' to ∧ I q' ∧ q <+: q'))
def RR (r : DV) : Option (List Int) → Prop
  | none => r = .p .nilsl
  | some p => p ≠ [] ∧ ∃ a v, r = .osl a v 1 p.length (eInts p)
theorem idxS {a v n j : Nat} {cs : List PV} (h : j < n) : indexAddr PP 161 (.osl a v 4 n cs) (.p (pI (j : Nat))) = some (.pptr cs (j * 4)) := by
  have h2 : (0 : Int) ≤ (j : Int) ∧ (j : Int) < (n : Nat) := by omega
  simp [indexAddr, uS, sF, h2, h]
theorem qeD_len (x : QE) (h : x.n.length = 3) : (qeD x).length = 4 := by simp [qeD, nodeD, h]
theorem qeD_one (x : QE) : (qeD x).all DV.one = true := by simp [qeD, nodeD, DV.one]
theorem zlen : (nodeD [0, 0, 0] ++ [.p .nilsl] : List DV).length = 4 := rfl
theorem part_at {q : List QE} {fr to i : Nat} {x : QE} (hl : ∀ y ∈ q, y.n.length = 3) (hf : fr ≤ i) (hi : i < to) (ht : to ≤ q.length) (hx : q[i]? = some x) (σ : Store) :
    loadN σ 4 (.pptr (qsP ((q.take to).drop fr)) ((i - fr) * 4)) = some (qeD x) := by
  have hl2 : ∀ y ∈ (q.take to).drop fr, y.n.length = 3 := fun y hy => hl y (List.mem_of_mem_take (List.mem_of_mem_drop hy))
  have e1 : ((q.take to).drop fr)[i - fr]? = some x := by
    rw [List.getElem?_drop, show fr + (i - fr) = i by omega, List.getElem?_take]
    simp [hi, hx]
  have e2 := qsP_at (K := 3) hl2 e1
  have e3 := qsP_len (K := 3) hl2
  have e4 : ((q.take to).drop fr).length = to - fr := by rw [List.length_drop, List.length_take]; omega
  have e5 : (i - fr) * 4 + 4 ≤ (qsP ((q.take to).drop fr)).length := by rw [e3, e4]; omega
  simp only [loadN, e5, if_true]
  rw [e2, qeP_map]
theorem L2_step (hv : HV σ0 fv caps vis I) {σ : Store} {m s fr to i a v : Nat} {q : List QE} {x : QE} (h : SS σ0 σ m s q to) (hI : I q) (hf : fr ≤ i) (hi : i < to) (hx : q[i]? = some x) (hq : q.length ≤ 100000) :
    ∃ r σ', (∃ p, vis x q = .inl p ∧ p ≠ [] ∧ (∃ a v, r = .osl a v 1 p.length (eInts p)) ∧ f103_L2 guardT σ0.length (.fn fv caps) (.ptr s 0) (.osl a v 4 (to - fr) (qsP ((q.take to).drop fr))) (.p (pI ((to - fr : Nat)))) (.p (pI ((i - fr : Nat)))) σ = some (r, σ')) ∨
      (∃ q', vis x q = .inr q' ∧ SS σ0 σ' m s q' to ∧ I q' ∧ q <+: q' ∧ f103_L2 guardT σ0.length (.fn fv caps) (.ptr s 0) (.osl a v 4 (to - fr) (qsP ((q.take to).drop fr))) (.p (pI ((to - fr : Nat)))) (.p (pI ((i - fr : Nat)))) σ =
        f103_L2 guardT σ0.length (.fn fv caps) (.ptr s 0) (.osl a v 4 (to - fr) (qsP ((q.take to).drop fr))) (.p (pI ((to - fr : Nat)))) (.p (pI ((i + 1 - fr : Nat)))) σ') := by
  have hto := h.le
  have hxl : x.n.length = 3 := h.ln x (List.mem_of_getElem? hx)
  have h1 : ((i - fr : Nat) : Int) < ((to - fr : Nat) : Int) := by omega
  have h2 : i - fr < to - fr := by omega
  have hld := part_at (σ := σ) h.ln hf hi hto hx
  have hsn := storeNew (lo := σ0.length) (z := nodeD [0, 0, 0] ++ [.p .nilsl]) sF σ zlen (qeD_len x hxl) (qeD_one x) h.lle
  have hl2 : loadN (σ ++ [Row.mix (qeD x)]) 4 (.ptr σ.length 0) = some (qeD x) := loadN_ptr get_snoc (by rw [List.drop_zero, List.take_of_length_le (by rw [qeD_len x hxl]; exact Nat.le_refl _)]) (by rw [qeD_len x hxl]; exact Nat.le_refl _)
  obtain ⟨r, σ', e1, hr⟩ := hv _ q i to x m s (h.snoc (.mix (qeD x))) hI hx hi
  refine ⟨r, σ', ?_⟩
  rcases hr with ⟨p, hp, hp0, a', v', rfl⟩ | ⟨q', hq', rfl, k1, k2, k3⟩
  · refine .inl ⟨p, hp, hp0, ⟨a', v', rfl⟩, ?_⟩
    rw [f103_L2_eq guardT rfl]
    simp only [b_lss, b_eql, b_neq, b_leq, b_geq, b_gtr, h1, gG, idxS h2, loadF, hld, zeroF, hsn, hl2, e1, neq22_osl]
  · refine .inr ⟨q', hq', k1, k2, k3, ?_⟩
    rw [f103_L2_eq guardT rfl]
    simp only [b_lss, b_eql, b_neq, b_leq, b_geq, b_gtr, h1, gG, idxS h2, loadF, hld, zeroF, hsn, hl2, e1, neq22_nn, b_add, wrap_succ (show i - fr ≤ 1000000 by omega), show i - fr + 1 = i + 1 - fr by omega]
theorem L1_end {σ : Store} {m s to : Nat} {q : List QE} (h : SS σ0 σ m s q to) (hq : q.length = to) (x1 : DV) : f103_L1 guardT σ0.length x1 (.ptr s 0) σ = some (.p .nilsl, σ) := by
  obtain ⟨lay, h1, h2⟩ := h.st
  have hz : q.length - to = 0 := by omega
  have hl := lenS (σ' := σ) h2
  rw [hz] at hl
  rw [f103_L1_eq guardT rfl]
  simp only [nil_ptr, faS1, shift_ptr, shift_pptr, Nat.zero_add, Nat.add_zero, pureFn_fn, List.append_nil, List.singleton_append, List.cons_append, List.nil_append, loadS, load1_ptr (off := 1) h1 rfl, hl, b_lss, b_eql, b_neq, b_leq, b_geq, b_gtr, gG, show ¬ ((0 : Nat) : Int) > 0 by decide]
theorem L1_go {σ : Store} {m s to : Nat} {q : List QE} (h : SS σ0 σ m s q to) (hq : to < q.length) (x1 : DV) :
    ∃ a v σ', SS σ0 σ' m s q q.length ∧ f103_L1 guardT σ0.length x1 (.ptr s 0) σ = f103_L2 guardT σ0.length x1 (.ptr s 0) (.osl a v 4 (q.length - to) (qsP ((q.take q.length).drop to))) (.p (pI ((q.length - to : Nat)))) (.p (pI ((to - to : Nat)))) σ' := by
  obtain ⟨lay, h1, h2⟩ := h.st
  obtain ⟨a, v, rfl⟩ := h2.osl (by omega)
  have hl := fun σ' => lenS (σ' := σ') h2
  have hst := store1 (lo := σ0.length) sS h1 (off := 1) (v := .p .nilsl) (by simp) rfl rfl h.sl
  have hms : m ≠ s := by
    intro e
    have := h.mp
    rw [e, h1] at this
    exact absurd this (by simp)
  refine ⟨a, v, σ.set s (.mix [.map m, .p .nilsl]), ⟨get_set_ne h.mp hms, ⟨.p .nilsl, by rw [List.getElem?_set_self (get_lt h1)], ?_⟩, Nat.le_refl _, h.ml, h.sl, h.ln, fun j row e => ?_⟩, ?_⟩
  · rw [Nat.sub_self, List.drop_length]
    exact Out.zero
  · exact get_set_ne (h.low j row e) (by have := get_lt e; have := h.sl; omega)
  · rw [f103_L1_eq guardT rfl]
    have hp : ((q.length - to : Nat) : Int) > 0 := by omega
    simp only [nil_ptr, faS1, shift_ptr, shift_pptr, Nat.zero_add, Nat.add_zero, pureFn_fn, List.append_nil, List.singleton_append, List.cons_append, List.nil_append, loadS, load1_ptr (off := 1) h1 rfl, hl, b_lss, b_eql, b_neq, b_leq, b_geq, b_gtr, gG, hp, hst, List.set_cons_succ, List.set_cons_zero, List.take_length, Nat.sub_self]
    rfl
theorem bfsQ_none {k i : Nat} {q : List QE} (h : q[i]? = none) : bfsQ vis (k + 1) i q = none := by
  unfold bfsQ
  rw [h]
theorem run_L2 (hv : HV σ0 fv caps vis I) (hB : ∀ q, I q → q.length ≤ B) (hB2 : B ≤ 100000) : ∀ (k i fr to : Nat) (q : List QE) (σ : Store) (a v m s : Nat), B - i = k → fr ≤ i → i ≤ to → SS σ0 σ m s q to → I q →
    ∃ r σ', f103_L2 guardT σ0.length (.fn fv caps) (.ptr s 0) (.osl a v 4 (to - fr) (qsP ((q.take to).drop fr))) (.p (pI ((to - fr : Nat)))) (.p (pI ((i - fr : Nat)))) σ = some (r, σ') ∧ RR r (bfsQ vis (k + 1) i q) := by
  intro k
  induction k with
  | zero =>
    intro i fr to q σ a v m s hk hf hi h hI
    have hqB := hB q hI
    have hto := h.le
    have hit : i = to := by omega
    have hend : q.length = to := by omega
    refine ⟨.p .nilsl, σ, ?_, ?_⟩
    · rw [f103_L2_eq guardT rfl]
      have h1 : ¬ ((i - fr : Nat) : Int) < ((to - fr : Nat) : Int) := by omega
      simp only [b_lss, b_eql, b_neq, b_leq, b_geq, b_gtr, h1, gG, L1_end h hend]
    · rw [bfsQ_none (List.getElem?_eq_none (by omega))]
      rfl
  | succ k ih =>
    have main : ∀ (i fr to : Nat) (q : List QE) (σ : Store) (a v m s : Nat), B - i = k + 1 → fr ≤ i → i < to → SS σ0 σ m s q to → I q →
        ∃ r σ', f103_L2 guardT σ0.length (.fn fv caps) (.ptr s 0) (.osl a v 4 (to - fr) (qsP ((q.take to).drop fr))) (.p (pI ((to - fr : Nat)))) (.p (pI ((i - fr : Nat)))) σ = some (r, σ') ∧ RR r (bfsQ vis (k + 1 + 1) i q) := by
      intro i fr to q σ a v m s hk hf hi h hI
      have hqB := hB q hI
      have hto := h.le
      have hiq : i < q.length := by omega
      have hx : q[i]? = some q[i] := List.getElem?_eq_getElem hiq
      obtain ⟨r, σ', hr⟩ := L2_step hv (a := a) (v := v) h hI hf hi hx (by omega)
      rcases hr with ⟨p, hp, hp0, hp1, e⟩ | ⟨q', hq', k1, k2, k3, e⟩
      · refine ⟨r, σ', e, ?_⟩
        unfold bfsQ
        rw [hx]
        simp only [hp]
        exact ⟨hp0, hp1⟩
      · have ht : q'.take to = q.take to := by
          obtain ⟨t, rfl⟩ := k3
          rw [List.take_append_of_le_length hto]
        obtain ⟨r2, σ2, e2, hr2⟩ := ih (i + 1) fr to q' σ' a v m s (by omega) (by omega) (by omega) k1 k2
        rw [ht] at e2
        refine ⟨r2, σ2, e.trans e2, ?_⟩
        unfold bfsQ
        rw [hx]
        simp only [hq']
        exact hr2
    intro i fr to q σ a v m s hk hf hi h hI
    by_cases hlt : i < to
    · exact main i fr to q σ a v m s hk hf hlt h hI
    · have hit : i = to := by omega
      subst hit
      have hto := h.le
      have h1 : ¬ ((i - fr : Nat) : Int) < ((i - fr : Nat) : Int) := by omega
      have hL : f103_L2 guardT σ0.length (.fn fv caps) (.ptr s 0) (.osl a v 4 (i - fr) (qsP ((q.take i).drop fr))) (.p (pI ((i - fr : Nat)))) (.p (pI ((i - fr : Nat)))) σ = f103_L1 guardT σ0.length (.fn fv caps) (.ptr s 0) σ := by
        rw [f103_L2_eq guardT rfl]
        simp only [b_lss, b_eql, b_neq, b_leq, b_geq, b_gtr, h1, gG]
      rw [hL]
      by_cases hend : q.length = i
      · refine ⟨.p .nilsl, σ, L1_end h hend _, ?_⟩
        rw [bfsQ_none (List.getElem?_eq_none (by omega))]
        rfl
      · obtain ⟨a', v', σ', k1, e⟩ := L1_go h (by omega) (.fn fv caps)
        rw [e]
        exact main i i q.length q σ' a' v' m s hk (Nat.le_refl _) (by omega) k1 hI
theorem addE_len (q : List QE) (x : QE) : (addE q x).length ≤ q.length + 1 := by
  unfold addE addN
  split
  · omega
  · simp
theorem run_L0 {bq : List QE} (hb : ∀ x ∈ bq, x.n.length = 3) (hbn : bq.length ≤ 100000) (x1 : DV) : ∀ (k j : Nat) (σ : Store) (m s : Nat), bq.length - j = k → j ≤ bq.length → SS σ0 σ m s ((bq.take j).foldl addE []) 0 → ((bq.take j).foldl addE []).length ≤ j →
    ∃ σ', f103_L0 guardT σ0.length x1 (.ptr s 0) (.p (.sl false bq.length (qsP bq))) (.p (pI (bq.length : Nat))) (.p (pI (j : Nat))) σ = f103_L1 guardT σ0.length x1 (.ptr s 0) σ' ∧ SS σ0 σ' m s (bq.foldl addE []) 0
  | 0, j, σ, m, s, hk, hj, h, hl => by
    have : j = bq.length := by omega
    subst this
    rw [List.take_length] at h
    refine ⟨σ, ?_, h⟩
    rw [f103_L0_eq guardT rfl]
    have h1 : ¬ ((bq.length : Nat) : Int) < ((bq.length : Nat) : Int) := by omega
    simp only [b_lss, b_eql, b_neq, b_leq, b_geq, b_gtr, h1, gG]
  | k + 1, j, σ, m, s, hk, hj, h, hl => by
    have hjl : j < bq.length := by omega
    have hx : bq[j]? = some bq[j] := List.getElem?_eq_getElem hjl
    have hxl : (bq[j]).n.length = 3 := hb _ (List.getElem_mem hjl)
    have h1 : (j : Int) < ((bq.length : Nat) : Int) := by omega
    have hidx : indexAddr PP 161 (.p (.sl false bq.length (qsP bq))) (.p (pI (j : Nat))) = some (.pptr (qsP bq) (j * 4)) := by
      have h2 : (0 : Int) ≤ (j : Int) ∧ (j : Int) < (bq.length : Nat) := by omega
      simp [indexAddr, uS, sF, h2, hjl]
    have hld := part_at (σ := σ) (fr := 0) (to := bq.length) hb (Nat.zero_le _) hjl (Nat.le_refl _) hx
    rw [List.take_length, List.drop_zero, Nat.sub_zero] at hld
    have hsn := storeNew (lo := σ0.length) (z := nodeD [0, 0, 0] ++ [.p .nilsl]) sF σ zlen (qeD_len bq[j] hxl) (qeD_one bq[j]) h.lle
    have hg : (σ ++ [Row.mix (qeD bq[j])])[σ.length]? = some (.mix (qeD bq[j])) := get_snoc
    have hl2 : loadN (σ ++ [Row.mix (qeD bq[j])]) 3 (.ptr σ.length 0) = some (nodeD bq[j].n) := loadN_ptr hg (by
      have e : (nodeD bq[j].n).length = 3 := by rw [nodeD_len, hxl]
      rw [List.drop_zero, qeD, List.take_append_of_le_length (by omega), List.take_of_length_le (by omega)]) (by rw [qeD_len _ hxl]; omega)
    have hl3 : load1 (.ptr σ.length 3) (σ ++ [Row.mix (qeD bq[j])]) = some (.p (ePth bq[j].p)) := load1_ptr hg (by
      have e : (nodeD bq[j].n).length = 3 := by rw [nodeD_len, hxl]
      rw [qeD, List.getElem?_append_right (by omega), e]; rfl)
    obtain ⟨σ', e1, k1, _⟩ := add_ok (h.snoc (.mix (qeD bq[j]))) hxl (x := .p (ePth bq[j].p)) (p := bq[j].p) (.inl rfl) (by omega)
    have hts : (bq.take (j + 1)).foldl addE [] = addN ((bq.take j).foldl addE []) bq[j].n bq[j].p := by
      rw [List.take_succ_eq_append_getElem hjl, List.foldl_append]; rfl
    rw [← hts] at k1
    obtain ⟨σ2, e2, k2⟩ := run_L0 hb hbn x1 k (j + 1) σ' m s (by omega) (by omega) k1 (by
      rw [hts]
      exact Nat.le_trans (addE_len ((bq.take j).foldl addE []) bq[j]) (by omega))
    refine ⟨σ2, ?_, k2⟩
    rw [f103_L0_eq guardT rfl]
    simp only [b_lss, b_eql, b_neq, b_leq, b_geq, b_gtr, h1, gG, hidx, loadF, hld, zeroF, hsn, faF0, faF1, shift_ptr, shift_pptr, Nat.zero_add, Nat.add_zero, pureFn_fn, List.append_nil, List.singleton_append, List.cons_append, List.nil_append, loadN', hl2, load22, hl3, e1, b_add, wrap_succ (show j ≤ 1000000 by omega)]
    exact e2
theorem run_nil (hc : caps.all rowFree1 = false) : pureV CC 103 [.p .nilsl, .fn fv caps] σ0 = some (.p .nilsl) := by
  have hs0 : SS σ0 ((σ0 ++ [Row.map []]) ++ [Row.mix [.map σ0.length, .p .nilsl]]) σ0.length (σ0 ++ [Row.map []]).length [] 0 := by
    refine ⟨get_old get_snoc, ⟨.p .nilsl, get_snoc, ?_⟩, Nat.le_refl _, Nat.le_refl _, by simp, fun x hx => absurd hx (by simp), (Ext.snoc _ _).trans (Ext.snoc _ _)⟩
    exact Out.zero
  refine pureV_rows rfl (by simp [rowFree, hc]) (F103_call (r := (.p .nilsl, (σ0 ++ [Row.map []]) ++ [Row.mix [.map σ0.length, .p .nilsl]])) ?_) rfl
  have hln : ∀ σ, len PP 161 (.p .nilsl) σ = some (.p (pI 0)) := fun σ => by simp [len, uS]
  have hbox : boxV (.agg [.map σ0.length, .p .nilsl]) = some [.map σ0.length, .p .nilsl] := rfl
  rw [F103_eq]
  simp only [bldS, hbox, gG, hln]
  rw [f103_L0_eq guardT rfl]
  simp only [b_lss, b_eql, b_neq, b_leq, b_geq, b_gtr, Int.lt_irrefl, gG, L1_end hs0 rfl]
theorem run_ok (hv : HV σ0 fv caps vis I) (hB : ∀ q, I q → q.length ≤ B) (hB2 : B ≤ 100000) {bq : List QE} (hb : ∀ x ∈ bq, x.n.length = 3) (hbn : bq.length ≤ 100000) (hI : I (bq.foldl addE [])) (hc : caps.all rowFree1 = false) :
    pureV CC 103 [.p (.sl false bq.length (qsP bq)), .fn fv caps] σ0 = some (match bfsQ vis (B + 1) 0 (bq.foldl addE []) with | none => .p .nilsl | some p => .p (.sl false p.length (eInts p))) := by
  have hs0 : SS σ0 ((σ0 ++ [Row.map []]) ++ [Row.mix [.map σ0.length, .p .nilsl]]) σ0.length (σ0 ++ [Row.map []]).length [] 0 := by
    refine ⟨get_old get_snoc, ⟨.p .nilsl, get_snoc, ?_⟩, Nat.le_refl _, Nat.le_refl _, by simp, fun x hx => absurd hx (by simp), (Ext.snoc _ _).trans (Ext.snoc _ _)⟩
    exact Out.zero
  obtain ⟨σ1, e1, k1⟩ := run_L0 hb hbn (.fn fv caps) _ 0 _ _ _ (Nat.sub_zero _) (Nat.zero_le _) hs0 (Nat.le_refl _)
  have key : ∃ r σ', f103_L1 guardT σ0.length (.fn fv caps) (.ptr (σ0 ++ [Row.map []]).length 0) σ1 = some (r, σ') ∧ RR r (bfsQ vis (B + 1) 0 (bq.foldl addE [])) := by
    by_cases h0 : (bq.foldl addE []).length = 0
    · refine ⟨.p .nilsl, σ1, L1_end k1 h0 _, ?_⟩
      rw [bfsQ_none (List.getElem?_eq_none (by omega))]
      rfl
    · obtain ⟨a, v, σ2, k2, e2⟩ := L1_go k1 (by omega) (.fn fv caps)
      rw [e2]
      exact run_L2 hv hB hB2 B 0 0 _ _ σ2 a v _ _ (Nat.sub_zero _) (Nat.le_refl _) (Nat.zero_le _) k2 hI
  obtain ⟨r, σ', e3, hr⟩ := key
  have hv1 : view (.p (.sl false bq.length (qsP bq))) = .p (.sl false bq.length (qsP bq)) := by simp [view, viewCell, loosen, loosens_qs]
  refine pureV_rows (by simp [hv1, fn_view]) (by simp [rowFree, hc]) (F103_call (r := (r, σ')) ?_) ?_
  · have hln : ∀ σ, len PP 161 (.p (.sl false bq.length (qsP bq))) σ = some (.p (pI (bq.length : Nat))) := fun σ => by simp [len, uS]
    have hbox : boxV (.agg [.map σ0.length, .p .nilsl]) = some [.map σ0.length, .p .nilsl] := rfl
    rw [F103_eq]
    simp only [bldS, hbox, gG, hln]
    exact e1.trans e3
  · cases hbq : bfsQ vis (B + 1) 0 (bq.foldl addE []) with
    | none =>
      rw [hbq] at hr
      have hr : r = .p .nilsl := hr
      subst hr
      rfl
    | some p =>
      rw [hbq] at hr
      obtain ⟨_, a, v, rfl⟩ := hr
      simp [thawAll, thawPart, thaw, thaw1, thawP, loosens_ints]
end
end Go.D.RnV
end
/- What the search for violations does at a node. -/
section
set_option linter.unusedVariables false
set_option linter.unusedSimpArgs false
namespace Go.D
def outC (c : Cmp) (s : Int) : Int := (L c.out).getD s.toNat 0
def stsOf : List Int → List Int
  | _ :: t :: r => t :: stsOf r
  | _ => []
def prsOf (c : Cmp) : Int → List Int → List Pr
  | s, i :: t :: r => ⟨i, outC c s⟩ :: prsOf c t r
  | _, _ => []
def endOf : Int → List Int → Int
  | _, _ :: t :: r => endOf t r
  | s, _ => s
theorem stsOf_snoc (i t : Int) : ∀ (r : List Int), r.length % 2 = 0 → stsOf (r ++ [i, t]) = stsOf r ++ [t]
  | [], _ => rfl
  | [a], h => absurd h (by simp)
  | a :: b :: r, h => by
    have := stsOf_snoc i t r (by simp at h; omega)
    show b :: stsOf (r ++ [i, t]) = _
    rw [this]; rfl
theorem endOf_snoc (i t : Int) : ∀ (s : Int) (r : List Int), r.length % 2 = 0 → endOf s (r ++ [i, t]) = t
  | s, [], _ => rfl
  | s, [a], h => absurd h (by simp)
  | s, a :: b :: r, h => endOf_snoc i t b r (by simp at h; omega)
theorem prsOf_snoc (c : Cmp) (i t : Int) : ∀ (s : Int) (r : List Int), r.length % 2 = 0 → prsOf c s (r ++ [i, t]) = prsOf c s r ++ [⟨i, outC c (endOf s r)⟩]
  | s, [], _ => rfl
  | s, [a], h => absurd h (by simp)
  | s, a :: b :: r, h => by
    have := prsOf_snoc c i t b r (by simp at h; omega)
    show ⟨a, outC c s⟩ :: prsOf c b (r ++ [i, t]) = _
    rw [this]; rfl
theorem stsOf_len : ∀ (r : List Int), r.length % 2 = 0 → (stsOf r).length = r.length / 2
  | [], _ => rfl
  | [a], h => absurd h (by simp)
  | a :: b :: r, h => by
    have := stsOf_len r (by simp at h; omega)
    simp only [stsOf, List.length_cons, this]; omega
theorem prsOf_len (c : Cmp) : ∀ (s : Int) (r : List Int), r.length % 2 = 0 → (prsOf c s r).length = r.length / 2
  | s, [], _ => rfl
  | s, [a], h => absurd h (by simp)
  | s, a :: b :: r, h => by
    have := prsOf_len c b r (by simp at h; omega)
    simp only [prsOf, List.length_cons, this]; omega
/-- A path that ends in a state, with states in range. -/
structure POk (n : Nat) (p : List Int) (at0 : Int) : Prop where
  ex : ∃ s r, p = s :: r ∧ r.length % 2 = 0 ∧ endOf s r = at0 ∧ ∀ v ∈ s :: stsOf r, 0 ≤ v ∧ v < n
theorem POk.snoc {n : Nat} {p : List Int} {a i t : Int} (h : POk n p a) (ht : 0 ≤ t ∧ t < n) : POk n (p ++ [i, t]) t := by
  obtain ⟨s, r, rfl, h1, h2, h3⟩ := h.ex
  refine ⟨s, r ++ [i, t], rfl, by simp; omega, endOf_snoc i t s r h1, fun v hv => ?_⟩
  rw [stsOf_snoc i t r h1] at hv
  have : v ∈ s :: stsOf r ∨ v = t := by simpa [or_assoc] using hv
  rcases this with h | rfl
  · exact h3 v h
  · exact ht
def vpr (c : Cmp) (e : Edg) : Pr := ⟨e.t, outC c e.f⟩
def visVF (c : Cmp) (wa wg : W3) (x : QE) : Nat → Nat → List QE → Sum (List Int) (List QE)
  | 0, _, q => .inr q
  | r + 1, k, q =>
    if ((L c.mv).getD k default).f = x.n.getD 0 0 then
      if nextW wg (x.n.getD 2 0) (vpr c ((L c.mv).getD k default)) = -1 then .inl (x.p ++ [((L c.mv).getD k default).t, ((L c.mv).getD k default).a])
      else if nextW wa (x.n.getD 1 0) (vpr c ((L c.mv).getD k default)) = -1 then visVF c wa wg x r (k + 1) q
      else visVF c wa wg x r (k + 1) (addN q [((L c.mv).getD k default).a, nextW wa (x.n.getD 1 0) (vpr c ((L c.mv).getD k default)), nextW wg (x.n.getD 2 0) (vpr c ((L c.mv).getD k default))] (x.p ++ [((L c.mv).getD k default).t, ((L c.mv).getD k default).a]))
    else visVF c wa wg x r (k + 1) q
def visV (c : Cmp) (wa wg : W3) (x : QE) (q : List QE) : Sum (List Int) (List QE) := visVF c wa wg x (L c.mv).length 0 q
/-- Right nodes. -/
structure NOkV (n : Nat) (wa wg : W3) (l : List Int) : Prop where
  len : l.length = 3
  at0 : 0 ≤ l.getD 0 0 ∧ l.getD 0 0 < n
  a : 0 ≤ l.getD 1 0 ∧ l.getD 1 0 < (wa.length : Nat)
  g : 0 ≤ l.getD 2 0 ∧ l.getD 2 0 < (wg.length : Nat)
structure IV (n : Nat) (wa wg : W3) (q : List QE) : Prop where
  nd : (q.map (·.n)).Nodup
  ok : ∀ x ∈ q, NOkV n wa wg x.n
  pl : ∀ x ∈ q, x.p.length < 2 * q.length
  pp : ∀ x ∈ q, POk n x.p (x.n.getD 0 0)
theorem IV.add {n : Nat} {wa wg : W3} {q : List QE} {l p : List Int} (h : IV n wa wg q) (hn : NOkV n wa wg l) (hp : p.length < 2 * q.length + 2) (hv : POk n p (l.getD 0 0)) : IV n wa wg (addN q l p) := by
  unfold addN
  split
  · exact h
  · rename_i hh
    have hh : ¬ ∃ x ∈ q, x.n = l := fun e => hh (hasN_mem.2 e)
    have hm : ∀ y ∈ q ++ [(⟨l, p⟩ : QE)], y ∈ q ∨ y = ⟨l, p⟩ := fun y hy => by simpa using hy
    refine ⟨?_, fun y hy => ?_, fun y hy => ?_, fun y hy => ?_⟩
    · rw [List.map_append, List.nodup_append]
      refine ⟨h.nd, by simp, fun a ha b hb => ?_⟩
      obtain ⟨x, hx, rfl⟩ := List.mem_map.1 ha
      have : b = l := by simpa using hb
      subst this
      exact fun e => hh ⟨x, hx, e⟩
    · rcases hm y hy with h1 | rfl
      · exact h.ok y h1
      · exact hn
    · rw [List.length_append]
      rcases hm y hy with h1 | rfl
      · have := h.pl y h1; simp; omega
      · simp; omega
    · rcases hm y hy with h1 | rfl
      · exact h.pp y h1
      · exact hv
theorem IV.le {n : Nat} {wa wg : W3} {q : List QE} (hn : n ≤ 10) (ha : WOk wa wa.length) (hg : WOk wg wg.length) (h : IV n wa wg q) : q.length ≤ 360 := by
  have h1 : (q.map (·.n)).length ≤ (allTo [10, 6, 6]).length := by
    refine nodup_le h.nd fun l hl => ?_
    obtain ⟨x, hx, rfl⟩ := List.mem_map.1 hl
    have hk := h.ok x hx
    have h6 := ha.n6
    have h7 := hg.n6
    refine allTo_mem (by rw [hk.len]; rfl) fun i h1 h2 => ?_
    rw [← getD_at 0 h1]
    have hi : i < 3 := by rw [hk.len] at h1; exact h1
    match i, hi with
    | 0, _ => have := hk.at0; show _ ∧ _ < ((10 : Nat) : Int); omega
    | 1, _ => have := hk.a; show _ ∧ _ < ((6 : Nat) : Int); omega
    | 2, _ => have := hk.g; show _ ∧ _ < ((6 : Nat) : Int); omega
  rw [allTo_len, List.length_map] at h1
  exact h1
theorem vpr_ok {c : Cmp} {n : Nat} (hc : COk c n) {k : Nat} (hk : k < (L c.mv).length) : badP (vpr c ((L c.mv).getD k default)) = false := by
  rw [getD_at default hk]
  obtain ⟨h1, h2, h3⟩ := hc.ml _ (List.getElem_mem hk)
  have h4 := hc.ol ((L c.mv)[k].f).toNat (by omega)
  simp only [badP, vpr, h3, outC, h4]; rfl
open RnV
theorem fa163_0 (x : DV) : fieldAddr PP 163 x 0 = shiftPtr x 0 := Eq.trans (by kernel_rfl) rfl
theorem fa163_1 (x : DV) : fieldAddr PP 163 x 1 = shiftPtr x 1 := Eq.trans (by kernel_rfl) rfl
theorem fa163_2 (x : DV) : fieldAddr PP 163 x 2 = shiftPtr x 2 := Eq.trans (by kernel_rfl) rfl
theorem load27v (x : DV) (σ : Store) : load PP 27 x σ = load1 x σ := Eq.trans (by kernel_rfl) rfl
theorem build163 (a b d : Int) : build PP 163 [(0, .p (pI a)), (1, .p (pI b)), (2, .p (pI d))] = some (.agg (nodeD [a, b, d])) := Eq.trans (by kernel_rfl) rfl
theorem bs22_2v (x y : Int) (σ : Store) : buildSlice PP none 22 2 [(0, .p (pI x)), (1, .p (pI y))] σ = some (.p (.sl true 2 (eInts [x, y])), σ) := Eq.trans (by kernel_rfl) rfl
theorem qeV_at {x : QE} (h : x.n.length = 3) {i : Nat} (hi : i < 3) : (qeD x)[i]? = some (.p (pI (x.n.getD i 0))) := by
  have e : (nodeD x.n).length = 3 := by rw [nodeD_len, h]
  rw [qeD, List.getElem?_append_left (by omega)]
  simp only [nodeD, List.getElem?_map]
  rw [List.getElem?_eq_getElem (by omega), getD_at 0 (by omega)]
  rfl
section
variable {σ0 : Store} {rc ra rg n : Nat} {c : Cmp} {wa wg : OW} (h1 : σ0[rc]? = some (.mix (eCmp c))) (h2 : σ0[ra]? = some (.mix [.p (eWt wa)])) (h3 : σ0[rg]? = some (.mix [.p (eWt wg)]))
  (hc : COk c n) (ha : WOk (wl wa) (wl wa).length) (hg : WOk (wl wg) (wl wg).length)
include h1 h2 h3 hc ha hg
theorem L104_0 {x : QE} {m s to b : Nat} {q0 : List QE} (hx : NOkV n (wl wa) (wl wg) x.n) (hbs : b ≠ s) (hpx : POk n x.p (x.n.getD 0 0)) (hpl : x.p.length < 2 * q0.length) :
    ∀ (r k : Nat) (σ : Store) (q : List QE), (L c.mv).length - k = r → k ≤ (L c.mv).length → SS σ0 σ m s q to → IV n (wl wa) (wl wg) q → q0 <+: q → σ[b]? = some (.mix (qeD x)) →
    ∃ v σ', f104_L0 guardT σ0.length (.ptr s 0) (.ptr rc 0) (.ptr rg 0) (.ptr ra 0) (.ptr b 0) (.p (eEs c.mv)) (.p (pI ((L c.mv).length : Nat))) (.p (pI (k : Nat))) σ = some (v, σ') ∧
      ((∃ p, visVF c (wl wa) (wl wg) x r k q = .inl p ∧ p ≠ [] ∧ ∃ a u, v = .osl a u 1 p.length (eInts p)) ∨ (∃ q', visVF c (wl wa) (wl wg) x r k q = .inr q' ∧ v = .p .nilsl ∧ SS σ0 σ' m s q' to ∧ IV n (wl wa) (wl wg) q' ∧ q0 <+: q'))
  | 0, k, σ, q, hk, hkl, hS, hI, hpre, hb => by
    have hn : ¬ (k : Int) < ((L c.mv).length : Nat) := by omega
    refine ⟨.p .nilsl, σ, ?_, .inr ⟨q, rfl, rfl, hS, hI, hpre⟩⟩
    rw [f104_L0_eq guardT rfl]
    simp only [b_lss, b_eql, b_neq, b_leq, b_geq, b_gtr, hn, gG]
  | r + 1, k, σ, q, hk, hkl, hS, hI, hpre, hb => by
    have hm60 := hc.m60
    have hn10 := hc.n10
    have hkk : k < (L c.mv).length := by omega
    have h' : (k : Int) < ((L c.mv).length : Nat) := by omega
    have hql := hI.le hn10 ha hg
    have hp := vpr_ok hc hkk
    obtain ⟨hef, hea, het⟩ := hc.ml _ (List.getElem_mem hkk)
    rw [← getD_at default hkk] at hef hea het
    have hlle := hS.lle
    have hbl := get_lt hb
    have hpq : x.p.length < 2 * q.length := Nat.lt_of_lt_of_le hpl (Nat.mul_le_mul_left 2 hpre.length_le)
    have hof : ((L c.mv).getD k default).f.toNat < (L c.out).length := by rw [hc.o]; omega
    unfold visVF
    generalize hE : (L c.mv).getD k default = e at *
    have hld106 : (loadN σ 3 (.pptr (eEdgs (L c.mv)) (k * 3))).map DV.agg = some (.agg (edgD e)) := by rw [load106_D hkk, hE]
    have n1 := storeNew (lo := σ0.length) (cs := edgD e) (z := [.p (pI 0), .p (pI 0), .p (pI 0)]) s106 σ rfl rfl rfl hlle
    have gE : (σ ++ [Row.mix (edgD e)])[σ.length]? = some (.mix (edgD e)) := get_snoc
    have hb1 : (σ ++ [Row.mix (edgD e)])[b]? = some (.mix (qeD x)) := get_old hb
    have hS1 := hS.snoc (.mix (edgD e))
    have hJ : ∀ σ'', f104_J0 guardT σ0.length (.ptr s 0) (.ptr rc 0) (.ptr rg 0) (.ptr ra 0) (.ptr b 0) (.p (eEs c.mv)) (.p (pI ((L c.mv).length : Nat))) (.p (pI (k : Nat))) σ'' = f104_L0 guardT σ0.length (.ptr s 0) (.ptr rc 0) (.ptr rg 0) (.ptr ra 0) (.ptr b 0) (.p (eEs c.mv)) (.p (pI ((L c.mv).length : Nat))) (.p (pI (k + 1 : Nat))) σ'' := by
      intro σ''
      rw [f104_J0_eq]
      simp only [b_add, wrap_succ (show k ≤ 1000000 by omega), gG]
    by_cases hfe : e.f = x.n.getD 0 0
    · rw [if_pos hfe]
      have hrc : (σ ++ [Row.mix (edgD e)])[rc]? = some (.mix (eCmp c)) := hS1.low _ _ h1
      have n2 := storeNew (lo := σ0.length) (cs := prD (vpr c e)) (z := [.p (pI 0), .p (pI 0)]) s98 (σ ++ [Row.mix (edgD e)]) rfl rfl rfl (by simp; omega)
      have gZ : ((σ ++ [Row.mix (edgD e)]) ++ [Row.mix (prD (vpr c e))])[(σ ++ [Row.mix (edgD e)]).length]? = some (.mix (prD (vpr c e))) := get_snoc
      have gE2 : ((σ ++ [Row.mix (edgD e)]) ++ [Row.mix (prD (vpr c e))])[σ.length]? = some (.mix (edgD e)) := get_old gE
      have hb2 : ((σ ++ [Row.mix (edgD e)]) ++ [Row.mix (prD (vpr c e))])[b]? = some (.mix (qeD x)) := get_old hb1
      have hS2 := hS1.snoc (.mix (prD (vpr c e)))
      have hbld : build PP 98 [(0, .p (pI e.t)), (1, .p (pI ((L c.out).getD e.f.toNat 0)))] = some (.agg (prD (vpr c e))) := bld98 _ _
      generalize hZ : (σ ++ [Row.mix (edgD e)]).length = Z at *
      generalize hρ : (σ ++ [Row.mix (edgD e)]) ++ [Row.mix (prD (vpr c e))] = ρ at *
      obtain ⟨v1, σ3, ver, c1, cx, c2⟩ := clone_app (p := x.p) (l2 := [e.t, e.a]) (n := 2) (lo := σ0.length) (lo1 := ρ.length) (σ := ρ) (by omega) rfl (by decide) (by decide) hS2.lle
      have gE3 := cx _ _ gE2
      have hS4 := hS2.snoc (.tok ver)
      have gE4 : (ρ ++ [Row.tok ver])[σ.length]? = some (.mix (edgD e)) := get_old gE2
      have gZ4 : (ρ ++ [Row.tok ver])[Z]? = some (.mix (prD (vpr c e))) := get_old gZ
      have gb4 : (ρ ++ [Row.tok ver])[b]? = some (.mix (qeD x)) := get_old hb2
      have ga4 : (ρ ++ [Row.tok ver])[ra]? = some (.mix [.p (eWt wa)]) := hS4.low _ _ h2
      have gg4 : (ρ ++ [Row.tok ver])[rg]? = some (.mix [.p (eWt wg)]) := hS4.low _ _ h3
      have hpl2 : loadN (ρ ++ [Row.tok ver]) 2 (.ptr Z 0) = some (prD (vpr c e)) := loadN_ptr gZ4 rfl (by simp [prD])
      have hSg := S94 (σ := ρ ++ [Row.tok ver]) hg hx.g hp
      have hSa := S94 (σ := ρ ++ [Row.tok ver]) ha hx.a hp
      have lb3 : load1 (.ptr b 3) ρ = some (.p (ePth x.p)) := load1_ptr hb2 (by
        have e : (nodeD x.n).length = 3 := by rw [nodeD_len, hx.len]
        rw [qeD, List.getElem?_append_right (by omega), e]; rfl)
      have head : ∀ R, (((pureFn CC (.fn 94 []) [.p (eWt wg), .p (pI (x.n.getD 2 0)), .agg (prD (vpr c e))] (ρ ++ [Row.tok ver])).bind fun x50 => (binOp PP .eql 3 x50 (.p (.int .i64 (-1)))).bind fun x52 => condK x52 (some (.osl ρ.length ver 1 (x.p ++ [e.t, e.a]).length (eInts (x.p ++ [e.t, e.a])), ρ ++ [Row.tok ver]))
          ((pureFn CC (.fn 94 []) [.p (eWt wa), .p (pI (x.n.getD 1 0)), .agg (prD (vpr c e))] (ρ ++ [Row.tok ver])).bind fun x59 => (binOp PP .neq 3 x59 (.p (.int .i64 (-1)))).bind fun x61 => condK x61
            ((build PP 163 [(0, .p (pI e.a)), (1, x59), (2, x50)]).bind fun x67 => (plainFn CC σ0.length (.fn 105 []) [.ptr s 0, x67, .osl ρ.length ver 1 (x.p ++ [e.t, e.a]).length (eInts (x.p ++ [e.t, e.a]))] (ρ ++ [Row.tok ver])).bind fun r69 => f104_L0 guardT σ0.length (.ptr s 0) (.ptr rc 0) (.ptr rg 0) (.ptr ra 0) (.ptr b 0) (.p (eEs c.mv)) (.p (pI ((L c.mv).length : Nat))) (.p (pI (k + 1 : Nat))) r69.2)
            (f104_L0 guardT σ0.length (.ptr s 0) (.ptr rc 0) (.ptr rg 0) (.ptr ra 0) (.ptr b 0) (.p (eEs c.mv)) (.p (pI ((L c.mv).length : Nat))) (.p (pI (k + 1 : Nat))) (ρ ++ [Row.tok ver]))))) = R →
          f104_L0 guardT σ0.length (.ptr s 0) (.ptr rc 0) (.ptr rg 0) (.ptr ra 0) (.ptr b 0) (.p (eEs c.mv)) (.p (pI ((L c.mv).length : Nat))) (.p (pI (k : Nat))) σ = R := by
        intro R hR
        rw [f104_L0_eq guardT rfl]
        simp only [b_lss, b_eql, b_neq, b_leq, b_geq, b_gtr, h', gG, idx23 hkk, load106, hld106, zero106, n1, fa106_0, fa106_1, fa106_2, faF0, faF1, fa163_0, fa163_1, fa163_2, shift_ptr, shift_pptr, Nat.zero_add, Nat.add_zero, pureFn_fn, List.append_nil, List.singleton_append, List.cons_append, List.nil_append, load3, load1_ptr (off := 0) gE rfl, load1_ptr (off := 0) hb1 (qeV_at hx.len (by decide)), hfe]
        rw [← hfe]
        simp only [load1_ptr (off := 1) gE rfl, fa25_2, shift_ptr, shift_pptr, Nat.zero_add, Nat.add_zero, pureFn_fn, List.append_nil, List.singleton_append, List.cons_append, List.nil_append, load22, load1_ptr (off := 2) hrc rfl, gG, idx22i hef.1 hof, load1_getD hof, hbld, zero98, hZ, n2, hρ, lb3, c1, load1_ptr (off := 1) gE3 rfl, load1_ptr (off := 2) gE3 rfl, bs22_2v, c2, load27v, load1_ptr (off := 0) gg4 rfl, load1_ptr (off := 0) ga4 rfl, load1_ptr (off := 2) gb4 (qeV_at hx.len (by decide)), load1_ptr (off := 1) gb4 (qeV_at hx.len (by decide)), load98, hpl2, load1_ptr (off := 2) gE4 rfl, hJ]
        exact hR
      by_cases hbk : nextW (wl wg) (x.n.getD 2 0) (vpr c e) = -1
      · rw [if_pos hbk]
        refine ⟨.osl ρ.length ver 1 (x.p ++ [e.t, e.a]).length (eInts (x.p ++ [e.t, e.a])), ρ ++ [.tok ver], head _ ?_, .inl ⟨_, rfl, by simp, _, _, rfl⟩⟩
        simp only [shift_ptr, shift_pptr, Nat.zero_add, Nat.add_zero, pureFn_fn, List.append_nil, List.singleton_append, List.cons_append, List.nil_append, hSg, b_lss, b_eql, b_neq, b_leq, b_geq, b_gtr, hbk, gG]
      · rw [if_neg hbk]
        by_cases hak : nextW (wl wa) (x.n.getD 1 0) (vpr c e) = -1
        · rw [if_pos hak]
          obtain ⟨v, σ'', f1, f2⟩ := L104_0 hx hbs hpx hpl r (k + 1) (ρ ++ [.tok ver]) q (by omega) (by omega) hS4 hI hpre gb4
          refine ⟨v, σ'', head _ ?_, f2⟩
          simp only [shift_ptr, shift_pptr, Nat.zero_add, Nat.add_zero, pureFn_fn, List.append_nil, List.singleton_append, List.cons_append, List.nil_append, hSg, hSa, b_lss, b_eql, b_neq, b_leq, b_geq, b_gtr, hbk, hak, gG]
          exact f1
        · rw [if_neg hak]
          have hne : x.p ++ [e.t, e.a] ≠ [] := by simp
          obtain ⟨υ, a1, a2, a3⟩ := add_ok hS4 (n := [e.a, nextW (wl wa) (x.n.getD 1 0) (vpr c e), nextW (wl wg) (x.n.getD 2 0) (vpr c e)]) rfl (p := x.p ++ [e.t, e.a]) (x := .osl ρ.length ver 1 (x.p ++ [e.t, e.a]).length (eInts (x.p ++ [e.t, e.a]))) (.inr ⟨hne, _, _, rfl⟩) (by omega)
          have hI2 : IV n (wl wa) (wl wg) (addN q [e.a, nextW (wl wa) (x.n.getD 1 0) (vpr c e), nextW (wl wg) (x.n.getD 2 0) (vpr c e)] (x.p ++ [e.t, e.a])) := by
            refine hI.add ⟨rfl, hea, next_rng ha hx.a hp hak, next_rng hg hx.g hp hbk⟩ (by simp; omega) ?_
            exact hpx.snoc hea
          obtain ⟨v, σ'', f1, f2⟩ := L104_0 hx hbs hpx hpl r (k + 1) υ _ (by omega) (by omega) a2 hI2 (hpre.trans (addN_pre _ _ _)) (a3 b _ hbs gb4)
          refine ⟨v, σ'', head _ ?_, f2⟩
          simp only [shift_ptr, shift_pptr, Nat.zero_add, Nat.add_zero, pureFn_fn, List.append_nil, List.singleton_append, List.cons_append, List.nil_append, hSg, hSa, b_lss, b_eql, b_neq, b_leq, b_geq, b_gtr, hbk, hak, gG, build163, a1]
          exact f1
    · rw [if_neg hfe]
      obtain ⟨v, σ'', f1, f2⟩ := L104_0 hx hbs hpx hpl r (k + 1) (σ ++ [.mix (edgD e)]) q (by omega) (by omega) hS1 hI hpre hb1
      refine ⟨v, σ'', ?_, f2⟩
      rw [f104_L0_eq guardT rfl]
      simp only [b_lss, b_eql, b_neq, b_leq, b_geq, b_gtr, h', gG, idx23 hkk, load106, hld106, zero106, n1, fa106_0, faF0, fa163_0, shift_ptr, shift_pptr, Nat.zero_add, Nat.add_zero, pureFn_fn, List.append_nil, List.singleton_append, List.cons_append, List.nil_append, load3, load1_ptr (off := 0) gE rfl, load1_ptr (off := 0) hb1 (qeV_at hx.len (by decide)), hfe, hJ]
      exact f1
theorem hv104 : HV σ0 104 [.ptr rc 0, .ptr rg 0, .ptr ra 0] (visV c (wl wa) (wl wg)) (IV n (wl wa) (wl wg)) := by
  intro σ q i to x m s hS hI hx hi
  have hm := List.mem_of_getElem? hx
  have hxn := hI.ok x hm
  have hsl : s < σ.length := by obtain ⟨lay, e, _⟩ := hS.st; exact get_lt e
  obtain ⟨r, σ', e1, e2⟩ := L104_0 h1 h2 h3 hc ha hg (q0 := q) hxn (b := σ.length) (s := s) (by omega) (hI.pp x hm) (hI.pl x hm) _ 0 (σ ++ [.mix (qeD x)]) q (Nat.sub_zero _) (Nat.zero_le _) (hS.snoc _) hI (List.prefix_refl _) get_snoc
  have hrc : (σ ++ [Row.mix (qeD x)])[rc]? = some (.mix (eCmp c)) := get_old (hS.low _ _ h1)
  refine ⟨r, σ', ?_, e2⟩
  show CC σ0.length 104 ([.ptr s 0, .agg (qeD x)] ++ [.ptr rc 0, .ptr rg 0, .ptr ra 0]) σ = _
  refine F104_call ?_
  rw [F104_eq]
  simp only [box_agg (qeD_one x), gG, fa25_3, shift_ptr, shift_pptr, Nat.zero_add, Nat.add_zero, pureFn_fn, List.append_nil, List.singleton_append, List.cons_append, List.nil_append, load23, load1_ptr (off := 3) hrc rfl, len23]
  exact e1
end
end Go.D
end
/- Sorting in place, in plain terms: what the library's pdqsort does to a list, step by step, and that it sorts. -/
section
set_option linter.unusedVariables false
set_option linter.unusedSimpArgs false
namespace Go.D.Srt
variable {E : Type} [Inhabited E]
abbrev ge (A : List E) (i : Nat) : E := A.getD i default
def swp (A : List E) (i j : Nat) : List E := (A.set i (ge A j)).set j (ge A i)
theorem ge_set {A : List E} {i j : Nat} {v : E} (h : i < A.length) : ge (A.set i v) j = if i = j then v else ge A j := by
  unfold ge
  rw [List.getD_eq_getElem?_getD, List.getD_eq_getElem?_getD]
  by_cases e : i = j
  · subst e; rw [List.getElem?_set_self h, if_pos rfl]; rfl
  · rw [List.getElem?_set_ne e, if_neg e]
theorem swp_len (A : List E) (i j : Nat) : (swp A i j).length = A.length := by simp [swp]
theorem ge_swp {A : List E} {i j : Nat} (hi : i < A.length) (hj : j < A.length) (k : Nat) : ge (swp A i j) k = if k = j then ge A i else if k = i then ge A j else ge A k := by
  unfold swp
  rw [ge_set (by rw [List.length_set]; exact hj)]
  by_cases e : j = k
  · rw [if_pos e, if_pos e.symm]
  · rw [if_neg e, if_neg (fun h => e h.symm), ge_set hi]
    by_cases e2 : i = k
    · rw [if_pos e2, if_pos e2.symm]
    · rw [if_neg e2, if_neg (fun h => e2 h.symm)]
theorem swp_perm {A : List E} {i j : Nat} (hi : i < A.length) (hj : j < A.length) : (swp A i j).Perm A := by
  have e1 : ge A j = A[j] := by unfold ge; rw [List.getD_eq_getElem?_getD, List.getElem?_eq_getElem hj]; rfl
  have e2 : ge A i = A[i] := by unfold ge; rw [List.getD_eq_getElem?_getD, List.getElem?_eq_getElem hi]; rfl
  unfold swp
  rw [e1, e2]
  exact List.set_set_perm hi hj
/-- What stays, and where things come from: B is A, changed within [a, b). -/
structure RP (a b : Nat) (A B : List E) : Prop where
  len : B.length = A.length
  out : ∀ i, i < a ∨ b ≤ i → ge B i = ge A i
  all : ∀ P : E → Prop, (∀ i, a ≤ i → i < b → P (ge A i)) → ∀ i, a ≤ i → i < b → P (ge B i)
  perm : B.Perm A
theorem RP.refl (a b : Nat) (A : List E) : RP a b A A := ⟨rfl, fun _ _ => rfl, fun _ h => h, List.Perm.refl _⟩
theorem RP.trans {a b : Nat} {A B C : List E} (h : RP a b A B) (h2 : RP a b B C) : RP a b A C :=
  ⟨h2.len.trans h.len, fun i hi => (h2.out i hi).trans (h.out i hi), fun P hp => h2.all P (h.all P hp), h2.perm.trans h.perm⟩
theorem RP.mono {a b a' b' : Nat} {A B : List E} (h : RP a b A B) (ha : a' ≤ a) (hb : b ≤ b') : RP a' b' A B := by
  refine ⟨h.len, fun i hi => h.out i (by omega), fun P hp i h1 h2 => ?_, h.perm⟩
  by_cases hin : a ≤ i ∧ i < b
  · exact h.all P (fun j g1 g2 => hp j (by omega) (by omega)) i hin.1 hin.2
  · rw [h.out i (by omega)]; exact hp i h1 h2
theorem RP.swap {a b i j : Nat} {A : List E} (hi : a ≤ i ∧ i < b) (hj : a ≤ j ∧ j < b) (hb : b ≤ A.length) : RP a b A (swp A i j) := by
  refine ⟨swp_len _ _ _, fun k hk => ?_, fun P hp k h1 h2 => ?_, swp_perm (by omega) (by omega)⟩
  · rw [ge_swp (by omega) (by omega), if_neg (by omega), if_neg (by omega)]
  · rw [ge_swp (by omega) (by omega)]
    split
    · exact hp i hi.1 hi.2
    · split
      · exact hp j hj.1 hj.2
      · exact hp k h1 h2
/-- An order: what is asked of 'less'. -/
structure Ord (lt : E → E → Bool) : Prop where
  asym : ∀ x y, lt x y = true → lt y x = false
  trans : ∀ x y z, lt y x = false → lt z y = false → lt z x = false
omit [Inhabited E] in
theorem Ord.irr {lt : E → E → Bool} (h : Ord lt) (x : E) : lt x x = false := by
  cases e : lt x x with
  | false => rfl
  | true => have := h.asym x x e; rw [e] at this; exact absurd this (by decide)
/-- Sorted in [a, b). -/
def Sd (lt : E → E → Bool) (a b : Nat) (A : List E) : Prop := ∀ i j, a ≤ i → i < j → j < b → lt (ge A j) (ge A i) = false
section
variable {lt : E → E → Bool} (H : Ord lt)
def insIn (lt : E → E → Bool) (a : Nat) : Nat → List E → List E
  | 0, A => A
  | j + 1, A => if a < j + 1 ∧ lt (ge A (j + 1)) (ge A j) = true then insIn lt a j (swp A (j + 1) j) else A
def insOut (lt : E → E → Bool) (a : Nat) : Nat → Nat → List E → List E
  | 0, _, A => A
  | r + 1, i, A => insOut lt a r (i + 1) (insIn lt a i A)
theorem insIn_rp {a b : Nat} : ∀ (j : Nat) (A : List E), a ≤ j → j < b → b ≤ A.length → RP a b A (insIn lt a j A)
  | 0, A, ha, hb, hl => RP.refl _ _ _
  | j + 1, A, ha, hb, hl => by
    unfold insIn
    split
    · rename_i h
      exact (RP.swap ⟨by omega, by omega⟩ ⟨by omega, by omega⟩ hl).trans (insIn_rp j _ (by omega) (by omega) (by rw [swp_len]; exact hl))
    · exact RP.refl _ _ _
include H in
theorem insIn_sd {a i : Nat} : ∀ (j : Nat) (A : List E), a ≤ j → j ≤ i → i < A.length → (∀ p q, a ≤ p → p < q → q ≤ i → p ≠ j → q ≠ j → lt (ge A q) (ge A p) = false) → (∀ q, j < q → q ≤ i → lt (ge A q) (ge A j) = false) → Sd lt a (i + 1) (insIn lt a j A)
  | 0, A, ha, hj, hl, h1, h2 => by
    intro p q hp hpq hq
    by_cases e : p = 0
    · subst e; exact h2 q (by omega) (by omega)
    · exact h1 p q hp hpq (by omega) e (by omega)
  | j + 1, A, ha, hj, hl, h1, h2 => by
    unfold insIn
    split
    · rename_i h
      have g := fun k => ge_swp (A := A) (i := j + 1) (j := j) (by omega) (by omega) k
      refine insIn_sd j _ (by omega) (by omega) (by rw [swp_len]; exact hl) (fun p q hp hpq hq hpj hqj => ?_) (fun q hq hqi => ?_)
      · rw [g, g, if_neg hqj, if_neg hpj]
        by_cases e1 : q = j + 1
        · rw [if_pos e1, if_neg (by omega)]
          exact h1 p j hp (by omega) (by omega) (by omega) (by omega)
        · rw [if_neg e1]
          by_cases e2 : p = j + 1
          · rw [if_pos e2]
            exact h1 j q (by omega) (by omega) hq (by omega) e1
          · rw [if_neg e2]
            exact h1 p q hp hpq hq e2 e1
      · rw [g, g, if_neg (by omega), if_pos rfl]
        by_cases e1 : q = j + 1
        · rw [if_pos e1]; exact H.asym _ _ h.2
        · rw [if_neg e1]; exact h2 q (by omega) hqi
    · rename_i h
      intro p q hp hpq hq
      by_cases e1 : p = j + 1
      · subst e1; exact h2 q hpq (by omega)
      · by_cases e2 : q = j + 1
        · subst e2
          have hlt : lt (ge A (j + 1)) (ge A j) = false := by
            cases e : lt (ge A (j + 1)) (ge A j) with
            | false => rfl
            | true => exact absurd ⟨by omega, e⟩ h
          by_cases e3 : p = j
          · subst e3; exact hlt
          · exact H.trans _ _ _ (h1 p j hp (by omega) (by omega) e1 (by omega)) hlt
        · exact h1 p q hp hpq (by omega) e1 e2
include H in
theorem insIn_ok {a i : Nat} {A : List E} (ha : a ≤ i) (hl : i < A.length) (hs : Sd lt a i A) : Sd lt a (i + 1) (insIn lt a i A) :=
  insIn_sd H i A ha (Nat.le_refl _) hl (fun p q h1 h2 h3 h4 h5 => hs p q h1 h2 (by omega)) (fun q h1 h2 => by omega)
include H in
theorem insOut_ok {a b : Nat} : ∀ (r i : Nat) (A : List E), a ≤ i → i + r = b → b ≤ A.length → Sd lt a i A → RP a b A (insOut lt a r i A) ∧ Sd lt a b (insOut lt a r i A)
  | 0, i, A, ha, hr, hl, hs => ⟨RP.refl _ _ _, by rw [← hr]; exact hs⟩
  | r + 1, i, A, ha, hr, hl, hs => by
    have h1 := insIn_rp (lt := lt) (a := a) (b := b) i A ha (by omega) hl
    have h2 := insOut_ok (b := b) r (i + 1) (insIn lt a i A) (by omega) (by omega) (by rw [h1.len]; exact hl) (insIn_ok H (i := i) ha (show i < A.length by omega) hs)
    exact ⟨h1.trans h2.1, h2.2⟩
/-- With a lower bound in front, going further down changes nothing. -/
theorem insIn_low {a : Nat} : ∀ (j : Nat) (A : List E), a ≤ j → j < A.length → (0 < a → ∀ p, a ≤ p → p ≤ j → lt (ge A p) (ge A (a - 1)) = false) → insIn lt 0 j A = insIn lt a j A
  | 0, A, ha, hl, h => rfl
  | j + 1, A, ha, hl, h => by
    unfold insIn
    by_cases e : a = j + 1
    · subst e
      have := h (by omega) (j + 1) (Nat.le_refl _) (Nat.le_refl _)
      rw [show j + 1 - 1 = j by omega] at this
      rw [if_neg (by rw [this]; simp), if_neg (by omega)]
    · by_cases e2 : lt (ge A (j + 1)) (ge A j) = true
      · rw [if_pos ⟨by omega, e2⟩, if_pos ⟨by omega, e2⟩]
        refine insIn_low j _ (by omega) (by rw [swp_len]; omega) fun h0 p h1 h2 => ?_
        have g := fun k => ge_swp (A := A) (i := j + 1) (j := j) (by omega) (by omega) k
        rw [g, g, if_neg (show ¬ a - 1 = j by omega), if_neg (show ¬ a - 1 = j + 1 by omega)]
        split
        · exact h h0 (j + 1) (by omega) (Nat.le_refl _)
        · rw [if_neg (by omega)]; exact h h0 p h1 (by omega)
      · rw [if_neg (fun hh => e2 hh.2), if_neg (fun hh => e2 hh.2)]
/-- Children are not above their parents, from node lo on. -/
def Hp (lt : E → E → Bool) (f lo hi : Nat) (A : List E) : Prop := ∀ i c, lo ≤ i → (c = 2 * i + 1 ∨ c = 2 * i + 2) → c < hi → lt (ge A (f + i)) (ge A (f + c)) = false
def sift (lt : E → E → Bool) (f hi : Nat) : Nat → Nat → List E → List E
  | 0, _, A => A
  | k + 1, root, A =>
    if hi ≤ 2 * root + 1 then A else
    let c := if 2 * root + 2 < hi ∧ lt (ge A (f + (2 * root + 1))) (ge A (f + (2 * root + 2))) = true then 2 * root + 2 else 2 * root + 1
    if lt (ge A (f + root)) (ge A (f + c)) = true then sift lt f hi k c (swp A (f + root) (f + c)) else A
theorem sift_rp {f hi : Nat} : ∀ (k root : Nat) (A : List E), root < hi → f + hi ≤ A.length → RP f (f + hi) A (sift lt f hi k root A)
  | 0, root, A, hr, hl => RP.refl _ _ _
  | k + 1, root, A, hr, hl => by
    unfold sift
    split
    · exact RP.refl _ _ _
    · simp only
      generalize hc : (if 2 * root + 2 < hi ∧ lt (ge A (f + (2 * root + 1))) (ge A (f + (2 * root + 2))) = true then 2 * root + 2 else 2 * root + 1) = c
      have hcl : c < hi := by rw [← hc]; split <;> omega
      split
      · exact (RP.swap ⟨by omega, by omega⟩ ⟨by omega, by omega⟩ hl).trans (sift_rp k c _ hcl (by rw [swp_len]; exact hl))
      · exact RP.refl _ _ _
include H in
/-- All from lo on are right but the root, whose parent is above its children. -/
theorem sift_hp {f lo hi : Nat} : ∀ (k root : Nat) (A : List E), hi - root ≤ k → lo ≤ root → root < hi → f + hi ≤ A.length →
    (∀ i c, lo ≤ i → i ≠ root → (c = 2 * i + 1 ∨ c = 2 * i + 2) → c < hi → lt (ge A (f + i)) (ge A (f + c)) = false) →
    (∀ p c, lo ≤ p → (root = 2 * p + 1 ∨ root = 2 * p + 2) → (c = 2 * root + 1 ∨ c = 2 * root + 2) → c < hi → lt (ge A (f + p)) (ge A (f + c)) = false) → Hp lt f lo hi (sift lt f hi k root A)
  | 0, root, A, hk, hlo, hr, hl, h1, h2 => by omega
  | k + 1, root, A, hk, hlo, hr, hl, h1, h2 => by
    unfold sift
    split
    · rename_i h0
      intro i c hi1 hc hch
      by_cases e : i = root
      · omega
      · exact h1 i c hi1 e hc hch
    · rename_i h0
      simp only
      -- the greater child
      have hcc : ∃ c, (if 2 * root + 2 < hi ∧ lt (ge A (f + (2 * root + 1))) (ge A (f + (2 * root + 2))) = true then 2 * root + 2 else 2 * root + 1) = c ∧ (c = 2 * root + 1 ∨ c = 2 * root + 2) ∧ c < hi ∧ ∀ c', (c' = 2 * root + 1 ∨ c' = 2 * root + 2) → c' < hi → lt (ge A (f + c)) (ge A (f + c')) = false := by
        split
        · rename_i hh
          refine ⟨_, rfl, .inr rfl, by omega, fun c' hc' hl' => ?_⟩
          rcases hc' with rfl | rfl
          · exact H.asym _ _ hh.2
          · exact H.irr _
        · rename_i hh
          refine ⟨_, rfl, .inl rfl, by omega, fun c' hc' hl' => ?_⟩
          rcases hc' with rfl | rfl
          · exact H.irr _
          · cases e : lt (ge A (f + (2 * root + 1))) (ge A (f + (2 * root + 2))) with
            | false => rfl
            | true => exact absurd ⟨hl', e⟩ hh
      obtain ⟨c, hc, hc1, hc2, hc3⟩ := hcc
      rw [hc]
      have g := fun j => ge_swp (A := A) (i := f + root) (j := f + c) (by omega) (by omega) j
      split
      · rename_i hlt
        refine sift_hp k c _ (by omega) (by omega) hc2 (by rw [swp_len]; exact hl) (fun i c' hi1 hne hcc' hl' => ?_) (fun p c' hp1 hpc hcc' hl' => ?_)
        · rw [g, g]
          by_cases e1 : i = root
          · subst e1
            rw [if_neg (by omega), if_pos rfl]
            by_cases e2 : c' = c
            · subst e2; rw [if_pos rfl]; exact H.asym _ _ hlt
            · rw [if_neg (by omega), if_neg (by omega)]
              exact hc3 c' hcc' hl'
          · rw [if_neg (by omega), if_neg (by omega)]
            by_cases e2 : c' = c
            · omega
            · rw [if_neg (by omega)]
              by_cases e3 : c' = root
              · subst e3
                rw [if_pos rfl]
                exact h2 i c hi1 hcc' hc1 hc2
              · rw [if_neg (by omega)]
                exact h1 i c' hi1 e1 hcc' hl'
        · have hpr : p = root := by omega
          subst hpr
          rw [g, g, if_neg (by omega), if_pos rfl, if_neg (by omega), if_neg (by omega)]
          exact h1 c c' (by omega) (by omega) hcc' hl'
      · rename_i hlt
        intro i c' hi1 hcc' hl'
        by_cases e : i = root
        · subst e
          have hf : lt (ge A (f + i)) (ge A (f + c)) = false := by
            cases e : lt (ge A (f + i)) (ge A (f + c)) with
            | false => rfl
            | true => exact absurd e hlt
          exact H.trans _ _ _ (hc3 c' hcc' hl') hf |> fun h => by
            exact H.trans (ge A (f + c')) (ge A (f + c)) (ge A (f + i)) (hc3 c' hcc' hl') hf
        · exact h1 i c' hi1 e hcc' hl'
include H in
theorem Hp.top {f hi : Nat} {A : List E} (h : Hp lt f 0 hi A) : ∀ (i : Nat), i < hi → lt (ge A f) (ge A (f + i)) = false := by
  intro i
  induction i using Nat.strongRecOn with
  | _ i ih =>
    intro hi1
    by_cases e : i = 0
    · subst e; exact H.irr _
    · have h1 := ih ((i - 1) / 2) (by omega) (by omega)
      have h2 := h ((i - 1) / 2) i (Nat.zero_le _) (by omega) hi1
      exact H.trans _ _ _ h2 h1
def hpA (lt : E → E → Bool) (f n : Nat) : Nat → List E → List E
  | 0, A => sift lt f n n 0 A
  | i + 1, A => hpA lt f n i (sift lt f n n (i + 1) A)
def hpB (lt : E → E → Bool) (f : Nat) : Nat → List E → List E
  | 0, A => A
  | i + 1, A => hpB lt f i (sift lt f i i 0 (swp A f (f + i)))
include H in
theorem hpA_ok {f n : Nat} : ∀ (i : Nat) (A : List E), i < n → f + n ≤ A.length → Hp lt f (i + 1) n A → RP f (f + n) A (hpA lt f n i A) ∧ Hp lt f 0 n (hpA lt f n i A)
  | 0, A, hi, hl, h => ⟨sift_rp n 0 A hi hl, sift_hp H n 0 A (by omega) (Nat.le_refl _) hi hl (fun i c h1 h2 h3 h4 => h i c (by omega) h3 h4) (fun p c h1 h2 h3 h4 => by omega)⟩
  | i + 1, A, hi, hl, h => by
    have h1 := sift_rp (lt := lt) n (i + 1) A hi hl
    have h2 := sift_hp H (lo := i + 1) n (i + 1) A (by omega) (Nat.le_refl _) hi hl (fun j c g1 g2 g3 g4 => h j c (by omega) g3 g4) (fun p c g1 g2 g3 g4 => by omega)
    have h3 := hpA_ok i _ (by omega) (by rw [h1.len]; exact hl) h2
    exact ⟨h1.trans h3.1, h3.2⟩
include H in
theorem hpB_ok {f n : Nat} : ∀ (i : Nat) (A : List E), i ≤ n → f + n ≤ A.length → Hp lt f 0 i A → Sd lt (f + i) (f + n) A → (∀ p q, f ≤ p → p < f + i → f + i ≤ q → q < f + n → lt (ge A q) (ge A p) = false) →
    RP f (f + n) A (hpB lt f i A) ∧ Sd lt f (f + n) (hpB lt f i A)
  | 0, A, hi, hl, hh, hs, hle => ⟨RP.refl _ _ _, hs⟩
  | i + 1, A, hi, hl, hh, hs, hle => by
    have r1 : RP f (f + (i + 1)) A (swp A f (f + i)) := RP.swap ⟨by omega, by omega⟩ ⟨by omega, by omega⟩ (by omega)
    have g := fun j => ge_swp (A := A) (i := f) (j := f + i) (by omega) (by omega) j
    by_cases h0 : i = 0
    · subst h0
      have r2 : sift lt f 0 0 0 (swp A f (f + 0)) = swp A f (f + 0) := rfl
      have e1 : ∀ j, ge (swp A f (f + 0)) j = ge A j := by
        intro j
        rw [g]
        by_cases e : j = f
        · subst e; simp
        · rw [if_neg (by omega), if_neg e]
      refine ⟨(r1.mono (Nat.le_refl _) (by omega)), fun p q h1 h2 h3 => ?_⟩
      show lt (ge (swp A f (f + 0)) q) (ge (swp A f (f + 0)) p) = false
      rw [e1, e1]
      by_cases e : p = f
      · subst e; exact hle p q h1 (by omega) (by omega) h3
      · exact hs p q (by omega) h2 h3
    · have r2 := sift_rp (lt := lt) (f := f) (hi := i) i 0 (swp A f (f + i)) (by omega) (by rw [swp_len]; omega)
      have hnode : ∀ j c, 0 ≤ j → j ≠ 0 → (c = 2 * j + 1 ∨ c = 2 * j + 2) → c < i → lt (ge (swp A f (f + i)) (f + j)) (ge (swp A f (f + i)) (f + c)) = false := by
        intro j c _ hj hc hci
        rw [g, g, if_neg (by omega), if_neg (by omega), if_neg (by omega), if_neg (by omega)]
        exact hh j c (Nat.zero_le _) hc (by omega)
      have h2 := sift_hp H (f := f) (lo := 0) (hi := i) i 0 (swp A f (f + i)) (by omega) (Nat.le_refl _) (by omega) (by rw [swp_len]; omega) hnode (fun p c g1 g2 => by omega)
      have hmax := hh.top H
      have hout : ∀ q, f + i ≤ q → ge (sift lt f i i 0 (swp A f (f + i))) q = ge (swp A f (f + i)) q := fun q hq => r2.out q (by omega)
      have hs2 : Sd lt (f + i) (f + n) (sift lt f i i 0 (swp A f (f + i))) := by
        intro p q h3 h4 h5
        rw [hout p h3, hout q (by omega), g, g, if_neg (show ¬ q = f + i by omega), if_neg (show ¬ q = f by omega)]
        by_cases e : p = f + i
        · rw [if_pos e]; exact hle f q (Nat.le_refl _) (by omega) (by omega) h5
        · rw [if_neg e, if_neg (by omega)]; exact hs p q (by omega) h4 h5
      have hle2 : ∀ p q, f ≤ p → p < f + i → f + i ≤ q → q < f + n → lt (ge (sift lt f i i 0 (swp A f (f + i))) q) (ge (sift lt f i i 0 (swp A f (f + i))) p) = false := by
        intro p q h3 h4 h5 h6
        rw [hout q h5]
        refine r2.all (fun x => lt (ge (swp A f (f + i)) q) x = false) (fun k g1 g2 => ?_) p h3 h4
        rw [g, g]
        by_cases e : q = f + i
        · rw [if_pos e, if_neg (show ¬ k = f + i by omega)]
          split
          · have := hmax i (by omega); exact this
          · have := hmax (k - f) (by omega)
            rwa [show f + (k - f) = k by omega] at this
        · rw [if_neg e, if_neg (show ¬ q = f by omega), if_neg (show ¬ k = f + i by omega)]
          split
          · exact hle (f + i) q (by omega) (by omega) (by omega) h6
          · exact hle k q g1 (by omega) (by omega) h6
      have h3 := hpB_ok i _ (by omega) (by rw [r2.len, swp_len]; exact hl) h2 hs2 hle2
      exact ⟨((r1.mono (Nat.le_refl _) (by omega)).trans (r2.mono (Nat.le_refl _) (by omega))).trans h3.1, h3.2⟩
def upI (q : E → Bool) (A : List E) : Nat → Nat → Nat → Nat
  | 0, i, _ => i
  | k + 1, i, j => if i ≤ j ∧ q (ge A i) = true then upI q A k (i + 1) j else i
def dnJ (q : E → Bool) (A : List E) : Nat → Nat → Nat → Nat
  | 0, _, j => j
  | k + 1, i, j => if i ≤ j ∧ q (ge A j) = true then dnJ q A k i (j - 1) else j
theorem upI_ok {q : E → Bool} {A : List E} : ∀ (k i j : Nat), j + 1 - i ≤ k → i ≤ j + 1 → i ≤ upI q A k i j ∧ upI q A k i j ≤ j + 1 ∧ (∀ p, i ≤ p → p < upI q A k i j → q (ge A p) = true) ∧ (upI q A k i j ≤ j → q (ge A (upI q A k i j)) = false)
  | 0, i, j, hk, hi => ⟨Nat.le_refl _, hi, fun p h1 h2 => by simp only [upI] at h2; omega, fun h => by simp only [upI] at h; omega⟩
  | k + 1, i, j, hk, hi => by
    unfold upI
    split
    · rename_i h
      obtain ⟨a1, a2, a3, a4⟩ := upI_ok (q := q) (A := A) k (i + 1) j (by omega) (by omega)
      refine ⟨by omega, a2, fun p h1 h2 => ?_, a4⟩
      by_cases e : p = i
      · subst e; exact h.2
      · exact a3 p (by omega) h2
    · rename_i h
      refine ⟨Nat.le_refl _, hi, fun p h1 h2 => by omega, fun hij => ?_⟩
      cases e : q (ge A i) with
      | false => rfl
      | true => exact absurd ⟨hij, e⟩ h
theorem dnJ_ok {q : E → Bool} {A : List E} : ∀ (k i j : Nat), j + 1 - i ≤ k → i ≤ j + 1 → 1 ≤ i → dnJ q A k i j ≤ j ∧ i ≤ dnJ q A k i j + 1 ∧ (∀ p, dnJ q A k i j < p → p ≤ j → q (ge A p) = true) ∧ (i ≤ dnJ q A k i j → q (ge A (dnJ q A k i j)) = false)
  | 0, i, j, hk, hi, h1 => ⟨Nat.le_refl _, hi, fun p g1 g2 => by simp only [dnJ] at g1; omega, fun h => by simp only [dnJ] at h; omega⟩
  | k + 1, i, j, hk, hi, h1 => by
    unfold dnJ
    split
    · rename_i h
      obtain ⟨a1, a2, a3, a4⟩ := dnJ_ok (q := q) (A := A) k i (j - 1) (by omega) (by omega) h1
      refine ⟨by omega, a2, fun p g1 g2 => ?_, a4⟩
      by_cases e : p = j
      · subst e; exact h.2
      · exact a3 p g1 (by omega)
    · rename_i h
      refine ⟨Nat.le_refl _, hi, fun p g1 g2 => by omega, fun hij => ?_⟩
      cases e : q (ge A j) with
      | false => rfl
      | true => exact absurd ⟨hij, e⟩ h
/-- The loop of a partition: u is asked from the left, v from the right. -/
def prt (u v : E → E → Bool) (a : Nat) : Nat → Nat → Nat → List E → Nat × Nat × List E
  | 0, i, j, A => (i, j, A)
  | k + 1, i, j, A =>
    let i' := upI (u (ge A a)) A (j + 1 - i) i j
    let j' := dnJ (v (ge A a)) A (j + 1 - i') i' j
    if j' < i' then (i', j', A) else prt u v a k (i' + 1) (j' - 1) (swp A i' j')
theorem prt_ok {u v : E → E → Bool} (huv : ∀ x y, v x y = !u x y) {a b : Nat} : ∀ (k i j : Nat) (A : List E), j + 1 - i < k → a + 1 ≤ i → i ≤ j + 1 → j < b → b ≤ A.length →
    (∀ p, a < p → p < i → u (ge A a) (ge A p) = true) → (∀ p, j < p → p < b → u (ge A a) (ge A p) = false) →
    RP (a + 1) b A (prt u v a k i j A).2.2 ∧ (prt u v a k i j A).1 = (prt u v a k i j A).2.1 + 1 ∧ a ≤ (prt u v a k i j A).2.1 ∧ (prt u v a k i j A).2.1 < b ∧
      (∀ p, a < p → p ≤ (prt u v a k i j A).2.1 → u (ge A a) (ge (prt u v a k i j A).2.2 p) = true) ∧ (∀ p, (prt u v a k i j A).2.1 < p → p < b → u (ge A a) (ge (prt u v a k i j A).2.2 p) = false)
  | 0, i, j, A, hk, hi, hij, hj, hb, h1, h2 => by omega
  | k + 1, i, j, A, hk, hi, hij, hj, hb, h1, h2 => by
    obtain ⟨a1, a2, a3, a4⟩ := upI_ok (q := u (ge A a)) (A := A) (j + 1 - i) i j (Nat.le_refl _) hij
    obtain ⟨b1, b2, b3, b4⟩ := dnJ_ok (q := v (ge A a)) (A := A) (j + 1 - upI (u (ge A a)) A (j + 1 - i) i j) (upI (u (ge A a)) A (j + 1 - i) i j) j (Nat.le_refl _) a2 (by omega)
    unfold prt
    simp only
    generalize hI : upI (u (ge A a)) A (j + 1 - i) i j = i' at *
    generalize hJ : dnJ (v (ge A a)) A (j + 1 - i') i' j = j' at *
    have f1 : ∀ p, a < p → p < i' → u (ge A a) (ge A p) = true := fun p g1 g2 => by
      by_cases e : p < i
      · exact h1 p g1 e
      · exact a3 p (by omega) g2
    have f2 : ∀ p, j' < p → p < b → u (ge A a) (ge A p) = false := fun p g1 g2 => by
      by_cases e : p ≤ j
      · have := b3 p g1 e; rw [huv] at this; simpa using this
      · exact h2 p (by omega) g2
    split
    · rename_i hlt
      have : i' = j' + 1 := by omega
      show RP (a + 1) b A A ∧ i' = j' + 1 ∧ a ≤ j' ∧ j' < b ∧ (∀ p, a < p → p ≤ j' → u (ge A a) (ge A p) = true) ∧ (∀ p, j' < p → p < b → u (ge A a) (ge A p) = false)
      exact ⟨RP.refl _ _ _, this, by omega, by omega, fun p g1 g2 => f1 p g1 (by omega), f2⟩
    · rename_i hlt
      have c1 := a4 (by omega)
      have c2 := b4 (by omega)
      rw [huv] at c2
      have hne : i' ≠ j' := by
        rintro rfl
        rw [c1] at c2; exact absurd c2 (by decide)
      have g := fun m => ge_swp (A := A) (i := i') (j := j') (by omega) (by omega) m
      have gA : ge (swp A i' j') a = ge A a := by rw [g, if_neg (by omega), if_neg (by omega)]
      have r := prt_ok huv (a := a) (b := b) k (i' + 1) (j' - 1) (swp A i' j') (by omega) (by omega) (by omega) (by omega) (by rw [swp_len]; exact hb) (fun p g1 g2 => by
        rw [gA, g]
        by_cases e : p = i'
        · rw [if_neg (by omega), if_pos e]; simpa using c2
        · rw [if_neg (by omega), if_neg e]; exact f1 p g1 (by omega)) (fun p g1 g2 => by
        rw [gA, g]
        by_cases e : p = j'
        · rw [if_pos e]; exact c1
        · rw [if_neg e, if_neg (by omega)]; exact f2 p (by omega) g2)
      rw [gA] at r
      exact ⟨(RP.swap ⟨by omega, by omega⟩ ⟨by omega, by omega⟩ hb).trans r.1, r.2⟩
def scanI (lt : E → E → Bool) (A : List E) (b : Nat) : Nat → Nat → Nat
  | 0, i => i
  | k + 1, i => if i < b ∧ lt (ge A i) (ge A (i - 1)) = false then scanI lt A b k (i + 1) else i
def insUp (lt : E → E → Bool) : Nat → Nat → List E → List E
  | 0, _, A => A
  | r + 1, j, A => if lt (ge A j) (ge A (j - 1)) = true then insUp lt r (j + 1) (swp A j (j - 1)) else A
def pins (lt : E → E → Bool) (a b : Nat) : Nat → Nat → List E → Bool × List E
  | 0, _, A => (false, A)
  | s + 1, i, A =>
    let i' := scanI lt A b (b - i) i
    if i' = b then (true, A) else if b - a < 50 then (false, A) else
    let A1 := swp A i' (i' - 1)
    let A2 := if 2 ≤ i' - a then insIn lt 0 (i' - 1) A1 else A1
    let A3 := if 2 ≤ b - i' then insUp lt (b - (i' + 1)) (i' + 1) A2 else A2
    pins lt a b s i' A3
include H in
theorem scanI_ok {A : List E} {a b : Nat} : ∀ (k i : Nat), b - i ≤ k → a + 1 ≤ i → i ≤ b → Sd lt a i A → i ≤ scanI lt A b k i ∧ scanI lt A b k i ≤ b ∧ Sd lt a (scanI lt A b k i) A ∧ (scanI lt A b k i < b → lt (ge A (scanI lt A b k i)) (ge A (scanI lt A b k i - 1)) = true)
  | 0, i, hk, ha, hb, hs => ⟨Nat.le_refl _, hb, hs, fun h => by simp only [scanI] at h; omega⟩
  | k + 1, i, hk, ha, hb, hs => by
    unfold scanI
    split
    · rename_i h
      have hs2 : Sd lt a (i + 1) A := by
        intro p q h1 h2 h3
        by_cases e : q = i
        · subst e
          by_cases e2 : p = q - 1
          · rw [e2]; exact h.2
          · exact H.trans _ _ _ (hs p (q - 1) h1 (by omega) (by omega)) h.2
        · exact hs p q h1 h2 (by omega)
      obtain ⟨a1, a2⟩ := scanI_ok (a := a) (b := b) k (i + 1) (by omega) (by omega) (by omega) hs2
      exact ⟨by omega, a2⟩
    · rename_i h
      refine ⟨Nat.le_refl _, hb, hs, fun hib => ?_⟩
      cases e : lt (ge A i) (ge A (i - 1)) with
      | true => rfl
      | false => exact absurd ⟨hib, e⟩ h
theorem insUp_rp {i b : Nat} : ∀ (r j : Nat) (A : List E), i < j → j + r ≤ b → b ≤ A.length → RP i b A (insUp lt r j A)
  | 0, j, A, hi, hr, hl => RP.refl _ _ _
  | r + 1, j, A, hi, hr, hl => by
    unfold insUp
    split
    · exact (RP.swap ⟨by omega, by omega⟩ ⟨by omega, by omega⟩ hl).trans (insUp_rp r (j + 1) _ (by omega) (by omega) (by rw [swp_len]; exact hl))
    · exact RP.refl _ _ _
include H in
theorem pins_ok {a b : Nat} : ∀ (s i : Nat) (A : List E), a + 1 ≤ i → i ≤ b → b ≤ A.length → (0 < a → ∀ p, a ≤ p → p < b → lt (ge A p) (ge A (a - 1)) = false) → Sd lt a i A →
    RP a b A (pins lt a b s i A).2 ∧ ((pins lt a b s i A).1 = true → Sd lt a b (pins lt a b s i A).2)
  | 0, i, A, ha, hb, hl, hlow, hs => ⟨RP.refl _ _ _, fun h => by simp [pins] at h⟩
  | s + 1, i, A, ha, hb, hl, hlow, hs => by
    obtain ⟨a1, a2, a3, a4⟩ := scanI_ok H (b - i) i (Nat.le_refl _) ha hb hs
    unfold pins
    simp only
    generalize hI : scanI lt A b (b - i) i = i' at *
    split
    · rename_i e
      exact ⟨RP.refl _ _ _, fun _ => by rw [← e]; exact a3⟩
    · split
      · exact ⟨RP.refl _ _ _, fun h => absurd h (by simp)⟩
      · rename_i e1 e2
        have r1 : RP a b A (swp A i' (i' - 1)) := RP.swap ⟨by omega, by omega⟩ ⟨by omega, by omega⟩ hl
        have g := fun m => ge_swp (A := A) (i := i') (j := i' - 1) (by omega) (by omega) m
        have hlow1 : 0 < a → ∀ p, a ≤ p → p < b → lt (ge (swp A i' (i' - 1)) p) (ge (swp A i' (i' - 1)) (a - 1)) = false := fun h0 p h1 h2 => by
          rw [r1.out (a - 1) (by omega)]
          exact r1.all (fun x => lt x (ge A (a - 1)) = false) (fun k g1 g2 => hlow h0 k g1 g2) p h1 h2
        have hs1 : Sd lt a (i' - 1) (swp A i' (i' - 1)) := fun p q h1 h2 h3 => by
          rw [g, g, if_neg (by omega), if_neg (by omega), if_neg (by omega), if_neg (by omega)]
          exact a3 p q h1 h2 (by omega)
        have h2 : RP a b A (if 2 ≤ i' - a then insIn lt 0 (i' - 1) (swp A i' (i' - 1)) else swp A i' (i' - 1)) ∧ Sd lt a i' (if 2 ≤ i' - a then insIn lt 0 (i' - 1) (swp A i' (i' - 1)) else swp A i' (i' - 1)) := by
          split
          · rw [insIn_low (a := a) (i' - 1) (swp A i' (i' - 1)) (by omega) (by rw [swp_len]; omega) fun h0 p h1 h2 => hlow1 h0 p h1 (by omega)]
            refine ⟨r1.trans (insIn_rp (b := b) (i' - 1) (swp A i' (i' - 1)) (by omega) (by omega) (by rw [swp_len]; exact hl)), ?_⟩
            have := insIn_ok H (a := a) (i := i' - 1) (A := swp A i' (i' - 1)) (by omega) (by rw [swp_len]; omega) hs1
            rwa [show i' - 1 + 1 = i' by omega] at this
          · exact ⟨r1, fun p q h1 h2 h3 => by omega⟩
        generalize (if 2 ≤ i' - a then insIn lt 0 (i' - 1) (swp A i' (i' - 1)) else swp A i' (i' - 1)) = A2 at *
        have h3 : RP i' b A2 (if 2 ≤ b - i' then insUp lt (b - (i' + 1)) (i' + 1) A2 else A2) := by
          split
          · exact insUp_rp _ _ _ (by omega) (by omega) (by rw [h2.1.len]; exact hl)
          · exact RP.refl _ _ _
        generalize (if 2 ≤ b - i' then insUp lt (b - (i' + 1)) (i' + 1) A2 else A2) = A3 at *
        have h4 : RP a b A A3 := h2.1.trans (h3.mono (by omega) (Nat.le_refl _))
        have h5 := pins_ok (a := a) (b := b) s i' A3 (by omega) (by omega) (by rw [h4.len]; exact hl) (fun h0 p g1 g2 => by
          rw [h4.out (a - 1) (by omega)]
          exact h4.all (fun x => lt x (ge A (a - 1)) = false) (fun k g1 g2 => hlow h0 k g1 g2) p g1 g2) (fun p q g1 g2 g3 => by
          rw [h3.out p (by omega), h3.out q (by omega)]
          exact h2.2 p q g1 g2 g3)
        exact ⟨h4.trans h5.1, h5.2⟩
/-- Below, at and above a place. -/
def Mid (lt : E → E → Bool) (a b m : Nat) (A : List E) : Prop := (∀ p, a ≤ p → p < m → lt (ge A m) (ge A p) = false) ∧ (∀ p, m < p → p < b → lt (ge A p) (ge A m) = false)
include H in
theorem prt_mid {a b : Nat} {A : List E} (hab : a < b) (hb : b ≤ A.length) : let r := prt (fun pv x => lt x pv) (fun pv x => !lt x pv) a (b - a + 1) (a + 1) (b - 1) A
    a ≤ r.2.1 ∧ r.2.1 < b ∧ RP a b A (swp r.2.2 r.2.1 a) ∧ Mid lt a b r.2.1 (swp r.2.2 r.2.1 a) := by
  intro r
  obtain ⟨h1, h2, h3, h4, h5, h6⟩ := prt_ok (u := fun pv x => lt x pv) (v := fun pv x => !lt x pv) (fun _ _ => rfl) (a := a) (b := b) (b - a + 1) (a + 1) (b - 1) A (by omega) (by omega) (by omega) (by omega) hb (fun p g1 g2 => by omega) (fun p g1 g2 => by omega)
  have hr : r = prt (fun pv x => lt x pv) (fun pv x => !lt x pv) a (b - a + 1) (a + 1) (b - 1) A := rfl
  rw [← hr] at h1 h2 h3 h4 h5 h6
  clear_value r
  have hl := h1.len
  have g := fun m => ge_swp (A := r.2.2) (i := r.2.1) (j := a) (by omega) (by omega) m
  have hpa : ge r.2.2 a = ge A a := h1.out a (by omega)
  refine ⟨h3, h4, (h1.mono (by omega) (Nat.le_refl _)).trans (RP.swap ⟨h3, h4⟩ ⟨by omega, by omega⟩ (by omega)), ?_, ?_⟩
  · intro p g1 g2
    have gm : ge (swp r.2.2 r.2.1 a) r.2.1 = ge A a := by
      rw [g]
      by_cases e : r.2.1 = a
      · rw [if_pos e, e]; exact hpa
      · rw [if_neg e, if_pos rfl]; exact hpa
    rw [gm, g]
    by_cases e : p = a
    · rw [if_pos e]
      exact H.asym _ _ (h5 r.2.1 (by omega) (Nat.le_refl _))
    · rw [if_neg e, if_neg (by omega)]
      exact H.asym _ _ (h5 p (by omega) (by omega))
  · intro p g1 g2
    have gm : ge (swp r.2.2 r.2.1 a) r.2.1 = ge A a := by
      rw [g]
      by_cases e : r.2.1 = a
      · rw [if_pos e, e]; exact hpa
      · rw [if_neg e, if_pos rfl]; exact hpa
    rw [gm, g, if_neg (by omega), if_neg (by omega)]
    exact h6 p g1 g2
include H in
theorem glue {a b m : Nat} {A B : List E} (hm : a ≤ m ∧ m < b) (hM : Mid lt a b m A) (h1 : RP a m A B) (h2 : Sd lt a m B) {C : List E} (h3 : RP (m + 1) b B C) (h4 : Sd lt (m + 1) b C) : RP a b A C ∧ Sd lt a b C := by
  refine ⟨(h1.mono (Nat.le_refl _) (by omega)).trans (h3.mono (by omega) (Nat.le_refl _)), fun p q g1 g2 g3 => ?_⟩
  have eB : ge B m = ge A m := h1.out m (by omega)
  have eC : ge C m = ge A m := (h3.out m (by omega)).trans eB
  have low : ∀ p, a ≤ p → p < m → lt (ge A m) (ge C p) = false := fun p k1 k2 => by
    rw [h3.out p (by omega)]
    exact h1.all (fun x => lt (ge A m) x = false) (fun k j1 j2 => hM.1 k j1 j2) p k1 k2
  have high : ∀ q, m < q → q < b → lt (ge C q) (ge A m) = false := fun q k1 k2 =>
    h3.all (fun x => lt x (ge A m) = false) (fun k j1 j2 => by rw [h1.out k (by omega)]; exact hM.2 k (by omega) j2) q (by omega) k2
  by_cases e1 : q < m
  · rw [h3.out p (by omega), h3.out q (by omega)]; exact h2 p q g1 g2 e1
  · by_cases e2 : q = m
    · subst e2; rw [eC]; exact low p g1 g2
    · by_cases e3 : p < m
      · exact H.trans _ _ _ (low p g1 e3) (high q (by omega) g3)
      · by_cases e4 : p = m
        · subst e4; rw [eC]; exact high q g2 g3
        · exact h4 p q (by omega) g2 g3
include H in
theorem glue' {a b m : Nat} {A B : List E} (hm : a ≤ m ∧ m < b) (hM : Mid lt a b m A) (h1 : RP (m + 1) b A B) (h2 : Sd lt (m + 1) b B) {C : List E} (h3 : RP a m B C) (h4 : Sd lt a m C) : RP a b A C ∧ Sd lt a b C := by
  refine ⟨(h1.mono (by omega) (Nat.le_refl _)).trans (h3.mono (Nat.le_refl _) (by omega)), fun p q g1 g2 g3 => ?_⟩
  have eB : ge B m = ge A m := h1.out m (by omega)
  have eC : ge C m = ge A m := (h3.out m (by omega)).trans eB
  have low : ∀ p, a ≤ p → p < m → lt (ge A m) (ge C p) = false := fun p k1 k2 =>
    h3.all (fun x => lt (ge A m) x = false) (fun k j1 j2 => by rw [h1.out k (by omega)]; exact hM.1 k j1 j2) p k1 k2
  have high : ∀ q, m < q → q < b → lt (ge C q) (ge A m) = false := fun q k1 k2 => by
    rw [h3.out q (by omega)]
    exact h1.all (fun x => lt x (ge A m) = false) (fun k j1 j2 => hM.2 k (by omega) j2) q (by omega) k2
  by_cases e1 : q < m
  · exact h4 p q g1 g2 e1
  · by_cases e2 : q = m
    · subst e2; rw [eC]; exact low p g1 g2
    · by_cases e3 : p < m
      · exact H.trans _ _ _ (low p g1 e3) (high q (by omega) g3)
      · by_cases e4 : p = m
        · subst e4; rw [eC]; exact high q g2 g3
        · rw [h3.out p (by omega), h3.out q (by omega)]; exact h2 p q (by omega) g2 g3
include H in
/-- Elements equal to the pivot in front. -/
theorem prtE_ok {a b : Nat} {A : List E} (hab : a < b) (hb : b ≤ A.length) (hlow : ∀ p, a ≤ p → p < b → lt (ge A p) (ge A (a - 1)) = false) (h0 : 0 < a) (hpv : lt (ge A (a - 1)) (ge A a) = false) : let r := prt (fun pv x => !lt pv x) (fun pv x => lt pv x) a (b - a + 1) (a + 1) (b - 1) A
    a < r.1 ∧ r.1 ≤ b ∧ RP a b A r.2.2 ∧ (∀ p, r.1 ≤ p → p < b → lt (ge r.2.2 p) (ge r.2.2 (r.1 - 1)) = false) ∧ ∀ C, RP r.1 b r.2.2 C → Sd lt r.1 b C → Sd lt a b C := by
  intro r
  obtain ⟨h1, h2, h3, h4, h5, h6⟩ := prt_ok (u := fun pv x => !lt pv x) (v := fun pv x => lt pv x) (fun _ _ => by simp) (a := a) (b := b) (b - a + 1) (a + 1) (b - 1) A (by omega) (by omega) (by omega) (by omega) hb (fun p g1 g2 => by omega) (fun p g1 g2 => by omega)
  have hr : r = prt (fun pv x => !lt pv x) (fun pv x => lt pv x) a (b - a + 1) (a + 1) (b - 1) A := rfl
  rw [← hr] at h1 h2 h3 h4 h5 h6
  clear_value r
  have hpa : ge r.2.2 a = ge A a := h1.out a (by omega)
  have r0 : RP a b A r.2.2 := h1.mono (by omega) (Nat.le_refl _)
  -- not above the pivot, so all alike
  have up : ∀ p, a ≤ p → p < r.1 → lt (ge A a) (ge r.2.2 p) = false := fun p g1 g2 => by
    by_cases e : p = a
    · rw [e, hpa]; exact H.irr _
    · have := h5 p (by omega) (by omega)
      simpa using this
  have dn : ∀ p, a ≤ p → p < b → lt (ge r.2.2 p) (ge A (a - 1)) = false := fun p g1 g2 => r0.all (fun x => lt x (ge A (a - 1)) = false) hlow p g1 g2
  have ab : ∀ p, r.1 ≤ p → p < b → lt (ge A a) (ge r.2.2 p) = true := fun p g1 g2 => by
    have := h6 p (by omega) g2
    simpa using this
  refine ⟨by omega, by omega, r0, fun p g1 g2 => ?_, fun C hC hS p q g1 g2 g3 => ?_⟩
  · exact H.trans _ _ _ (up (r.1 - 1) (by omega) (by omega)) (H.asym _ _ (ab p g1 g2))
  · have abC : ∀ p, r.1 ≤ p → p < b → lt (ge A a) (ge C p) = true := fun p k1 k2 => hC.all (fun x => lt (ge A a) x = true) ab p k1 k2
    by_cases e1 : q < r.1
    · rw [hC.out p (by omega), hC.out q (by omega)]
      -- p ≤ pivot ≤ low ≤ q
      exact H.trans _ _ _ (H.trans _ _ _ (up p g1 (by omega)) hpv) (dn q (by omega) (by omega))
    · by_cases e2 : p < r.1
      · rw [hC.out p (by omega)]
        exact H.trans _ _ _ (up p g1 e2) (H.asym _ _ (abC q (by omega) g3))
      · exact hS p q (by omega) g2 g3
end
end Go.D.Srt
end
