/- What a call's arguments are: plain data of any type without pointers, as values of D. For any program. -/
import Derived.Test.YtpacancmcjbckaaGreatDoorDa
import Derived.ProofKit
import Derived.OpenShut
import Derived.WideShapes
import Derived.Test.YtpacancmcjbckaaGreatDoorDc
import Derived.Test.YtpacancmcjbckaaGreatDoorRows
import Derived.SizedLaws
import Derived.Handed
import Derived.Lay
import Derived.MakeChecks
import Derived.Orders
section
set_option linter.unusedVariables false
set_option linter.unusedSimpArgs false
namespace Go.D

mutual
inductive Plain (P : Program) : TypeId → List PV → Prop where
  | bool {t : TypeId} (h : P.underlying t = some .bool) (b : Bool) : Plain P t [.bool b]
  | int {t : TypeId} {k : IntKind} (h : P.underlying t = some (.int k)) (n : Int) (hw : (Lit.int k n).wf = true) : Plain P t [.int k n]
  | str {t : TypeId} (h : P.underlying t = some .string) (s : ByteArray) (hs : s.size ≤ maxLen) : Plain P t [.str s]
  | nilsl {t e : TypeId} (h : P.underlying t = some (.slice e)) : Plain P t [.nilsl]
  | sl {t e : TypeId} (h : P.underlying t = some (.slice e)) (n : Nat) (cs : List PV) (hx : PlainL P (List.replicate n e) cs) : Plain P t [.sl false n cs]
  | struct {t : TypeId} {fs : Array Field} (h : P.underlying t = some (.struct fs)) (cs : List PV) (hx : PlainL P (fs.toList.map (·.type)) cs) : Plain P t cs
  | array {t e : TypeId} {n : Nat} (h : P.underlying t = some (.array n e)) (cs : List PV) (hx : PlainL P (List.replicate n e) cs) : Plain P t cs
inductive PlainL (P : Program) : List TypeId → List PV → Prop where
  | nil : PlainL P [] []
  | cons {t : TypeId} {ts : List TypeId} {a b : List PV} (h : Plain P t a) (hs : PlainL P ts b) : PlainL P (t :: ts) (a ++ b)
end

/-! ### Taking apart -/
section
variable {P : Program} {t e : TypeId} {k : IntKind} {cs : List PV}
theorem Plain.inv_int (hu : P.underlying t = some (.int k)) (h : Plain P t cs) : ∃ n, (Lit.int k n).wf = true ∧ cs = [.int k n] := by
  cases h with
  | int h n hw =>
    rw [hu] at h
    injection h with h
    injection h with h
    exact ⟨n, by rw [h]; exact hw, by rw [h]⟩
  | _ h => rw [hu] at h; injection h with h; exact absurd h (by simp)
theorem Plain.inv_bool (hu : P.underlying t = some .bool) (h : Plain P t cs) : ∃ b, cs = [.bool b] := by
  cases h with
  | bool h b => exact ⟨b, rfl⟩
  | _ h => rw [hu] at h; injection h with h; exact absurd h (by simp)
theorem Plain.inv_str (hu : P.underlying t = some .string) (h : Plain P t cs) : ∃ s, s.size ≤ maxLen ∧ cs = [.str s] := by
  cases h with
  | str h s hs => exact ⟨s, hs, rfl⟩
  | _ h => rw [hu] at h; injection h with h; exact absurd h (by simp)
theorem Plain.inv_slice (hu : P.underlying t = some (.slice e)) (h : Plain P t cs) : cs = [.nilsl] ∨ ∃ n xs, PlainL P (List.replicate n e) xs ∧ cs = [.sl false n xs] := by
  cases h with
  | nilsl h => exact .inl rfl
  | sl h n xs hx =>
    rw [hu] at h
    injection h with h
    injection h with h
    exact .inr ⟨n, xs, by rw [h]; exact hx, rfl⟩
  | _ h => rw [hu] at h; injection h with h; exact absurd h (by simp)
theorem Plain.inv_struct {fs : Array Field} (hu : P.underlying t = some (.struct fs)) (h : Plain P t cs) : PlainL P (fs.toList.map (·.type)) cs := by
  cases h with
  | struct h xs hx =>
    rw [hu] at h
    injection h with h
    injection h with h
    rw [h]; exact hx
  | _ h => rw [hu] at h; injection h with h; exact absurd h (by simp)
theorem Plain.inv_array {n : Nat} (hu : P.underlying t = some (.array n e)) (h : Plain P t cs) : PlainL P (List.replicate n e) cs := by
  cases h with
  | array h xs hx =>
    rw [hu] at h
    injection h with h
    injection h with h1 h2
    rw [h1, h2]; exact hx
  | _ h => rw [hu] at h; injection h with h; exact absurd h (by simp)
theorem PlainL.inv_nil (h : PlainL P [] cs) : cs = [] := by cases h; rfl
theorem PlainL.inv_cons {ts : List TypeId} (h : PlainL P (t :: ts) cs) : ∃ a b, Plain P t a ∧ PlainL P ts b ∧ cs = a ++ b := by
  cases h with
  | cons h hs => exact ⟨_, _, h, hs, rfl⟩
theorem PlainL.inv_rep {α : Type} {f : α → List PV} (hf : ∀ a, Plain P t a → ∃ x, a = f x) : ∀ {n : Nat} {cs : List PV}, PlainL P (List.replicate n t) cs → ∃ xs : List α, xs.length = n ∧ cs = xs.flatMap f
  | 0, cs, h => ⟨[], rfl, h.inv_nil⟩
  | n + 1, cs, h => by
    obtain ⟨a, b, h1, h2, rfl⟩ := PlainL.inv_cons (ts := List.replicate n t) h
    obtain ⟨x, rfl⟩ := hf a h1
    obtain ⟨xs, h3, rfl⟩ := PlainL.inv_rep hf h2
    exact ⟨x :: xs, by simp [h3], by simp⟩
end

/-! ### Types that are read -/
def layOk (P : Program) (ok : TypeId → Bool) (total : Nat) : Nat → List Field → Bool
  | off, [] => off == total
  | off, f :: fs => f.offset == off && ok f.type && layOk P ok total (off + P.cellsOf f.type) fs
def plainTy (P : Program) : Nat → TypeId → Bool
  | 0, _ => false
  | n + 1, t => match P.underlying t with
    | some .bool | some (.int _) | some .string => true
    | some (.slice e) => decide (0 < P.cellsOf e) && plainTy P n e
    | some (.struct fs) => layOk P (plainTy P n) (P.cellsOf t) 0 fs.toList
    | some (.array m e) => m * P.cellsOf e == P.cellsOf t && plainTy P n e
    | _ => false

section
variable {H : Type} {enc : TypeId × Value → H} {W : World} {P : Program} {hd : Bool}
abbrev memR (W : World) : Mem := fun b o => W.cell? ⟨b, o, none⟩

theorem spot_cell {a : Addr} {v : Value} (h : W.cell? a = some v) : a.spot = none := by
  unfold World.cell? at h
  split at h
  · split at h
    · exact absurd h (by simp)
    · rename_i hs
      cases e : a.spot with
      | none => rfl
      | some s => rw [e] at hs; exact absurd rfl hs
  · exact absurd h (by simp)
theorem addr_eq {a : Addr} {n : Nat} (h : a.spot = none) : a.add n = ⟨a.block, a.off + n, none⟩ := by
  cases a with
  | mk b o s => cases h; exact Addr.add_mid b o n

def RelL (M : Mem) (ps : List PV) (vs : List Value) : Prop := ps.length = vs.length ∧ ∀ j (h1 : j < ps.length) (h2 : j < vs.length), PRel M ps[j] vs[j]

theorem RelL.append {M : Mem} {a c : List PV} {b d : List Value} (h : RelL M a b) (h2 : RelL M c d) : RelL M (a ++ c) (b ++ d) := by
  refine ⟨by simp [h.1, h2.1], fun j h3 h4 => ?_⟩
  by_cases hj : j < a.length
  · rw [List.getElem_append_left hj, List.getElem_append_left (by rw [← h.1]; exact hj)]
    exact h.2 j hj _
  · rw [List.getElem_append_right (by omega), List.getElem_append_right (by rw [← h.1]; omega)]
    have e : j - b.length = j - a.length := by rw [h.1]
    simp only [e]
    refine h2.2 _ (by simp at h3; omega) ?_
theorem elems_read {e : TypeId} {sz : Nat} {b : Nat} : ∀ (n o : Nat),
    (∀ i, i < n → ∃ ps vs, Plain P e ps ∧ vs.length = sz ∧ RelL (memR W) ps vs ∧ ∀ j (h : j < vs.length), W.cell? ⟨b, o + i * sz + j, none⟩ = some vs[j]) →
    ∃ cs vs, PlainL P (List.replicate n e) cs ∧ vs.length = n * sz ∧ RelL (memR W) cs vs ∧ ∀ j (h : j < vs.length), W.cell? ⟨b, o + j, none⟩ = some vs[j]
  | 0, o, h => ⟨[], [], .nil, by simp, ⟨rfl, fun j h1 _ => absurd h1 (by simp)⟩, fun j h => absurd h (by simp)⟩
  | n + 1, o, h => by
    obtain ⟨ps, vs, h1, h2, h3, h4⟩ := h 0 (by omega)
    obtain ⟨cs, ws, g1, g2, g3, g4⟩ := elems_read n (o + sz) fun i hi => by
      obtain ⟨ps, vs, k1, k2, k3, k4⟩ := h (i + 1) (by omega)
      refine ⟨ps, vs, k1, k2, k3, fun j hj => ?_⟩
      have : o + sz + i * sz + j = o + (i + 1) * sz + j := by rw [Nat.add_mul]; omega
      rw [this]
      exact k4 j hj
    refine ⟨ps ++ cs, vs ++ ws, .cons h1 g1, by simp [h2, g2, Nat.add_mul]; omega, h3.append g3, fun j hj => ?_⟩
    by_cases hjv : j < vs.length
    · rw [List.getElem_append_left hjv]
      have := h4 j hjv
      simpa using this
    · rw [List.getElem_append_right (by omega)]
      have := g4 (j - vs.length) (by simp at hj; omega)
      have e2 : o + sz + (j - vs.length) = o + j := by omega
      rwa [e2] at this
theorem layOk_le {ok : TypeId → Bool} {total : Nat} : ∀ (fs : List Field) (off : Nat), layOk P ok total off fs = true → off ≤ total
  | [], off, h => by
    have : off = total := by simpa [layOk] using h
    omega
  | f :: fs, off, h => by
    simp only [layOk, Bool.and_eq_true] at h
    have := layOk_le fs _ h.2
    omega
theorem fields_read {ok : TypeId → Bool} {total : Nat} {cs : List Value} (hc : cs.length = total) : ∀ (fs : List Field) (off : Nat), layOk P ok total off fs = true →
    (∀ f ∈ fs, ok f.type = true → ∃ ps, Plain P f.type ps ∧ RelL (memR W) ps ((cs.drop f.offset).take (P.cellsOf f.type))) →
    ∃ ps, PlainL P (fs.map (·.type)) ps ∧ RelL (memR W) ps (cs.drop off)
  | [], off, h, hf => by
    have : off = total := by simpa [layOk] using h
    refine ⟨[], .nil, ?_⟩
    rw [List.drop_eq_nil_of_le (by omega)]
    exact ⟨rfl, fun j h1 _ => absurd h1 (by simp)⟩
  | f :: fs, off, h, hf => by
    simp only [layOk, Bool.and_eq_true, beq_iff_eq] at h
    obtain ⟨⟨h1, h2⟩, h3⟩ := h
    obtain ⟨ps, g1, g2⟩ := hf f (by simp) h2
    obtain ⟨qs, k1, k2⟩ := fields_read hc fs _ h3 fun g hg => hf g (by simp [hg])
    refine ⟨ps ++ qs, .cons g1 k1, ?_⟩
    have e : cs.drop off = (cs.drop off).take (P.cellsOf f.type) ++ cs.drop (off + P.cellsOf f.type) := by
      rw [← List.drop_drop, List.take_append_drop]
    rw [h1] at g2
    rw [e]
    exact g2.append k2
theorem parts_read {e : TypeId} {sz : Nat} {cs : List Value} : ∀ (n off : Nat), cs.length = off + n * sz →
    (∀ i, i < n → ∃ ps, Plain P e ps ∧ RelL (memR W) ps ((cs.drop (off + i * sz)).take sz)) → ∃ ps, PlainL P (List.replicate n e) ps ∧ RelL (memR W) ps (cs.drop off)
  | 0, off, hc, h => by
    refine ⟨[], .nil, ?_⟩
    rw [List.drop_eq_nil_of_le (by omega)]
    exact ⟨rfl, fun j h1 _ => absurd h1 (by simp)⟩
  | n + 1, off, hc, h => by
    obtain ⟨ps, g1, g2⟩ := h 0 (by omega)
    obtain ⟨qs, k1, k2⟩ := parts_read (sz := sz) n (off + sz) (by rw [hc, Nat.add_mul]; omega) fun i hi => by
      obtain ⟨ps, a1, a2⟩ := h (i + 1) (by omega)
      refine ⟨ps, a1, ?_⟩
      have : off + (i + 1) * sz = off + sz + i * sz := by rw [Nat.add_mul]; omega
      rwa [this] at a2
    refine ⟨ps ++ qs, .cons g1 k1, ?_⟩
    have e : cs.drop off = (cs.drop off).take sz ++ cs.drop (off + sz) := by
      rw [← List.drop_drop, List.take_append_drop]
    rw [Nat.zero_mul, Nat.add_zero] at g2
    rw [e]
    exact g2.append k2

theorem read_plain : ∀ (m fuel : Nat) (t : TypeId) (cs : List Value) (x : DataW H × List MemPlace), plainTy P m t = true → DataW.trod enc P W 0 (fun _ => true) hd fuel t cs = some x → ∃ ps, Plain P t ps ∧ RelL (memR W) ps cs
  | 0, _, _, _, _, hp, _ => by simp [plainTy] at hp
  | m + 1, fuel, t, cs, x, hp, h => by
    unfold plainTy at hp
    split at hp
    · rename_i hu
      obtain ⟨b, rfl, _⟩ := DataW.trod_bool hu h
      refine ⟨[.bool b], .bool hu b, rfl, fun j h1 h2 => ?_⟩
      match j, h1 with
      | 0, _ => exact .bool b
    · rename_i k hu
      obtain ⟨n, rfl, _, hw⟩ := DataW.trod_int hu h
      refine ⟨[.int k n], .int hu n hw, rfl, fun j h1 h2 => ?_⟩
      match j, h1 with
      | 0, _ => exact .int k n
    · rename_i hu
      obtain ⟨s, rfl, _, hs⟩ := DataW.trod_string hu h
      refine ⟨[.str s], .str hu s hs, rfl, fun j h1 h2 => ?_⟩
      match j, h1 with
      | 0, _ => exact .str s
    · rename_i e hu
      simp only [Bool.and_eq_true, decide_eq_true_eq] at hp
      obtain ⟨hsz, hpe⟩ := hp
      rcases DataW.trod_slice hu h with ⟨rfl, _⟩ | ⟨a, len, cap, elems, rest, n, _, rfl, _, _, hl, hm, hlen, hel, hrest, _⟩
      · refine ⟨[.nilsl], .nilsl hu, rfl, fun j h1 h2 => ?_⟩
        match j, h1 with
        | 0, _ => exact .nilsl
      · have hrest := hrest rfl
        have hspot : cap ≠ 0 → a.spot = none := by
          intro hc
          have key : ∃ cs, W.cells? 0 (a.add 0) (P.cellsOf e) = some cs := by
            by_cases h0 : 0 < len
            · have h1 := hel 0 h0
              rw [List.getElem?_eq_getElem (by omega)] at h1
              obtain ⟨cs, h2, _⟩ := Option.bind_eq_some_iff.1 h1
              exact ⟨cs, by simpa using h2⟩
            · have h1 := hrest.2 0 (by omega)
              rw [List.getElem?_eq_getElem (by omega)] at h1
              obtain ⟨cs, h2, _⟩ := Option.bind_eq_some_iff.1 h1
              have hl0 : len = 0 := by omega
              exact ⟨cs, by simpa [hl0] using h2⟩
          obtain ⟨cs, h2⟩ := key
          obtain ⟨_, h3, h4⟩ := World.cells?_some h2
          have h5 := h4 0 hsz
          rw [List.getElem?_eq_getElem (by omega)] at h5
          exact spot_cell (a := a) h5
        obtain ⟨ps, vs, g1, g2, g3, g4⟩ := elems_read (P := P) (W := W) (e := e) (sz := P.cellsOf e) (b := a.block) len a.off fun i hi => by
          have h1 := hel i hi
          rw [List.getElem?_eq_getElem (by omega)] at h1
          obtain ⟨vs, h2, h3⟩ := Option.bind_eq_some_iff.1 h1
          obtain ⟨ps, k1, k2⟩ := read_plain m n e vs _ hpe h3
          obtain ⟨_, h5, h4⟩ := World.cells?_some h2
          refine ⟨ps, vs, k1, h5, k2, fun j hj => ?_⟩
          have h6 := h4 j (by omega)
          have hs := hspot (by omega)
          rw [addr_eq hs, addr_eq rfl, List.getElem?_eq_getElem hj] at h6
          exact h6
        refine ⟨[.sl false len ps], .sl hu len ps g1, rfl, fun j h1 h2 => ?_⟩
        match j, h1 with
        | 0, _ =>
          refine .sl (fun j => vs.getD j Go.undef) hspot hl (by simp) (fun j hj => ?_) (fun j hj => ?_)
          · have hj2 : j < vs.length := by rw [← g3.1]; exact hj
            show W.cell? _ = _
            rw [List.getD_eq_getElem?_getD, List.getElem?_eq_getElem hj2]
            exact g4 j hj2
          · have hj2 : j < vs.length := by rw [← g3.1]; exact hj
            rw [List.getD_eq_getElem?_getD, List.getElem?_eq_getElem hj2]
            exact g3.2 j hj hj2
    · rename_i fs hu
      obtain ⟨xs, n, _, _, hl, hlen, hf⟩ := DataW.trod_struct hu h
      obtain ⟨ps, g1, g2⟩ := fields_read (P := P) (W := W) hl fs.toList 0 hp fun f hfm hok => by
        obtain ⟨i, hi, rfl⟩ := List.getElem_of_mem hfm
        have hi2 : i < fs.size := by simpa using hi
        have h1 := hf i fs[i] (by simp [hi2])
        rw [List.getElem?_eq_getElem (by omega)] at h1
        simp only [Array.getElem_toList] at hok ⊢
        obtain ⟨ps, k1, k2⟩ := read_plain m n _ _ _ hok h1
        exact ⟨ps, k1, k2⟩
      exact ⟨ps, .struct hu ps g1, g2⟩
    · rename_i k e hu
      simp only [Bool.and_eq_true, beq_iff_eq] at hp
      obtain ⟨xs, n, _, _, hl, hlen, hf⟩ := DataW.trod_array hu h
      obtain ⟨ps, g1, g2⟩ := parts_read (P := P) (W := W) (e := e) (sz := P.cellsOf e) (cs := cs) k 0 (by rw [hl, ← hp.1]; omega) fun i hi => by
        have h1 := hf i hi
        rw [List.getElem?_eq_getElem (by omega)] at h1
        obtain ⟨ps, k1, k2⟩ := read_plain m n _ _ _ hp.2 h1
        rw [Nat.zero_add]
        exact ⟨ps, k1, k2⟩
      exact ⟨ps, .array hu ps g1, g2⟩
    · exact absurd hp (by simp)

/-! ### Arguments -/
theorem relL_agg {ps : List PV} {vs : Array Value} (h : RelL (memR W) ps vs.toList) : VRel (fun _ _ => none) (memR W) (.agg (ps.map .p)) (.agg vs) := by
  refine .agg (by have := h.1; simp at this; simp [this]) fun j h1 h2 => ?_
  have := h.2 j (by simpa using h1) (by simpa using h2)
  simp only [List.getElem_map]
  exact .p (by simpa using this)
theorem relL_one {p : PV} {v : Value} (h : RelL (memR W) [p] [v]) : VRel (fun _ _ => none) (memR W) (.p p) v := .p (h.2 0 (by simp) (by simp))
variable {r : Reach} {b0 : Nat} {v : Value} {d : DataW H} {ps : List MemPlace} {t : TypeId}
theorem read_struct {fs : Array Field} (m : Nat) (hu : P.underlying t = some (.struct fs)) (hp : plainTy P m t = true) (hok : Value.okWide P W r b0 t v) (h : DataW.Trod enc P W 0 (fun _ => true) hd t v d ps) :
    ∃ cs, Plain P t cs ∧ VRel (fun _ _ => none) (memR W) (.agg (cs.map .p)) v := by
  simp only [Value.okWide, hu] at hok
  obtain ⟨vs, rfl, _⟩ := hok
  obtain ⟨fuel, h⟩ := h
  obtain ⟨cs, h1, h2⟩ := read_plain m fuel t _ _ hp h
  exact ⟨cs, h1, relL_agg h2⟩
theorem read_array {n : Nat} {e : TypeId} (m : Nat) (hu : P.underlying t = some (.array n e)) (hp : plainTy P m t = true) (hok : Value.okWide P W r b0 t v) (h : DataW.Trod enc P W 0 (fun _ => true) hd t v d ps) :
    ∃ cs, Plain P t cs ∧ VRel (fun _ _ => none) (memR W) (.agg (cs.map .p)) v := by
  simp only [Value.okWide, hu] at hok
  obtain ⟨vs, rfl, _⟩ := hok
  obtain ⟨fuel, h⟩ := h
  obtain ⟨cs, h1, h2⟩ := read_plain m fuel t _ _ hp h
  exact ⟨cs, h1, relL_agg h2⟩
theorem read_slice {e : TypeId} (m : Nat) (hu : P.underlying t = some (.slice e)) (hp : plainTy P m t = true) (hok : Value.okWide P W r b0 t v) (h : DataW.Trod enc P W 0 (fun _ => true) hd t v d ps) :
    ∃ c, Plain P t [c] ∧ VRel (fun _ _ => none) (memR W) (.p c) v := by
  obtain ⟨a0, len, cap, rfl⟩ := Go.WideShapes.okWide_slice hu hok
  obtain ⟨fuel, h⟩ := h
  obtain ⟨cs, h1, h2⟩ := read_plain m fuel t _ _ hp h
  rcases h1.inv_slice hu with rfl | ⟨n, xs, _, rfl⟩
  · exact ⟨_, h1, relL_one h2⟩
  · exact ⟨_, h1, relL_one h2⟩
theorem read_intA {k : IntKind} (hu : P.underlying t = some (.int k)) (hok : Value.okWide P W r b0 t v) (h : DataW.Trod enc P W 0 (fun _ => true) hd t v d ps) :
    ∃ n, (Lit.int k n).wf = true ∧ VRel (fun _ _ => none) (memR W) (.p (.int k n)) v := by
  obtain ⟨n, rfl⟩ := Go.WideShapes.okWide_int hu hok
  obtain ⟨fuel, h⟩ := h
  obtain ⟨n', h1, _, h2⟩ := DataW.trod_int hu h
  have : n = n' := by simpa [Value.cells] using h1
  subst this
  exact ⟨n, h2, .p (.int _ _)⟩
theorem read_strA (hu : P.underlying t = some .string) (hok : Value.okWide P W r b0 t v) (h : DataW.Trod enc P W 0 (fun _ => true) hd t v d ps) :
    ∃ s, s.size ≤ maxLen ∧ VRel (fun _ _ => none) (memR W) (.p (.str s)) v := by
  obtain ⟨s, rfl⟩ := Go.WideShapes.okWide_string hu hok
  obtain ⟨fuel, h⟩ := h
  obtain ⟨s', h1, _, h2⟩ := DataW.trod_string hu h
  have : s = s' := by simpa [Value.cells] using h1
  subst this
  exact ⟨s, h2, .p (.str _)⟩
end
end Go.D
end
/- Chapter 13: from what D answers to what the program answers in any world; what a call's arguments are. -/
section
set_option linter.unusedVariables false
set_option linter.unusedSimpArgs false
set_option maxRecDepth 100000
namespace Go.D
open Go.ChangeShapes Go.WideShapes Go.ChangeAt Go.RowKit

def memOf (W : World) : Mem := fun b o => W.cell? ⟨b, o, none⟩
theorem below_of {C : Nat → Nat → Prop} {m : Nat → Prop} {w w' : World} (h : Frm C m w w') (hC : ∀ b o, ¬ C b o) (hm : ∀ b, ¬ m b) : Below w.heap.size w w' := by
  refine ⟨h.os, h.tape, h.output, h.size, fun k hk => ?_⟩
  have := h.obj k hk
  rw [Array.getElem?_eq_getElem hk] at this ⊢
  cases ho : w.heap[k] with
  | cells c e f =>
    rw [ho] at this
    cases hx : w'.heap[k]? with
    | none => rw [hx] at this; simp [ObjKept] at this
    | some o =>
      rw [hx] at this
      cases o with
      | cells c' e' f' =>
        obtain ⟨h1, h2, h3, h4⟩ := this
        subst h1; subst h2
        have : c' = c := Array.ext_getElem? fun i => by rw [h4 i (hC k i)]
        rw [this]
      | _ => simp [ObjKept] at this
  | map es c =>
    rw [ho] at this
    cases hx : w'.heap[k]? with
    | none => rw [hx] at this; simp [ObjKept] at this
    | some o =>
      rw [hx] at this
      cases o with
      | map es' c' =>
        rcases this with h1 | ⟨h1, h2⟩
        · exact absurd h1 (hm k)
        · rw [h1, h2]
      | _ => simp [ObjKept] at this
  | _ =>
    rw [ho] at this
    cases hx : w'.heap[k]? with
    | none => rw [hx] at this; simp [ObjKept] at this
    | some o => rw [hx] at this; cases o <;> simp [ObjKept] at this <;> simp_all
theorem mixed_ok : PP.follows .mixedOrders = true := by kernel_rfl
theorem body143 : Go.Proofs.Tryz.f143.body = some (backCode 24 3 99 3 4 0 "iter.go:28" "iter.go:29") := by kernel_rfl
theorem back143 : SeqOk PP 143 (.backward false 1) :=
  back_ok Go.Proofs.Tryz.func143 (by decide +kernel) body143 (by kernel_rfl) (by kernel_rfl) ⟨by kernel_rfl, by kernel_rfl, ⟨1, by kernel_rfl⟩, by kernel_rfl, by kernel_rfl⟩
theorem seqA (g : FuncId) (hg : g ≠ 44) : (polA g).seq = fun _ => none := by
  unfold polA
  split <;> first | rfl | exact absurd rfl hg
theorem seqB (g : FuncId) : (polB g).seq = fun _ => none := by
  unfold polB
  split <;> rfl
theorem seqs_ok : ∀ g f kind, (pol g).seq f = some kind → SeqOk PP f kind := by
  intro g f kind h
  by_cases hg : g = 44
  · subst hg
    have h1 : (pol 44).seq f = if f = 143 then some (.backward false 1) else none := rfl
    rw [h1] at h
    split at h
    · rename_i hf
      subst hf
      injection h with h; subst h
      exact back143
    · exact absurd h (by simp)
  · have h1 : (pol g).seq = fun _ => none := by
      unfold pol
      cases Nat.ble g 99 with
      | true => exact seqA g hg
      | false => exact seqB g
    rw [h1] at h
    exact absurd h (by simp)
theorem calls_of {f : FuncId} {args : List DV} {σ' : Store} {b : Bool} (h : CC 0 f args [] = some (.p (.bool b), σ')) {W : World} {vs : Array Value} (hv : Vals (fun _ _ => none) (memOf W) args vs) :
    Calls PP f vs W fun e W' => e = .returned (.bool b) ∧ Below W.heap.size W W' := by
  obtain ⟨k, hk⟩ := lim_some h
  have hs : SRel [] (fun _ _ => none) (memOf W) W := srel_bare fun b o v h => h
  obtain ⟨_, hc⟩ := callK_ok mixed_ok seqs_ok k _ _ _ _ _ _ (hk k (Nat.le_refl _)) (Nat.zero_le _) _ _ _ _ hs hv
  have hw := callsIn_wide.1 (hc Fence.wide 0 Free.wide)
  refine hw.mono ?_
  rintro e W' ⟨v', rfl, L', M', hp, hr⟩
  refine ⟨by rw [bool_of hr], below_of hp.frm ?_ ?_⟩
  · rintro b o ⟨r, row, l, _, ⟨h, _⟩, _⟩
    exact absurd h (by simp)
  · rintro b ⟨r, es, l, _, ⟨h, _⟩, _⟩
    exact absurd h (by simp)
theorem own_ok : ownKnob PP.godebug = none := by kernel_rfl
theorem laidOut_ok : laidOutB PP = true := by kernel_rfl
theorem ul4 : PP.underlying 4 = some .bool := by kernel_rfl
theorem ul3 : PP.underlying 3 = some (.int .i64) := by kernel_rfl
theorem dec3 {a : List PV} (h : Plain PP 3 a) : ∃ n, a = [pI n] := by
  obtain ⟨n, _, rfl⟩ := h.inv_int ul3
  exact ⟨n, rfl⟩
theorem flat1 {α : Type} (f : α → PV) (l : List α) : l.flatMap (fun a => [f a]) = l.map f := by
  induction l with
  | nil => rfl
  | cons a l ih => simp [ih]
theorem dec24 {a : List PV} (h : Plain PP 24 a) : ∃ o, a = [eSl o] := by
  rcases h.inv_slice u24 with rfl | ⟨n, xs, hx, rfl⟩
  · exact ⟨none, rfl⟩
  · obtain ⟨l, rfl, rfl⟩ := hx.inv_rep (f := fun n => [pI n]) fun a ha => dec3 ha
    exact ⟨some l, by rw [flat1]; rfl⟩
section
variable {H : Type} {enc : TypeId × Value → H} {W : World} {hd : Bool} {r : Reach} {b0 : Nat} {v : Value} {d : DataW H} {ps : List MemPlace}
theorem read_wd (hok : Value.okWide PP W r b0 26 v) (h : DataW.Trod enc PP W 0 (fun _ => true) hd 26 v d ps) : ∃ x : Wd, VRel (fun _ _ => none) (memOf W) (vWd x) v := by
  obtain ⟨c, h1, h2⟩ := read_struct 8 Go.Proofs.Tryz.underlying26 (by kernel_rfl) hok h
  have h3 := h1.inv_struct Go.Proofs.Tryz.underlying26
  obtain ⟨a1, b1, k1, h5, rfl⟩ := PlainL.inv_cons h3
  obtain ⟨a2, b2, k2, h7, rfl⟩ := PlainL.inv_cons h5
  obtain ⟨p, rfl⟩ := dec24 k1
  obtain ⟨q, rfl⟩ := dec24 k2
  obtain rfl := PlainL.inv_nil h7
  exact ⟨⟨p, q⟩, h2⟩
end
abbrev lay13 : List (String × DataW Unit) := Go.Proofs.YtpacancmcjbckaaGreatDoor.Rows.lassoWordsRow.laid
noncomputable def laidW (os : Os) : World := World.laidAll PP os lay13
theorem laidW_met (os : Os) (args : Array Value) : laidMetH PP lay13 ((laidW os).forCall (fun _ _ => 0) ⟨#[], args, []⟩).memory := by
  rw [MakeChecks.laidMetH_plain _ _ _ (by kernel_rfl)]
  exact laidMet_laidAll args (by kernel_rfl) (by kernel_rfl)
end Go.D
end
/- Chapter 13: formulas; where their parts begin; their errors, in plain Lean. -/
section
set_option linter.unusedVariables false
set_option linter.unusedSimpArgs false
namespace Go.D
structure Nd where
  k : Int
  n : Int
  a : OI
instance : Inhabited Nd := ⟨⟨0, 0, none⟩⟩
abbrev Fm := Option (List Nd)
namespace Las
def nA (F : List Nd) (i : Nat) : List Int := L (F.getD i default).a
def foK (F : List Nd) : Nat → Nat → Int
  | 0, _ => -1
  | k + 1, r => if nA F r = [] then r else if 0 ≤ (nA F r).getD 0 0 ∧ (nA F r).getD 0 0 ≤ (r : Int) - 1 then foK F k ((nA F r).getD 0 0).toNat else -1
def fo (F : List Nd) (r : Nat) : Int := foK F (r + 1) r
theorem foK_fuel (F : List Nd) : ∀ (k k' r : Nat), r < k → r < k' → foK F k r = foK F k' r
  | 0, _, r, h, _ => by omega
  | k + 1, 0, r, _, h => by omega
  | k + 1, k' + 1, r, h, h' => by
    unfold foK
    by_cases h1 : nA F r = []
    · rw [if_pos h1, if_pos h1]
    · rw [if_neg h1, if_neg h1]
      by_cases h2 : 0 ≤ (nA F r).getD 0 0 ∧ (nA F r).getD 0 0 ≤ (r : Int) - 1
      · rw [if_pos h2, if_pos h2]
        exact foK_fuel F k k' _ (by omega) (by omega)
      · rw [if_neg h2, if_neg h2]
theorem fo_eq (F : List Nd) (r : Nat) : fo F r = if nA F r = [] then (r : Int) else if 0 ≤ (nA F r).getD 0 0 ∧ (nA F r).getD 0 0 ≤ (r : Int) - 1 then fo F ((nA F r).getD 0 0).toNat else -1 := by
  unfold fo
  conv => lhs; unfold foK
  by_cases h1 : nA F r = []
  · rw [if_pos h1, if_pos h1]
  · rw [if_neg h1, if_neg h1]
    by_cases h2 : 0 ≤ (nA F r).getD 0 0 ∧ (nA F r).getD 0 0 ≤ (r : Int) - 1
    · rw [if_pos h2, if_pos h2]
      exact foK_fuel F _ _ _ (by omega) (by omega)
    · rw [if_neg h2, if_neg h2]
theorem foK_le (F : List Nd) : ∀ (k r : Nat), -1 ≤ foK F k r ∧ foK F k r ≤ r
  | 0, r => by unfold foK; omega
  | k + 1, r => by
    unfold foK
    by_cases h1 : nA F r = []
    · rw [if_pos h1]; omega
    · rw [if_neg h1]
      by_cases h2 : 0 ≤ (nA F r).getD 0 0 ∧ (nA F r).getD 0 0 ≤ (r : Int) - 1
      · rw [if_pos h2]
        have := foK_le F k ((nA F r).getD 0 0).toNat
        omega
      · rw [if_neg h2]; omega
theorem fo_le (F : List Nd) (r : Nat) : -1 ≤ fo F r ∧ fo F r ≤ r := foK_le F _ _
def foI (F : List Nd) (r : Int) : Int := if r < 0 then -1 else fo F r.toNat
def stB (F : List Nd) (us : List Int) : Int → Nat → Option Int
  | x, 0 => some x
  | x, k + 1 => if us.getD k 0 = x - 1 then (if foI F (x - 1) < 0 then none else stB F us (foI F (x - 1)) k) else none
def stands (F : List Nd) (i : Nat) : Bool := (stB F (nA F i) i (nA F i).length).isSome
def ar (k : Int) : Int := if k = 0 ∨ k = 1 then 0 else if k = 2 ∨ k = 6 ∨ k = 7 then 1 else 2
def bad (x : Nd) : Bool := if x.k = 1 then !inR x.n 0 11 else !decide (x.n = 0)
def chkF (F : List Nd) : Nat → Nat → Int × Int
  | 0, _ => if fo F (F.length - 1) = 0 then (0, 0) else ((F.length - 1 : Nat), 15)
  | d + 1, i =>
    if inR (F.getD i default).k 0 9 = true then
      if (((nA F i).length : Nat) : Int) = ar (F.getD i default).k ∧ stands F i = true then
        if bad (F.getD i default) = true then ((i : Nat), 3) else chkF F d (i + 1)
      else ((i : Nat), 6)
    else ((i : Nat), 4)
def chk (F : List Nd) : Int × Int := if F.length = 0 then (0, 1) else if F.length > 40 then (0, 2) else chkF F F.length 0
def bgB (B us : List Int) : Int → Nat → Int
  | x, 0 => x
  | x, k + 1 => if us.getD k 0 = x - 1 ∧ ¬ us.getD k 0 < 0 then bgB B us (B.getD (us.getD k 0).toNat 0) k else -1
theorem bgB_eq {F : List Nd} {B us : List Int} {i : Nat} (hB : ∀ j, j < i → B.getD j 0 = fo F j ∧ 0 ≤ fo F j) : ∀ (k : Nat) (x : Int), x ≤ i → bgB B us x k = (stB F us x k).getD (-1)
  | 0, x, hx => rfl
  | k + 1, x, hx => by
    unfold bgB stB
    by_cases h1 : us.getD k 0 = x - 1
    · by_cases h2 : us.getD k 0 < 0
      · have h3 : foI F (x - 1) < 0 := by unfold foI; rw [if_pos (by omega)]; decide
        rw [if_neg (fun h => h.2 h2), if_pos h1, if_pos h3]; rfl
      · obtain ⟨b1, b2⟩ := hB (us.getD k 0).toNat (by omega)
        have h3 : foI F (x - 1) = fo F (us.getD k 0).toNat := by unfold foI; rw [if_neg (by omega), h1]
        have h4 := fo_le F (us.getD k 0).toNat
        rw [if_pos ⟨h1, h2⟩, if_pos h1, h3, if_neg (by omega), b1]
        exact bgB_eq hB k _ (by omega)
    · rw [if_neg (fun h => h1 h.1), if_neg h1]; rfl
theorem stB_end {F : List Nd} {us : List Int} : ∀ (k : Nat) (x y : Int), stB F us x (k + 1) = some y → us.getD 0 0 ≤ x - 1 ∧ 0 ≤ us.getD 0 0 ∧ y = fo F (us.getD 0 0).toNat ∧ 0 ≤ y
  | k, x, y, h => by
    unfold stB at h
    by_cases h1 : us.getD k 0 = x - 1
    · rw [if_pos h1] at h
      by_cases h2 : foI F (x - 1) < 0
      · rw [if_pos h2] at h
        exact absurd h (by simp)
      · rw [if_neg h2] at h
        have h3 : ¬ x - 1 < 0 := fun hh => h2 (by unfold foI; rw [if_pos hh]; decide)
        have h4 : foI F (x - 1) = fo F (x - 1).toNat := by unfold foI; rw [if_neg h3]
        have h5 := fo_le F (x - 1).toNat
        cases k with
        | zero =>
          injection h with h
          exact ⟨by omega, by omega, by rw [h1, ← h, h4], by omega⟩
        | succ k =>
          obtain ⟨a, b, c, d⟩ := stB_end k _ _ h
          exact ⟨by omega, b, c, d⟩
    · rw [if_neg h1] at h
      exact absurd h (by simp)
theorem stB_pos {F : List Nd} {us : List Int} : ∀ (k : Nat) (x y : Int), 0 ≤ x → stB F us x k = some y → 0 ≤ y
  | 0, x, y, hx, h => by injection h with h; omega
  | k + 1, x, y, hx, h => (stB_end k x y h).2.2.2
theorem stands_fo {F : List Nd} {i : Nat} {y : Int} (h : stB F (nA F i) i (nA F i).length = some y) : y = fo F i := by
  rw [fo_eq]
  by_cases h1 : nA F i = []
  · rw [if_pos h1]
    rw [h1] at h
    injection h with h
    exact h.symm
  · obtain ⟨m, hm⟩ : ∃ m, (nA F i).length = m + 1 := ⟨(nA F i).length - 1, by have := List.length_pos_iff.2 h1; omega⟩
    rw [hm] at h
    obtain ⟨a, b, c, _⟩ := stB_end m _ _ h
    rw [if_neg h1, if_pos ⟨b, a⟩, c]
end Las
end Go.D
end
/- Equations of functions 13, 19, 46, 25, 103, 104, 105, 99, 44, 70, printed by gen.py. -/
section
set_option linter.unusedVariables false
set_option maxRecDepth 10000
namespace Go.D
open Go.Proofs
noncomputable section
variable (G : GuardT) (lo : Nat) {σ : Store} {r : DV × Store}
open _root_.Go.D.Code (fstC sndC)
open _root_.Go.D.Ann (left right)
def c13_0 : Code := bodyOf Tryz.f13
def a13_0 : Ann := (pol 13).ann
def a13_13 : Ann := right (left (right (right a13_0)))
def a13_14 : Ann := left a13_13
def c13_15 : Code := fstC (fstC (sndC (fstC (sndC (sndC c13_0)))))
def c13_31 : Code := sndC (sndC (sndC c13_0))
def a13_31 : Ann := right (right (right a13_0))
def f13_L0 (x0 x3 : DV) (σ : Store) : RS :=
 codeF G PP (pol 13) CC lo (.loop c13_15) a13_14 (x0 :: Z :: Z :: x3 :: zn 16 []) σ
 (blockC 0 a13_13 (seqC G PP (pol 13) CC lo c13_31 a13_31 (finR PP Tryz.f13.results.toList)))
def F13 (x0 : DV) (σ : Store) : RS :=
 codeF G PP (pol 13) CC lo c13_0 a13_0 (x0 :: zn 19 []) σ (finR PP Tryz.f13.results.toList)
theorem f13_L0_eq (G : GuardT) (hG : GuardOk G) (lo : Nat) (x0 x3 : DV) (σ : Store) : f13_L0 G lo x0 x3 σ =
 (len PP 23 x0 σ).bind fun x9 =>
 (binOp PP .lss 3 x3 x9).bind fun x10 =>
 condK x10
 (
 (indexAddr PP 23 x0 x3).bind fun x15 =>
 (fieldAddr PP 67 x15 2).bind fun x16 =>
 (load PP 24 x16 σ).bind fun x17 =>
 (len PP 24 x17 σ).bind fun x18 =>
 (binOp PP .gtr 3 x18 (DV.p (PV.int IntKind.i64 (45)))).bind fun x19 =>
 condK x19
 (
 some ((DV.p (PV.bool false)), σ)
 )
 (
 (binOp PP .add 3 x3 I1).bind fun x12 =>
 f13_L0 G lo x0 x12 σ
 )
 )
 (
 some ((DV.p (PV.bool true)), σ)
 ) := (loopF_eq G hG).trans (by kernel_rfl)
theorem F13_eq (G : GuardT) (lo : Nat) (x0 : DV) (σ : Store) : F13 G lo x0 σ =
 (len PP 23 x0 σ).bind fun x5 =>
 (binOp PP .gtr 3 x5 (DV.p (PV.int IntKind.i64 (45)))).bind fun x6 =>
 condK x6
 (
 some ((DV.p (PV.bool false)), σ)
 )
 (
 f13_L0 G lo x0 I0 σ
 ) := by kernel_rfl
theorem F13_call {lo : Nat} {x0 : DV} (h : F13 guardT lo x0 σ = some r) : CC lo 13 [x0] σ = some r :=
 callL_run Tryz.func13 (by decide +kernel) rfl (by decide +kernel) h
def c19_0 : Code := bodyOf Tryz.f19
def a19_0 : Ann := (pol 19).ann
def a19_7 : Ann := right (left (right (right a19_0)))
def a19_8 : Ann := left a19_7
def c19_9 : Code := fstC (fstC (sndC (fstC (sndC (sndC c19_0)))))
def c19_23 : Code := sndC (sndC (sndC c19_0))
def a19_23 : Ann := right (right (right a19_0))
def f19_L0 (x0 x3 x4 : DV) (σ : Store) : RS :=
 codeF G PP (pol 19) CC lo (.loop c19_9) a19_8 (x0 :: Z :: Z :: x3 :: x4 :: zn 20 []) σ
 (blockC 0 a19_7 (seqC G PP (pol 19) CC lo c19_23 a19_23 (finR PP Tryz.f19.results.toList)))
def F19 (x0 : DV) (σ : Store) : RS :=
 codeF G PP (pol 19) CC lo c19_0 a19_0 (x0 :: zn 24 []) σ (finR PP Tryz.f19.results.toList)
theorem f19_L0_eq (G : GuardT) (hG : GuardOk G) (lo : Nat) (x0 x3 x4 : DV) (σ : Store) : f19_L0 G lo x0 x3 x4 σ =
 (len PP 23 x0 σ).bind fun x8 =>
 (binOp PP .lss 3 x4 x8).bind fun x9 =>
 condK x9
 (
 (indexAddr PP 23 x0 x4).bind fun x14 =>
 (load PP 67 x14 σ).bind fun x15 =>
 (zeroOf PP 67).bind fun z5 =>
 (store PP lo 67 (DV.ptr (List.length σ) 0) x15 (σ ++ [Row.mix z5])).bind fun σ1 =>
 (fieldAddr PP 67 (DV.ptr (List.length σ) 0) 2).bind fun x16 =>
 (load PP 24 x16 σ1).bind fun x17 =>
 (pureFn CC (DV.fn 52 []) [x17] σ1).bind fun x18 =>
 (fieldAddr PP 67 (DV.ptr (List.length σ) 0) 2).bind fun x19 =>
 (store PP lo 24 x19 x18 σ1).bind fun σ2 =>
 (load PP 67 (DV.ptr (List.length σ) 0) σ2).bind fun x21 =>
 (buildSlice PP none 23 1 [(0, x21)] σ2).bind fun r22_3 =>
 (append PP lo false 23 23 x3 r22_3.1 r22_3.2).bind fun r23_4 =>
 (binOp PP .add 3 x4 I1).bind fun x11 =>
 f19_L0 G lo x0 r23_4.1 x11 r23_4.2
 )
 (
 some (x3, σ)
 ) := (loopF_eq G hG).trans (by kernel_rfl)
theorem F19_eq (G : GuardT) (lo : Nat) (x0 : DV) (σ : Store) : F19 G lo x0 σ =
 f19_L0 G lo x0 (DV.p PV.nilsl) I0 σ := by kernel_rfl
theorem F19_call {lo : Nat} {x0 : DV} (h : F19 guardT lo x0 σ = some r) : CC lo 19 [x0] σ = some r :=
 callL_run Tryz.func19 (by decide +kernel) rfl (by decide +kernel) h
def c46_0 : Code := bodyOf Tryz.f46
def a46_0 : Ann := (pol 46).ann
def a46_21 : Ann := right (left (right (right (right a46_0))))
def a46_22 : Ann := left a46_21
def c46_23 : Code := fstC (fstC (sndC (fstC (sndC (sndC (sndC c46_0))))))
def c46_57 : Code := sndC (sndC (sndC (sndC c46_0)))
def a46_57 : Ann := right (right (right (right a46_0)))
def f46_L0 (x0 x4 : DV) (σ : Store) : RS :=
 codeF G PP (pol 46) CC lo (.loop c46_23) a46_22 (x0 :: Z :: Z :: Z :: x4 :: zn 65 []) σ
 (blockC 0 a46_21 (seqC G PP (pol 46) CC lo c46_57 a46_57 (finR PP Tryz.f46.results.toList)))
def F46 (x0 : DV) (σ : Store) : RS :=
 codeF G PP (pol 46) CC lo c46_0 a46_0 (x0 :: zn 69 []) σ (finR PP Tryz.f46.results.toList)
theorem f46_L0_eq (G : GuardT) (hG : GuardOk G) (lo : Nat) (x0 x4 : DV) (σ : Store) : f46_L0 G lo x0 x4 σ =
 (len PP 23 x0 σ).bind fun x14 =>
 (binOp PP .lss 3 x4 x14).bind fun x15 =>
 condK x15
 (
 (indexAddr PP 23 x0 x4).bind fun x20 =>
 (load PP 67 x20 σ).bind fun x21 =>
 (zeroOf PP 67).bind fun z5 =>
 (store PP lo 67 (DV.ptr (List.length σ) 0) x21 (σ ++ [Row.mix z5])).bind fun σ1 =>
 (fieldAddr PP 67 (DV.ptr (List.length σ) 0) 0).bind fun x22 =>
 (load PP 3 x22 σ1).bind fun x23 =>
 (pureFn CC (DV.fn 26 []) [x23, I0, (DV.p (PV.int IntKind.i64 (9)))] σ1).bind fun x24 =>
 (unOp .not x24).bind fun x25 =>
 condK x25
 (
 some ((DV.tuple [x4, (DV.p (PV.int IntKind.i64 (4)))]), σ1)
 )
 (
 (fieldAddr PP 67 (DV.ptr (List.length σ) 0) 2).bind fun x27 =>
 (load PP 24 x27 σ1).bind fun x28 =>
 (len PP 24 x28 σ1).bind fun x29 =>
 (fieldAddr PP 67 (DV.ptr (List.length σ) 0) 0).bind fun x30 =>
 (load PP 3 x30 σ1).bind fun x31 =>
 (pureFn CC (DV.fn 103 []) [x31] σ1).bind fun x32 =>
 (binOp PP .neq 3 x29 x32).bind fun x33 =>
 G _ x33 false (some (x0, σ1)) σ1 fun x35 σ2 =>
 G _ x33 false (some (x4, σ2)) σ2 fun x36 σ3 =>
 G _ x33 false ((pureFn CC (DV.fn 104 []) [x35, x36] σ3).bind fun v => some (v, σ3)) σ3 fun x37 σ4 =>
 G _ x33 false ((unOp .not x37).bind fun v => some (v, σ4)) σ4 fun x38 σ5 =>
 (pickV x33 (DV.p (PV.bool true)) x38).bind fun x39 =>
 condK x39
 (
 some ((DV.tuple [x4, (DV.p (PV.int IntKind.i64 (6)))]), σ5)
 )
 (
 (fieldAddr PP 67 (DV.ptr (List.length σ) 0) 0).bind fun x41 =>
 (load PP 3 x41 σ5).bind fun x42 =>
 (binOp PP .eql 3 x42 I1).bind fun x43 =>
 G _ x43 true ((fieldAddr PP 67 (DV.ptr (List.length σ) 0) 1).bind fun v => some (v, σ5)) σ5 fun x45 σ6 =>
 G _ x43 true ((load PP 3 x45 σ6).bind fun v => some (v, σ6)) σ6 fun x46 σ7 =>
 G _ x43 true ((pureFn CC (DV.fn 26 []) [x46, I0, (DV.p (PV.int IntKind.i64 (11)))] σ7).bind fun v => some (v, σ7)) σ7 fun x47 σ8 =>
 G _ x43 true ((unOp .not x47).bind fun v => some (v, σ8)) σ8 fun x48 σ9 =>
 (pickV x43 x48 (DV.p (PV.bool false))).bind fun x49 =>
 G _ x49 false ((fieldAddr PP 67 (DV.ptr (List.length σ) 0) 0).bind fun v => some (v, σ9)) σ9 fun x51 σ10 =>
 G _ x49 false ((load PP 3 x51 σ10).bind fun v => some (v, σ10)) σ10 fun x52 σ11 =>
 G _ x49 false ((binOp PP .neq 3 x52 I1).bind fun v => some (v, σ11)) σ11 fun x53 σ12 =>
 G _ x49 false (some (x53, σ12)) σ12 fun x54 σ13 =>
 G _ x54 true ((fieldAddr PP 67 (DV.ptr (List.length σ) 0) 1).bind fun v => some (v, σ13)) σ13 fun x55 σ14 =>
 G _ x54 true ((load PP 3 x55 σ14).bind fun v => some (v, σ14)) σ14 fun x56 σ15 =>
 G _ x54 true ((binOp PP .neq 3 x56 I0).bind fun v => some (v, σ15)) σ15 fun x57 σ16 =>
 G _ x49 false ((pickV x54 x57 (DV.p (PV.bool false))).bind fun v => some (v, σ16)) σ16 fun x58 σ17 =>
 (pickV x49 (DV.p (PV.bool true)) x58).bind fun x59 =>
 condK x59
 (
 some ((DV.tuple [x4, (DV.p (PV.int IntKind.i64 (3)))]), σ17)
 )
 (
 (binOp PP .add 3 x4 I1).bind fun x17 =>
 f46_L0 G lo x0 x17 σ17
 )
 )
 )
 )
 (
 (len PP 23 x0 σ).bind fun x63 =>
 (binOp PP .sub 3 x63 I1).bind fun x64 =>
 (pureFn CC (DV.fn 105 []) [x0, x64] σ).bind fun x65 =>
 (binOp PP .neq 3 x65 I0).bind fun x66 =>
 condK x66
 (
 (len PP 23 x0 σ).bind fun x68 =>
 (binOp PP .sub 3 x68 I1).bind fun x69 =>
 some ((DV.tuple [x69, (DV.p (PV.int IntKind.i64 (15)))]), σ)
 )
 (
 some ((DV.tuple [I0, I0]), σ)
 )
 ) := (loopF_eq G hG).trans (by kernel_rfl)
theorem F46_eq (G : GuardT) (lo : Nat) (x0 : DV) (σ : Store) : F46 G lo x0 σ =
 (len PP 23 x0 σ).bind fun x7 =>
 (binOp PP .eql 3 x7 I0).bind fun x8 =>
 condK x8
 (
 some ((DV.tuple [I0, I1]), σ)
 )
 (
 (len PP 23 x0 σ).bind fun x10 =>
 (binOp PP .gtr 3 x10 (DV.p (PV.int IntKind.i64 (40)))).bind fun x11 =>
 condK x11
 (
 some ((DV.tuple [I0, (DV.p (PV.int IntKind.i64 (2)))]), σ)
 )
 (
 f46_L0 G lo x0 I0 σ
 )
 ) := by kernel_rfl
theorem F46_call {lo : Nat} {x0 : DV} (h : F46 guardT lo x0 σ = some r) : CC lo 46 [x0] σ = some r :=
 callL_run Tryz.func46 (by decide +kernel) rfl (by decide +kernel) h
def c25_0 : Code := bodyOf Tryz.f25
def a25_0 : Ann := (pol 25).ann
def F25 (x0 : DV) (σ : Store) : RS :=
 codeF G PP (pol 25) CC lo c25_0 a25_0 (x0 :: zn 10 []) σ (finR PP Tryz.f25.results.toList)
theorem F25_eq (G : GuardT) (lo : Nat) (x0 : DV) (σ : Store) : F25 G lo x0 σ =
 (pureFn CC (DV.fn 46 []) [x0] σ).bind fun x7 =>
 (extractV x7 0).bind fun x8 =>
 (extractV x7 1).bind fun x9 =>
 some (x9, σ) := by kernel_rfl
theorem F25_call {lo : Nat} {x0 : DV} (h : F25 guardT lo x0 σ = some r) : CC lo 25 [x0] σ = some r :=
 callL_run Tryz.func25 (by decide +kernel) rfl (by decide +kernel) h
def c103_0 : Code := bodyOf Tryz.f103
def a103_0 : Ann := (pol 103).ann
def a103_5 : Ann := right (left (right a103_0))
def c103_12 : Code := sndC (fstC (sndC (fstC (sndC c103_0))))
def a103_12 : Ann := right (left a103_5)
def c103_26 : Code := sndC (sndC c103_12)
def a103_26 : Ann := right (right a103_12)
def c103_31 : Code := sndC (sndC c103_0)
def a103_31 : Ann := right (right a103_0)
def f103_J0_fr (x0 x2 x3 x4 x5 x6 : DV) : Frame := [x0, Z, x2, x3, x4, x5, x6, Z, Z, Z, Z]
def f103_J0 (x0 x2 x3 x4 x5 x6 : DV) (σ : Store) : RS :=
 (seqC G PP (pol 103) CC lo c103_12 a103_12 (blockC 0 a103_5 (seqC G PP (pol 103) CC lo c103_31 a103_31 (finR PP Tryz.f103.results.toList)))) .normal (f103_J0_fr x0 x2 x3 x4 x5 x6) σ
def f103_J1_fr (x0 x2 x3 x4 x5 x6 x7 x8 x9 x10 : DV) : Frame := [x0, Z, x2, x3, x4, x5, x6, x7, x8, x9, x10]
def f103_J1 (x0 x2 x3 x4 x5 x6 x7 x8 x9 x10 : DV) (σ : Store) : RS :=
 (seqC G PP (pol 103) CC lo c103_26 a103_26 (blockC 0 a103_5 (seqC G PP (pol 103) CC lo c103_31 a103_31 (finR PP Tryz.f103.results.toList)))) .normal (f103_J1_fr x0 x2 x3 x4 x5 x6 x7 x8 x9 x10) σ
def F103 (x0 : DV) (σ : Store) : RS :=
 codeF G PP (pol 103) CC lo c103_0 a103_0 (x0 :: zn 10 []) σ (finR PP Tryz.f103.results.toList)
theorem f103_J0_eq (G : GuardT) (lo : Nat) (x0 x2 x3 x4 x5 x6 : DV) (σ : Store) : f103_J0 G lo x0 x2 x3 x4 x5 x6 σ =
 condK x4
 (
 some (I0, σ)
 )
 (
 (binOp PP .eql 3 x3 (DV.p (PV.int IntKind.i64 (2)))).bind fun x8 =>
 condK x8
 (
 f103_J1 G lo x0 x2 x3 x4 x5 x6 x8 x8 Z Z σ
 )
 (
 (binOp PP .eql 3 x3 (DV.p (PV.int IntKind.i64 (6)))).bind fun x9 =>
 condK x9
 (
 f103_J1 G lo x0 x2 x3 x4 x5 x6 x9 x8 x9 Z σ
 )
 (
 (binOp PP .eql 3 x3 (DV.p (PV.int IntKind.i64 (7)))).bind fun x10 =>
 f103_J1 G lo x0 x2 x3 x4 x5 x6 x10 x8 x9 x10 σ
 )
 )
 ) := by kernel_rfl
theorem f103_J1_eq (G : GuardT) (lo : Nat) (x0 x2 x3 x4 x5 x6 x7 x8 x9 x10 : DV) (σ : Store) : f103_J1 G lo x0 x2 x3 x4 x5 x6 x7 x8 x9 x10 σ =
 condK x7
 (
 some (I1, σ)
 )
 (
 some ((DV.p (PV.int IntKind.i64 (2))), σ)
 ) := by kernel_rfl
theorem F103_eq (G : GuardT) (lo : Nat) (x0 : DV) (σ : Store) : F103 G lo x0 σ =
 (binOp PP .eql 3 x0 I0).bind fun x5 =>
 condK x5
 (
 f103_J0 G lo x0 I0 x0 x5 x5 Z σ
 )
 (
 (binOp PP .eql 3 x0 I1).bind fun x6 =>
 f103_J0 G lo x0 I0 x0 x6 x5 x6 σ
 ) := by kernel_rfl
theorem F103_call {lo : Nat} {x0 : DV} (h : F103 guardT lo x0 σ = some r) : CC lo 103 [x0] σ = some r :=
 callL_run Tryz.func103 (by decide +kernel) rfl (by decide +kernel) h
def c104_0 : Code := bodyOf Tryz.f104
def a104_0 : Ann := (pol 104).ann
def a104_7 : Ann := right (left (right (right a104_0)))
def a104_8 : Ann := left a104_7
def c104_9 : Code := fstC (fstC (sndC (fstC (sndC (sndC c104_0)))))
def c104_35 : Code := sndC (sndC (sndC c104_0))
def a104_35 : Ann := right (right (right a104_0))
def f104_L0 (x0 x1 x5 x6 : DV) (σ : Store) : RS :=
 codeF G PP (pol 104) CC lo (.loop c104_9) a104_8 (x0 :: x1 :: Z :: Z :: Z :: x5 :: x6 :: zn 29 []) σ
 (blockC 0 a104_7 (seqC G PP (pol 104) CC lo c104_35 a104_35 (finR PP Tryz.f104.results.toList)))
def F104 (x0 x1 : DV) (σ : Store) : RS :=
 codeF G PP (pol 104) CC lo c104_0 a104_0 (x0 :: x1 :: zn 34 []) σ (finR PP Tryz.f104.results.toList)
theorem f104_L0_eq (G : GuardT) (hG : GuardOk G) (lo : Nat) (x0 x1 x5 x6 : DV) (σ : Store) : f104_L0 G lo x0 x1 x5 x6 σ =
 (binOp PP .geq 3 x6 I0).bind fun x16 =>
 condK x16
 (
 (indexAddr PP 23 x0 x1).bind fun x21 =>
 (fieldAddr PP 67 x21 2).bind fun x22 =>
 (load PP 24 x22 σ).bind fun x23 =>
 (indexAddr PP 24 x23 x6).bind fun x25 =>
 (load PP 3 x25 σ).bind fun x26 =>
 (binOp PP .sub 3 x5 I1).bind fun x28 =>
 (binOp PP .neq 3 x26 x28).bind fun x29 =>
 condK x29
 (
 some ((DV.p (PV.bool false)), σ)
 )
 (
 (binOp PP .sub 3 x5 I1).bind fun x32 =>
 (pureFn CC (DV.fn 105 []) [x0, x32] σ).bind fun x33 =>
 (binOp PP .lss 3 x33 I0).bind fun x35 =>
 condK x35
 (
 some ((DV.p (PV.bool false)), σ)
 )
 (
 (binOp PP .sub 3 x6 I1).bind fun x18 =>
 f104_L0 G lo x0 x1 x33 x18 σ
 )
 )
 )
 (
 some ((DV.p (PV.bool true)), σ)
 ) := (loopF_eq G hG).trans (by kernel_rfl)
theorem F104_eq (G : GuardT) (lo : Nat) (x0 x1 : DV) (σ : Store) : F104 G lo x0 x1 σ =
 (indexAddr PP 23 x0 x1).bind fun x10 =>
 (fieldAddr PP 67 x10 2).bind fun x11 =>
 (load PP 24 x11 σ).bind fun x12 =>
 (len PP 24 x12 σ).bind fun x13 =>
 (binOp PP .sub 3 x13 I1).bind fun x14 =>
 f104_L0 G lo x0 x1 x1 x14 σ := by kernel_rfl
theorem F104_call {lo : Nat} {x0 x1 : DV} (h : F104 guardT lo x0 x1 σ = some r) : CC lo 104 [x0, x1] σ = some r :=
 callL_run Tryz.func104 (by decide +kernel) rfl (by decide +kernel) h
def c105_0 : Code := bodyOf Tryz.f105
def a105_0 : Ann := (pol 105).ann
def a105_11 : Ann := left (right (right a105_0))
def a105_12 : Ann := left a105_11
def c105_13 : Code := fstC (fstC (fstC (sndC (sndC c105_0))))
def c105_31 : Code := sndC (sndC (sndC c105_0))
def a105_31 : Ann := right (right (right a105_0))
def f105_L0 (x0 x1 : DV) (σ : Store) : RS :=
 codeF G PP (pol 105) CC lo (.loop c105_13) a105_12 (x0 :: x1 :: zn 27 []) σ
 (blockC 0 a105_11 (seqC G PP (pol 105) CC lo c105_31 a105_31 (finR PP Tryz.f105.results.toList)))
def F105 (x0 x1 : DV) (σ : Store) : RS :=
 codeF G PP (pol 105) CC lo c105_0 a105_0 (x0 :: x1 :: zn 27 []) σ (finR PP Tryz.f105.results.toList)
theorem f105_L0_eq (G : GuardT) (hG : GuardOk G) (lo : Nat) (x0 x1 : DV) (σ : Store) : f105_L0 G lo x0 x1 σ =
 (indexAddr PP 23 x0 x1).bind fun x10 =>
 (fieldAddr PP 67 x10 2).bind fun x11 =>
 (load PP 24 x11 σ).bind fun x12 =>
 (len PP 24 x12 σ).bind fun x13 =>
 (binOp PP .gtr 3 x13 I0).bind fun x14 =>
 condK x14
 (
 (indexAddr PP 23 x0 x1).bind fun x17 =>
 (fieldAddr PP 67 x17 2).bind fun x18 =>
 (load PP 24 x18 σ).bind fun x19 =>
 (indexAddr PP 24 x19 I0).bind fun x20 =>
 (load PP 3 x20 σ).bind fun x21 =>
 (binOp PP .sub 3 x1 I1).bind fun x24 =>
 (pureFn CC (DV.fn 26 []) [x21, I0, x24] σ).bind fun x25 =>
 (unOp .not x25).bind fun x26 =>
 condK x26
 (
 some ((DV.p (PV.int IntKind.i64 (-1))), σ)
 )
 (
 f105_L0 G lo x0 x21 σ
 )
 )
 (
 some (x1, σ)
 ) := (loopF_eq G hG).trans (by kernel_rfl)
theorem F105_eq (G : GuardT) (lo : Nat) (x0 x1 : DV) (σ : Store) : F105 G lo x0 x1 σ =
 (binOp PP .lss 3 x1 I0).bind fun x7 =>
 condK x7
 (
 some ((DV.p (PV.int IntKind.i64 (-1))), σ)
 )
 (
 f105_L0 G lo x0 x1 σ
 ) := by kernel_rfl
theorem F105_call {lo : Nat} {x0 x1 : DV} (h : F105 guardT lo x0 x1 σ = some r) : CC lo 105 [x0, x1] σ = some r :=
 callL_run Tryz.func105 (by decide +kernel) rfl (by decide +kernel) h
def c99_0 : Code := bodyOf Tryz.f99
def a99_0 : Ann := (pol 99).ann
def a99_5 : Ann := right (left (right a99_0))
def c99_12 : Code := sndC (fstC (sndC (fstC (sndC c99_0))))
def a99_12 : Ann := right (left a99_5)
def c99_26 : Code := sndC (sndC c99_12)
def a99_26 : Ann := right (right a99_12)
def c99_31 : Code := sndC (sndC c99_0)
def a99_31 : Ann := right (right a99_0)
def f99_J0_fr (x0 x2 x3 x4 x5 x6 : DV) : Frame := [x0, Z, x2, x3, x4, x5, x6, Z, Z, Z, Z]
def f99_J0 (x0 x2 x3 x4 x5 x6 : DV) (σ : Store) : RS :=
 (seqC G PP (pol 99) CC lo c99_12 a99_12 (blockC 0 a99_5 (seqC G PP (pol 99) CC lo c99_31 a99_31 (finR PP Tryz.f99.results.toList)))) .normal (f99_J0_fr x0 x2 x3 x4 x5 x6) σ
def f99_J1_fr (x0 x2 x3 x4 x5 x6 x7 x8 x9 x10 : DV) : Frame := [x0, Z, x2, x3, x4, x5, x6, x7, x8, x9, x10]
def f99_J1 (x0 x2 x3 x4 x5 x6 x7 x8 x9 x10 : DV) (σ : Store) : RS :=
 (seqC G PP (pol 99) CC lo c99_26 a99_26 (blockC 0 a99_5 (seqC G PP (pol 99) CC lo c99_31 a99_31 (finR PP Tryz.f99.results.toList)))) .normal (f99_J1_fr x0 x2 x3 x4 x5 x6 x7 x8 x9 x10) σ
def F99 (x0 : DV) (σ : Store) : RS :=
 codeF G PP (pol 99) CC lo c99_0 a99_0 (x0 :: zn 10 []) σ (finR PP Tryz.f99.results.toList)
theorem f99_J0_eq (G : GuardT) (lo : Nat) (x0 x2 x3 x4 x5 x6 : DV) (σ : Store) : f99_J0 G lo x0 x2 x3 x4 x5 x6 σ =
 condK x4
 (
 some (I0, σ)
 )
 (
 (binOp PP .eql 3 x3 (DV.p (PV.int IntKind.i64 (2)))).bind fun x8 =>
 condK x8
 (
 f99_J1 G lo x0 x2 x3 x4 x5 x6 x8 x8 Z Z σ
 )
 (
 (binOp PP .eql 3 x3 (DV.p (PV.int IntKind.i64 (6)))).bind fun x9 =>
 condK x9
 (
 f99_J1 G lo x0 x2 x3 x4 x5 x6 x9 x8 x9 Z σ
 )
 (
 (binOp PP .eql 3 x3 (DV.p (PV.int IntKind.i64 (7)))).bind fun x10 =>
 f99_J1 G lo x0 x2 x3 x4 x5 x6 x10 x8 x9 x10 σ
 )
 )
 ) := by kernel_rfl
theorem f99_J1_eq (G : GuardT) (lo : Nat) (x0 x2 x3 x4 x5 x6 x7 x8 x9 x10 : DV) (σ : Store) : f99_J1 G lo x0 x2 x3 x4 x5 x6 x7 x8 x9 x10 σ =
 condK x7
 (
 some (I1, σ)
 )
 (
 some ((DV.p (PV.int IntKind.i64 (2))), σ)
 ) := by kernel_rfl
theorem F99_eq (G : GuardT) (lo : Nat) (x0 : DV) (σ : Store) : F99 G lo x0 σ =
 (binOp PP .eql 3 x0 I0).bind fun x5 =>
 condK x5
 (
 f99_J0 G lo x0 I0 x0 x5 x5 Z σ
 )
 (
 (binOp PP .eql 3 x0 I1).bind fun x6 =>
 f99_J0 G lo x0 I0 x0 x6 x5 x6 σ
 ) := by kernel_rfl
theorem F99_call {lo : Nat} {x0 : DV} (h : F99 guardT lo x0 σ = some r) : CC lo 99 [x0] σ = some r :=
 callL_run Tryz.func99 (by decide +kernel) rfl (by decide +kernel) h
def c44_0 : Code := bodyOf Tryz.f44
def a44_0 : Ann := (pol 44).ann
def a44_17 : Ann := right (left (right (right (right a44_0))))
def a44_18 : Ann := left a44_17
def c44_19 : Code := fstC (fstC (sndC (fstC (sndC (sndC (sndC c44_0))))))
def a44_26 : Ann := left (right (right (left a44_18)))
def a44_42 : Ann := right (left (right (right (right (left a44_26)))))
def a44_43 : Ann := left a44_42
def c44_44 : Code := fstC (fstC (sndC (fstC (sndC (sndC (sndC (fstC (fstC (sndC (sndC c44_19))))))))))
def c44_45 : Code := sndC (fstC (sndC (fstC (sndC (sndC (sndC (fstC (fstC (sndC (sndC c44_19))))))))))
def c44_55 : Code := sndC (sndC (sndC (sndC (fstC (fstC (sndC (sndC c44_19)))))))
def a44_55 : Ann := right (right (right (right (left a44_26))))
def c44_63 : Code := sndC (sndC c44_55)
def a44_63 : Ann := right (right a44_55)
def c44_74 : Code := sndC (sndC (sndC c44_19))
def a44_74 : Ann := right (right (right (left a44_18)))
def c44_75 : Code := sndC (sndC (sndC (sndC c44_0)))
def a44_75 : Ann := right (right (right (right a44_0)))
def f44_L0 (x0 x2 x3 x5 x27 x28 x29 : DV) (σ : Store) : RS :=
 codeF G PP (pol 44) CC lo (.loop c44_19) a44_18 (x0 :: Z :: x2 :: x3 :: Z :: x5 :: zn 21 (x27 :: x28 :: x29 :: zn 71 [])) σ
 (blockC 0 a44_17 (seqC G PP (pol 44) CC lo c44_75 a44_75 (finR PP Tryz.f44.results.toList)))
def f44_R0 (G : GuardT) (lo : Nat) (x0 x2 x3 x5 x6 x7 x8 x27 x28 x29 x30 x31 x32 x33 x34 x35 x36 x37 x39 x40 x41 x42 : DV) (xs : List DV) (σ : Store) (K' : Ex → Store → Option (DV × Store)) : RS :=
 roundC G PP (pol 44) CC lo c44_44 c44_45 (Ann.left a44_43) [43, 44] (x0 :: Z :: x2 :: x3 :: Z :: x5 :: x6 :: x7 :: x8 :: zn 18 (x27 :: x28 :: x29 :: x30 :: x31 :: x32 :: x33 :: x34 :: x35 :: x36 :: x37 :: Z :: x39 :: x40 :: x41 :: x42 :: zn 58 [])) xs σ K'
def f44_X0 (G : GuardT) (lo : Nat) (ex : Ex) (x0 x2 x3 x5 x6 x7 x8 x27 x28 x29 x30 x31 x32 x33 x34 x35 x36 x37 x39 x40 x41 x42 : DV) (σ : Store) : RS :=
 (blockC 2 a44_42 (seqC G PP (pol 44) CC lo c44_55 a44_55 (blockC 1 a44_26 (seqC G PP (pol 44) CC lo c44_74 a44_74 (loopC G PP (pol 44) CC lo c44_19 a44_18 (blockC 0 a44_17 (seqC G PP (pol 44) CC lo c44_75 a44_75 (finR PP Tryz.f44.results.toList)))))))) ex (x0 :: Z :: x2 :: x3 :: Z :: x5 :: x6 :: x7 :: x8 :: zn 18 (x27 :: x28 :: x29 :: x30 :: x31 :: x32 :: x33 :: x34 :: x35 :: x36 :: x37 :: Z :: x39 :: x40 :: x41 :: x42 :: zn 58 [])) σ
def f44_J0_fr (x0 x2 x3 x5 x6 x7 x8 x27 x28 x29 : DV) : Frame := (x0 :: Z :: x2 :: x3 :: Z :: x5 :: x6 :: x7 :: x8 :: zn 18 (x27 :: x28 :: x29 :: zn 71 []))
def f44_J0 (x0 x2 x3 x5 x6 x7 x8 x27 x28 x29 : DV) (σ : Store) : RS :=
 (seqC G PP (pol 44) CC lo c44_55 a44_55 (blockC 1 a44_26 (seqC G PP (pol 44) CC lo c44_74 a44_74 (loopC G PP (pol 44) CC lo c44_19 a44_18 (blockC 0 a44_17 (seqC G PP (pol 44) CC lo c44_75 a44_75 (finR PP Tryz.f44.results.toList))))))) .normal (f44_J0_fr x0 x2 x3 x5 x6 x7 x8 x27 x28 x29) σ
def f44_J1_fr (x0 x2 x3 x5 x6 x7 x8 x11 x27 x28 x29 x57 x58 x59 x60 x61 x62 x63 x64 x65 x66 : DV) : Frame := (x0 :: Z :: x2 :: x3 :: Z :: x5 :: x6 :: x7 :: x8 :: Z :: Z :: x11 :: zn 15 (x27 :: x28 :: x29 :: zn 27 (x57 :: x58 :: x59 :: x60 :: x61 :: x62 :: x63 :: x64 :: x65 :: x66 :: zn 34 [])))
def f44_J1 (x0 x2 x3 x5 x6 x7 x8 x11 x27 x28 x29 x57 x58 x59 x60 x61 x62 x63 x64 x65 x66 : DV) (σ : Store) : RS :=
 (seqC G PP (pol 44) CC lo c44_63 a44_63 (blockC 1 a44_26 (seqC G PP (pol 44) CC lo c44_74 a44_74 (loopC G PP (pol 44) CC lo c44_19 a44_18 (blockC 0 a44_17 (seqC G PP (pol 44) CC lo c44_75 a44_75 (finR PP Tryz.f44.results.toList))))))) .normal (f44_J1_fr x0 x2 x3 x5 x6 x7 x8 x11 x27 x28 x29 x57 x58 x59 x60 x61 x62 x63 x64 x65 x66) σ
def F44 (x0 : DV) (σ : Store) : RS :=
 codeF G PP (pol 44) CC lo c44_0 a44_0 (x0 :: zn 100 []) σ (finR PP Tryz.f44.results.toList)
theorem f44_L0_eq (G : GuardT) (hG : GuardOk G) (lo : Nat) (x0 x2 x3 x5 x27 x28 x29 : DV) (σ : Store) : f44_L0 G lo x0 x2 x3 x5 x27 x28 x29 σ =
 (binOp PP .lss 3 x29 x28).bind fun x30 =>
 condK x30
 (
 (indexAddr PP 23 x27 x29).bind fun x32 =>
 (load PP 67 x32 σ).bind fun x33 =>
 (zeroOf PP 67).bind fun z7 =>
 (store PP lo 67 (DV.ptr (List.length σ) 0) x33 (σ ++ [Row.mix z7])).bind fun σ2 =>
 (fieldAddr PP 67 (DV.ptr (List.length σ) 0) 0).bind fun x34 =>
 (load PP 3 x34 σ2).bind fun x35 =>
 (pureFn CC (DV.fn 65 []) [x35, I0, (DV.p (PV.int IntKind.i64 (9)))] σ2).bind fun x36 =>
 (unOp .not x36).bind fun x37 =>
 condK x37
 (
 some ((DV.tuple [x29, (DV.p (PV.int IntKind.i64 (4)))]), σ2)
 )
 (
 (zeroOf PP 3).bind fun z8 =>
 (store PP lo 3 (DV.ptr (List.length σ2) 0) x29 (σ2 ++ [Row.mix z8])).bind fun σ3 =>
 (fieldAddr PP 67 (DV.ptr (List.length σ) 0) 2).bind fun x40 =>
 (load PP 24 x40 σ3).bind fun x41 =>
 (pureFn CC (DV.fn 98 []) [x41] σ3).bind fun x42 =>
 rangeK (pol 44) x42 2 true true (fun xs ρ K' => f44_R0 G lo x0 x2 x3 x5 x29 (DV.ptr (List.length σ) 0) (DV.ptr (List.length σ2) 0) x27 x28 x29 x30 x29 x32 x33 x34 x35 x36 x37 x29 x40 x41 x42 xs ρ K') σ3 fun ex ρ => f44_X0 G lo ex x0 x2 x3 x5 x29 (DV.ptr (List.length σ) 0) (DV.ptr (List.length σ2) 0) x27 x28 x29 x30 x29 x32 x33 x34 x35 x36 x37 x29 x40 x41 x42 ρ
 )
 )
 (
 (len PP 23 x0 σ).bind fun x93 =>
 (binOp PP .sub 3 x93 I1).bind fun x94 =>
 (load PP 24 x5 σ).bind fun x95 =>
 (indexAddr PP 24 x95 x94).bind fun x97 =>
 (load PP 3 x97 σ).bind fun x98 =>
 (binOp PP .neq 3 x98 I0).bind fun x99 =>
 condK x99
 (
 some ((DV.tuple [x94, (DV.p (PV.int IntKind.i64 (15)))]), σ)
 )
 (
 some ((DV.tuple [I0, I0]), σ)
 )
 ) := (loopF_eq G hG).trans (by kernel_rfl)
theorem f44_R0_eq (G : GuardT) (lo : Nat) (x0 x2 x3 x5 x6 x7 x8 x27 x28 x29 x30 x31 x32 x33 x34 x35 x36 x37 x39 x40 x41 x42 : DV) (x43 x44 : DV) (σ : Store) (K' : Ex → Store → Option (DV × Store)) : f44_R0 G lo x0 x2 x3 x5 x6 x7 x8 x27 x28 x29 x30 x31 x32 x33 x34 x35 x36 x37 x39 x40 x41 x42 [x43, x44] σ K' =
 (load PP 3 x8 σ).bind fun x46 =>
 (binOp PP .sub 3 x46 I1).bind fun x47 =>
 (binOp PP .neq 3 x44 x47).bind fun x48 =>
 G _ x48 false (some (x44, σ)) σ fun x50 σ4 =>
 G _ x48 false ((binOp PP .lss 3 x50 I0).bind fun v => some (v, σ4)) σ4 fun x51 σ5 =>
 (pickV x48 (DV.p (PV.bool true)) x51).bind fun x52 =>
 condK x52
 (
 (store PP lo 3 x8 (DV.p (PV.int IntKind.i64 (-1))) σ5).bind fun σ6 =>
 K' (.exit 2) σ6
 )
 (
 (load PP 24 x5 σ5).bind fun x53 =>
 (indexAddr PP 24 x53 x44).bind fun x55 =>
 (load PP 3 x55 σ5).bind fun x56 =>
 (store PP lo 3 x8 x56 σ5).bind fun σ7 =>
 K' .normal σ7
 ) := by kernel_rfl
theorem f44_X0_normal (G : GuardT) (lo : Nat) (x0 x2 x3 x5 x6 x7 x8 x27 x28 x29 x30 x31 x32 x33 x34 x35 x36 x37 x39 x40 x41 x42 : DV) (σ : Store) : f44_X0 G lo .normal x0 x2 x3 x5 x6 x7 x8 x27 x28 x29 x30 x31 x32 x33 x34 x35 x36 x37 x39 x40 x41 x42 σ =
 f44_J0 G lo x0 x2 x3 x5 x6 x7 x8 x27 x28 x29 σ := by kernel_rfl
theorem f44_J0_eq (G : GuardT) (lo : Nat) (x0 x2 x3 x5 x6 x7 x8 x27 x28 x29 : DV) (σ : Store) : f44_J0 G lo x0 x2 x3 x5 x6 x7 x8 x27 x28 x29 σ =
 (fieldAddr PP 67 x7 1).bind fun x57 =>
 (load PP 3 x57 σ).bind fun x58 =>
 (binOp PP .neq 3 x58 I0).bind fun x59 =>
 (fieldAddr PP 67 x7 0).bind fun x60 =>
 (load PP 3 x60 σ).bind fun x61 =>
 (binOp PP .eql 3 x61 I1).bind fun x62 =>
 condK x62
 (
 (fieldAddr PP 67 x7 1).bind fun x63 =>
 (load PP 3 x63 σ).bind fun x64 =>
 (pureFn CC (DV.fn 65 []) [x64, I0, (DV.p (PV.int IntKind.i64 (11)))] σ).bind fun x65 =>
 (unOp .not x65).bind fun x66 =>
 f44_J1 G lo x0 x2 x3 x5 x6 x7 x8 x66 x27 x28 x29 x57 x58 x59 x60 x61 x62 x63 x64 x65 x66 σ
 )
 (
 f44_J1 G lo x0 x2 x3 x5 x6 x7 x8 x59 x27 x28 x29 x57 x58 x59 x60 x61 x62 Z Z Z Z σ
 ) := by kernel_rfl
theorem f44_J1_eq (G : GuardT) (lo : Nat) (x0 x2 x3 x5 x6 x7 x8 x11 x27 x28 x29 x57 x58 x59 x60 x61 x62 x63 x64 x65 x66 : DV) (σ : Store) : f44_J1 G lo x0 x2 x3 x5 x6 x7 x8 x11 x27 x28 x29 x57 x58 x59 x60 x61 x62 x63 x64 x65 x66 σ =
 (load PP 3 x8 σ).bind fun x67 =>
 (binOp PP .lss 3 x67 I0).bind fun x68 =>
 G _ x68 false ((fieldAddr PP 67 x7 2).bind fun v => some (v, σ)) σ fun x70 σ8 =>
 G _ x68 false ((load PP 24 x70 σ8).bind fun v => some (v, σ8)) σ8 fun x71 σ9 =>
 G _ x68 false ((len PP 24 x71 σ9).bind fun v => some (v, σ9)) σ9 fun x72 σ10 =>
 G _ x68 false ((fieldAddr PP 67 x7 0).bind fun v => some (v, σ10)) σ10 fun x73 σ11 =>
 G _ x68 false ((load PP 3 x73 σ11).bind fun v => some (v, σ11)) σ11 fun x74 σ12 =>
 G _ x68 false ((pureFn CC (DV.fn 99 []) [x74] σ12).bind fun v => some (v, σ12)) σ12 fun x75 σ13 =>
 G _ x68 false ((binOp PP .neq 3 x72 x75).bind fun v => some (v, σ13)) σ13 fun x76 σ14 =>
 (pickV x68 (DV.p (PV.bool true)) x76).bind fun x77 =>
 (pureFn CC (DV.fn 67 []) [x77, (DV.p (PV.int IntKind.i64 (6)))] σ14).bind fun x78 =>
 (pureFn CC (DV.fn 67 []) [x11, (DV.p (PV.int IntKind.i64 (3)))] σ14).bind fun x80 =>
 (buildSlice PP none 160 2 [(0, x78), (1, x80)] σ14).bind fun r81_15 =>
 (pureFn CC (DV.fn 66 []) [r81_15.1] r81_15.2).bind fun x82 =>
 (binOp PP .neq 30 x82 I0).bind fun x84 =>
 condK x84
 (
 some ((DV.tuple [x6, x82]), r81_15.2)
 )
 (
 (load PP 24 x5 r81_15.2).bind fun x87 =>
 (load PP 3 x8 r81_15.2).bind fun x88 =>
 (buildSlice PP none 24 1 [(0, x88)] r81_15.2).bind fun r89_16 =>
 (append PP lo false 24 24 x87 r89_16.1 r89_16.2).bind fun r90_17 =>
 (store PP lo 24 x5 r90_17.1 r90_17.2).bind fun σ18 =>
 (binOp PP .add 3 x29 I1).bind fun x91 =>
 f44_L0 G lo x0 x2 x3 x5 x27 x28 x91 σ18
 ) := by kernel_rfl
theorem F44_eq (G : GuardT) (lo : Nat) (x0 : DV) (σ : Store) : F44 G lo x0 σ =
 (len PP 23 x0 σ).bind fun x15 =>
 (binOp PP .eql 3 x15 I0).bind fun x16 =>
 (pureFn CC (DV.fn 67 []) [x16, I1] σ).bind fun x17 =>
 (len PP 23 x0 σ).bind fun x19 =>
 (binOp PP .gtr 3 x19 (DV.p (PV.int IntKind.i64 (40)))).bind fun x20 =>
 (pureFn CC (DV.fn 67 []) [x20, (DV.p (PV.int IntKind.i64 (2)))] σ).bind fun x21 =>
 (buildSlice PP none 160 2 [(0, x17), (1, x21)] σ).bind fun r22_1 =>
 (pureFn CC (DV.fn 66 []) [r22_1.1] r22_1.2).bind fun x23 =>
 (binOp PP .neq 30 x23 I0).bind fun x25 =>
 condK x25
 (
 some ((DV.tuple [I0, x23]), r22_1.2)
 )
 (
 (zeroOf PP 24).bind fun z5 =>
 (len PP 23 x0 (r22_1.2 ++ [Row.mix z5])).bind fun x28 =>
 f44_L0 G lo x0 I0 I0 (DV.ptr (List.length r22_1.2) 0) x0 x28 I0 (r22_1.2 ++ [Row.mix z5])
 ) := by kernel_rfl
theorem F44_call {lo : Nat} {x0 : DV} (h : F44 guardT lo x0 σ = some r) : CC lo 44 [x0] σ = some r :=
 callL_run Tryz.func44 (by decide +kernel) rfl (by decide +kernel) h
def c70_0 : Code := bodyOf Tryz.f70
def a70_0 : Ann := (pol 70).ann
def F70 (x0 : DV) (σ : Store) : RS :=
 codeF G PP (pol 70) CC lo c70_0 a70_0 (x0 :: zn 10 []) σ (finR PP Tryz.f70.results.toList)
theorem F70_eq (G : GuardT) (lo : Nat) (x0 : DV) (σ : Store) : F70 G lo x0 σ =
 (pureFn CC (DV.fn 44 []) [x0] σ).bind fun x7 =>
 (extractV x7 0).bind fun x8 =>
 (extractV x7 1).bind fun x9 =>
 some (x9, σ) := by kernel_rfl
theorem F70_call {lo : Nat} {x0 : DV} (h : F70 guardT lo x0 σ = some r) : CC lo 70 [x0] σ = some r :=
 callL_run Tryz.func70 (by decide +kernel) rfl (by decide +kernel) h
end
end Go.D
end
/- Chapter 13: errors of words, copies, comparisons, in the program and in the reference. -/
section
set_option linter.unusedVariables false
set_option linter.unusedSimpArgs false
namespace Go.D
open Las
theorem fn_view (f : FuncId) (caps : List DV) : view (.fn f caps) = .fn f caps := rfl
def idxFrom {α : Type} (q : α → Bool) : List α → Nat → Int
  | [], _ => -1
  | v :: l, i => if q v = true then (i : Int) else idxFrom q l (i + 1)
theorem idxFrom_ge {α : Type} (q : α → Bool) : ∀ (l : List α) (i : Nat), decide (idxFrom q l i ≥ 0) = l.any q
  | [], i => by simp [idxFrom]
  | v :: l, i => by
    unfold idxFrom
    by_cases h : q v = true
    · rw [if_pos h, List.any_cons, h]
      simp
    · rw [if_neg h, List.any_cons, (Bool.not_eq_true _).mp h, Bool.false_or]
      exact idxFrom_ge q l (i + 1)
theorem L122 {o : OI} {f : FuncId} {caps : List DV} {σ : Store} {lo : Nat} {q : Int → Bool} (hl : (L o).length ≤ 100000) (hq : ∀ v, pureV CC f (.p (.int .i64 v) :: caps) σ = some (.p (.bool (q v)))) :
    ∀ (k i : Nat), (L o).length - i = k → i ≤ (L o).length → f122_L0 guardT lo (.p (eSl o)) (.fn f caps) (N (L o).length) (N i) σ = some (.p (.int .i64 (idxFrom q ((L o).drop i) i)), σ)
  | 0, i, hk, hi => by
    rw [f122_L0_eq guardT rfl, List.drop_eq_nil_of_le (by omega)]
    simp (disch := omega) only [N, b_lss, ltF, gG, idxFrom]
  | k + 1, i, hk, hi => by
    have h : i < (L o).length := by omega
    have ih := L122 (lo := lo) hl hq k (i + 1) (by omega) (by omega)
    rw [f122_L0_eq guardT rfl, drop_cons h]
    simp (disch := omega) only [N, b_lss, ltT, gG, (PL.sl o).idx h, load3, load1_getD h, pureFn_fn, List.singleton_append, hq, idxFrom]
    cases q ((L o).getD i 0) with
    | true => simp only [gG, if_true]
    | false =>
      simp (disch := omega) only [gG, add1, Bool.false_eq_true, if_false]
      exact ih
theorem S122 {o : OI} {f : FuncId} {caps : List DV} {q : Int → Bool} (hl : (L o).length ≤ 100000) (hc : caps.all rowFree1 = true) (hq : ∀ v, pureV CC f (.p (.int .i64 v) :: caps) [] = some (.p (.bool (q v)))) (σ : Store) :
    pureV CC 122 [.p (eSl o), .fn f caps] σ = some (.p (.int .i64 (idxFrom q (L o) 0))) := by
  refine pureV_free (by simp [sl_view, fn_view]) (by simp [rowFree, rowFree1] at hc ⊢; exact hc) (F122_call (r := (.p (.int .i64 (idxFrom q (L o) 0)), [])) ?_) rfl
  rw [F122_eq]
  simp only [(PL.sl o).len, obind]
  have := L122 (lo := 0) hl hq _ 0 rfl (Nat.zero_le _)
  simpa [N] using this
theorem S68 {o : OI} {f : FuncId} {caps : List DV} {q : Int → Bool} (hl : (L o).length ≤ 100000) (hc : caps.all rowFree1 = true) (hq : ∀ v, pureV CC f (.p (.int .i64 v) :: caps) [] = some (.p (.bool (q v)))) (σ : Store) :
    pureV CC 68 [.p (eSl o), .fn f caps] σ = some (.p (.bool ((L o).any q))) := by
  refine pureV_free (by simp [sl_view, fn_view]) (by simp [rowFree, rowFree1] at hc ⊢; exact hc) (F68_call (r := (.p (.bool ((L o).any q)), [])) ?_) rfl
  rw [F68_eq]
  simp only [shift_ptr, shift_pptr, Nat.zero_add, Nat.add_zero, pureFn_fn, List.append_nil, List.singleton_append, List.cons_append, List.nil_append, S122 hl hc hq, gG, b_geq, idxFrom_ge]
def oddB (n : Int) : Bool := !inR n 0 4095
theorem S64 (n : Int) (σ : Store) : pureV CC 64 [.p (.int .i64 n)] σ = some (.p (.bool (oddB n))) := by
  refine pureV_free rfl rfl (F64_call (r := (.p (.bool (oddB n)), [])) ?_) rfl
  rw [F64_eq]
  simp only [shift_ptr, shift_pptr, Nat.zero_add, Nat.add_zero, pureFn_fn, List.append_nil, List.singleton_append, List.cons_append, List.nil_append, S65, gG]
  rfl
def wErr (P Q : List Int) : Int := if Q.length = 0 then 1 else if P.length + Q.length > 60 then 2 else if (P.any oddB || Q.any oddB) = true then 3 else 0
theorem S15 {w : Wd} (h0 : (L w.p).length ≤ 1000) (h1 : (L w.l).length ≤ 1000) (σ : Store) : pureV CC 15 [vWd w] σ = some (.p (.int .i64 (wErr (L w.p) (L w.l)))) := by
  refine pureV_free (by simp [wd_view]) (by simp [wd_free]) (F15_call (r := (.p (.int .i64 (wErr (L w.p) (L w.l))), [])) ?_) rfl
  have q0 := S68 (o := w.p) (f := 64) (caps := []) (q := oddB) (by omega) rfl (fun v => S64 v _) []
  have q1 := S68 (o := w.l) (f := 64) (caps := []) (q := oddB) (by omega) rfl (fun v => S64 v _) []
  have e2 : ∀ a b : Int, [pI a, pI b] = eInts [a, b] := fun _ _ => rfl
  have q2 : ∀ a b : Int, pureV CC 66 [.p (.sl true 2 [pI a, pI b])] [] = some (.p (.int .i64 (orL [a, b]))) := fun a b => S66 (ex := true) (l := [a, b]) (by simp) []
  rw [F15_eq]
  simp only [box_wd, gG, fa26_0, fa26_1, shift_ptr, shift_pptr, Nat.zero_add, Nat.add_zero, pureFn_fn, List.append_nil, List.singleton_append, List.cons_append, List.nil_append, load24, wd_0, wd_1, (PL.sl _).len, b_eql, S67, addN (show (L w.p).length + (L w.l).length ≤ 1000000 by omega), b_gtr, bs160_2, q2, b_neq]
  unfold wErr
  by_cases c1 : (L w.l).length = 0
  · have c1' : ((L w.l).length : Int) = 0 := by omega
    rw [if_pos c1, eqT c1']
    simp [wrg, orL, gG]
  · have c1' : ¬ ((L w.l).length : Int) = 0 := by omega
    rw [if_neg c1, eqF c1']
    by_cases c2 : (L w.p).length + (L w.l).length > 60
    · have c2' : (((L w.p).length + (L w.l).length : Nat) : Int) > 60 := by omega
      rw [if_pos c2, gtT c2']
      simp [wrg, orL, gG]
    · have c2' : ¬ (((L w.p).length + (L w.l).length : Nat) : Int) > 60 := by omega
      rw [if_neg c2, gtF c2']
      have e0 : decide (orL [wrg false 1, wrg false 2] = 0) = true := rfl
      simp only [e0, gG, q0]
      cases (L w.p).any oddB with
      | true =>
        simp only [gG, S67, Bool.true_or, wrg, if_true]
      | false =>
        simp only [gG, shift_ptr, shift_pptr, Nat.zero_add, Nat.add_zero, pureFn_fn, List.append_nil, List.singleton_append, List.cons_append, List.nil_append, load24, wd_1, q1, S67, Bool.false_or, wrg]
theorem app24 {x : DV} {l : List Int} (h : PL x l) (hl : l.length ≤ 1000000) (lo : Nat) (σ : Store) : ∃ y σ', append PP lo false 24 24 (.p (.sl true 0 [])) x σ = some (y, σ') ∧ PL y l ∧ thawAll lo σ' y = some (.p (eSl (some l))) := by
  by_cases hb : l = []
  · subst hb
    refine ⟨.p (.sl true 0 []), σ, ?_, .inr (.inl ⟨true, by simp; rfl⟩), rfl⟩
    simp [append, src24, u24, s3, bytes3, zero3, h.src σ, appLit]
  · have hb0 : ¬ (l.length = 0) := fun e => hb (List.length_eq_zero_iff.1 e)
    refine ⟨.osl σ.length 0 1 l.length (eInts l), σ ++ [.tok 0], ?_, .inr (.inr ⟨σ.length, 0, rfl⟩), by simp [thawAll, thawPart, thaw, thaw1, thawP, loosens_ints, eSl]⟩
    simp [append, src24, u24, s3, bytes3, zero3, h.src σ, appLit, hb0, pures_map, hb]
    omega
theorem S52 {o : OI} (hl : (L o).length ≤ 1000000) (σ : Store) : pureV CC 52 [.p (eSl o)] σ = some (.p (eSl (some (L o)))) := by
  obtain ⟨y, σ', h1, h2, h3⟩ := app24 (PL.sl o) hl 0 []
  refine pureV_free (by simp [sl_view]) rfl (F52_call (r := (y, σ')) ?_) h3
  rw [F52_eq]
  simp only [bs24_0, gG, h1]
theorem isnil_none (σ : Store) : binOp PP .eql 24 (.p (eSl none)) (.p .nilsl) = some (.p (.bool true)) := Eq.trans (by kernel_rfl) rfl
theorem isnil_some (n : Nat) (cs : List PV) : binOp PP .eql 24 (.p (.sl false n cs)) (.p .nilsl) = some (.p (.bool false)) := Eq.trans (by kernel_rfl) rfl
theorem isnil_rsl (r s o n : Nat) : binOp PP .eql 24 (.rsl r s o n) (.p .nilsl) = some (.p (.bool false)) := Eq.trans (by kernel_rfl) rfl
theorem S78 {o : OI} (hl : (L o).length ≤ 1000000) (σ : Store) : pureV CC 78 [.p (eSl o)] σ = some (.p (eSl o)) := by
  cases o with
  | none =>
    refine pureV_free rfl rfl (F78_call (r := (.p .nilsl, [])) ?_) rfl
    rw [F78_eq]
    simp only [isnil_none [], gG]
  | some l =>
    obtain ⟨y, σ', h1, h2, h3⟩ := app24 (PL.some l) hl 0 []
    refine pureV_free (by simp [sl_view]) rfl (F78_call (r := (y, σ')) ?_) h3
    rw [F78_eq]
    have e : eSl (some l) = .sl false l.length (eInts l) := rfl
    rw [e] at h1 ⊢
    simp only [isnil_some, gG, bs24_0, h1]
theorem S16 {w : Wd} (h0 : (L w.p).length ≤ 1000000) (h1 : (L w.l).length ≤ 1000000) (σ : Store) : pureV CC 16 [vWd w] σ = some (vWd ⟨some (L w.p), some (L w.l)⟩) := by
  have hst : store PP 0 26 (.ptr 0 0) (vWd ⟨some (L w.p), some (L w.l)⟩) [.mix [.p .nilsl, .p .nilsl]] = some [.mix [.p (eSl (some (L w.p))), .p (eSl (some (L w.l)))]] := st26 (σ := [.mix [.p .nilsl, .p .nilsl]]) rfl (Nat.le_refl _) rfl rfl rfl
  have hce : cellV PP 26 (.ptr 0 0) [.mix [.p (eSl (some (L w.p))), .p (eSl (some (L w.l)))]] = some (vWd ⟨some (L w.p), some (L w.l)⟩) := cell26 rfl rfl
  refine pureV_free (by simp [wd_view]) (by simp [wd_free]) (F16_call (r := (vWd ⟨some (L w.p), some (L w.l)⟩, [.mix [.p (eSl (some (L w.p))), .p (eSl (some (L w.l)))]])) ?_) (by simp [thawAll, thawPart, vWd, mapO, thaw, thaw1, thawP, loosen_sl])
  have hb : build PP 26 [(0, .p (eSl (some (L w.p)))), (1, .p (eSl (some (L w.l))))] = some (vWd ⟨some (L w.p), some (L w.l)⟩) := bld26 rfl rfl
  rw [F16_eq]
  simp only [box_wd, gG, zero26, List.nil_append, List.length_nil, fa26_0, fa26_1, shift_ptr, shift_pptr, Nat.zero_add, Nat.add_zero, pureFn_fn, List.append_nil, List.singleton_append, List.cons_append, List.nil_append, load24, wd_0, wd_1, S52 h0, S52 h1, hb, hst, hce]
theorem S14 (w : Wd) (σ : Store) : pureV CC 14 [vWd w] σ = some (.p (.bool (decide ((L w.p).length ≤ 70) && decide ((L w.l).length ≤ 70)))) := by
  refine pureV_free (by simp [wd_view]) (by simp [wd_free]) (F14_call (r := (.p (.bool (decide ((L w.p).length ≤ 70) && decide ((L w.l).length ≤ 70))), [])) ?_) rfl
  rw [F14_eq]
  simp only [box_wd, gG, fa26_0, fa26_1, shift_ptr, shift_pptr, Nat.zero_add, Nat.add_zero, pureFn_fn, List.append_nil, List.singleton_append, List.cons_append, List.nil_append, load24, wd_0, wd_1, (PL.sl _).len, b_leq]
  by_cases h : (L w.p).length ≤ 70
  · have h' : ((L w.p).length : Int) ≤ 70 := by omega
    simp only [leT h', gG, shift_ptr, shift_pptr, Nat.zero_add, Nat.add_zero, pureFn_fn, List.append_nil, List.singleton_append, List.cons_append, List.nil_append, load24, wd_1, (PL.sl _).len, b_leq, decide_eq_true h, Bool.true_and]
    congr 4
    exact decide_eq_decide.2 (by omega)
  · have h' : ¬ ((L w.p).length : Int) ≤ 70 := by omega
    simp only [leF h', gG, decide_eq_false h, Bool.false_and]
theorem S69 {w : Wd} {i : Nat} (hi : i < (L w.p).length + (L w.l).length) (hl : (L w.p).length + (L w.l).length ≤ 100000) (σ : Store) : pureV CC 69 [vWd w, .p (.int .i64 (i : Nat))] σ = some (.p (.int .i64 (atW (L w.p) (L w.l) i))) := by
  refine pureV_free (by simp only [List.map_cons, List.map_nil, wd_view]; rfl) (by simp only [List.all_cons, wd_free]; rfl) (F69_call (r := (.p (.int .i64 (atW (L w.p) (L w.l) i)), [])) ?_) rfl
  rw [F69_eq]
  simp only [box_wd, gG, fa26_0, fa26_1, shift_ptr, shift_pptr, Nat.zero_add, Nat.add_zero, pureFn_fn, List.append_nil, List.singleton_append, List.cons_append, List.nil_append, load24, wd_0, wd_1, (PL.sl _).len, b_lss]
  unfold atW
  by_cases h : i < (L w.p).length
  · have h' : (i : Int) < ((L w.p).length : Nat) := by omega
    simp only [ltT h', gG, (PL.sl w.p).idx h, load3, load1_getD h, if_pos h]
  · have h' : ¬ (i : Int) < ((L w.p).length : Nat) := by omega
    have hm : (i - (L w.p).length) % (L w.l).length < (L w.l).length := Nat.mod_lt _ (by omega)
    simp (disch := omega) only [ltF h', gG, subN, remN, (PL.sl w.l).idx hm, load3, load1_getD hm, if_neg h]
def anyAt (P Q : List Int) : Nat → Nat → Bool
  | 0, _ => false
  | d + 1, i => oddB (atW P Q i) || anyAt P Q d (i + 1)
theorem L17 {w : Wd} (hl : (L w.p).length + (L w.l).length ≤ 100000) (lo : Nat) (σ : Store) : ∀ (d i : Nat), (L w.p).length + (L w.l).length - i = d → i ≤ (L w.p).length + (L w.l).length →
    f17_L0 guardT lo (.pptr (eWd w) 0) (N i) σ = some (.p (.int .i64 (if anyAt (L w.p) (L w.l) d i = true then 3 else 0)), σ)
  | 0, i, hd, hi => by
    have e : i = (L w.p).length + (L w.l).length := by omega
    rw [f17_L0_eq guardT rfl]
    simp (disch := omega) only [N, fa26_0, fa26_1, shift_ptr, shift_pptr, Nat.zero_add, Nat.add_zero, pureFn_fn, List.append_nil, List.singleton_append, List.cons_append, List.nil_append, load24, wd_0, wd_1, (PL.sl _).len, gG, addN, b_lss, ltF, anyAt, Bool.false_eq_true, if_false]
  | d + 1, i, hd, hi => by
    have ih := L17 hl lo σ d (i + 1) (by omega) (by omega)
    have h69 := S69 (w := w) (i := i) (by omega) hl σ
    rw [f17_L0_eq guardT rfl]
    simp (disch := omega) only [N, fa26_0, fa26_1, shift_ptr, shift_pptr, Nat.zero_add, Nat.add_zero, pureFn_fn, List.append_nil, List.singleton_append, List.cons_append, List.nil_append, load24, wd_0, wd_1, (PL.sl _).len, gG, addN, b_lss, ltT, load26, wd_all, h69, S26, anyAt]
    have e : (!inR (atW (L w.p) (L w.l) i) 0 4095) = oddB (atW (L w.p) (L w.l) i) := rfl
    rw [e]
    by_cases ho : oddB (atW (L w.p) (L w.l) i) = true
    · simp only [ho, gG, Bool.true_or, if_true]
    · simp (disch := omega) only [(Bool.not_eq_true _).mp ho, gG, add1, Bool.false_or]
      exact ih
theorem anyAt_iff (P Q : List Int) : ∀ d i, anyAt P Q d i = true ↔ ∃ j, i ≤ j ∧ j < i + d ∧ oddB (atW P Q j) = true
  | 0, i => by
    simp only [anyAt, Bool.false_eq_true, false_iff]
    rintro ⟨j, h1, h2, _⟩
    omega
  | d + 1, i => by
    rw [anyAt, Bool.or_eq_true, anyAt_iff P Q d (i + 1)]
    constructor
    · rintro (h | ⟨j, h1, h2, h3⟩)
      · exact ⟨i, Nat.le_refl _, by omega, h⟩
      · exact ⟨j, by omega, by omega, h3⟩
    · rintro ⟨j, h1, h2, h3⟩
      by_cases e : j = i
      · subst e; exact .inl h3
      · exact .inr ⟨j, by omega, by omega, h3⟩
theorem anyAt_all (P Q : List Int) : anyAt P Q (P.length + Q.length) 0 = (P.any oddB || Q.any oddB) := by
  rw [Bool.eq_iff_iff, anyAt_iff, Bool.or_eq_true, List.any_eq_true, List.any_eq_true]
  constructor
  · rintro ⟨j, _, h2, h3⟩
    by_cases hj : j < P.length
    · unfold atW at h3
      rw [if_pos hj, List.getD_eq_getElem?_getD, List.getElem?_eq_getElem hj] at h3
      exact .inl ⟨_, List.getElem_mem hj, h3⟩
    · have hk : j - P.length < Q.length := by omega
      unfold atW at h3
      rw [if_neg hj, Nat.mod_eq_of_lt hk, List.getD_eq_getElem?_getD, List.getElem?_eq_getElem hk] at h3
      exact .inr ⟨_, List.getElem_mem hk, h3⟩
  · rintro (⟨v, hv, h⟩ | ⟨v, hv, h⟩)
    · obtain ⟨j, hj, rfl⟩ := List.getElem_of_mem hv
      refine ⟨j, Nat.zero_le _, by omega, ?_⟩
      unfold atW
      rw [if_pos hj, List.getD_eq_getElem?_getD, List.getElem?_eq_getElem hj]
      exact h
    · obtain ⟨j, hj, rfl⟩ := List.getElem_of_mem hv
      refine ⟨P.length + j, Nat.zero_le _, by omega, ?_⟩
      rw [atW_loop hj, List.getD_eq_getElem?_getD, List.getElem?_eq_getElem hj]
      exact h
theorem S17 {w : Wd} (h0 : (L w.p).length ≤ 1000) (h1 : (L w.l).length ≤ 1000) (σ : Store) : pureV CC 17 [vWd w] σ = some (.p (.int .i64 (wErr (L w.p) (L w.l)))) := by
  refine pureV_free (by simp [wd_view]) (by simp [wd_free]) (F17_call (r := (.p (.int .i64 (wErr (L w.p) (L w.l))), [])) ?_) rfl
  have hL := L17 (w := w) (by omega) 0 [] _ 0 rfl (Nat.zero_le _)
  rw [Nat.sub_zero, anyAt_all] at hL
  rw [F17_eq]
  simp only [box_wd, gG, fa26_0, fa26_1, shift_ptr, shift_pptr, Nat.zero_add, Nat.add_zero, pureFn_fn, List.append_nil, List.singleton_append, List.cons_append, List.nil_append, load24, wd_0, wd_1, (PL.sl _).len, b_eql, addN (show (L w.p).length + (L w.l).length ≤ 1000000 by omega), b_gtr]
  unfold wErr
  by_cases c1 : (L w.l).length = 0
  · have c1' : ((L w.l).length : Int) = 0 := by omega
    simp only [if_pos c1, eqT c1', gG]
  · have c1' : ¬ ((L w.l).length : Int) = 0 := by omega
    by_cases c2 : (L w.p).length + (L w.l).length > 60
    · have c2' : (((L w.p).length + (L w.l).length : Nat) : Int) > 60 := by omega
      simp only [if_neg c1, if_pos c2, eqF c1', gtT c2', gG]
    · have c2' : ¬ (((L w.p).length + (L w.l).length : Nat) : Int) > 60 := by omega
      simp only [if_neg c1, if_neg c2, eqF c1', gtF c2', gG]
      exact hL
def eqFrom (a b : List Int) : Nat → Nat → Bool
  | 0, _ => true
  | d + 1, i => decide (a.getD i 0 = b.getD i 0) && eqFrom a b d (i + 1)
theorem eqFrom_iff {a b : List Int} (h : a.length = b.length) : eqFrom a b a.length 0 = decide (a = b) := by
  have key : ∀ d i, a.length - i = d → i ≤ a.length → (eqFrom a b d i = true ↔ a.drop i = b.drop i) := by
    intro d
    induction d with
    | zero =>
      intro i hd hi
      rw [List.drop_eq_nil_of_le (by omega), List.drop_eq_nil_of_le (by omega)]
      simp [eqFrom]
    | succ d ih =>
      intro i hd hi
      rw [drop_cons (show i < a.length by omega), drop_cons (show i < b.length by omega), eqFrom, Bool.and_eq_true, decide_eq_true_iff, ih (i + 1) (by omega) (by omega), List.cons.injEq]
  rw [Bool.eq_iff_iff, key a.length 0 rfl (Nat.zero_le _), decide_eq_true_iff]
  simp
theorem L80 {o o' : OI} (h : (L o).length = (L o').length) (hl : (L o).length ≤ 100000) (lo : Nat) (σ : Store) : ∀ (d i : Nat), (L o).length - i = d → i ≤ (L o).length →
    f80_L0 guardT lo (.p (eSl o)) (.p (eSl o')) (N i) σ = some (.p (.bool (eqFrom (L o) (L o') d i)), σ)
  | 0, i, hd, hi => by
    rw [f80_L0_eq guardT rfl]
    simp (disch := omega) only [N, (PL.sl _).len, gG, b_lss, ltF, eqFrom]
  | d + 1, i, hd, hi => by
    have h1 : i < (L o).length := by omega
    have h2 : i < (L o').length := by omega
    have ih := L80 h hl lo σ d (i + 1) (by omega) (by omega)
    rw [f80_L0_eq guardT rfl]
    simp (disch := omega) only [N, (PL.sl _).len, gG, b_lss, ltT, (PL.sl o).idx h1, (PL.sl o').idx h2, load3, load1_getD h1, load1_getD h2, b_neq, eqFrom]
    by_cases e : (L o).getD i 0 = (L o').getD i 0
    · simp (disch := omega) only [eqT e, gG, add1, Bool.true_and]
      exact ih
    · simp only [eqF e, gG, Bool.false_and]
theorem S80 {o o' : OI} (hl : (L o).length ≤ 100000) (σ : Store) : pureV CC 80 [.p (eSl o), .p (eSl o')] σ = some (.p (.bool (decide (L o = L o')))) := by
  refine pureV_free (by simp [sl_view]) rfl (F80_call (r := (.p (.bool (decide (L o = L o'))), [])) ?_) rfl
  rw [F80_eq]
  simp only [(PL.sl _).len, gG, b_neq]
  by_cases h : (L o).length = (L o').length
  · have h' : ((L o).length : Int) = ((L o').length : Nat) := by omega
    have := L80 h hl 0 [] _ 0 rfl (Nat.zero_le _)
    rw [Nat.sub_zero, eqFrom_iff h] at this
    simp only [eqT h', gG]
    exact this
  · have h' : ¬ ((L o).length : Int) = ((L o').length : Nat) := by omega
    have hne : ¬ (L o = L o') := fun e => h (by rw [e])
    simp only [eqF h', gG, decide_eq_false hne]
theorem S33 {u w : Wd} (h0 : (L u.p).length ≤ 100000) (h1 : (L u.l).length ≤ 100000) (σ : Store) : pureV CC 33 [vWd u, vWd w] σ = some (.p (.bool (decide (L u.p = L w.p) && decide (L u.l = L w.l)))) := by
  refine pureV_free (by simp [wd_view]) (by simp [wd_free]) (F33_call (r := (.p (.bool (decide (L u.p = L w.p) && decide (L u.l = L w.l))), [])) ?_) rfl
  rw [F33_eq]
  simp only [box_wd, gG, fa26_0, fa26_1, shift_ptr, shift_pptr, Nat.zero_add, Nat.add_zero, pureFn_fn, List.append_nil, List.singleton_append, List.cons_append, List.nil_append, load24, wd_0, wd_1, S80 h0]
  cases decide (L u.p = L w.p) with
  | true => simp only [gG, shift_ptr, shift_pptr, Nat.zero_add, Nat.add_zero, pureFn_fn, List.append_nil, List.singleton_append, List.cons_append, List.nil_append, load24, wd_1, S80 h1, Bool.true_and]
  | false => simp only [gG, Bool.false_and]
end Go.D
end
/- Closed calls, worked out by the kernel one by one. -/
section
set_option linter.unusedVariables false
set_option maxRecDepth 100000
namespace Go.D

mutual
def eqPV : PV → PV → Bool
  | .bool a, .bool b => a == b
  | .int k n, .int k' m => k == k' && n == m
  | .nilsl, .nilsl => true
  | .sl a n cs, .sl b m ds => a == b && n == m && eqPVs cs ds
  | _, _ => false
def eqPVs : List PV → List PV → Bool
  | [], [] => true
  | a :: as', b :: bs => eqPV a b && eqPVs as' bs
  | _, _ => false
end
mutual
theorem eqPV_eq : ∀ (a b : PV), eqPV a b = true → a = b
  | .bool a, .bool b, h => by simp [eqPV] at h; rw [h]
  | .int k n, .int k' m, h => by
    simp [eqPV] at h
    rw [h.1, h.2]
  | .nilsl, .nilsl, h => rfl
  | .sl a n cs, .sl b m ds, h => by
    simp [eqPV] at h
    rw [h.1.1, h.1.2, eqPVs_eq cs ds h.2]
  | .bool _, .int .., h | .bool _, .str _, h | .bool _, .nilptr, h | .bool _, .nilsl, h | .bool _, .nilmap, h | .bool _, .nilfn, h | .bool _, .niliface, h | .bool _, .sl .., h => by simp [eqPV] at h
  | .int .., .bool _, h | .int .., .str _, h | .int .., .nilptr, h | .int .., .nilsl, h | .int .., .nilmap, h | .int .., .nilfn, h | .int .., .niliface, h | .int .., .sl .., h => by simp [eqPV] at h
  | .nilsl, .bool _, h | .nilsl, .int .., h | .nilsl, .str _, h | .nilsl, .nilptr, h | .nilsl, .nilmap, h | .nilsl, .nilfn, h | .nilsl, .niliface, h | .nilsl, .sl .., h => by simp [eqPV] at h
  | .sl .., .bool _, h | .sl .., .int .., h | .sl .., .str _, h | .sl .., .nilptr, h | .sl .., .nilsl, h | .sl .., .nilmap, h | .sl .., .nilfn, h | .sl .., .niliface, h => by simp [eqPV] at h
  | .str _, b, h | .nilptr, b, h | .nilmap, b, h | .nilfn, b, h | .niliface, b, h => by cases b <;> simp [eqPV] at h
theorem eqPVs_eq : ∀ (a b : List PV), eqPVs a b = true → a = b
  | [], [], h => rfl
  | a :: as', b :: bs, h => by
    simp [eqPVs] at h
    rw [eqPV_eq a b h.1, eqPVs_eq as' bs h.2]
  | [], _ :: _, h | _ :: _, [], h => by simp [eqPVs] at h
end

def flatD : DV → Option (List (Nat × PV))
  | .p v => some [(0, v)]
  | .agg cs => some (cs.filterMap fun c => match c with | .p v => some (1, v) | _ => none)
  | _ => none

def eqD1 : DV → DV → Bool
  | .p v, .p w => eqPV v w
  | _, _ => false
def eqD1s : List DV → List DV → Bool
  | [], [] => true
  | a :: as', b :: bs => eqD1 a b && eqD1s as' bs
  | _, _ => false
def eqD2 : DV → DV → Bool
  | .agg cs, .agg ds => eqD1s cs ds
  | a, b => eqD1 a b
def eqD2s : List DV → List DV → Bool
  | [], [] => true
  | a :: as', b :: bs => eqD2 a b && eqD2s as' bs
  | _, _ => false
def eqD : DV → DV → Bool
  | .tuple cs, .tuple ds => eqD2s cs ds
  | a, b => eqD2 a b

theorem eqD1_eq {a b : DV} (h : eqD1 a b = true) : a = b := by
  unfold eqD1 at h
  split at h
  · rw [eqPV_eq _ _ h]
  · exact absurd h (by simp)
theorem eqD1s_eq : ∀ {a b : List DV}, eqD1s a b = true → a = b
  | [], [], h => rfl
  | a :: as', b :: bs, h => by
    simp only [eqD1s, Bool.and_eq_true] at h
    rw [eqD1_eq h.1, eqD1s_eq h.2]
  | [], _ :: _, h => absurd h (by simp [eqD1s])
  | _ :: _, [], h => absurd h (by simp [eqD1s])
theorem eqD2_eq {a b : DV} (h : eqD2 a b = true) : a = b := by
  unfold eqD2 at h
  split at h
  · rw [eqD1s_eq h]
  · exact eqD1_eq h
theorem eqD2s_eq : ∀ {a b : List DV}, eqD2s a b = true → a = b
  | [], [], h => rfl
  | a :: as', b :: bs, h => by
    simp only [eqD2s, Bool.and_eq_true] at h
    rw [eqD2_eq h.1, eqD2s_eq h.2]
  | [], _ :: _, h => absurd h (by simp [eqD2s])
  | _ :: _, [], h => absurd h (by simp [eqD2s])
theorem eqD_eq {a b : DV} (h : eqD a b = true) : a = b := by
  unfold eqD at h
  split at h
  · rw [eqD2s_eq h]
  · exact eqD2_eq h

def runIs (P : Program) (pol : FuncId → FPol) (k : Nat) (f : FuncId) (args : List DV) (r : DV) : Bool :=
  match callK P pol k 0 f args [] with
  | some (v, σ) => match thawAll 0 σ v with
    | some v' => eqD v' r
    | none => false
  | none => false

theorem pureV_run {k : Nat} {f : FuncId} {args : List DV} {r : DV} {σ : Store} (h : runIs PP pol k f args r = true) (h1 : args.map view = args) (h2 : args.all rowFree = true) : pureV CC f args σ = some r := by
  unfold runIs at h
  split at h
  · rename_i v σ' hc
    split at h
    · rename_i v' ht
      exact pureV_free h1 h2 (callL_at hc) (ht.trans (by rw [eqD_eq h]))
    · exact absurd h (by simp)
  · exact absurd h (by simp)

end Go.D
end
/- Chapter 13: rows of numbers: concatenated, compacted in place, repeated. -/
section
set_option linter.unusedVariables false
set_option linter.unusedSimpArgs false
namespace Go.D
open Las
def ints (l : List Int) : List DV := (eInts l).map .p
theorem ints_len (l : List Int) : (ints l).length = l.length := by simp [ints, eInts]
theorem ints_app (a b : List Int) : ints a ++ ints b = ints (a ++ b) := by simp [ints, eInts]
theorem ints_take (l : List Int) (k : Nat) : (ints l).take k = ints (l.take k) := by simp [ints, eInts, List.map_take]
theorem ints_drop (l : List Int) (k : Nat) : (ints l).drop k = ints (l.drop k) := by simp [ints, eInts, List.map_drop]
theorem ints_all (l : List Int) : (ints l).all DV.one = true := by
  rw [List.all_eq_true]
  intro x hx
  simp only [ints, eInts, List.map_map, List.mem_map] at hx
  obtain ⟨v, _, rfl⟩ := hx
  rfl
theorem ints_pures (l : List Int) : pures (ints l) = some (eInts l) := pures_map _
theorem ints_get {l : List Int} {i : Nat} (h : i < l.length) : (ints l)[i]? = some (.p (.int .i64 (l.getD i 0))) := by
  simp [ints, eInts, List.getD_eq_getElem?_getD, h]
structure RowS (σ : Store) (r off : Nat) (l : List Int) : Prop where
  ex : ∃ A, σ[r]? = some (.mix (ints A)) ∧ (A.drop off).take l.length = l ∧ off + l.length ≤ A.length
theorem RowS.idx {σ : Store} {r off : Nat} {l : List Int} (h : RowS σ r off l) {i : Nat} (hi : i < l.length) : indexAddr PP 24 (.rsl r 1 off l.length) (.p (.int .i64 (i : Nat))) = some (.ptr r (off + i)) := by
  have h2 : (0 : Int) ≤ (i : Int) ∧ (i : Int) < (l.length : Nat) := by omega
  simp [indexAddr, u24, s3, h2]
theorem rs_len (r off n : Nat) (σ : Store) : len PP 24 (.rsl r 1 off n) σ = some (.p (.int .i64 (n : Nat))) := by simp [len, u24]
theorem rs_idx {r off n i : Nat} (hi : i < n) : indexAddr PP 24 (.rsl r 1 off n) (.p (.int .i64 (i : Nat))) = some (.ptr r (off + i)) := by
  have h2 : (0 : Int) ≤ (i : Int) ∧ (i : Int) < (n : Nat) := by omega
  simp [indexAddr, u24, s3, h2]
theorem rs_ld {σ : Store} {r i : Nat} {A : List Int} (h : σ[r]? = some (.mix (ints A))) (hi : i < A.length) : load1 (.ptr r i) σ = some (.p (.int .i64 (A.getD i 0))) :=
  load1_ptr h (ints_get hi)
theorem rs_st {σ : Store} {r i lo : Nat} {A : List Int} {v : Int} (h : σ[r]? = some (.mix (ints A))) (hi : i < A.length) (hlo : lo ≤ r) : store PP lo 3 (.ptr r i) (.p (.int .i64 v)) σ = some (σ.set r (.mix (ints (A.set i v)))) := by
  have e : splice (ints A) i [DV.p (.int .i64 v)] = ints (A.set i v) := by
    have h1 : [DV.p (.int .i64 v)] = ints [v] := rfl
    unfold splice
    rw [h1, ints_take, ints_len, ints_drop, ints_app, ints_app, List.set_eq_take_append_cons_drop, if_pos hi]
    simp
  have h2 : i + 1 ≤ (ints A).length := by rw [ints_len]; omega
  simp [store, s3, DV.cells, storeN, h, hlo, DV.one, h2, e]
theorem rs_take {r off n k : Nat} (hk : k ≤ n) : sliceOp PP 24 (.rsl r 1 off n) none (some (.p (.int .i64 (k : Nat)))) none = some (.rsl r 1 off k) := by
  have hb := bound_nat hk n
  simp [sliceOp, u24, s3, hb, show bound none 0 k = some 0 from rfl]
theorem rs_drop {r off n k : Nat} (hk : k ≤ n) : sliceOp PP 24 (.rsl r 1 off n) (some (.p (.int .i64 (k : Nat)))) none none = some (.rsl r 1 (off + k) (n - k)) := by
  have hb := bound_nat hk 0
  simp [sliceOp, u24, s3, hb, show bound none n n = some n from rfl]
theorem rs_app {σ : Store} {r k lo : Nat} {A l : List Int} {x : DV} (h : σ[r]? = some (.mix (ints A))) (hx : PL x l) (hk : k + l.length ≤ A.length) (hA : A.length ≤ 100000) (hlo : lo ≤ r) :
    append PP lo true 24 24 (.rsl r 1 0 k) x σ = some (.rsl r 1 0 (k + l.length), σ.set r (.mix (ints (A.take k ++ l ++ A.drop (k + l.length))))) := by
  have e : splice (ints A) k (ints l) = ints (A.take k ++ l ++ A.drop (k + l.length)) := by
    unfold splice
    rw [ints_take, ints_len, ints_drop, ints_app, ints_app]
  have h1 : 0 + (k + l.length) * 1 ≤ (ints A).length := by rw [ints_len]; omega
  have h2 : (k + l.length) * 8 ≤ 140737488355328 ∧ k + l.length ≤ 140737488355328 ∧ 0 < 8 ∧ 1 = 1 ∧ lo ≤ r := ⟨by omega, by omega, by decide, rfl, hlo⟩
  have hs : source σ 1 x = some (l.length, ints l) := hx.src σ
  simp only [append, src24, Bool.true_eq_false, if_false, u24, s3, bytes3, zero3, List.length_singleton, ne_eq, not_true_eq_false, Nat.one_ne_zero, or_self, hs, appRow, h, ints_all, if_true, Nat.zero_add, Nat.mul_one, e]
  rw [if_pos ⟨h2.1, h2.2.1, h2.2.2.1, trivial, hlo⟩, if_pos (by rw [ints_len]; omega)]
theorem rs_lit {a l : List Int} {x : DV} (hx : PL x l) (hl : a.length + l.length ≤ 100000) (h0 : l ≠ []) (lo : Nat) (σ : Store) :
    append PP lo true 24 24 (.p (.sl true a.length (eInts a))) x σ = some (.rsl σ.length 1 0 (a ++ l).length, σ ++ [.mix (ints (a ++ l))]) := by
  have hb0 : ¬ (l.length = 0) := fun e => h0 (List.length_eq_zero_iff.1 e)
  have h2 : (a.length + l.length) * 8 ≤ 140737488355328 ∧ a.length + l.length ≤ 140737488355328 ∧ 0 < 8 ∧ (eInts a).length = a.length * 1 := ⟨by omega, by omega, by decide, by rw [ints_length]; omega⟩
  have hs : source σ 1 x = some (l.length, ints l) := hx.src σ
  have e : (eInts a).map DV.p ++ ints l = ints (a ++ l) := ints_app a l
  simp only [append, src24, Bool.true_eq_false, if_false, u24, s3, bytes3, zero3, List.length_singleton, ne_eq, not_true_eq_false, Nat.one_ne_zero, or_self, hs, appLit, if_pos h2, if_neg hb0, if_true, e, List.length_append]
theorem dups_zero (n : Nat) : dups [DV.p (pI 0)] n = ints (List.replicate n 0) := by
  induction n with
  | zero => rfl
  | succ n ih => rw [dups, ih, List.replicate_succ]; rfl
theorem u3 : PP.underlying 3 = some (.int .i64) := Eq.trans (by kernel_rfl) rfl
theorem src3 : srcType PP 3 = false := Eq.trans (by kernel_rfl) rfl
theorem S137 {s : Nat} (h0 : 0 < s) (hs : s ≤ 100000) (lo : Nat) (σ : Store) : CC lo 137 [.p .nilsl, .p (.int .i64 (s : Nat))] σ = some (.rsl σ.length 1 0 0, σ ++ [.mix (ints (List.replicate s 0))]) := by
  refine F137_call ?_
  have q0 : ¬ ((s : Int) < 0) := by omega
  have q1 : (s : Int) > 0 := by omega
  have c1 : capOp PP 24 (.p .nilsl) = some (.p (.int .i64 0)) := Eq.trans (by kernel_rfl) rfl
  have l1 : ∀ σ, len PP 24 (.p .nilsl) σ = some (.p (.int .i64 0)) := fun σ => by simp [len, u24]
  have w1 : binOp PP .sub 3 (.p (.int .i64 0)) (.p (.int .i64 0)) = some (.p (.int .i64 0)) := Eq.trans (by kernel_rfl) rfl
  have w2 : binOp PP .sub 3 (.p (.int .i64 (s : Nat))) (.p (.int .i64 0)) = some (.p (.int .i64 (s : Nat))) := by
    rw [b_sub, Int.sub_zero, wrap_ok (by omega) (by omega)]
  have sl1 : sliceOp PP 24 (.p .nilsl) none (some (.p (.int .i64 0))) none = some (.p .nilsl) := Eq.trans (by kernel_rfl) rfl
  have ap : append PP lo true 24 3 (.p .nilsl) (.p (.int .i64 (s : Nat))) σ = some (.rsl σ.length 1 0 s, σ ++ [.mix (ints (List.replicate s 0))]) := by
    have hc : (1 : Nat) = 1 ∧ 0 < 1 ∧ 0 < 8 ∧ 0 < (s : Int) ∧ (s : Int) ≤ 140737488355328 ∧ s * 8 ≤ 140737488355328 := ⟨rfl, by decide, by decide, by omega, by omega, by omega⟩
    simp [append, src3, appMake, u3, u24, s3, bytes3, zero3, dups_zero]
    omega
  have sl2 := rs_take (r := σ.length) (off := 0) (n := s) (k := 0) (Nat.zero_le _)
  have sl2' : sliceOp PP 24 (.rsl σ.length 1 0 s) none (some (.p (.int .i64 0))) none = some (.rsl σ.length 1 0 0) := sl2
  rw [F137_eq]
  simp only [b_lss, ltF q0, gG, f137_J0_eq, c1, l1, w1, w2, b_gtr, gtT q1, sl1, ap, sl2', f137_J1_eq]
theorem u130 : PP.underlying 130 = some (.slice 24) := Eq.trans (by kernel_rfl) rfl
theorem s24 : size? PP 24 = some 1 := Eq.trans (by kernel_rfl) rfl
theorem bs130_2 (a b : OI) (σ : Store) : buildSlice PP none 130 2 [(0, .p (eSl a)), (1, .p (eSl b))] σ = some (.p (.sl true 2 [eSl a, eSl b]), σ) := by
  cases a <;> cases b <;> exact Eq.trans (by kernel_rfl) rfl
theorem S84 {a b : OI} (h0 : 0 < (L a).length + (L b).length) (hl : (L a).length + (L b).length ≤ 10000) (ex : Bool) (lo : Nat) (σ : Store) (hlo : lo ≤ σ.length) :
    CC lo 84 [.p (.sl ex 2 [eSl a, eSl b])] σ = some (.rsl σ.length 1 0 (L a ++ L b).length, σ ++ [.mix (ints (L a ++ L b))]) := by
  refine F84_call ?_
  have ln : ∀ σ, len PP 130 (.p (.sl ex 2 [eSl a, eSl b])) σ = some (.p (.int .i64 2)) := fun σ => by simp [len, u130]
  have i0 : indexAddr PP 130 (.p (.sl ex 2 [eSl a, eSl b])) (.p (.int .i64 0)) = some (.pptr [eSl a, eSl b] 0) := Eq.trans (by kernel_rfl) rfl
  have i1 : indexAddr PP 130 (.p (.sl ex 2 [eSl a, eSl b])) (.p (.int .i64 1)) = some (.pptr [eSl a, eSl b] 1) := Eq.trans (by kernel_rfl) rfl
  have d0 : ∀ σ, load1 (.pptr [eSl a, eSl b] 0) σ = some (.p (eSl a)) := fun σ => load1_pptr rfl σ
  have d1 : ∀ σ, load1 (.pptr [eSl a, eSl b] 1) σ = some (.p (eSl b)) := fun σ => load1_pptr rfl σ
  have z0 : binOp PP .add 3 (.p (.int .i64 0)) (.p (.int .i64 ((L a).length : Nat))) = some (.p (.int .i64 ((L a).length : Nat))) := by
    rw [b_add, Int.zero_add, wrap_ok (by omega) (by omega)]
  have n0 : ¬ (((L a).length : Int) < 0) := by omega
  have n1 : ¬ ((((L a).length + (L b).length : Nat) : Int) < 0) := by omega
  have p0 : binOp PP .add 3 (.p (.int .i64 0)) (.p (.int .i64 1)) = some (.p (.int .i64 1)) := Eq.trans (by kernel_rfl) rfl
  have p1 : binOp PP .add 3 (.p (.int .i64 1)) (.p (.int .i64 1)) = some (.p (.int .i64 2)) := Eq.trans (by kernel_rfl) rfl
  have t0 : (0 : Int) < 2 := by decide
  have t1 : (1 : Int) < 2 := by decide
  have t2 : ¬ (2 : Int) < 2 := by decide
  have hz : (List.replicate ((L a).length + (L b).length) (0 : Int)).length = (L a).length + (L b).length := by simp
  have a1 := rs_app (σ := σ ++ [.mix (ints (List.replicate ((L a).length + (L b).length) 0))]) (r := σ.length) (k := 0) (lo := lo) (x := .p (eSl a)) get_snoc (PL.sl a) (by rw [hz]; omega) (by rw [hz]; omega) hlo
  simp only [List.take_zero, List.nil_append, Nat.zero_add, List.set_append_right _ _ (Nat.le_refl _), Nat.sub_self, List.set_cons_zero] at a1
  have hz2 : (L a ++ (List.replicate ((L a).length + (L b).length) (0 : Int)).drop (L a).length).length = (L a).length + (L b).length := by simp
  have a2 := rs_app (σ := σ ++ [.mix (ints (L a ++ (List.replicate ((L a).length + (L b).length) 0).drop (L a).length))]) (r := σ.length) (k := (L a).length) (lo := lo) (x := .p (eSl b)) get_snoc (PL.sl b) (by rw [hz2]; omega) (by rw [hz2]; omega) hlo
  have e1 : (L a ++ (List.replicate ((L a).length + (L b).length) (0 : Int)).drop (L a).length).take (L a).length = L a := by rw [List.take_append_of_le_length (Nat.le_refl _), List.take_length]
  have e2 : (L a ++ (List.replicate ((L a).length + (L b).length) (0 : Int)).drop (L a).length).drop ((L a).length + (L b).length) = [] := List.drop_eq_nil_of_le (by rw [hz2]; omega)
  rw [e1, e2, List.append_nil] at a2
  simp only [List.set_append_right _ _ (Nat.le_refl _), Nat.sub_self, List.set_cons_zero] at a2
  rw [F84_eq, ln]
  simp only [obind]
  rw [f84_L0_eq guardT rfl]
  simp only [b_lss, ltT t0, gG, i0, load24, d0, (PL.sl a).len, z0, ltF n0, f84_J0_eq, p0]
  rw [f84_L0_eq guardT rfl]
  simp only [b_lss, ltT t1, gG, i1, load24, d1, (PL.sl b).len, addN (show (L a).length + (L b).length ≤ 1000000 by omega), ltF n1, f84_J0_eq, p1]
  rw [f84_L0_eq guardT rfl]
  simp only [b_lss, ltF t2, gG, plainFn, List.append_nil, S137 h0 (by omega), ln]
  rw [f84_L1_eq guardT rfl]
  simp only [b_lss, ltT t0, gG, i0, load24, d0, a1, p0]
  rw [f84_L1_eq guardT rfl]
  simp only [b_lss, ltT t1, gG, i1, load24, d1, a2, p1]
  rw [f84_L1_eq guardT rfl]
  simp only [b_lss, ltF t2, gG, List.length_append]
theorem rs_clear {σ : Store} {r off n lo : Nat} {A : List Int} (h : σ[r]? = some (.mix (ints A))) (hn : off + n ≤ A.length) (hlo : lo ≤ r) :
    clearOp PP lo 24 (.rsl r 1 off n) σ = some (if n = 0 then σ else σ.set r (.mix (ints (A.take off ++ List.replicate n 0 ++ A.drop (off + n))))) := by
  by_cases h0 : n = 0
  · simp [clearOp, u24, h0]
  · have e : splice (ints A) off (ints (List.replicate n 0)) = ints (A.take off ++ List.replicate n 0 ++ A.drop (off + n)) := by
      unfold splice
      rw [ints_take, ints_len, List.length_replicate, ints_drop, ints_app, ints_app]
    have h1 : off + (ints (List.replicate n 0)).length ≤ (ints A).length := by rw [ints_len, ints_len, List.length_replicate]; exact hn
    simp [clearOp, u24, h0, s3, zero3, dups_zero, storeN, hlo, h, h1, ints_all, e]
theorem once_take_succ {l : List Int} {k : Nat} (h0 : 0 < k) (hk : k < l.length) : once (l.take (k + 1)) = once (l.take k) ++ (if l.getD k 0 = l.getD (k - 1) 0 then [] else [l.getD k 0]) := by
  have e : l.take (k + 1) = l.take k ++ [l.getD k 0] := by
    rw [List.take_succ_eq_append_getElem hk, List.getD_eq_getElem?_getD, List.getElem?_eq_getElem hk]; rfl
  have hne : l.take k ≠ [] := fun e => by
    have := congrArg List.length e
    rw [List.length_take, List.length_nil] at this; omega
  have hlast : lastI (l.take k) = l.getD (k - 1) 0 := by
    unfold lastI
    rw [show (l.take k).length = k by rw [List.length_take]; omega]
    simp [List.getD_eq_getElem?_getD, List.getElem?_take, show k - 1 < k by omega]
  rw [e, once_append hne, hlast, dd]
  congr 1
theorem once_len (l : List Int) : (once l).length ≤ l.length := by
  have hd : ∀ (p : Int) (l : List Int), (dd p l).length ≤ l.length := by
    intro p l
    induction l generalizing p with
    | nil => exact Nat.le_refl _
    | cons x l ih =>
      rw [dd]
      split
      · have := ih p; simp; omega
      · have := ih x; simp; omega
  cases l with
  | nil => exact Nat.le_refl _
  | cons x l => have := hd x l; simp [once]; exact this
section
variable {l : List Int} {r lo : Nat} (hl : l.length ≤ 100000) (hlo : lo ≤ r)
include hl hlo
theorem L83_1 {k0 : Nat} (hk0 : 0 < k0) (hkl : k0 < l.length) : ∀ (d k2 k : Nat) (A : List Int) (σ : Store), l.length - k0 - k2 = d → 1 ≤ k2 → k0 + k2 ≤ l.length → A.length = l.length → σ[r]? = some (.mix (ints A)) →
    A.take k = once (l.take (k0 + k2)) → k = (once (l.take (k0 + k2))).length → k ≤ k0 + k2 - 1 → A.drop (k0 + k2 - 1) = l.drop (k0 + k2 - 1) →
    ∃ σ' Z, f83_L1 guardT lo (.rsl r 1 0 l.length) (N k) (.rsl r 1 k0 (l.length - k0)) (N k2) σ = some (.rsl r 1 0 (once l).length, σ') ∧ σ'[r]? = some (.mix (ints (once l ++ Z))) ∧ (∀ j, j ≠ r → σ'[j]? = σ[j]?) ∧ σ'.length = σ.length
  | 0, k2, k, A, σ, hd, h1, h2, hA, hr, hp, hk, hle, hs => by
    have e : k0 + k2 = l.length := by omega
    rw [e, List.take_length] at hp hk
    have hcl := rs_clear (σ := σ) (r := r) (off := k) (n := l.length - k) (lo := lo) hr (by omega) hlo
    have e2 : A.drop (k + (l.length - k)) = [] := List.drop_eq_nil_of_le (by omega)
    rw [e2, List.append_nil, hp] at hcl
    rw [f83_L1_eq guardT rfl, ← hk]
    have hlt := get_lt hr
    by_cases h0 : l.length - k = 0
    · rw [if_pos h0] at hcl
      refine ⟨σ, [], ?_, ?_, fun _ _ => rfl, rfl⟩
      · simp (disch := omega) only [N, rs_len, gG, b_lss, ltF, rs_drop, Nat.zero_add, hcl, rs_take]
      · rw [List.append_nil, ← hp, List.take_of_length_le (by omega)]; exact hr
    · rw [if_neg h0] at hcl
      refine ⟨_, List.replicate (l.length - k) 0, ?_, by rw [List.getElem?_set_self hlt], fun j hj => by rw [List.getElem?_set_ne (fun e => hj e.symm)], by simp⟩
      simp (disch := omega) only [N, rs_len, gG, b_lss, ltF, rs_drop, Nat.zero_add, hcl, rs_take]
  | d + 1, k2, k, A, σ, hd, h1, h2, hA, hr, hp, hk, hle, hs => by
    have hlt := get_lt hr
    have hb : k0 + k2 < l.length := by omega
    have g1 : A.getD (k0 + k2) 0 = l.getD (k0 + k2) 0 := by
      have := congrArg (fun q => List.getD q 1 0) hs
      simpa [List.getD_eq_getElem?_getD, List.getElem?_drop, show k0 + k2 - 1 + 1 = k0 + k2 by omega] using this
    have g0 : A.getD (k0 + (k2 - 1)) 0 = l.getD (k0 + k2 - 1) 0 := by
      have := congrArg (fun q => List.getD q 0 0) hs
      simpa [List.getD_eq_getElem?_getD, List.getElem?_drop, show k0 + (k2 - 1) = k0 + k2 - 1 by omega] using this
    have hsucc := once_take_succ (l := l) (k := k0 + k2) (by omega) hb
    have ld1 := rs_ld (i := k0 + k2) hr (by omega)
    have ld0 := rs_ld (i := k0 + (k2 - 1)) hr (by omega)
    rw [g1] at ld1
    rw [g0] at ld0
    have hdrop : ∀ B : List Int, B.drop (k0 + k2 - 1) = l.drop (k0 + k2 - 1) → B.drop (k0 + (k2 + 1) - 1) = l.drop (k0 + (k2 + 1) - 1) := fun B h => by
      have := congrArg (List.drop 1) h
      rw [List.drop_drop, List.drop_drop] at this
      rwa [show k0 + k2 - 1 + 1 = k0 + (k2 + 1) - 1 by omega] at this
    rw [f83_L1_eq guardT rfl]
    by_cases he : l.getD (k0 + k2) 0 = l.getD (k0 + k2 - 1) 0
    · rw [if_pos he, List.append_nil] at hsucc
      obtain ⟨σ', Z, r1, r2⟩ := L83_1 hk0 hkl d (k2 + 1) k A σ (by omega) (by omega) (by omega) hA hr (by rw [← Nat.add_assoc, hsucc]; exact hp) (by rw [← Nat.add_assoc, hsucc]; exact hk) (by omega) (hdrop A hs)
      refine ⟨σ', Z, ?_, r2⟩
      rw [← r1]
      simp (disch := omega) only [N, rs_len, gG, b_lss, ltT, rs_idx, load3, ld1, sub1, ld0, b_neq, eqT he, f83_J0_eq, add1]
    · rw [if_neg he] at hsucc
      have hkA : k < A.length := by omega
      have hst := rs_st (v := l.getD (k0 + k2) 0) hr hkA hlo
      have hAs : (A.set k (l.getD (k0 + k2) 0)).take (k + 1) = A.take k ++ [l.getD (k0 + k2) 0] := by
        rw [List.take_succ_eq_append_getElem (by simpa using hkA), List.take_set_of_le (Nat.le_refl _)]
        simp
      have hdr : (A.set k (l.getD (k0 + k2) 0)).drop (k0 + (k2 + 1) - 1) = l.drop (k0 + (k2 + 1) - 1) := by
        rw [List.drop_set_of_lt (by omega)]
        exact hdrop A hs
      obtain ⟨σ', Z, r1, r2, r3, r4⟩ := L83_1 hk0 hkl d (k2 + 1) (k + 1) (A.set k (l.getD (k0 + k2) 0)) (σ.set r (.mix (ints (A.set k (l.getD (k0 + k2) 0))))) (by omega) (by omega) (by omega) (by simpa using hA) (by rw [List.getElem?_set_self hlt])
        (by rw [← Nat.add_assoc, hsucc, hAs, hp]) (by rw [← Nat.add_assoc, hsucc, List.length_append, ← hk]; rfl) (by omega) hdr
      refine ⟨σ', Z, ?_, r2, fun j hj => by rw [r3 j hj, List.getElem?_set_ne (fun e => hj e.symm)], by rw [r4]; simp⟩
      rw [← r1]
      simp (disch := omega) only [N, rs_len, gG, b_lss, ltT, rs_idx, load3, ld1, sub1, ld0, b_neq, eqF he, Nat.zero_add, hst, f83_J0_eq, add1]
theorem L83_0 : ∀ (d k : Nat) (σ : Store), l.length - k = d → 1 ≤ k → k ≤ l.length → σ[r]? = some (.mix (ints l)) → once (l.take k) = l.take k →
    ∃ σ' Z, f83_L0 guardT lo (.rsl r 1 0 l.length) (N k) σ = some (.rsl r 1 0 (once l).length, σ') ∧ σ'[r]? = some (.mix (ints (once l ++ Z))) ∧ (∀ j, j ≠ r → σ'[j]? = σ[j]?) ∧ σ'.length = σ.length
  | 0, k, σ, hd, h1, h2, hr, ho => by
    have e : k = l.length := by omega
    subst e
    rw [List.take_length] at ho
    refine ⟨σ, [], ?_, by rw [List.append_nil, ho]; exact hr, fun _ _ => rfl, rfl⟩
    rw [f83_L0_eq guardT rfl]
    simp (disch := omega) only [N, rs_len, gG, b_lss, ltF, ho]
  | d + 1, k, σ, hd, h1, h2, hr, ho => by
    have hb : k < l.length := by omega
    have ld1 := rs_ld (i := k) hr hb
    have ld0 := rs_ld (i := k - 1) hr (by omega)
    have hsucc := once_take_succ (l := l) (k := k) (by omega) hb
    have ec : l.take (k + 1) = l.take k ++ [l.getD k 0] := by
      rw [List.take_succ_eq_append_getElem hb, List.getD_eq_getElem?_getD, List.getElem?_eq_getElem hb]; rfl
    rw [f83_L0_eq guardT rfl]
    by_cases he : l.getD k 0 = l.getD (k - 1) 0
    · rw [if_pos he, List.append_nil, ho] at hsucc
      obtain ⟨σ', Z, r1, r2⟩ := L83_1 hl hlo (k0 := k) (by omega) hb _ 1 k l σ rfl (Nat.le_refl _) (by omega) rfl hr (by rw [hsucc]) (by rw [hsucc]; simp; omega) (by omega) rfl
      refine ⟨σ', Z, ?_, r2⟩
      rw [← r1]
      simp (disch := omega) only [N, rs_len, gG, b_lss, ltT, rs_idx, Nat.zero_add, load3, ld1, sub1, ld0, b_eql, eqT he, rs_drop]
      rfl
    · rw [if_neg he, ho, ← ec] at hsucc
      obtain ⟨σ', Z, r1, r2⟩ := L83_0 d (k + 1) σ (by omega) (by omega) (by omega) hr hsucc
      refine ⟨σ', Z, ?_, r2⟩
      rw [← r1]
      simp (disch := omega) only [N, rs_len, gG, b_lss, ltT, rs_idx, Nat.zero_add, load3, ld1, sub1, ld0, b_eql, eqF he, add1]
theorem S83 {σ : Store} (hr : σ[r]? = some (.mix (ints l))) :
    ∃ σ' Z, CC lo 83 [.rsl r 1 0 l.length] σ = some (.rsl r 1 0 (once l).length, σ') ∧ σ'[r]? = some (.mix (ints (once l ++ Z))) ∧ (∀ j, j ≠ r → σ'[j]? = σ[j]?) ∧ σ'.length = σ.length := by
  by_cases h : l.length < 2
  · have ho : once l = l := by
      match l, h with
      | [], _ => rfl
      | [x], _ => rfl
    have h' : (l.length : Int) < 2 := by omega
    refine ⟨σ, [], F83_call ?_, by rw [List.append_nil, ho]; exact hr, fun _ _ => rfl, rfl⟩
    rw [F83_eq]
    simp only [rs_len, gG, b_lss, ltT h', ho]
  · have h' : ¬ (l.length : Int) < 2 := by omega
    have ho : once (l.take 1) = l.take 1 := by
      match l with
      | [] => rfl
      | x :: l => simp [once, dd]
    obtain ⟨σ', Z, r1, r2⟩ := L83_0 hl hlo _ 1 σ rfl (Nat.le_refl _) (by omega) hr ho
    refine ⟨σ', Z, F83_call ?_, r2⟩
    rw [F83_eq]
    simp only [rs_len, gG, b_lss, ltF h']
    exact r1
end
end Go.D
end
/- Chapter 13: the shortest form and the word without stuttering, in the program. -/
section
set_option linter.unusedVariables false
set_option linter.unusedSimpArgs false
namespace Go.D
open Las
theorem wrapU {n : Nat} (h : n ≤ 1000000) : IntKind.u64.wrap (n : Int) = (n : Int) := by
  unfold IntKind.wrap IntKind.bits IntKind.signed
  simp
  omega
theorem andU {a : Nat} (h : a ≤ 1000000) (t : TypeId) : binOp PP .and t (.p (.int .u64 (a : Nat))) (.p (.int .u64 4294967295)) = some (.p (.int .u64 (a : Nat))) := by
  have e : (BitVec.ofInt 64 (a : Int) &&& BitVec.ofInt 64 4294967295).toNat = a := by
    have h1 : (BitVec.ofInt 64 (a : Int)).toNat = a := by rw [BitVec.ofInt_natCast, BitVec.toNat_ofNat]; omega
    have h2 : (BitVec.ofInt 64 4294967295).toNat = 2 ^ 32 - 1 := by decide
    rw [BitVec.toNat_and, h1, h2, Nat.and_two_pow_sub_one_eq_mod]
    omega
  have e2 : binInt .and .u64 (a : Int) 4294967295 = some (.int .u64 (a : Nat)) := by
    show some (PV.int .u64 (IntKind.u64.wrap ((BitVec.ofInt 64 (a : Int) &&& BitVec.ofInt 64 4294967295).toNat : Int))) = _
    rw [e, wrapU h]
  show (if IntKind.u64 = IntKind.u64 then (binInt .and .u64 (a : Int) 4294967295).map DV.p else none) = _
  rw [if_pos rfl, e2]
  rfl
theorem shrU {a : Nat} (h : a ≤ 1000000) (t : TypeId) : binOp PP .shr t (.p (.int .u64 (a : Nat))) (.p (.int .u64 32)) = some (.p (.int .u64 ((0 : Nat) : Int))) := by
  have e : (a : Int).fdiv (2 ^ 32) = 0 := by
    rw [Int.fdiv_eq_ediv_of_nonneg _ (by decide)]
    omega
  show (some (PV.int .u64 ((a : Int).fdiv (2 ^ 32)))).map DV.p = _
  rw [e]
  rfl
theorem mulU {a b : Nat} (h : a * b ≤ 1000000) (t : TypeId) : binOp PP .mul t (.p (.int .u64 (a : Nat))) (.p (.int .u64 (b : Nat))) = some (.p (.int .u64 ((a * b : Nat) : Int))) := by
  have e : IntKind.u64.wrap ((a : Int) * (b : Int)) = ((a * b : Nat) : Int) := by rw [← Int.natCast_mul, wrapU h]
  show some (DV.p (PV.int .u64 (IntKind.u64.wrap ((a : Int) * (b : Int))))) = _
  rw [e]
theorem addU {a b : Nat} (h : a + b ≤ 1000000) (t : TypeId) : binOp PP .add t (.p (.int .u64 (a : Nat))) (.p (.int .u64 (b : Nat))) = some (.p (.int .u64 ((a + b : Nat) : Int))) := by
  have e : IntKind.u64.wrap ((a : Int) + (b : Int)) = ((a + b : Nat) : Int) := by rw [← Int.natCast_add, wrapU h]
  show some (DV.p (PV.int .u64 (IntKind.u64.wrap ((a : Int) + (b : Int))))) = _
  rw [e]
theorem S174 {a b : Nat} (ha : a ≤ 1000000) (hb : b ≤ 1000000) (h : a * b ≤ 1000000) (σ : Store) : pureV CC 174 [.p (.int .u64 (a : Nat)), .p (.int .u64 (b : Nat))] σ = some (.tuple [.p (.int .u64 ((0 : Nat) : Int)), .p (.int .u64 ((a * b : Nat) : Int))]) := by
  refine pureV_free rfl rfl (F174_call (r := (.tuple [.p (.int .u64 ((0 : Nat) : Int)), .p (.int .u64 ((a * b : Nat) : Int))], [])) ?_) rfl
  have m0 : ∀ n : Nat, 0 * n ≤ 1000000 := fun n => by omega
  have m1 : ∀ n : Nat, n * 0 ≤ 1000000 := fun n => by omega
  have z : (0 : Nat) ≤ 1000000 := by decide
  have zz : (0 : Nat) + 0 ≤ 1000000 := by decide
  have q1 := mulU (m0 b) 197
  have q2 := mulU (m1 a) 197
  have q3 := mulU (m0 0) 197
  rw [Nat.zero_mul] at q1
  rw [Nat.mul_zero] at q2
  have q4 := addU zz 197
  rw [F174_eq]
  simp only [andU ha, andU hb, shrU ha, shrU hb, obind, mulU h, q1, shrU h, q4, andU z, shrU z, q2, q3]
theorem S156 {a b : Nat} (ha : a ≤ 1000000) (hb : b ≤ 1000000) (h : a * b ≤ 1000000) (σ : Store) : pureV CC 156 [.p (.int .u64 (a : Nat)), .p (.int .u64 (b : Nat))] σ = some (.tuple [.p (.int .u64 0), .p (.int .u64 ((a * b : Nat) : Int))]) := by
  refine pureV_free rfl rfl (F156_call (r := (.tuple [.p (.int .u64 0), .p (.int .u64 ((a * b : Nat) : Int))], [])) ?_) rfl
  have e0 : ∀ a b : DV, extractV (.tuple [a, b]) 0 = some a := fun _ _ => Eq.trans rfl rfl
  have e1 : ∀ a b : DV, extractV (.tuple [a, b]) 1 = some b := fun _ _ => Eq.trans rfl rfl
  rw [F156_eq]
  simp only [gG, shift_ptr, shift_pptr, Nat.zero_add, Nat.add_zero, pureFn_fn, List.append_nil, List.singleton_append, List.cons_append, List.nil_append, S174 ha hb h, e0, e1]
  rfl
theorem u179 : PP.underlying 179 = some (.int .u64) := Eq.trans (by kernel_rfl) rfl
theorem cvU {n : Nat} (h : n ≤ 1000000) : convert PP 3 179 (.p (.int .i64 (n : Nat))) = some (.p (.int .u64 (n : Nat))) := by
  simp [convert, u3, u179, wrapU h]
theorem cvI {n : Nat} (h : n ≤ 1000000) : convert PP 179 3 (.p (.int .u64 (n : Nat))) = some (.p (.int .i64 (n : Nat))) := by
  have e : IntKind.i64.wrap (n : Int) = (n : Int) := wrap_ok (by omega) (by omega)
  simp [convert, u3, u179, e]
theorem b_gtrU (P : Program) (t : TypeId) (a b : Int) : binOp P .gtr t (.p (.int .u64 a)) (.p (.int .u64 b)) = some (.p (.bool (decide (a > b)))) := Eq.trans rfl rfl
theorem mk24 {n : Nat} (h : n ≤ 1000000) (σ : Store) : makeSlice PP false 24 (.p (.int .i64 (n : Nat))) (.p (.int .i64 (n : Nat))) σ = some (.rsl σ.length 1 0 n, σ ++ [.arr (eInts (List.replicate n 0))]) := by
  have hp : pures (ints (List.replicate n 0)) = some (eInts (List.replicate n 0)) := pures_map _
  have hc : (0 : Int) ≤ (n : Int) ∧ (n : Int) ≤ (n : Int) ∧ (n : Int) ≤ 140737488355328 ∧ ((8 : Nat) : Int) * (n : Int) ≤ 140737488355328 ∧ 1 = 1 := ⟨by omega, by omega, by omega, by omega, rfl⟩
  simp [makeSlice, u24, s3, bytes3, zero3, newRow, dups_zero, hp]
  omega
theorem splice_ints (A B : List Int) (k : Nat) : splice (eInts A) k (eInts B) = eInts (A.take k ++ B ++ A.drop (k + B.length)) := by
  unfold splice
  rw [eInts_take, ints_length, eInts_drop, eInts_app, eInts_app]
theorem cp_pl {σ : Store} {r lo T : Nat} {A l : List Int} {x : DV} (h : σ[r]? = some (.arr (eInts A))) (hx : PL x l) (h0 : 0 < l.length) (hl : l.length ≤ T) (hA : A.length = T) (hlo : lo ≤ r) :
    copyOp PP lo 24 (.rsl r 1 0 T) x σ = some (N l.length, σ.set r (.arr (eInts (l ++ A.drop l.length)))) := by
  have hs := hx.src σ
  have hm : min l.length T = l.length := Nat.min_eq_left hl
  have hn : ¬ (l.length * 1 = 0) := by omega
  have ht : ((eInts l).map DV.p).take (l.length * 1) = ints l := by
    show (ints l).take (l.length * 1) = ints l
    rw [Nat.mul_one, List.take_of_length_le (by rw [ints_len]; exact Nat.le_refl _)]
  have hb : 0 + (ints l).length ≤ (eInts A).length := by rw [ints_len, ints_length]; omega
  have e := splice_ints A l 0
  rw [List.take_zero, List.nil_append, Nat.zero_add] at e
  simp only [copyOp, u24, s3, hs, if_true, hm, if_neg hn, ht, storeN, if_pos hlo, h, ints_pures, if_pos hb, e, Option.map_some, N]
theorem cp_self {σ : Store} {r lo T n : Nat} {A : List Int} (h : σ[r]? = some (.arr (eInts A))) (h0 : 0 < n) (hn : n < T) (hA : A.length = T) (hlo : lo ≤ r) :
    copyOp PP lo 24 (.rsl r 1 n (T - n)) (.rsl r 1 0 n) σ = some (N (min n (T - n)), σ.set r (.arr (eInts (A.take n ++ A.take (min n (T - n)) ++ A.drop (n + min n (T - n)))))) := by
  generalize hk : min n (T - n) = k
  have hkn : k ≤ n := by omega
  have hkT : n + k ≤ T := by omega
  have hk0 : ¬ (k * 1 = 0) := by omega
  have hl : 0 + n * 1 ≤ (eInts A).length := by rw [ints_length]; omega
  have hs : source σ 1 (.rsl r 1 0 n) = some (n, ints (A.take n)) := by
    simp only [source, if_true, loadN, h, if_pos hl]
    simp only [List.drop_zero, Nat.mul_one, eInts_take, Option.map_some]
    rfl
  have ht : (ints (A.take n)).take (k * 1) = ints (A.take k) := by
    rw [Nat.mul_one, ints_take, List.take_take, Nat.min_eq_left hkn]
  have hlen : (A.take k).length = k := by rw [List.length_take]; omega
  have hb : n + (ints (A.take k)).length ≤ (eInts A).length := by rw [ints_len, ints_length, hlen]; omega
  have e := splice_ints A (A.take k) n
  rw [hlen] at e
  simp only [copyOp, u24, s3, hs, if_true, hk, if_neg hk0, ht, storeN, if_pos hlo, h, ints_pures, if_pos hb, e, Option.map_some, N]
theorem L113 {R : List Int} {r lo T : Nat} (hR : R.length = T) (hT : T ≤ 100000) (hlo : lo ≤ r) : ∀ (d n : Nat) (A : List Int) (σ : Store), T - n ≤ d → 0 < n → n ≤ T → A.length = T → σ[r]? = some (.arr (eInts A)) → A.take n = R.take n →
    (∀ i, n + i < T → R.getD (n + i) 0 = R.getD i 0) → ∃ σ', f113_L0 guardT lo (.rsl r 1 0 T) (N n) σ = some (.rsl r 1 0 T, σ') ∧ σ'[r]? = some (.arr (eInts R))
  | d, n, A, σ, hd, h0, hn, hA, hr, hp, hper => by
    by_cases hlt : n < T
    · cases d with
      | zero => omega
      | succ d =>
        have hc := cp_self (lo := lo) hr h0 hlt hA hlo
        generalize hk : min n (T - n) = k at hc
        have hkn : k ≤ n := by omega
        have hk0 : 0 < k := by omega
        have hl1 : (A.take n).length = n := by rw [List.length_take]; omega
        have hl2 : (A.take k).length = k := by rw [List.length_take]; omega
        have hAk : A.take k = R.take k := by
          have := congrArg (List.take k) hp
          rwa [List.take_take, List.take_take, Nat.min_eq_left hkn] at this
        have hnew : (A.take n ++ A.take k ++ A.drop (n + k)).take (n + k) = R.take (n + k) := by
          have ha : (A.take n ++ A.take k).length = n + k := by rw [List.length_append, hl1, hl2]
          have hb : (A.take n ++ A.take k ++ A.drop (n + k)).take (n + k) = A.take n ++ A.take k := by
            rw [List.take_append_of_le_length (by omega), List.take_of_length_le (by omega)]
          have hc2 : R.take (n + k) = R.take n ++ (R.drop n).take k := List.take_add
          have hd2 : R.take k = (R.drop n).take k := by
            refine List.ext_getElem (by rw [List.length_take, List.length_take, List.length_drop]; omega) fun i h1 h2 => ?_
            rw [List.length_take] at h1
            have := hper i (by omega)
            simp only [List.getElem_take, List.getElem_drop]
            simp only [List.getD_eq_getElem?_getD] at this
            rw [List.getElem?_eq_getElem (by omega), List.getElem?_eq_getElem (by omega)] at this
            exact this.symm
          rw [hb, hc2, hp, hAk, hd2]
        obtain ⟨σ', r1, r2⟩ := L113 hR hT hlo d (n + k) (A.take n ++ A.take k ++ A.drop (n + k)) (σ.set r (.arr (eInts (A.take n ++ A.take k ++ A.drop (n + k))))) (by omega) (by omega) (by omega) (by simp; omega) (by rw [List.getElem?_set_self (get_lt hr)]) hnew (fun i hi => by
          have hkk : k = n := by omega
          rw [hkk] at hi ⊢
          rw [show n + n + i = n + (n + i) by omega, hper (n + i) (by omega), hper i (by omega)])
        refine ⟨σ', ?_, r2⟩
        rw [← r1, f113_L0_eq guardT rfl]
        simp (disch := omega) only [N, rs_len, gG, b_lss, ltT, rs_drop, rs_take, Nat.zero_add, hc, addN]
    · have e : n = T := by omega
      subst e
      rw [List.take_of_length_le (by omega), List.take_of_length_le (by omega)] at hp
      subst hp
      refine ⟨σ, ?_, hr⟩
      rw [f113_L0_eq guardT rfl]
      simp (disch := omega) only [N, rs_len, gG, b_lss, ltF]
theorem S113 {x : DV} {l : List Int} {c : Nat} (hx : PL x l) (h0 : l ≠ []) (hc : 1 ≤ c) (h60 : l.length * c ≤ 60) (σ : Store) : pureV CC 113 [x, .p (.int .i64 (c : Nat))] σ = some (.p (eSl (some (rep l c)))) := by
  have hl := List.length_pos_iff.2 h0
  obtain ⟨o, ho, hol⟩ := hx.vw
  have hle : l.length ≤ l.length * c := Nat.le_mul_of_pos_right _ hc
  have hcle : c ≤ l.length * c := Nat.le_mul_of_pos_left _ hl
  have hRl : (rep l c).length = l.length * c := by rw [rep_len, Nat.mul_comm]
  have hpo : PL (.p (eSl o)) l := by rw [← hol]; exact PL.sl o
  have hr0 : ([Row.arr (eInts (List.replicate (l.length * c) 0))] : Store)[0]? = some (.arr (eInts (List.replicate (l.length * c) 0))) := rfl
  have hcp := cp_pl (σ := [.arr (eInts (List.replicate (l.length * c) 0))]) (r := 0) (lo := 0) (T := l.length * c) hr0 hpo hl hle (by simp) (Nat.le_refl _)
  have hmk := mk24 (n := l.length * c) (by omega) []
  simp only [List.length_nil, List.nil_append] at hmk
  simp only [List.set_cons_zero] at hcp
  obtain ⟨σ', r1, r2⟩ := L113 (R := rep l c) (r := 0) (lo := 0) (T := l.length * c) hRl (by omega) (Nat.le_refl _) _ l.length (l ++ (List.replicate (l.length * c) 0).drop l.length) [.arr (eInts (l ++ (List.replicate (l.length * c) 0).drop l.length))] (Nat.le_refl _) hl hle (by simp; omega) rfl
    (by
      rw [List.take_append_of_le_length (Nat.le_refl _), List.take_length]
      refine List.ext_getElem (by rw [List.length_take, hRl]; omega) fun i h1 h2 => ?_
      have := rep_get (l := l) (k := c) (i := i) (by rw [Nat.mul_comm]; omega)
      rw [Nat.mod_eq_of_lt h1, List.getD_eq_getElem?_getD, List.getD_eq_getElem?_getD, List.getElem?_eq_getElem h1, List.getElem?_eq_getElem (by rw [hRl]; omega)] at this
      simp only [List.getElem_take]
      exact this.symm) (fun i hi => by
      rw [rep_get (by rw [Nat.mul_comm]; exact hi), rep_get (by rw [Nat.mul_comm]; omega), Nat.add_mod_left])
  rw [pureV_view (args' := [.p (eSl o), .p (.int .i64 (c : Nat))]) (by simp only [List.map_cons, List.map_nil, ho]; rfl) (by simp only [List.map_cons, List.map_nil, sl_view]; rfl)]
  have ht : thawAll 0 σ' (.rsl 0 1 0 (l.length * c)) = some (.p (eSl (some (rep l c)))) := by
    have hb : 0 + l.length * c * 1 ≤ (eInts (rep l c)).length := by rw [ints_length, hRl]; omega
    have he : ((eInts (rep l c)).drop 0).take (l.length * c * 1) = eInts (rep l c) := by
      rw [List.drop_zero, List.take_of_length_le (by rw [ints_length, hRl]; omega)]
    simp only [thawAll, thawPart, thaw, thaw1, thawP, Nat.zero_le, if_true, r2, if_pos hb, he, loosens_ints, Option.map_some, eSl, hRl]
  refine pureV_free (by simp only [List.map_cons, List.map_nil, sl_view]; rfl) rfl (F113_call (r := (.rsl 0 1 0 (l.length * c), σ')) ?_) ht
  have q0 : ¬ ((c : Int) < 0) := by omega
  have q1 : ¬ ((0 : Int) > 0) := by decide
  have q2 : ¬ (((l.length * c : Nat) : Int) > 9223372036854775807) := by omega
  have e0 : ∀ a b : DV, extractV (.tuple [a, b]) 0 = some a := fun _ _ => Eq.trans rfl rfl
  have e1 : ∀ a b : DV, extractV (.tuple [a, b]) 1 = some b := fun _ _ => Eq.trans rfl rfl
  rw [F113_eq]
  simp (disch := omega) only [b_lss, ltF q0, gG, f113_J0_eq, hpo.len, cvU, shift_ptr, shift_pptr, Nat.zero_add, Nat.add_zero, pureFn_fn, List.append_nil, List.singleton_append, List.cons_append, List.nil_append, S156 (show l.length ≤ 1000000 by omega) (show c ≤ 1000000 by omega) (show l.length * c ≤ 1000000 by omega), e0, e1, b_gtrU, gtF q1, gtF q2, f113_J1_eq, cvI, hmk, hcp]
  exact r1
theorem L136 {o o' : OI} (h : (L o).length = (L o').length) (hl : (L o).length ≤ 100000) (lo : Nat) (σ : Store) : ∀ (d i : Nat), (L o).length - i = d → i ≤ (L o).length →
    f136_L0 guardT lo (.p (eSl o)) (.p (eSl o')) (N (L o).length) (N i) σ = some (.p (.bool (eqFrom (L o) (L o') d i)), σ)
  | 0, i, hd, hi => by
    rw [f136_L0_eq guardT rfl]
    simp (disch := omega) only [N, gG, b_lss, ltF, eqFrom]
  | d + 1, i, hd, hi => by
    have h1 : i < (L o).length := by omega
    have h2 : i < (L o').length := by omega
    have ih := L136 h hl lo σ d (i + 1) (by omega) (by omega)
    rw [f136_L0_eq guardT rfl]
    simp (disch := omega) only [N, gG, b_lss, ltT, (PL.sl o).idx h1, (PL.sl o').idx h2, load3, load1_getD h1, load1_getD h2, b_neq, eqFrom]
    by_cases e : (L o).getD i 0 = (L o').getD i 0
    · simp (disch := omega) only [eqT e, gG, add1, Bool.true_and]
      exact ih
    · simp only [eqF e, gG, Bool.false_and]
theorem S136 {o o' : OI} (hl : (L o).length ≤ 100000) (σ : Store) : pureV CC 136 [.p (eSl o), .p (eSl o')] σ = some (.p (.bool (decide (L o = L o')))) := by
  refine pureV_free (by simp [sl_view]) rfl (F136_call (r := (.p (.bool (decide (L o = L o'))), [])) ?_) rfl
  rw [F136_eq]
  simp only [(PL.sl _).len, gG, b_neq]
  by_cases h : (L o).length = (L o').length
  · have h' : ((L o).length : Int) = ((L o').length : Nat) := by omega
    have := L136 h hl 0 [] _ 0 rfl (Nat.zero_le _)
    rw [Nat.sub_zero, eqFrom_iff h] at this
    simp only [eqT h', gG]
    exact this
  · have h' : ¬ ((L o).length : Int) = ((L o').length : Nat) := by omega
    have hne : ¬ (L o = L o') := fun e => h (by rw [e])
    simp only [eqF h', gG, decide_eq_false hne]
theorem per_rep {l : List Int} {n : Nat} (h0 : 0 < n) (hn : n ≤ l.length) (hm : l.length % n = 0) : (rep (l.take n) (l.length / n) = l) ↔ Per l n := by
  have hl : (l.take n).length = n := by rw [List.length_take]; omega
  have hd := Nat.div_mul_cancel (Nat.dvd_of_mod_eq_zero hm)
  constructor
  · intro h
    refine ⟨hm, fun i hi hni => ?_⟩
    have g : ∀ j, j < l.length → l.getD j 0 = (l.take n).getD (j % n) 0 := fun j hj => by
      have := rep_get (l := l.take n) (k := l.length / n) (i := j) (by rw [hl, hd]; exact hj)
      rw [h, hl] at this
      exact this
    rw [g i hi, g (i - n) (by omega), Nat.mod_eq_sub_mod hni]
  · intro h
    exact (rep_take h0 hn h).symm
theorem f82_L0_ok {o : OI} (hl : (L o).length ≤ 60) {lo : Nat} {x2 x3 : DV} {σ : Store} : ∀ (d n : Nat), n + d = (L o).length → 1 ≤ n → ∃ y, f82_L0 guardT lo x2 x3 (.p (eSl o)) (N n) σ = f82_L1 guardT lo x2 x3 y σ ∧ PL y ((L o).take (minFrom (L o) d n))
  | 0, n, hd, hn => by
    refine ⟨.p (eSl o), ?_, ?_⟩
    · rw [f82_L0_eq guardT rfl]
      simp (disch := omega) only [N, (PL.sl o).len, gG, b_lss, ltF, f82_J0_eq]
    · unfold minFrom
      rw [List.take_of_length_le (by omega)]
      exact PL.sl o
  | d + 1, n, hd, hn => by
    have hlt : n < (L o).length := by omega
    obtain ⟨y, hy1, hy2⟩ := (PL.sl o).take (k := n) (by omega)
    have hne : (L o).take n ≠ [] := take_ne (fun e => by rw [e] at hlt; simp at hlt) hn
    have hlen : ((L o).take n).length = n := by rw [List.length_take]; omega
    rw [f82_L0_eq guardT rfl]
    simp (disch := omega) only [N, (PL.sl o).len, gG, b_lss, ltT, remN, b_eql]
    by_cases hm : (L o).length % n = 0
    · have hm' : (((L o).length % n : Nat) : Int) = 0 := by omega
      have hd2 := Nat.div_mul_cancel (Nat.dvd_of_mod_eq_zero hm)
      have hdp : 1 ≤ (L o).length / n := Nat.div_pos (by omega) (by omega)
      have h113 := S113 (c := (L o).length / n) hy2 hne hdp (by rw [hlen, Nat.mul_comm, hd2]; exact hl) σ
      have h136 := S136 (o := some (rep ((L o).take n) ((L o).length / n))) (o' := o) (by show (rep _ _).length ≤ _; rw [rep_len, hlen, hd2]; omega) σ
      have ed : decide (L (some (rep ((L o).take n) ((L o).length / n))) = L o) = decide (Per (L o) n) := decide_eq_decide.2 (per_rep (by omega) (by omega) hm)
      rw [ed] at h136
      simp (disch := omega) only [eqT hm', gG, (PL.sl o).len, quoN, hy1, shift_ptr, shift_pptr, Nat.zero_add, Nat.add_zero, pureFn_fn, List.append_nil, List.singleton_append, List.cons_append, List.nil_append, h113, h136]
      by_cases hp : Per (L o) n
      · refine ⟨y, ?_, ?_⟩
        · simp only [decide_eq_true hp, gG, f82_J0_eq]
        · unfold minFrom
          rw [if_pos hp]
          exact hy2
      · obtain ⟨y', h1, h2⟩ := f82_L0_ok (o := o) hl (lo := lo) (x2 := x2) (x3 := x3) (σ := σ) d (n + 1) (by omega) (by omega)
        refine ⟨y', ?_, ?_⟩
        · simp (disch := omega) only [decide_eq_false hp, gG, add1]
          exact h1
        · unfold minFrom
          rw [if_neg hp]
          exact h2
    · have hm' : ¬ (((L o).length % n : Nat) : Int) = 0 := by omega
      have hp : ¬ Per (L o) n := fun h => hm h.1
      obtain ⟨y', h1, h2⟩ := f82_L0_ok (o := o) hl (lo := lo) (x2 := x2) (x3 := x3) (σ := σ) d (n + 1) (by omega) (by omega)
      refine ⟨y', ?_, ?_⟩
      · simp (disch := omega) only [eqF hm', gG, add1]
        exact h1
      · unfold minFrom
        rw [if_neg hp]
        exact h2
theorem dl_take (l : List Int) : l.take (l.length - 1) = l.dropLast := by rw [List.dropLast_eq_take]
theorem thaw_wd {x y : DV} {P Q : List Int} (hx : PL x P) (hy : PL y Q) (m : Nat) (σ : Store) : ∃ u : Wd, thawAll m σ (.agg [x, y]) = some (vWd u) ∧ L u.p = P ∧ L u.l = Q := by
  obtain ⟨o, h1, h2⟩ := hx.thaw m σ
  obtain ⟨o', h3, h4⟩ := hy.thaw m σ
  exact ⟨⟨o, o'⟩, by simp [thawAll, thawPart, mapO, h1, h3, vWd], h2, h4⟩
theorem f82_L1_ok {lo t : Nat} (hlo : lo ≤ t) : ∀ (k : Nat) (x y : DV) (P Q : List Int) (σ : Store) (z : List DV), P.length ≤ k → PL x P → PL y Q → Q ≠ [] → P.length + Q.length ≤ 1000 → σ[t]? = some (.mix z) → z.length = 2 → lo ≤ σ.length →
    ∃ x' y' σ', f82_L1 guardT lo (.ptr t 0) x y σ = some (.agg [x', y'], σ') ∧ PL x' (rot P.length P Q).1 ∧ PL y' (rot P.length P Q).2
  | k, x, y, P, Q, σ, z, hk, hx, hy, hQ, hl, ht, hz, hls => by
    have hq := List.length_pos_iff.2 hQ
    have hend : ¬ (P ≠ [] ∧ lastI P = lastI Q) → ∀ b : Bool, b = false → ∃ x' y' σ', (condK (.p (.bool b)) (none : Option (DV × Store)) ((build PP 26 [(0, x), (1, y)]).bind fun x76 => (store PP lo 26 (.ptr t 0) x76 σ).bind fun σ26 => (cellV PP 26 (.ptr t 0) σ26).bind fun v0 => some (v0, σ26))) = some (.agg [x', y'], σ') ∧ PL x' (rot P.length P Q).1 ∧ PL y' (rot P.length P Q).2 := fun hc b hb => by
      subst hb
      have e : rot P.length P Q = (P, Q) := by
        cases hP : P.length with
        | zero => rfl
        | succ n => unfold rot; rw [if_neg hc]
      rw [e]
      refine ⟨x, y, σ.set t (.mix [x, y]), ?_, hx, hy⟩
      have h1 := st26 (c := [x, y]) ht hlo hz rfl (by simp [hx.one.1, hy.one.1])
      have h2 := cell26 (σ := σ.set t (.mix [x, y])) (r := t) (c := [x, y]) (by rw [List.getElem?_set_self (get_lt ht)]) rfl
      simp only [condK_false, bld26 hx.one.1 hy.one.1, obind, h1, h2]
    by_cases hP : P = []
    · subst hP
      have q0 : ¬ (((0 : Nat) : Int) > 0) := by decide
      obtain ⟨x', y', σ', r1, r2, r3⟩ := hend (fun h => h.1 rfl) false rfl
      refine ⟨x', y', σ', ?_, r2, r3⟩
      rw [f82_L1_eq guardT rfl]
      simp only [hx.len, gG, b_gtr, List.length_nil, gtF q0]
      simpa only [condK_false] using r1
    · have hp := List.length_pos_iff.2 hP
      have q0 : (P.length : Int) > 0 := by omega
      have i1 := hx.idx (i := P.length - 1) (by omega)
      have i2 := hy.idx (i := Q.length - 1) (by omega)
      have l1 := load1_getD (l := P) (i := P.length - 1) (by omega) σ
      have l2 := load1_getD (l := Q) (i := Q.length - 1) (by omega) σ
      have e1 : P.getD (P.length - 1) 0 = lastI P := rfl
      have e2 : Q.getD (Q.length - 1) 0 = lastI Q := rfl
      rw [e1] at l1
      rw [e2] at l2
      rw [f82_L1_eq guardT rfl]
      simp (disch := omega) only [hx.len, hy.len, gG, b_gtr, gtT q0, sub1, i1, load3, l1, i2, l2, b_eql]
      by_cases hc : lastI P = lastI Q
      · obtain ⟨p', hp1, hp2⟩ := hx.take (k := P.length - 1) (by omega)
        obtain ⟨q', hq1, hq2⟩ := hy.take (k := Q.length - 1) (by omega)
        rw [dl_take] at hp2 hq2
        obtain ⟨n', σ1, a1, a2, a3⟩ := hq2.app (a := [lastI Q]) (by simp; omega) σ.length σ
        have ht1 : σ1[t]? = some (.mix z) := by
          rcases a3 with rfl | rfl
          · exact ht
          · exact get_old ht
        have hl1 : lo ≤ σ1.length := by
          rcases a3 with rfl | rfl
          · exact hls
          · simp; omega
        cases k with
        | zero => omega
        | succ k =>
          obtain ⟨x', y', σ', r1, r2, r3⟩ := f82_L1_ok hlo k p' n' P.dropLast ([lastI Q] ++ Q.dropLast) σ1 z (by simp; omega) hp2 a2 (by simp) (by simp; omega) ht1 hz hl1
          have er : rot P.length P Q = rot P.dropLast.length P.dropLast ([lastI Q] ++ Q.dropLast) := by
            rw [List.length_dropLast]
            obtain ⟨m, hm⟩ : ∃ m, P.length = m + 1 := ⟨P.length - 1, by omega⟩
            rw [hm]
            conv => lhs; unfold rot
            rw [if_pos ⟨hP, hc⟩]
            rfl
          rw [er]
          refine ⟨x', y', σ', ?_, r2, r3⟩
          rw [← r1]
          have ab : append PP σ.length false 24 24 (.p (.sl true 1 [.int .i64 (lastI Q)])) q' σ = some (n', σ1) := a1
          simp (disch := omega) only [eqT hc, gG, hy.len, hx.len, sub1, hp1, i2, load3, l2, bs24_1, hq1, ab]
      · obtain ⟨x', y', σ', r1, r2, r3⟩ := hend (fun h => hc h.2) false rfl
        refine ⟨x', y', σ', ?_, r2, r3⟩
        simp only [eqF hc, gG]
        simpa only [condK_false] using r1
theorem C82 {x y : DV} {oa ob : OI} {lo : Nat} {σ : Store} (hlo : lo ≤ σ.length) (hx : x.one = true) (hy : y.one = true)
    (h1 : ∀ ext, pureV CC 78 [x] (σ ++ ext) = some (.p (eSl oa))) (h2 : ∀ ext, pureV CC 78 [y] (σ ++ ext) = some (.p (eSl ob))) (hne : L ob ≠ []) (hl : (L oa).length + (L ob).length ≤ 1000) (hb : (L ob).length ≤ 60) :
    ∃ x' y' σ', CC lo 82 [.agg [x, y]] σ = some (.agg [x', y'], σ') ∧ PL x' (short (L oa) (L ob)).1 ∧ PL y' (short (L oa) (L ob)).2 := by
  have hlb := List.length_pos_iff.2 hne
  have g0 : ((σ ++ [Row.mix [x, y]]) ++ [Row.mix [.p .nilsl, .p .nilsl]])[σ.length]? = some (.mix [x, y]) := get_old get_snoc
  have g1 : ((σ ++ [Row.mix [x, y]]) ++ [Row.mix [.p .nilsl, .p .nilsl]])[(σ ++ [Row.mix [x, y]]).length]? = some (.mix [.p .nilsl, .p .nilsl]) := get_snoc
  have p1 : pureV CC 78 [x] ((σ ++ [Row.mix [x, y]]) ++ [Row.mix [.p .nilsl, .p .nilsl]]) = some (.p (eSl oa)) := by rw [List.append_assoc]; exact h1 _
  have p2 : pureV CC 78 [y] ((σ ++ [Row.mix [x, y]]) ++ [Row.mix [.p .nilsl, .p .nilsl]]) = some (.p (eSl ob)) := by rw [List.append_assoc]; exact h2 _
  obtain ⟨q, q1, q2⟩ := f82_L0_ok (o := ob) hb (lo := lo) (x2 := .ptr (σ ++ [Row.mix [x, y]]).length 0) (x3 := .p (eSl oa)) (σ := (σ ++ [Row.mix [x, y]]) ++ [Row.mix [.p .nilsl, .p .nilsl]]) ((L ob).length - 1) 1 (by omega) (Nat.le_refl _)
  have hm := minP_ok hne
  obtain ⟨x', y', σ', r1, r2, r3⟩ := f82_L1_ok (lo := lo) (t := (σ ++ [Row.mix [x, y]]).length) (by simp; omega) _ (.p (eSl oa)) q (L oa) ((L ob).take (minP (L ob))) _ _ (Nat.le_refl _) (PL.sl oa) q2 (take_ne hne hm.1) (by rw [List.length_take]; omega) g1 rfl (by simp; omega)
  refine ⟨x', y', σ', F82_call ?_, r2, r3⟩
  have hbx : boxV (.agg [x, y]) = some [x, y] := by
    have e : (DV.agg [x, y]).cells = [x, y] := rfl
    simp [boxV, e, hx, hy]
  rw [F82_eq]
  simp only [hbx, gG, zero26, fa26_0, fa26_1, shift_ptr, shift_pptr, Nat.zero_add, Nat.add_zero, pureFn_fn, List.append_nil, List.singleton_append, List.cons_append, List.nil_append, load24, load1_ptr (off := 0) g0 (v := x) rfl, load1_ptr (off := 1) g0 (v := y) rfl, p1, p2]
  exact q1.trans r1
theorem S82 {w : Wd} (hne : L w.l ≠ []) (hl : (L w.p).length + (L w.l).length ≤ 60) (σ : Store) : ∃ u : Wd, pureV CC 82 [vWd w] σ = some (vWd u) ∧ (L u.p, L u.l) = short (L w.p) (L w.l) := by
  obtain ⟨x', y', σ', h1, h2, h3⟩ := C82 (x := .p (eSl w.p)) (y := .p (eSl w.l)) (oa := w.p) (ob := w.l) (lo := 0) (σ := []) (Nat.le_refl _) rfl rfl (fun _ => S78 (by omega) _) (fun _ => S78 (by omega) _) hne (by omega) (by omega)
  obtain ⟨u, u1, u2, u3⟩ := thaw_wd h2 h3 0 σ'
  exact ⟨u, pureV_free (by simp [wd_view]) (by simp [wd_free]) h1 u1, by rw [u2, u3]⟩
end Go.D
end
/- Chapter 13: Shortest and Unstuttered, in the program and in the reference. -/
section
set_option linter.unusedVariables false
set_option linter.unusedSimpArgs false
namespace Go.D
open Las
def Out (σ : Store) (lo sz n : Nat) (cs : List PV) (x : DV) : Prop :=
  cs.length = n * sz ∧ ((n = 0 ∧ x = .p .nilsl) ∨ (n ≠ 0 ∧ ∃ r ver, x = .osl r ver sz n cs ∧ σ[r]? = some (.tok ver) ∧ lo ≤ r))
def Others (σ σ' : Store) (x : DV) : Prop := ∀ i row, σ[i]? = some row → (∀ r ver sz n cs, x = .osl r ver sz n cs → i ≠ r) → σ'[i]? = some row
theorem Out.zero {σ : Store} {lo sz : Nat} : Out σ lo sz 0 [] (.p .nilsl) := ⟨by simp, .inl ⟨rfl, rfl⟩⟩
theorem Others.mix {σ σ' : Store} {lo sz n : Nat} {cs : List PV} {x : DV} (h : Others σ σ' x) (ho : Out σ lo sz n cs x) {i : Nat} {row : Row} (hi : σ[i]? = some row) (hr : ∀ v, row ≠ .tok v) : σ'[i]? = some row := by
  refine h i row hi ?_
  rintro r ver sz' n' cs' rfl rfl
  rcases ho.2 with ⟨_, h2⟩ | ⟨_, r2, ver2, h2, h3, _⟩
  · cases h2
  · injection h2 with e1
    subst e1
    rw [hi] at h3
    injection h3 with h3
    exact hr _ h3
theorem Out.push {σ : Store} {t e lo sz b n : Nat} {z : List DV} {cs vs : List PV} {x : DV} (hs : srcType PP t = true) (hu : PP.underlying t = some (.slice e)) (h1 : size? PP e = some sz) (h2 : bytes? PP e = some b) (h3 : zeroOf PP e = some z)
    (h4 : z.length = sz) (hz : 0 < sz) (hb : 0 < b) (hb2 : b ≤ 1000) (hv : vs.length = sz) (ho : Out σ lo sz n cs x) (hn : n ≤ 1000000) (hlo : lo ≤ σ.length) :
    ∃ x' σ', append PP lo false t t x (.p (.sl true 1 vs)) σ = some (x', σ') ∧ Out σ' lo sz (n + 1) (cs ++ vs) x' ∧ Others σ σ' x ∧ σ.length ≤ σ'.length := by
  have hsrc : source σ sz (.p (.sl true 1 vs)) = some (1, vs.map DV.p) := by simp [source, hv]
  have hz0 : ¬ (z.length ≠ sz ∨ sz = 0) := by omega
  obtain ⟨hc, ho⟩ := ho
  rcases ho with ⟨rfl, rfl⟩ | ⟨hn0, r, ver, rfl, hr, hl⟩
  · refine ⟨.osl σ.length 0 sz 1 vs, σ ++ [.tok 0], ?_, ⟨by simp [hc, hv], .inr ⟨by simp, σ.length, 0, ?_, get_snoc, hlo⟩⟩, ?_, by simp⟩
    · have : b ≤ 140737488355328 := by omega
      simp only [append, hs, hu, h1, h2, h3, hz0, hsrc, appNil]
      simp [this, hb, pures_map, h4, hz, Nat.ne_of_gt hz]
    · have : cs = [] := List.length_eq_zero_iff.1 (by simpa using hc)
      rw [this]; simp
    · intro i row hi _
      exact get_old hi
  · refine ⟨.osl r (ver + 1) sz (n + 1) (cs ++ vs), σ.set r (.tok (ver + 1)), ?_, ⟨by simp [hc, hv, Nat.add_mul], .inr ⟨by simp, r, ver + 1, rfl, ?_, hl⟩⟩, ?_, by simp⟩
    · have e1 : (n + 1) * b ≤ 140737488355328 := Nat.le_trans (Nat.mul_le_mul (show n + 1 ≤ 1000001 by omega) hb2) (by decide)
      have e2 : n + 1 ≤ 140737488355328 := by omega
      simp only [append, hs, hu, h1, h2, h3, hz0, hsrc, appTok]
      simp [e1, e2, hb, hc, hl, hr, pures_map, h4, Nat.ne_of_gt hz]
    · rw [List.getElem?_set_self (get_lt hr)]
    · intro i row hi hne
      rw [List.getElem?_set_ne (fun e => hne _ _ _ _ _ rfl e.symm)]
      exact hi
theorem Out.twAll {σ : Store} {lo sz n : Nat} {cs : List PV} {x : DV} (ho : Out σ lo sz n cs x) (m : Nat) : thawAll m σ x = some (.p (if n = 0 then .nilsl else .sl false n (loosens cs))) := by
  rcases ho.2 with ⟨rfl, rfl⟩ | ⟨hn, r, ver, rfl, _, _⟩
  · rfl
  · simp [thawAll, thawPart, thaw, thaw1, thawP, hn]
theorem Out.vw {σ : Store} {lo sz n : Nat} {cs : List PV} {x : DV} (ho : Out σ lo sz n cs x) : view x = .p (if n = 0 then .nilsl else .sl false n (loosens cs)) := by
  rcases ho.2 with ⟨rfl, rfl⟩ | ⟨hn, r, ver, rfl, _, _⟩
  · rfl
  · simp [view, viewCell, hn]
theorem Out.push24 {σ : Store} {lo n : Nat} {cs : List PV} {v : PV} {x : DV} (ho : Out σ lo 1 n cs x) (hn : n ≤ 1000000) (hlo : lo ≤ σ.length) :
    ∃ x' σ', append PP lo false 24 24 x (.p (.sl true 1 [v])) σ = some (x', σ') ∧ Out σ' lo 1 (n + 1) (cs ++ [v]) x' ∧ Others σ σ' x ∧ σ.length ≤ σ'.length :=
  Out.push src24 u24 s3 bytes3 zero3 rfl (by decide) (by decide) (by decide) rfl ho hn hlo
theorem wErr_zero {P Q : List Int} (h : wErr P Q = 0) : Q ≠ [] ∧ P.length + Q.length ≤ 60 ∧ (∀ v ∈ P, oddB v = false) ∧ ∀ v ∈ Q, oddB v = false := by
  unfold wErr at h
  split at h
  · exact absurd h (by decide)
  · rename_i h1
    split at h
    · exact absurd h (by decide)
    · rename_i h2
      split at h
      · exact absurd h (by decide)
      · rename_i h3
        rw [Bool.not_eq_true, Bool.or_eq_false_iff, List.any_eq_false, List.any_eq_false] at h3
        exact ⟨fun e => h1 (by rw [e]; rfl), by omega, fun v hv => (Bool.not_eq_true _).mp (h3.1 v hv), fun v hv => (Bool.not_eq_true _).mp (h3.2 v hv)⟩
abbrev W0 : Wd := ⟨none, none⟩
theorem bld26_0 : build PP 26 [] = some (vWd W0) := Eq.trans (by kernel_rfl) rfl
theorem thaw_we (u : Wd) (e : Int) (m : Nat) (σ : Store) : thawAll m σ (.tuple [vWd u, .p (.int .i64 e)]) = some (.tuple [vWd u, .p (.int .i64 e)]) := by
  simp [thawAll, mapO, thawPart, vWd, thaw, thaw1, thawP, loosen_sl, loosen]
theorem st_wd {σ : Store} {r lo : Nat} {z : List DV} (u : Wd) (h : σ[r]? = some (.mix z)) (hlo : lo ≤ r) (hz : z.length = 2) : store PP lo 26 (.ptr r 0) (vWd u) σ = some (σ.set r (.mix [.p (eSl u.p), .p (eSl u.l)])) := st26 h hlo hz rfl rfl
theorem ce_wd {σ : Store} {r : Nat} (u : Wd) (hr : r < σ.length) : cellV PP 26 (.ptr r 0) (σ.set r (.mix [.p (eSl u.p), .p (eSl u.l)])) = some (vWd u) := cell26 (by rw [List.getElem?_set_self hr]) rfl
theorem S31 {w : Wd} (h0 : (L w.p).length ≤ 1000) (h1 : (L w.l).length ≤ 1000) (σ : Store) : ∃ u : Wd, pureV CC 31 [vWd w] σ = some (.tuple [vWd u, .p (.int .i64 (wErr (L w.p) (L w.l)))]) ∧
    (wErr (L w.p) (L w.l) ≠ 0 → u = W0) ∧ (wErr (L w.p) (L w.l) = 0 → (L u.p, L u.l) = short (L w.p) (L w.l)) := by
  have h15 := S15 h0 h1 [.mix [.p .nilsl, .p .nilsl]]
  by_cases hE : wErr (L w.p) (L w.l) = 0
  · obtain ⟨e1, e2, _⟩ := wErr_zero hE
    obtain ⟨u, u1, u2⟩ := S82 e1 e2 [.mix [.p .nilsl, .p .nilsl]]
    refine ⟨u, ?_, fun h => absurd hE h, fun _ => u2⟩
    have q1 := st_wd (σ := [.mix [.p .nilsl, .p .nilsl]]) (r := 0) (lo := 0) u rfl (Nat.le_refl _) rfl
    have q2 := ce_wd (σ := [.mix [.p .nilsl, .p .nilsl]]) (r := 0) u (by decide)
    rw [hE] at h15 ⊢
    refine pureV_free (by simp [wd_view]) (by simp [wd_free]) (F31_call (r := (.tuple [vWd u, .p (.int .i64 0)], ([Row.mix [.p .nilsl, .p .nilsl]] : Store).set 0 (.mix [.p (eSl u.p), .p (eSl u.l)]))) ?_) (thaw_we u 0 0 _)
    rw [F31_eq]
    simp only [box_wd, gG, zero26, List.nil_append, List.length_nil, load26, wd_all, shift_ptr, shift_pptr, Nat.zero_add, Nat.add_zero, pureFn_fn, List.append_nil, List.singleton_append, List.cons_append, List.nil_append, h15, b_neq, eqT (rfl : (0 : Int) = 0), u1, q1, q2]
  · refine ⟨W0, ?_, fun _ => rfl, fun h => absurd h hE⟩
    have q1 := st_wd (σ := [.mix [.p .nilsl, .p .nilsl]]) (r := 0) (lo := 0) W0 rfl (Nat.le_refl _) rfl
    have q2 := ce_wd (σ := [.mix [.p .nilsl, .p .nilsl]]) (r := 0) W0 (by decide)
    refine pureV_free (by simp [wd_view]) (by simp [wd_free]) (F31_call (r := (.tuple [vWd W0, .p (.int .i64 (wErr (L w.p) (L w.l)))], ([Row.mix [.p .nilsl, .p .nilsl]] : Store).set 0 (.mix [.p (eSl W0.p), .p (eSl W0.l)]))) ?_) (thaw_we _ _ 0 _)
    rw [F31_eq]
    simp only [box_wd, gG, zero26, List.nil_append, List.length_nil, load26, wd_all, shift_ptr, shift_pptr, Nat.zero_add, Nat.add_zero, pureFn_fn, List.append_nil, List.singleton_append, List.cons_append, List.nil_append, h15, b_neq, eqF hE, bld26_0, q1, q2]
theorem pureV_mix {call : CallF} {f : FuncId} {args args' : List DV} {σ : Store} {v v' : DV} {σ' : Store} (h0 : args.map view = args') (h1 : args'.map view = args') (h2 : args'.all rowFree = false) (h : call σ.length f args' σ = some (v', σ')) (ht : thawAll σ.length σ' v' = some v) : pureV call f args σ = some v := by
  rw [pureV_view h0 h1]
  exact pureV_rows h1 h2 h ht
theorem S78r {r off lo : Nat} {A l : List Int} {σ : Store} (h : σ[r]? = some (.mix (ints A))) (hA : (A.drop off).take l.length = l) (ho : off + l.length ≤ A.length) (hl : l.length ≤ 100000) : pureV CC 78 [.rsl r 1 off l.length] σ = some (.p (eSl (some l))) := by
  have hs : source σ 1 (.rsl r 1 off l.length) = some (l.length, ints l) := by
    have hb : off + l.length * 1 ≤ (ints A).length := by rw [ints_len]; omega
    simp only [source, if_true, loadN, h, if_pos hb]
    rw [Nat.mul_one, ints_drop, ints_take, hA]
    rfl
  have hap : ∃ y σ', append PP σ.length false 24 24 (.p (.sl true 0 [])) (.rsl r 1 off l.length) σ = some (y, σ') ∧ thawAll σ.length σ' y = some (.p (eSl (some l))) := by
    by_cases hb : l = []
    · subst hb
      refine ⟨.p (.sl true 0 []), σ, ?_, rfl⟩
      simp only [List.length_nil] at hs
      simp [append, src24, u24, s3, bytes3, zero3, hs, appLit]
    · have hb0 : ¬ (l.length = 0) := fun e => hb (List.length_eq_zero_iff.1 e)
      refine ⟨.osl σ.length 0 1 l.length (eInts l), σ ++ [.tok 0], ?_, by simp [thawAll, thawPart, thaw, thaw1, thawP, loosens_ints, eSl]⟩
      simp only [append, src24, Bool.true_eq_false, if_false, u24, s3, bytes3, zero3, List.length_singleton, ne_eq, not_true_eq_false, Nat.one_ne_zero, or_self, hs, appLit, if_neg hb0, Bool.false_eq_true, ints_pures, Option.map_some, List.nil_append, Nat.zero_add]
      rw [if_pos ⟨by omega, by omega, by decide, rfl⟩]
  obtain ⟨y, σ', h1, h2⟩ := hap
  refine pureV_mix (args' := [.rsl r 1 off l.length]) rfl rfl rfl (F78_call (r := (y, σ')) ?_) h2
  rw [F78_eq]
  simp only [isnil_rsl, gG, bs24_0, h1]
theorem S32 {w : Wd} (h0 : (L w.p).length ≤ 1000) (h1 : (L w.l).length ≤ 1000) (σ : Store) : ∃ u : Wd, pureV CC 32 [vWd w] σ = some (.tuple [vWd u, .p (.int .i64 (wErr (L w.p) (L w.l)))]) ∧
    (wErr (L w.p) (L w.l) ≠ 0 → u = W0) ∧ (wErr (L w.p) (L w.l) = 0 → (L u.p, L u.l) = unst (L w.p) (L w.l)) := by
  have h15 := S15 h0 h1 [.mix [.p .nilsl, .p .nilsl]]
  by_cases hE : wErr (L w.p) (L w.l) = 0
  · obtain ⟨hne, h60, _⟩ := wErr_zero hE
    have hq := List.length_pos_iff.2 hne
    have h84 := S84 (a := w.p) (b := w.l) (by omega) (by omega) true 0 [.mix [.p .nilsl, .p .nilsl]] (Nat.zero_le _)
    obtain ⟨σ1, Z1, a1, a2, a3, a4⟩ := S83 (l := L w.p ++ L w.l) (r := 1) (lo := 0) (by simp; omega) (Nat.zero_le _) (σ := [.mix [.p .nilsl, .p .nilsl], .mix (ints (L w.p ++ L w.l))]) rfl
    have hl1 : σ1.length = 2 := a4
    have ap := rs_lit (a := [lastI (L w.l)]) (PL.sl w.l) (by simp; omega) hne 0 σ1
    rw [hl1] at ap
    have g2 : (σ1 ++ [Row.mix (ints ([lastI (L w.l)] ++ L w.l))])[2]? = some (.mix (ints ([lastI (L w.l)] ++ L w.l))) := by rw [← hl1]; exact get_snoc
    obtain ⟨σ2, Z2, b1, b2, b3, b4⟩ := S83 (l := [lastI (L w.l)] ++ L w.l) (r := 2) (lo := 0) (by simp; omega) (Nat.zero_le _) g2
    have hl2 : σ2.length = 3 := by rw [b4, List.length_append, hl1]; rfl
    have r0 : σ2[0]? = some (.mix [.p .nilsl, .p .nilsl]) := by
      rw [b3 0 (by decide), List.getElem?_append_left (by omega), a3 0 (by decide)]; rfl
    have r1 : σ2[1]? = some (.mix (ints (once (L w.p ++ L w.l) ++ Z1))) := by
      rw [b3 1 (by decide), List.getElem?_append_left (by omega)]; exact a2
    have ho : once ([lastI (L w.l)] ++ L w.l) = lastI (L w.l) :: dd (lastI (L w.l)) (L w.l) := rfl
    have hol1 := once_len (L w.p ++ L w.l)
    have hol2 := once_len ([lastI (L w.l)] ++ L w.l)
    rw [List.length_append] at hol1
    rw [List.length_append, List.length_singleton] at hol2
    have hon : once (L w.p ++ L w.l) ≠ [] := (once_last (by simp [hne])).1
    have hop := List.length_pos_iff.2 hon
    generalize hDD : dd (lastI (L w.l)) (L w.l) = D at *
    have hm : (once ([lastI (L w.l)] ++ L w.l)).length = D.length + 1 := by rw [ho]; rfl
    rw [hm] at b1 hol2
    rw [ho] at b2
    have sd : sliceOp PP 24 (.rsl 2 1 0 (D.length + 1)) (some (.p (.int .i64 1))) none none = some (.rsl 2 1 1 D.length) := by
      have := rs_drop (r := 2) (off := 0) (n := D.length + 1) (k := 1) (by omega)
      simpa using this
    have hun : unst (L w.p) (L w.l) = if D = [] then short (once (L w.p ++ L w.l)).dropLast [lastI (L w.l)] else short (once (L w.p ++ L w.l)) D := by unfold unst; rw [hDD]
    have i1 := (PL.sl w.l).idx (i := (L w.l).length - 1) (by omega)
    have ld1 := fun σ => load1_getD (l := L w.l) (i := (L w.l).length - 1) (by omega) σ
    have e1 : (L w.l).getD ((L w.l).length - 1) 0 = lastI (L w.l) := rfl
    rw [e1] at ld1
    have hz : ∀ σ, len PP 24 (.p (eSl w.l)) σ = some (.p (.int .i64 ((L w.l).length : Nat))) := (PL.sl w.l).len
    -- the end, whatever is shortened
    have fin : ∀ (x y : DV) (oa ob : OI) (y0 : DV), x.one = true → y0.one = true → view (.agg [x, y0]) = .agg [x, y] → view (.agg [x, y]) = .agg [x, y] → y.one = true → rowFree (.agg [x, y]) = false → (∀ ext, pureV CC 78 [x] (σ2 ++ ext) = some (.p (eSl oa))) → (∀ ext, pureV CC 78 [y] (σ2 ++ ext) = some (.p (eSl ob))) →
        L ob ≠ [] → (L oa).length + (L ob).length ≤ 1000 → (L ob).length ≤ 60 → ∃ u : Wd, pureV CC 82 [.agg [x, y0]] σ2 = some (vWd u) ∧ (L u.p, L u.l) = short (L oa) (L ob) := by
      intro x y oa ob y0 hx hy0 hv hv2 hy hrf c1 c2 c3 c4 c5
      obtain ⟨x', y', σ', k1, k2, k3⟩ := C82 (lo := σ2.length) (σ := σ2) (Nat.le_refl _) hx hy c1 c2 c3 c4 c5
      obtain ⟨u, u1, u2, u3⟩ := thaw_wd k2 k3 σ2.length σ'
      exact ⟨u, pureV_mix (by simp only [List.map_cons, List.map_nil, hv]) (by simp only [List.map_cons, List.map_nil, hv2]) (by simp only [List.all_cons, List.all_nil, hrf, Bool.and_true]) k1 u1, by rw [u2, u3]⟩
    have key : ∃ (u : Wd) (x y : DV), x.one = true ∧ y.one = true ∧ pureV CC 82 [.agg [x, y]] σ2 = some (vWd u) ∧ (L u.p, L u.l) = unst (L w.p) (L w.l) ∧
        ((D.length = 0 ∧ x = .rsl 1 1 0 ((once (L w.p ++ L w.l)).length - 1) ∧ y = .p (.sl true 1 [.int .i64 (lastI (L w.l))])) ∨ (D.length ≠ 0 ∧ x = .rsl 1 1 0 (once (L w.p ++ L w.l)).length ∧ y = .rsl 2 1 1 D.length)) := by
      have hr1 : ∀ ext, (σ2 ++ ext)[1]? = some (.mix (ints (once (L w.p ++ L w.l) ++ Z1))) := fun ext => by rw [List.getElem?_append_left (by omega)]; exact r1
      have hr2 : ∀ ext, (σ2 ++ ext)[2]? = some (.mix (ints (lastI (L w.l) :: D ++ Z2))) := fun ext => by rw [List.getElem?_append_left (by omega)]; exact b2
      by_cases hd : D = []
      · have hlen : (once (L w.p ++ L w.l)).dropLast.length = (once (L w.p ++ L w.l)).length - 1 := by simp
        have c1 : ∀ ext, pureV CC 78 [.rsl 1 1 0 ((once (L w.p ++ L w.l)).length - 1)] (σ2 ++ ext) = some (.p (eSl (some (once (L w.p ++ L w.l)).dropLast))) := fun ext => by
          rw [← hlen]
          refine S78r (lo := 0) (hr1 ext) ?_ (by rw [hlen, List.length_append]; omega) (by omega)
          rw [List.drop_zero, hlen, List.take_append_of_le_length (by omega), dl_take]
        have c2 : ∀ ext, pureV CC 78 [.p (eSl (some [lastI (L w.l)]))] (σ2 ++ ext) = some (.p (eSl (some [lastI (L w.l)]))) := fun ext => S78 (by simp) _
        obtain ⟨u, u1, u2⟩ := fin (.rsl 1 1 0 ((once (L w.p ++ L w.l)).length - 1)) (.p (eSl (some [lastI (L w.l)]))) (some (once (L w.p ++ L w.l)).dropLast) (some [lastI (L w.l)]) (.p (.sl true 1 [.int .i64 (lastI (L w.l))])) rfl rfl
          (by simp [view, viewCell, loosen, loosens, eSl, eInts]) (by simp [view, viewCell, loosen, loosens, eSl, eInts]) rfl rfl c1 c2 (by simp) (by simp; omega) (by simp)
        refine ⟨u, _, _, rfl, rfl, u1, ?_, .inl ⟨by rw [hd]; rfl, rfl, rfl⟩⟩
        rw [u2, hun, if_pos hd]; rfl
      · have hdp := List.length_pos_iff.2 hd
        have c1 : ∀ ext, pureV CC 78 [.rsl 1 1 0 (once (L w.p ++ L w.l)).length] (σ2 ++ ext) = some (.p (eSl (some (once (L w.p ++ L w.l))))) := fun ext => by
          refine S78r (lo := 0) (hr1 ext) ?_ (by rw [List.length_append]; omega) (by omega)
          rw [List.drop_zero, List.take_append_of_le_length (by omega), List.take_length]
        have c2 : ∀ ext, pureV CC 78 [.rsl 2 1 1 D.length] (σ2 ++ ext) = some (.p (eSl (some D))) := fun ext => by
          refine S78r (lo := 0) (hr2 ext) ?_ (by simp; omega) (by omega)
          simp
        obtain ⟨u, u1, u2⟩ := fin (.rsl 1 1 0 (once (L w.p ++ L w.l)).length) (.rsl 2 1 1 D.length) (some (once (L w.p ++ L w.l))) (some D) (.rsl 2 1 1 D.length) rfl rfl rfl rfl rfl rfl c1 c2 hd (by show (once (L w.p ++ L w.l)).length + D.length ≤ 1000; omega) (by show D.length ≤ 60; omega)
        refine ⟨u, _, _, rfl, rfl, u1, ?_, .inr ⟨by omega, rfl, rfl⟩⟩
        rw [u2, hun, if_neg hd]; rfl
    obtain ⟨u, x, y, hx, hy, k1, k2, k3⟩ := key
    refine ⟨u, ?_, fun h => absurd hE h, fun _ => k2⟩
    have s1 := st_wd u r0 (Nat.zero_le 0) rfl
    have s2 := ce_wd (σ := σ2) (r := 0) u (by omega)
    rw [hE] at h15 ⊢
    refine pureV_free (by simp [wd_view]) (by simp [wd_free]) (F32_call (r := (.tuple [vWd u, .p (.int .i64 0)], σ2.set 0 (.mix [.p (eSl u.p), .p (eSl u.l)]))) ?_) (thaw_we u 0 0 _)
    have h84' : CC 0 84 [.p (.sl true 2 [eSl w.p, eSl w.l])] [.mix [.p .nilsl, .p .nilsl]] = some (.rsl 1 1 0 (L w.p ++ L w.l).length, [.mix [.p .nilsl, .p .nilsl], .mix (ints (L w.p ++ L w.l))]) := h84
    have ap' : append PP 0 true 24 24 (.p (.sl true 1 [.int .i64 (lastI (L w.l))])) (.p (eSl w.l)) σ1 = some (.rsl 2 1 0 (lastI (L w.l) :: L w.l).length, σ1 ++ [.mix (ints (lastI (L w.l) :: L w.l))]) := ap
    have b1' : CC 0 83 [.rsl 2 1 0 (lastI (L w.l) :: L w.l).length] (σ1 ++ [.mix (ints (lastI (L w.l) :: L w.l))]) = some (.rsl 2 1 0 (D.length + 1), σ2) := b1
    rw [F32_eq]
    rcases k3 with ⟨d0, rfl, rfl⟩ | ⟨d0, rfl, rfl⟩
    · have d0' : (D.length : Int) = 0 := by omega
      simp (disch := omega) only [box_wd, gG, zero26, List.nil_append, List.length_nil, load26, wd_all, shift_ptr, shift_pptr, Nat.zero_add, Nat.add_zero, pureFn_fn, List.append_nil, List.singleton_append, List.cons_append, List.nil_append, h15, b_neq, eqT (rfl : (0 : Int) = 0), fa26_0, fa26_1, load24, wd_0, wd_1, bs130_2, plainFn, h84', a1, hz, sub1, i1, load3, ld1, bs24_1, ap', b1', sd, rs_len, b_eql, eqT d0', rs_take, f32_J0_eq, bld26 hx hy, k1, s1, s2]
    · have d0' : ¬ (D.length : Int) = 0 := by omega
      simp (disch := omega) only [box_wd, gG, zero26, List.nil_append, List.length_nil, load26, wd_all, shift_ptr, shift_pptr, Nat.zero_add, Nat.add_zero, pureFn_fn, List.append_nil, List.singleton_append, List.cons_append, List.nil_append, h15, b_neq, eqT (rfl : (0 : Int) = 0), fa26_0, fa26_1, load24, wd_0, wd_1, bs130_2, plainFn, h84', a1, hz, sub1, i1, load3, ld1, bs24_1, ap', b1', sd, rs_len, b_eql, eqF d0', rs_take, f32_J0_eq, bld26 hx hy, k1, s1, s2]
  · refine ⟨W0, ?_, fun _ => rfl, fun h => absurd h hE⟩
    have q1 := st_wd (σ := [.mix [.p .nilsl, .p .nilsl]]) (r := 0) (lo := 0) W0 rfl (Nat.le_refl _) rfl
    have q2 := ce_wd (σ := [.mix [.p .nilsl, .p .nilsl]]) (r := 0) W0 (by decide)
    refine pureV_free (by simp [wd_view]) (by simp [wd_free]) (F32_call (r := (.tuple [vWd W0, .p (.int .i64 (wErr (L w.p) (L w.l)))], ([Row.mix [.p .nilsl, .p .nilsl]] : Store).set 0 (.mix [.p (eSl W0.p), .p (eSl W0.l)]))) ?_) (thaw_we _ _ 0 _)
    rw [F32_eq]
    simp only [box_wd, gG, zero26, List.nil_append, List.length_nil, load26, wd_all, shift_ptr, shift_pptr, Nat.zero_add, Nat.add_zero, pureFn_fn, List.append_nil, List.singleton_append, List.cons_append, List.nil_append, h15, b_neq, eqF hE, bld26_0, q1, q2]
end Go.D
end
/- Chapter 13: formulas as the program's values; their errors in the reference. -/
section
set_option linter.unusedVariables false
set_option linter.unusedSimpArgs false
namespace Go.D
open Las
def eNds : List Nd → List PV
  | [] => []
  | x :: l => pI x.k :: pI x.n :: eSl x.a :: eNds l
def eFm : Fm → PV
  | none => .nilsl
  | some l => .sl false l.length (eNds l)
theorem loosens_nds (l : List Nd) : loosens (eNds l) = eNds l := by
  induction l with
  | nil => rfl
  | cons a l ih => simp only [eNds, loosens, loosen, loosen_sl, ih]
theorem loosen_fm (f : Fm) : loosen (eFm f) = eFm f := by
  cases f <;> simp [eFm, loosen, loosens_nds]
theorem fm_view (f : Fm) : view (.p (eFm f)) = .p (eFm f) := by simp [view, viewCell, loosen_fm]
theorem nds_length (l : List Nd) : (eNds l).length = l.length * 3 := by
  induction l with
  | nil => rfl
  | cons a l ih => simp [eNds, ih]; omega
theorem eNds_app (l m : List Nd) : eNds (l ++ m) = eNds l ++ eNds m := by
  induction l with
  | nil => rfl
  | cons a l ih => simp [eNds, ih]
theorem nds_get : ∀ (l : List Nd) (i : Nat) (h : i < l.length), (eNds l)[i * 3]? = some (pI (l.getD i default).k) ∧ (eNds l)[i * 3 + 1]? = some (pI (l.getD i default).n) ∧ (eNds l)[i * 3 + 2]? = some (eSl (l.getD i default).a)
  | e :: l, 0, h => by simp [eNds]
  | e :: l, i + 1, h => by
    have := nds_get l i (by simpa using h)
    have e3 : (i + 1) * 3 = i * 3 + 1 + 1 + 1 := by omega
    rw [e3]
    simpa [eNds] using this
theorem u23 : PP.underlying 23 = some (.slice 67) := Eq.trans (by kernel_rfl) rfl
theorem s67 : size? PP 67 = some 3 := Eq.trans (by kernel_rfl) rfl
theorem src23 : srcType PP 23 = true := Eq.trans (by kernel_rfl) rfl
theorem zero67 : zeroOf PP 67 = some [.p (pI 0), .p (pI 0), .p .nilsl] := Eq.trans (by kernel_rfl) rfl
theorem bytes67 : bytes? PP 67 = some 40 := Eq.trans (by kernel_rfl) rfl
theorem fa67_0 (x : DV) : fieldAddr PP 67 x 0 = shiftPtr x 0 := Eq.trans (by kernel_rfl) rfl
theorem fa67_1 (x : DV) : fieldAddr PP 67 x 1 = shiftPtr x 1 := Eq.trans (by kernel_rfl) rfl
theorem fa67_2 (x : DV) : fieldAddr PP 67 x 2 = shiftPtr x 2 := Eq.trans (by kernel_rfl) rfl
theorem load67 (x : DV) (σ : Store) : load PP 67 x σ = (loadN σ 3 x).map .agg := Eq.trans (by kernel_rfl) rfl
theorem len23 (f : Fm) (σ : Store) : len PP 23 (.p (eFm f)) σ = some (N (L f).length) := by cases f <;> simp [len, u23, eFm, N]
theorem idx23 {f : Fm} {i : Nat} (h : i < (L f).length) : indexAddr PP 23 (.p (eFm f)) (.p (.int .i64 (i : Nat))) = some (.pptr (eNds (L f)) (i * 3)) := by
  cases f with
  | none => simp at h
  | some l =>
    have h2 : (0 : Int) ≤ (i : Int) ∧ (i : Int) < (l.length : Nat) := by simp at h; omega
    simp [indexAddr, u23, s67, eFm, h2]
def ndD (x : Nd) : List DV := [.p (pI x.k), .p (pI x.n), .p (eSl x.a)]
section
variable {F : List Nd} {i : Nat} (h : i < F.length) (σ : Store)
include h
theorem nd_a : load1 (.pptr (eNds F) (i * 3 + 2)) σ = some (.p (eSl (F.getD i default).a)) := load1_pptr (nds_get F i h).2.2 σ
theorem nd_all : (loadN σ 3 (.pptr (eNds F) (i * 3))).map DV.agg = some (.agg (ndD (F.getD i default))) := by
  have hle : i * 3 + 3 ≤ (eNds F).length := by rw [nds_length]; omega
  obtain ⟨h1, h2, h3⟩ := nds_get F i h
  have hd : ((eNds F).drop (i * 3)).take 3 = [pI (F.getD i default).k, pI (F.getD i default).n, eSl (F.getD i default).a] := by
    apply List.ext_getElem?
    intro j
    match j with
    | 0 => simpa using h1
    | 1 => simpa using h2
    | 2 => simpa using h3
    | j + 3 => simp; omega
  simp only [loadN, if_pos hle, hd]
  rfl
end
theorem st67 {σ : Store} {lo : Nat} {z : List DV} (x : Nd) (hz : z.length = 3) (hlo : lo ≤ σ.length) : store PP lo 67 (.ptr σ.length 0) (.agg (ndD x)) (σ ++ [.mix z]) = some (σ ++ [.mix (ndD x)]) := by
  have e : splice z 0 (ndD x) = ndD x := by simp [splice, hz, ndD]
  have e2 : (ndD x).all DV.one = true := rfl
  have e3 : (ndD x).length = 3 := rfl
  simp [store, s67, DV.cells, storeN, hz, e, e2, e3, hlo]
section
variable {σ : Store} {r : Nat} {x : Nd} (h : σ[r]? = some (.mix (ndD x)))
include h
theorem row_k : load1 (.ptr r 0) σ = some (.p (.int .i64 x.k)) := load1_ptr h rfl
theorem row_n : load1 (.ptr r 1) σ = some (.p (.int .i64 x.n)) := load1_ptr h rfl
theorem row_a : load1 (.ptr r 2) σ = some (.p (eSl x.a)) := load1_ptr h rfl
theorem row_nd : (loadN σ 3 (.ptr r 0)).map DV.agg = some (.agg (ndD x)) := by rw [loadN_ptr (vs := ndD x) h rfl (by simp [ndD])]; rfl
end
theorem subI {r : Nat} (h : r ≤ 1000000) : binOp PP .sub 3 (.p (.int .i64 (r : Nat))) (.p (.int .i64 1)) = some (.p (.int .i64 ((r : Int) - 1))) := by
  rw [b_sub, wrap_ok] <;> omega
theorem subJ {r : Int} (h : -1000000 ≤ r) (h2 : r ≤ 1000000) : binOp PP .sub 3 (.p (.int .i64 r)) (.p (.int .i64 1)) = some (.p (.int .i64 (r - 1))) := by
  rw [b_sub, wrap_ok] <;> omega
def FSm (f : Fm) : Prop := (L f).length ≤ 1000 ∧ ∀ i, (nA (L f) i).length ≤ 1000
theorem S13 (f : Fm) (σ : Store) : ∃ b, pureV CC 13 [.p (eFm f)] σ = some (.p (.bool b)) ∧ (b = true → FSm f) := by
  have hL : ∀ (d i : Nat), (L f).length ≤ 45 → (L f).length - i = d → i ≤ (L f).length → ∃ b, f13_L0 guardT 0 (.p (eFm f)) (N i) [] = some (.p (.bool b), []) ∧ (b = true → ∀ j, i ≤ j → j < (L f).length → (nA (L f) j).length ≤ 45) := by
    intro d
    induction d with
    | zero =>
      intro i h45 hd hi
      refine ⟨true, ?_, fun _ j h1 h2 => by omega⟩
      rw [f13_L0_eq guardT rfl]
      simp (disch := omega) only [N, len23, gG, b_lss, ltF]
    | succ d ih =>
      intro i h45 hd hi
      have hlt : i < (L f).length := by omega
      have e1 : (.p (.int .i64 (i : Nat)) : DV) = N i := rfl
      by_cases hc : ((nA (L f) i).length : Int) > 45
      · refine ⟨false, ?_, fun h => absurd h (by simp)⟩
        rw [f13_L0_eq guardT rfl]
        have hc' : ((L ((L f).getD i default).a).length : Int) > 45 := hc
        simp (disch := omega) only [N, len23, gG, b_lss, ltT, idx23 hlt, fa67_2, shift_ptr, shift_pptr, Nat.zero_add, Nat.add_zero, pureFn_fn, List.append_nil, List.singleton_append, List.cons_append, List.nil_append, load24, nd_a hlt, (PL.sl _).len, b_gtr, gtT hc']
      · obtain ⟨b, b1, b2⟩ := ih (i + 1) h45 (by omega) (by omega)
        refine ⟨b, ?_, fun hb j h1 h2 => ?_⟩
        · rw [f13_L0_eq guardT rfl]
          have hc' : ¬ ((L ((L f).getD i default).a).length : Int) > 45 := hc
          simp only [N] at b1
          simp (disch := omega) only [N, len23, gG, b_lss, ltT, idx23 hlt, fa67_2, shift_ptr, shift_pptr, Nat.zero_add, Nat.add_zero, pureFn_fn, List.append_nil, List.singleton_append, List.cons_append, List.nil_append, load24, nd_a hlt, (PL.sl _).len, b_gtr, gtF hc', add1, b1]
        · by_cases e : j = i
          · subst e; omega
          · exact b2 hb j (by omega) h2
  by_cases h45 : ((L f).length : Int) > 45
  · refine ⟨false, pureV_free (by simp [fm_view]) rfl (F13_call (r := (.p (.bool false), [])) ?_) rfl, fun h => absurd h (by simp)⟩
    rw [F13_eq]
    simp only [len23, N, gG, b_gtr, gtT h45]
  · obtain ⟨b, b1, b2⟩ := hL _ 0 (by omega) rfl (Nat.zero_le _)
    refine ⟨b, pureV_free (by simp [fm_view]) rfl (F13_call (r := (.p (.bool b), [])) ?_) rfl, fun hb => ⟨by omega, fun i => ?_⟩⟩
    · rw [F13_eq]
      simp only [len23, N, gG, b_gtr, gtF h45]
      exact b1
    · by_cases hi : i < (L f).length
      · have := b2 hb i (Nat.zero_le _) hi; omega
      · have : nA (L f) i = [] := by
          unfold nA
          rw [List.getD_eq_getElem?_getD, List.getElem?_eq_none (by omega)]; rfl
        rw [this]; simp
theorem S103 (k : Int) (σ : Store) : pureV CC 103 [.p (.int .i64 k)] σ = some (.p (.int .i64 (ar k))) := by
  refine pureV_free rfl rfl (F103_call (r := (.p (.int .i64 (ar k)), [])) ?_) rfl
  rw [F103_eq]
  unfold ar
  by_cases h0 : k = 0
  · simp only [b_eql, eqT h0, gG, f103_J0_eq, if_pos (show k = 0 ∨ k = 1 from .inl h0)]
  · by_cases h1 : k = 1
    · simp only [b_eql, eqF h0, eqT h1, gG, f103_J0_eq, if_pos (show k = 0 ∨ k = 1 from .inr h1)]
    · rw [if_neg (show ¬ (k = 0 ∨ k = 1) by omega)]
      by_cases h2 : k = 2
      · simp only [b_eql, eqF h0, eqF h1, eqT h2, gG, f103_J0_eq, f103_J1_eq, if_pos (show k = 2 ∨ k = 6 ∨ k = 7 from .inl h2)]
      · by_cases h3 : k = 6
        · simp only [b_eql, eqF h0, eqF h1, eqF h2, eqT h3, gG, f103_J0_eq, f103_J1_eq, if_pos (show k = 2 ∨ k = 6 ∨ k = 7 from .inr (.inl h3))]
        · by_cases h4 : k = 7
          · simp only [b_eql, eqF h0, eqF h1, eqF h2, eqF h3, eqT h4, gG, f103_J0_eq, f103_J1_eq, if_pos (show k = 2 ∨ k = 6 ∨ k = 7 from .inr (.inr h4))]
          · simp only [b_eql, eqF h0, eqF h1, eqF h2, eqF h3, eqF h4, gG, f103_J0_eq, f103_J1_eq, if_neg (show ¬ (k = 2 ∨ k = 6 ∨ k = 7) by omega)]
theorem S99 (k : Int) (σ : Store) : pureV CC 99 [.p (.int .i64 k)] σ = some (.p (.int .i64 (ar k))) := by
  refine pureV_free rfl rfl (F99_call (r := (.p (.int .i64 (ar k)), [])) ?_) rfl
  rw [F99_eq]
  unfold ar
  by_cases h0 : k = 0
  · simp only [b_eql, eqT h0, gG, f99_J0_eq, if_pos (show k = 0 ∨ k = 1 from .inl h0)]
  · by_cases h1 : k = 1
    · simp only [b_eql, eqF h0, eqT h1, gG, f99_J0_eq, if_pos (show k = 0 ∨ k = 1 from .inr h1)]
    · rw [if_neg (show ¬ (k = 0 ∨ k = 1) by omega)]
      by_cases h2 : k = 2
      · simp only [b_eql, eqF h0, eqF h1, eqT h2, gG, f99_J0_eq, f99_J1_eq, if_pos (show k = 2 ∨ k = 6 ∨ k = 7 from .inl h2)]
      · by_cases h3 : k = 6
        · simp only [b_eql, eqF h0, eqF h1, eqF h2, eqT h3, gG, f99_J0_eq, f99_J1_eq, if_pos (show k = 2 ∨ k = 6 ∨ k = 7 from .inr (.inl h3))]
        · by_cases h4 : k = 7
          · simp only [b_eql, eqF h0, eqF h1, eqF h2, eqF h3, eqT h4, gG, f99_J0_eq, f99_J1_eq, if_pos (show k = 2 ∨ k = 6 ∨ k = 7 from .inr (.inr h4))]
          · simp only [b_eql, eqF h0, eqF h1, eqF h2, eqF h3, eqF h4, gG, f99_J0_eq, f99_J1_eq, if_neg (show ¬ (k = 2 ∨ k = 6 ∨ k = 7) by omega)]
section
variable {f : Fm} (hf : FSm f)
include hf
theorem L105 : ∀ (d r : Nat), r < d → r < (L f).length → f105_L0 guardT 0 (.p (eFm f)) (N r) [] = some (.p (.int .i64 (fo (L f) r)), [])
  | 0, r, h, _ => by omega
  | d + 1, r, hd, hr => by
    have h1 := hf.1
    have ha : L ((L f).getD r default).a = nA (L f) r := rfl
    have ga := nd_a hr
    rw [fo_eq, f105_L0_eq guardT rfl]
    by_cases h0 : nA (L f) r = []
    · rw [if_pos h0]
      have hz : ¬ (((nA (L f) r).length : Nat) : Int) > 0 := by rw [h0]; decide
      simp only [N, idx23 hr, gG, fa67_2, shift_ptr, shift_pptr, Nat.zero_add, Nat.add_zero, pureFn_fn, List.append_nil, List.singleton_append, List.cons_append, List.nil_append, load24, ga, (PL.sl _).len, ha, b_gtr, gtF hz]
    · have hp := List.length_pos_iff.2 h0
      have hz : (((nA (L f) r).length : Nat) : Int) > 0 := by omega
      rw [if_neg h0]
      have i1 := (PL.sl ((L f).getD r default).a).idx (i := 0) (by rw [ha]; exact hp)
      have l1 := load1_getD (l := nA (L f) r) hp []
      have z0 : (.p (.int .i64 ((0 : Nat) : Int)) : DV) = .p (.int .i64 0) := rfl
      rw [z0, ha] at i1
      have hin : inR ((nA (L f) r).getD 0 0) 0 ((r : Int) - 1) = decide (0 ≤ (nA (L f) r).getD 0 0 ∧ (nA (L f) r).getD 0 0 ≤ (r : Int) - 1) := by
        rw [Bool.eq_iff_iff, inR_iff, decide_eq_true_iff]
      by_cases h2 : 0 ≤ (nA (L f) r).getD 0 0 ∧ (nA (L f) r).getD 0 0 ≤ (r : Int) - 1
      · rw [if_pos h2]
        have ih := L105 d ((nA (L f) r).getD 0 0).toNat (by omega) (by omega)
        have e : N ((nA (L f) r).getD 0 0).toNat = .p (.int .i64 ((nA (L f) r).getD 0 0)) := by unfold N; rw [Int.toNat_of_nonneg h2.1]
        rw [e] at ih
        simp (disch := omega) only [N, idx23 hr, gG, fa67_2, shift_ptr, shift_pptr, Nat.zero_add, Nat.add_zero, pureFn_fn, List.append_nil, List.singleton_append, List.cons_append, List.nil_append, load24, ga, (PL.sl _).len, ha, b_gtr, gtT hz, i1, load3, l1, subI, S26, hin, decide_eq_true h2, ih]
      · rw [if_neg h2]
        simp (disch := omega) only [N, idx23 hr, gG, fa67_2, shift_ptr, shift_pptr, Nat.zero_add, Nat.add_zero, pureFn_fn, List.append_nil, List.singleton_append, List.cons_append, List.nil_append, load24, ga, (PL.sl _).len, ha, b_gtr, gtT hz, i1, load3, l1, subI, S26, hin, decide_eq_false h2]
theorem S105 {r : Int} (hr : r < (L f).length) (σ : Store) : pureV CC 105 [.p (eFm f), .p (.int .i64 r)] σ = some (.p (.int .i64 (foI (L f) r))) := by
  refine pureV_free (by simp [view, viewCell, loosen, loosen_fm]) rfl (F105_call (r := (.p (.int .i64 (foI (L f) r)), [])) ?_) rfl
  rw [F105_eq]
  unfold foI
  by_cases h0 : r < 0
  · rw [if_pos h0]
    simp only [b_lss, ltT h0, gG]
  · rw [if_neg h0]
    have := L105 hf _ r.toNat (Nat.lt_succ_self _) (by omega)
    have e : N r.toNat = .p (.int .i64 r) := by unfold N; rw [Int.toNat_of_nonneg (by omega)]
    rw [e] at this
    simp only [b_lss, ltF h0, gG, this]
theorem L104 {i : Nat} (hi : i < (L f).length) : ∀ (k : Nat) (x : Int), x ≤ i → -1 ≤ x → k ≤ (nA (L f) i).length → f104_L0 guardT 0 (.p (eFm f)) (N i) (.p (.int .i64 x)) (.p (.int .i64 ((k : Int) - 1))) [] = some (.p (.bool (stB (L f) (nA (L f) i) x k).isSome), [])
  | 0, x, hx, hx0, hk => by
    have h1 : ¬ (((0 : Nat) : Int) - 1 ≥ 0) := by omega
    rw [f104_L0_eq guardT rfl]
    simp only [b_geq, geF h1, gG, stB, Option.isSome_some]
  | k + 1, x, hx, hx0, hk => by
    have e : (((k + 1 : Nat) : Int) - 1) = (k : Nat) := by omega
    have h1 : ((k : Nat) : Int) ≥ 0 := by omega
    have h2 := hf.1
    have h3 := hf.2 i
    have ha : L ((L f).getD i default).a = nA (L f) i := rfl
    have i1 := (PL.sl ((L f).getD i default).a).idx (i := k) (by rw [ha]; omega)
    have l1 := load1_getD (l := nA (L f) i) (i := k) (by omega) []
    rw [ha] at i1
    have hS := S105 hf (r := x - 1) (by omega)
    have hfo : foI (L f) (x - 1) ≤ i ∧ -1 ≤ foI (L f) (x - 1) := by
      unfold foI
      split
      · omega
      · have := fo_le (L f) (x - 1).toNat; omega
    rw [e, f104_L0_eq guardT rfl]
    unfold stB
    by_cases c1 : (nA (L f) i).getD k 0 = x - 1
    · rw [if_pos c1]
      by_cases c2 : foI (L f) (x - 1) < 0
      · rw [if_pos c2]
        simp (disch := omega) only [N, b_geq, geT h1, gG, idx23 hi, fa67_2, shift_ptr, shift_pptr, Nat.zero_add, Nat.add_zero, pureFn_fn, List.append_nil, List.singleton_append, List.cons_append, List.nil_append, load24, nd_a hi, i1, load3, l1, subJ, b_neq, eqT c1, hS, b_lss, ltT c2, Option.isSome_none]
      · rw [if_neg c2]
        have ih := L104 hi k (foI (L f) (x - 1)) hfo.1 hfo.2 (by omega)
        simp only [N] at ih
        simp (disch := omega) only [N, b_geq, geT h1, gG, idx23 hi, fa67_2, shift_ptr, shift_pptr, Nat.zero_add, Nat.add_zero, pureFn_fn, List.append_nil, List.singleton_append, List.cons_append, List.nil_append, load24, nd_a hi, i1, load3, l1, subJ, b_neq, eqT c1, hS, b_lss, ltF c2, subI, ih]
    · rw [if_neg c1]
      simp (disch := omega) only [N, b_geq, geT h1, gG, idx23 hi, fa67_2, shift_ptr, shift_pptr, Nat.zero_add, Nat.add_zero, pureFn_fn, List.append_nil, List.singleton_append, List.cons_append, List.nil_append, load24, nd_a hi, i1, load3, l1, subJ, b_neq, eqF c1, Option.isSome_none]
theorem S104 {i : Nat} (hi : i < (L f).length) (σ : Store) : pureV CC 104 [.p (eFm f), .p (.int .i64 (i : Nat))] σ = some (.p (.bool (stands (L f) i))) := by
  have h2 := hf.1
  have h3 := hf.2 i
  have ha : L ((L f).getD i default).a = nA (L f) i := rfl
  have hL := L104 hf hi (nA (L f) i).length i (Int.le_refl _) (by omega) (Nat.le_refl _)
  refine pureV_free (by simp [view, viewCell, loosen, loosen_fm]) rfl (F104_call (r := (.p (.bool (stands (L f) i)), [])) ?_) rfl
  rw [F104_eq]
  simp only [N] at hL
  simp (disch := omega) only [idx23 hi, gG, fa67_2, shift_ptr, shift_pptr, Nat.zero_add, Nat.add_zero, pureFn_fn, List.append_nil, List.singleton_append, List.cons_append, List.nil_append, load24, nd_a hi, (PL.sl _).len, ha, subI, hL]
  rfl
end
end Go.D
end
/- Chapter 13: formulas as arguments. -/
section
set_option linter.unusedVariables false
set_option linter.unusedSimpArgs false
set_option maxRecDepth 100000
namespace Go.D
open Go.ChangeShapes Go.WideShapes Go.ChangeAt Go.RowKit
theorem dec67 {a : List PV} (h : Plain PP 67 a) : ∃ x : Nd, a = [pI x.k, pI x.n, eSl x.a] := by
  have h1 := h.inv_struct Go.Proofs.Tryz.underlying67
  obtain ⟨a1, b1, h2, h3, rfl⟩ := PlainL.inv_cons h1
  obtain ⟨a2, b2, h4, h5, rfl⟩ := PlainL.inv_cons h3
  obtain ⟨a3, b3, h6, h7, rfl⟩ := PlainL.inv_cons h5
  obtain ⟨x, rfl⟩ := dec3 h2
  obtain ⟨y, rfl⟩ := dec3 h4
  obtain ⟨z, rfl⟩ := dec24 h6
  obtain rfl := PlainL.inv_nil h7
  exact ⟨⟨x, y, z⟩, rfl⟩
theorem flat67 (l : List Nd) : l.flatMap (fun x => [pI x.k, pI x.n, eSl x.a]) = eNds l := by
  induction l with
  | nil => rfl
  | cons a l ih => simp [ih, eNds]
theorem dec23 {a : List PV} (h : Plain PP 23 a) : ∃ f, a = [eFm f] := by
  rcases h.inv_slice u23 with rfl | ⟨n, xs, hx, rfl⟩
  · exact ⟨none, rfl⟩
  · obtain ⟨l, rfl, rfl⟩ := hx.inv_rep (f := fun x : Nd => [pI x.k, pI x.n, eSl x.a]) fun a ha => dec67 ha
    exact ⟨some l, by rw [flat67]; rfl⟩
section
variable {H : Type} {enc : TypeId × Value → H} {W : World} {hd : Bool} {r : Reach} {b0 : Nat} {v : Value} {d : DataW H} {ps : List MemPlace}
theorem read_fm (hok : Value.okWide PP W r b0 23 v) (h : DataW.Trod enc PP W 0 (fun _ => true) hd 23 v d ps) : ∃ f, VRel (fun _ _ => none) (memOf W) (.p (eFm f)) v := by
  obtain ⟨c, h1, h2⟩ := read_slice 8 u23 (by kernel_rfl) hok h
  obtain ⟨f, hf⟩ := dec23 h1
  injection hf with hf
  exact ⟨f, by rw [← hf]; exact h2⟩
end
end Go.D
end
/- Truths on a ring of places: until by two walks back, and by looking on. Plain Lean. -/
section
set_option linter.unusedVariables false
set_option linter.unusedSimpArgs false
namespace Go.D.Las
def tab {α : Type} (n : Nat) (g : Nat → α) : List α := (List.range n).map g
theorem tab_len {α : Type} (n : Nat) (g : Nat → α) : (tab n g).length = n := by simp [tab]
theorem tab_get {α : Type} {n : Nat} {g : Nat → α} {i : Nat} (h : i < n) (d : α) : (tab n g).getD i d = g i := by
  simp [tab, List.getD_eq_getElem?_getD, h]
theorem tab_set {α : Type} (n : Nat) (g : Nat → α) (i : Nat) (v : α) : (tab n g).set i v = tab n fun j => if j = i then v else g j := by
  refine List.ext_getElem (by simp [tab]) fun j h1 h2 => ?_
  simp only [tab, List.getElem_set, List.getElem_map, List.getElem_range]
  by_cases e : i = j
  · subst e; simp
  · rw [if_neg e, if_neg (fun h => e h.symm)]
theorem tab_congr {α : Type} {n : Nat} {g h : Nat → α} (e : ∀ i, i < n → g i = h i) : tab n g = tab n h := by
  unfold tab
  exact List.map_congr_left fun i hi => e i (List.mem_range.1 hi)
def nx (n back i : Nat) : Nat := if i = n - 1 then back else i + 1
def passU (n back : Nat) (f : List Bool) : Nat → List Bool → List Bool
  | 0, o => o
  | i + 1, o => passU n back f i (o.set i (o.getD i false || (f.getD i false && o.getD (nx n back i) false)))
def pv (n back : Nat) (a o : Nat → Bool) : Nat → Bool
  | 0 => o (n - 1) || (a (n - 1) && o back)
  | d + 1 => o (n - 1 - (d + 1)) || (a (n - 1 - (d + 1)) && pv n back a o d)
theorem passU_eq {n back : Nat} {f : List Bool} {a o : Nat → Bool} (hb : back < n) (hf : ∀ i, i < n → f.getD i false = a i) : ∀ k, k ≤ n → passU n back f k (tab n fun j => if j < k then o j else pv n back a o (n - 1 - j)) = tab n fun j => pv n back a o (n - 1 - j)
  | 0, _ => by
    unfold passU
    exact tab_congr fun i hi => by simp
  | k + 1, hk => by
    unfold passU
    rw [tab_get (show k < n by omega), tab_set, hf k (by omega)]
    rw [← passU_eq hb hf k (by omega)]
    congr 1
    refine tab_congr fun j hj => ?_
    by_cases e : j = k
    · subst e
      rw [if_pos rfl, if_pos (by omega), if_neg (by omega)]
      unfold nx
      by_cases h2 : j = n - 1
      · subst h2
        rw [if_pos rfl, tab_get hb, if_pos (by omega), show n - 1 - (n - 1) = 0 by omega]
        rfl
      · rw [if_neg h2, tab_get (show j + 1 < n by omega), if_neg (by omega)]
        obtain ⟨d, hd⟩ : ∃ d, n - 1 - j = d + 1 := ⟨n - 1 - j - 1, by omega⟩
        rw [hd, show n - 1 - (j + 1) = d by omega]
        show _ = (o (n - 1 - (d + 1)) || (a (n - 1 - (d + 1)) && pv n back a o d))
        rw [show n - 1 - (d + 1) = j by omega]
    · rw [if_neg e]
      by_cases h2 : j < k
      · rw [if_pos (by omega), if_pos h2]
      · rw [if_neg (by omega), if_neg h2]
def Str (n : Nat) (a b : Nat → Bool) (i : Nat) : Prop := ∃ j, i ≤ j ∧ j < n ∧ b j = true ∧ ∀ m, i ≤ m → m < j → a m = true
def AllA (n : Nat) (a : Nat → Bool) (i : Nat) : Prop := ∀ m, i ≤ m → m < n → a m = true
def UnP (n back : Nat) (a b : Nat → Bool) (i : Nat) : Prop := Str n a b i ∨ (AllA n a i ∧ Str n a b back)
theorem pv_iff {n back : Nat} {a o : Nat → Bool} : ∀ d, d < n → (pv n back a o d = true ↔ Str n a o (n - 1 - d) ∨ (AllA n a (n - 1 - d) ∧ o back = true))
  | 0, h => by
    simp only [pv, Bool.or_eq_true, Bool.and_eq_true, Nat.sub_zero]
    constructor
    · rintro (h1 | ⟨h1, h2⟩)
      · exact .inl ⟨n - 1, Nat.le_refl _, by omega, h1, fun m h3 h4 => by omega⟩
      · exact .inr ⟨fun m h3 h4 => by rw [show m = n - 1 by omega]; exact h1, h2⟩
    · rintro (⟨j, h1, h2, h3, _⟩ | ⟨h1, h2⟩)
      · exact .inl (by rw [← show j = n - 1 by omega]; exact h3)
      · exact .inr ⟨h1 _ (Nat.le_refl _) (by omega), h2⟩
  | d + 1, h => by
    have ih := pv_iff (n := n) (back := back) (a := a) (o := o) d (by omega)
    have e : n - 1 - d = n - 1 - (d + 1) + 1 := by omega
    rw [e] at ih
    generalize hi : n - 1 - (d + 1) = i at *
    have : pv n back a o (d + 1) = (o i || (a i && pv n back a o d)) := by rw [pv, hi]
    rw [this, Bool.or_eq_true, Bool.and_eq_true, ih]
    constructor
    · rintro (h1 | ⟨h1, ⟨j, h2, h3, h4, h5⟩ | ⟨h2, h3⟩⟩)
      · exact .inl ⟨i, Nat.le_refl _, by omega, h1, fun m h3 h4 => by omega⟩
      · exact .inl ⟨j, by omega, h3, h4, fun m h6 h7 => by
          by_cases e : m = i
          · subst e; exact h1
          · exact h5 m (by omega) h7⟩
      · exact .inr ⟨fun m h6 h7 => by
          by_cases e : m = i
          · subst e; exact h1
          · exact h2 m (by omega) h7, h3⟩
    · rintro (⟨j, h2, h3, h4, h5⟩ | ⟨h2, h3⟩)
      · by_cases e : j = i
        · subst e; exact .inl h4
        · exact .inr ⟨h5 i (Nat.le_refl _) (by omega), .inl ⟨j, by omega, h3, h4, fun m h6 h7 => h5 m (by omega) h7⟩⟩
      · exact .inr ⟨h2 i (Nat.le_refl _) (by omega), .inr ⟨fun m h6 h7 => h2 m (by omega) h7, h3⟩⟩
theorem two_pass {n back : Nat} {a b : Nat → Bool} (hb : back < n) {i : Nat} (hi : i < n) :
    pv n back a (fun j => pv n back a b (n - 1 - j)) (n - 1 - i) = true ↔ UnP n back a b i := by
  have o1 : ∀ j, j < n → (pv n back a b (n - 1 - j) = true ↔ Str n a b j ∨ (AllA n a j ∧ b back = true)) := fun j hj => by
    have := pv_iff (n := n) (back := back) (a := a) (o := b) (n - 1 - j) (by omega)
    rwa [show n - 1 - (n - 1 - j) = j by omega] at this
  have hsb : b back = true → Str n a b back := fun h => ⟨back, Nat.le_refl _, hb, h, fun m h1 h2 => by omega⟩
  have h2 := pv_iff (n := n) (back := back) (a := a) (o := fun j => pv n back a b (n - 1 - j)) (n - 1 - i) (by omega)
  rw [show n - 1 - (n - 1 - i) = i by omega] at h2
  rw [h2]
  unfold UnP
  constructor
  · rintro (⟨j, h1, h3, h4, h5⟩ | ⟨h1, h3⟩)
    · rcases (o1 j h3).1 h4 with ⟨k, k1, k2, k3, k4⟩ | ⟨k1, k2⟩
      · exact .inl ⟨k, by omega, k2, k3, fun m m1 m2 => by
          by_cases e : m < j
          · exact h5 m m1 e
          · exact k4 m (by omega) m2⟩
      · exact .inr ⟨fun m m1 m2 => by
          by_cases e : m < j
          · exact h5 m m1 e
          · exact k1 m (by omega) m2, hsb k2⟩
    · rcases (o1 back hb).1 h3 with k | ⟨_, k⟩
      · exact .inr ⟨h1, k⟩
      · exact .inr ⟨h1, hsb k⟩
  · rintro (h1 | ⟨h1, h3⟩)
    · exact .inl ⟨i, Nat.le_refl _, hi, (o1 i hi).2 (.inl h1), fun m m1 m2 => by omega⟩
    · exact .inr ⟨h1, (o1 back hb).2 (.inl h3)⟩
def pl (n back t : Nat) : Nat := if t < back then t else back + (t - back) % (n - back)
theorem pl_lt {n back t : Nat} (h : t < n) : pl n back t = t := by
  unfold pl
  split
  · rfl
  · rw [Nat.mod_eq_of_lt (by omega)]; omega
theorem pl_wrap {n back m : Nat} (hb : back < n) (h1 : back ≤ m) (h2 : m < n) : pl n back (n + (m - back)) = m := by
  unfold pl
  rw [if_neg (by omega), show n + (m - back) - back = (m - back) + (n - back) by omega, Nat.add_mod_right, Nat.mod_eq_of_lt (by omega)]
  omega
theorem pl_in {n back t : Nat} (hb : back < n) (h : n ≤ t) : back ≤ pl n back t ∧ pl n back t < n := by
  unfold pl
  rw [if_neg (by omega)]
  have := Nat.mod_lt (t - back) (show 0 < n - back by omega)
  omega
def untR (n back : Nat) (a b : Nat → Bool) : Nat → Nat → Bool
  | 0, _ => false
  | d + 1, t => if b (pl n back t) = true then true else if a (pl n back t) = false then false else untR n back a b d (t + 1)
theorem untR_iff {n back : Nat} {a b : Nat → Bool} : ∀ (d t : Nat), untR n back a b d t = true ↔ ∃ s, t ≤ s ∧ s < t + d ∧ b (pl n back s) = true ∧ ∀ r, t ≤ r → r < s → a (pl n back r) = true
  | 0, t => by
    simp only [untR, Bool.false_eq_true, false_iff]
    rintro ⟨s, h1, h2, _⟩
    omega
  | d + 1, t => by
    unfold untR
    by_cases hb : b (pl n back t) = true
    · rw [if_pos hb]
      exact ⟨fun _ => ⟨t, Nat.le_refl _, by omega, hb, fun r h1 h2 => by omega⟩, fun _ => rfl⟩
    · rw [if_neg hb]
      by_cases ha : a (pl n back t) = false
      · rw [if_pos ha]
        refine ⟨fun h => absurd h (by simp), ?_⟩
        rintro ⟨s, h1, h2, h3, h4⟩
        by_cases e : s = t
        · subst e; exact absurd h3 hb
        · have := h4 t (Nat.le_refl _) (by omega)
          rw [ha] at this; exact absurd this (by simp)
      · rw [if_neg ha, untR_iff d (t + 1)]
        constructor
        · rintro ⟨s, h1, h2, h3, h4⟩
          exact ⟨s, by omega, by omega, h3, fun r r1 r2 => by
            by_cases e : r = t
            · subst e; exact (Bool.not_eq_false _).mp ha
            · exact h4 r (by omega) r2⟩
        · rintro ⟨s, h1, h2, h3, h4⟩
          by_cases e : s = t
          · subst e; exact absurd h3 hb
          · exact ⟨s, by omega, by omega, h3, fun r r1 r2 => h4 r (by omega) r2⟩
theorem untR_un {n back : Nat} {a b : Nat → Bool} (hb : back < n) {i : Nat} (hi : i < n) : untR n back a b n i = true ↔ UnP n back a b i := by
  rw [untR_iff]
  unfold UnP
  constructor
  · rintro ⟨s, h1, h2, h3, h4⟩
    by_cases hs : s < n
    · rw [pl_lt hs] at h3
      exact .inl ⟨s, h1, hs, h3, fun m m1 m2 => by have := h4 m m1 m2; rwa [pl_lt (by omega)] at this⟩
    · obtain ⟨p1, p2⟩ := pl_in hb (show n ≤ s by omega)
      refine .inr ⟨fun m m1 m2 => by have := h4 m m1 (by omega); rwa [pl_lt m2] at this, pl n back s, p1, p2, h3, fun m m1 m2 => ?_⟩
      by_cases hm : n + (m - back) < s
      · have := h4 (n + (m - back)) (by omega) hm
        rwa [pl_wrap hb m1 (by omega)] at this
      · by_cases hib : i ≤ m
        · have := h4 m hib (by omega)
          rwa [pl_lt (by omega)] at this
        · exfalso
          have : pl n back s = back + (s - n) := by
            unfold pl
            rw [if_neg (by omega), show s - back = (s - n) + (n - back) by omega, Nat.add_mod_right, Nat.mod_eq_of_lt (by omega)]
          omega
  · rintro (⟨j, h1, h2, h3, h4⟩ | ⟨h1, j, h2, h3, h4, h5⟩)
    · exact ⟨j, h1, by omega, by rw [pl_lt h2]; exact h3, fun r r1 r2 => by rw [pl_lt (by omega)]; exact h4 r r1 r2⟩
    · by_cases hj : i ≤ j
      · exact ⟨j, hj, by omega, by rw [pl_lt h3]; exact h4, fun r r1 r2 => by rw [pl_lt (by omega)]; exact h1 r r1 (by omega)⟩
      · refine ⟨n + (j - back), by omega, by omega, by rw [pl_wrap hb h2 h3]; exact h4, fun r r1 r2 => ?_⟩
        by_cases hr : r < n
        · rw [pl_lt hr]; exact h1 r r1 hr
        · obtain ⟨k, hk, hk2⟩ : ∃ k, r = n + (k - back) ∧ back ≤ k := ⟨r - n + back, by omega, by omega⟩
          subst hk
          rw [pl_wrap hb hk2 (by omega)]
          exact h5 k hk2 (by omega)
def soP (n back : Nat) (f : Nat → Bool) (i : Nat) : Bool := pv n back (fun _ => true) (fun j => pv n back (fun _ => true) f (n - 1 - j)) (n - 1 - i)
def unP (n back : Nat) (a b : Nat → Bool) (i : Nat) : Bool := pv n back a (fun j => pv n back a b (n - 1 - j)) (n - 1 - i)
theorem unP_ref {n back : Nat} {a b : Nat → Bool} (hb : back < n) {i : Nat} (hi : i < n) : untR n back a b n i = unP n back a b i := by
  rw [Bool.eq_iff_iff, untR_un hb hi]
  exact (two_pass hb hi).symm
theorem passes {n back : Nat} {f o : List Bool} {a b : Nat → Bool} (hb : back < n) (hf : ∀ i, i < n → f.getD i false = a i) (ho : o = tab n b) :
    passU n back f n (passU n back f n o) = tab n (unP n back a b) := by
  have q : ∀ c : Nat → Bool, passU n back f n (tab n c) = tab n fun j => pv n back a c (n - 1 - j) := fun c => by
    rw [← passU_eq (o := c) hb hf n (Nat.le_refl _)]
    congr 1
    exact tab_congr fun i hi => by rw [if_pos hi]
  rw [ho, q, q]
  rfl
end Go.D.Las
end
/- Chapter 13: what a formula says at the places of a word, in plain Lean. -/
section
set_option linter.unusedVariables false
set_option linter.unusedSimpArgs false
namespace Go.D
namespace Las
structure Good (F : List Nd) (i : Nat) : Prop where
  k : inR (F.getD i default).k 0 9 = true
  a : (((nA F i).length : Nat) : Int) = ar (F.getD i default).k
  s : stands F i = true
  b : bad (F.getD i default) = false
theorem chkF_ok {F : List Nd} : ∀ (d i : Nat), (chkF F d i).2 = 0 → (∀ j, i ≤ j → j < i + d → Good F j) ∧ fo F (F.length - 1) = 0
  | 0, i, h => by
    unfold chkF at h
    by_cases c : fo F (F.length - 1) = 0
    · exact ⟨fun j h1 h2 => by omega, c⟩
    · rw [if_neg c] at h
      exact absurd h (by simp)
  | d + 1, i, h => by
    unfold chkF at h
    by_cases c1 : inR (F.getD i default).k 0 9 = true
    · rw [if_pos c1] at h
      by_cases c2 : (((nA F i).length : Nat) : Int) = ar (F.getD i default).k ∧ stands F i = true
      · rw [if_pos c2] at h
        by_cases c3 : bad (F.getD i default) = true
        · rw [if_pos c3] at h
          exact absurd h (by simp)
        · rw [if_neg c3] at h
          obtain ⟨h1, h2⟩ := chkF_ok d (i + 1) h
          refine ⟨fun j j1 j2 => ?_, h2⟩
          by_cases e : j = i
          · subst e; exact ⟨c1, c2.1, c2.2, (Bool.not_eq_true _).mp c3⟩
          · exact h1 j (by omega) (by omega)
      · rw [if_neg c2] at h
        exact absurd h (by simp)
    · rw [if_neg c1] at h
      exact absurd h (by simp)
structure Ok (F : List Nd) : Prop where
  pos : 0 < F.length
  le : F.length ≤ 40
  good : ∀ j, j < F.length → Good F j
  fst : fo F (F.length - 1) = 0
theorem chk_ok {F : List Nd} (h : (chk F).2 = 0) : Ok F := by
  unfold chk at h
  by_cases c1 : F.length = 0
  · rw [if_pos c1] at h; exact absurd h (by decide)
  · rw [if_neg c1] at h
    by_cases c2 : F.length > 40
    · rw [if_pos c2] at h; exact absurd h (by decide)
    · rw [if_neg c2] at h
      obtain ⟨h1, h2⟩ := chkF_ok _ _ h
      exact ⟨by omega, by omega, fun j hj => h1 j (Nat.zero_le _) (by omega), h2⟩
theorem Good.args {F : List Nd} {i : Nat} (h : Good F i) (hne : nA F i ≠ []) : 1 ≤ i ∧ 0 ≤ (nA F i).getD 0 0 ∧ (nA F i).getD 0 0 < i ∧ (nA F i).getD ((nA F i).length - 1) 0 = (i : Int) - 1 := by
  obtain ⟨y, hy⟩ := Option.isSome_iff_exists.1 h.s
  obtain ⟨m, hm⟩ : ∃ m, (nA F i).length = m + 1 := ⟨(nA F i).length - 1, by have := List.length_pos_iff.2 hne; omega⟩
  rw [hm] at hy
  obtain ⟨a, b, _, _⟩ := stB_end m _ _ hy
  have hl : (nA F i).getD m 0 = (i : Int) - 1 := by
    unfold stB at hy
    by_cases c : (nA F i).getD m 0 = (i : Int) - 1
    · exact c
    · rw [if_neg c] at hy; exact absurd hy (by simp)
  rw [hm, Nat.add_sub_cancel]
  exact ⟨by omega, b, by omega, hl⟩
def bit (x m : Int) : Bool := decide (x.toNat / 2 ^ m.toNat % 2 = 1)
def tk (n back : Nat) (W : List Int) (k m : Int) (a b : Nat → Bool) : Nat → Bool :=
  if k = 0 then fun _ => true
  else if k = 1 then fun i => bit (W.getD i 0) m
  else if k = 2 then fun i => !a i
  else if k = 3 then fun i => a i && b i
  else if k = 4 then fun i => a i || b i
  else if k = 5 then fun i => !a i || b i
  else if k = 6 then fun i => !soP n back (fun j => !a j) i
  else if k = 7 then soP n back a
  else if k = 8 then fun i => !soP n back (fun j => !(!a j || soP n back b j)) i
  else unP n back a b
abbrev NB := Nat → Bool
def tvK (g : Int → Int → NB → NB → NB) (F : List Nd) : Nat → Nat → NB
  | 0, _ => fun _ => false
  | k + 1, r => g (F.getD r default).k (F.getD r default).n
      (if 0 ≤ (nA F r).getD 0 0 ∧ (nA F r).getD 0 0 < r then tvK g F k ((nA F r).getD 0 0).toNat else fun _ => false)
      (if 0 ≤ (nA F r).getD ((nA F r).length - 1) 0 ∧ (nA F r).getD ((nA F r).length - 1) 0 < r then tvK g F k ((nA F r).getD ((nA F r).length - 1) 0).toNat else fun _ => false)
theorem tvK_fuel (g : Int → Int → NB → NB → NB) (F : List Nd) : ∀ (k k' r : Nat), r < k → r < k' → tvK g F k r = tvK g F k' r
  | 0, _, r, h, _ => by omega
  | k + 1, 0, r, _, h => by omega
  | k + 1, k' + 1, r, h, h' => by
    unfold tvK
    have q : ∀ a : Int, (if 0 ≤ a ∧ a < r then tvK g F k a.toNat else fun _ => false) = if 0 ≤ a ∧ a < r then tvK g F k' a.toNat else fun _ => false := fun a => by
      by_cases c : 0 ≤ a ∧ a < r
      · rw [if_pos c, if_pos c, tvK_fuel g F k k' _ (by omega) (by omega)]
      · rw [if_neg c, if_neg c]
    rw [q, q]
def tv (g : Int → Int → NB → NB → NB) (F : List Nd) (r : Nat) : NB := tvK g F (r + 1) r
def opA (g : Int → Int → NB → NB → NB) (F : List Nd) (r : Nat) : NB := tv g F ((nA F r).getD 0 0).toNat
def opB (g : Int → Int → NB → NB → NB) (F : List Nd) (r : Nat) : NB := tv g F ((nA F r).getD ((nA F r).length - 1) 0).toNat
theorem tv_eq {g : Int → Int → NB → NB → NB} {F : List Nd} {r : Nat} (h : Good F r) (hne : nA F r ≠ []) : tv g F r = g (F.getD r default).k (F.getD r default).n (opA g F r) (opB g F r) := by
  obtain ⟨h1, h2, h3, h4⟩ := h.args hne
  unfold tv opA opB
  conv => lhs; unfold tvK
  rw [if_pos ⟨h2, h3⟩, if_pos (by omega)]
  unfold tv
  rw [tvK_fuel g F r _ _ (by omega) (Nat.lt_succ_self _), tvK_fuel g F r _ ((nA F r).getD ((nA F r).length - 1) 0).toNat (by omega) (Nat.lt_succ_self _)]
theorem tv_leaf {n back : Nat} {W : List Int} {F : List Nd} {r : Nat} (hk : (F.getD r default).k = 0 ∨ (F.getD r default).k = 1) (a b : NB) : tv (tk n back W) F r = tk n back W (F.getD r default).k (F.getD r default).n a b := by
  unfold tv tvK
  rcases hk with h | h
  · rw [h]; rfl
  · rw [h]; rfl
end Las
end Go.D
end
/- Chapter 13: what a formula says along an infinite word; words that are alike but for stuttering. Plain Lean. -/
section
set_option linter.unusedVariables false
set_option linter.unusedSimpArgs false
namespace Go.D
namespace Las
noncomputable def dec (p : Prop) : Bool := @decide p (Classical.propDecidable p)
theorem dec_iff {p : Prop} : dec p = true ↔ p := @decide_eq_true_iff p (Classical.propDecidable p)
theorem dec_congr {p q : Prop} (h : p ↔ q) : dec p = dec q := by rw [Bool.eq_iff_iff, dec_iff, dec_iff]; exact h
theorem least {P : Nat → Prop} : (∃ n, P n) → ∃ n, P n ∧ ∀ m, m < n → ¬ P m := by
  rintro ⟨n, hn⟩
  induction n using Nat.strongRecOn with
  | _ n ih =>
    by_cases h : ∃ m, m < n ∧ P m
    · obtain ⟨m, h1, h2⟩ := h
      exact ih m h1 h2
    · exact ⟨n, hn, fun m h1 h2 => h ⟨m, h1, h2⟩⟩
def Un (a b : Nat → Bool) (i : Nat) : Prop := ∃ j, i ≤ j ∧ b j = true ∧ ∀ m, i ≤ m → m < j → a m = true
noncomputable def unI (a b : Nat → Bool) (i : Nat) : Bool := dec (Un a b i)
noncomputable def soI (b : Nat → Bool) (i : Nat) : Bool := unI (fun _ => true) b i
noncomputable def skB (u : Nat → Int) (k m : Int) (a b : Nat → Bool) : Nat → Bool :=
  if k = 0 then fun _ => true
  else if k = 1 then fun i => bit (u i) m
  else if k = 2 then fun i => !a i
  else if k = 3 then fun i => a i && b i
  else if k = 4 then fun i => a i || b i
  else if k = 5 then fun i => !a i || b i
  else if k = 6 then fun i => !soI (fun j => !a j) i
  else if k = 7 then soI a
  else if k = 8 then fun i => !soI (fun j => !(!a j || soI b j)) i
  else unI a b
theorem skB_leaf {u : Nat → Int} {F : List Nd} {r : Nat} (hk : (F.getD r default).k = 0 ∨ (F.getD r default).k = 1) (a b : NB) : tv (skB u) F r = skB u (F.getD r default).k (F.getD r default).n a b := by
  unfold tv tvK
  rcases hk with h | h
  · rw [h]; rfl
  · rw [h]; rfl
theorem Good.leaf {F : List Nd} {i : Nat} (h : Good F i) (h0 : nA F i = []) : (F.getD i default).k = 0 ∨ (F.getD i default).k = 1 := by
  have h1 := h.a
  rw [h0] at h1
  unfold ar at h1
  split at h1
  · assumption
  · split at h1
    · exact absurd h1 (by decide)
    · exact absurd h1 (by decide)
theorem pl_bd' {n back t : Nat} (hb : back < n) : pl n back t < n := by
  by_cases h : t < n
  · rw [pl_lt h]; exact h
  · exact (pl_in hb (by omega)).2
theorem pl_add {n back t : Nat} (d : Nat) : pl n back (pl n back t + d) = pl n back (t + d) := by
  unfold pl
  by_cases h : t < back
  · rw [if_pos h]
  · rw [if_neg h, if_neg (by omega), if_neg (by omega)]
    have e1 : back + (t - back) % (n - back) + d - back = (t - back) % (n - back) + d := by omega
    have e2 : t + d - back = (t - back) + d := by omega
    rw [e1, e2, Nat.mod_add_mod]
theorem pl_per {n back s : Nat} (h : back ≤ s) : pl n back (s + (n - back)) = pl n back s := by
  unfold pl
  rw [if_neg (by omega), if_neg (by omega), show s + (n - back) - back = (s - back) + (n - back) by omega, Nat.add_mod_right]
theorem un_pl {n back : Nat} {a b : Nat → Bool} (hb : back < n) (t : Nat) : unP n back a b (pl n back t) = unI (fun s => a (pl n back s)) (fun s => b (pl n back s)) t := by
  unfold unI
  rw [← unP_ref hb (pl_bd' hb), Bool.eq_iff_iff, dec_iff, untR_iff]
  have hp : ∀ d, pl n back (pl n back t + d) = pl n back (t + d) := fun d => pl_add d
  constructor
  · rintro ⟨s, h1, h2, h3, h4⟩
    refine ⟨t + (s - pl n back t), by omega, ?_, fun m h5 h6 => ?_⟩
    · show b (pl n back (t + (s - pl n back t))) = true
      rw [← hp, show pl n back t + (s - pl n back t) = s by omega]; exact h3
    · show a (pl n back m) = true
      have := h4 (pl n back t + (m - t)) (by omega) (by omega)
      rw [hp, show t + (m - t) = m by omega] at this
      exact this
  · rintro ⟨s, h1, h2, h3⟩
    have key : ∀ d, b (pl n back (t + d)) = true → (∀ r, r < d → a (pl n back (t + r)) = true) → ∃ d', d' < n ∧ b (pl n back (t + d')) = true ∧ ∀ r, r < d' → a (pl n back (t + r)) = true := by
      intro d
      induction d using Nat.strongRecOn with
      | _ d ih =>
        intro g1 g2
        by_cases c : d < n
        · exact ⟨d, c, g1, g2⟩
        · refine ih (d - (n - back)) (by omega) ?_ fun r hr => g2 r (by omega)
          have e := pl_per (n := n) (back := back) (s := t + (d - (n - back))) (by omega)
          rw [show t + (d - (n - back)) + (n - back) = t + d by omega] at e
          rw [← e]; exact g1
    obtain ⟨d, g1, g2, g3⟩ := key (s - t) (by rw [show t + (s - t) = s by omega]; exact h2) (fun r hr => h3 (t + r) (by omega) (by omega))
    refine ⟨pl n back t + d, by omega, by omega, by rw [hp]; exact g2, fun r h5 h6 => ?_⟩
    have := g3 (r - pl n back t) (by omega)
    rw [← hp, show pl n back t + (r - pl n back t) = r by omega] at this
    exact this
theorem so_pl {n back : Nat} {a : Nat → Bool} (hb : back < n) (t : Nat) : soP n back a (pl n back t) = soI (fun s => a (pl n back s)) t := un_pl (a := fun _ => true) hb t
theorem tk_sk {n back : Nat} {W : List Int} {u : Nat → Int} (hb : back < n) (hu : ∀ s, W.getD (pl n back s) 0 = u s) (k m : Int) (a b : NB) (t : Nat) :
    tk n back W k m a b (pl n back t) = skB u k m (fun s => a (pl n back s)) (fun s => b (pl n back s)) t := by
  unfold tk skB
  by_cases k0 : k = 0
  · rw [if_pos k0, if_pos k0]
  rw [if_neg k0, if_neg k0]
  by_cases k1 : k = 1
  · rw [if_pos k1, if_pos k1, hu]
  rw [if_neg k1, if_neg k1]
  by_cases k2 : k = 2
  · rw [if_pos k2, if_pos k2]
  rw [if_neg k2, if_neg k2]
  by_cases k3 : k = 3
  · rw [if_pos k3, if_pos k3]
  rw [if_neg k3, if_neg k3]
  by_cases k4 : k = 4
  · rw [if_pos k4, if_pos k4]
  rw [if_neg k4, if_neg k4]
  by_cases k5 : k = 5
  · rw [if_pos k5, if_pos k5]
  rw [if_neg k5, if_neg k5]
  by_cases k6 : k = 6
  · rw [if_pos k6, if_pos k6]
    show (!soP n back (fun j => !a j) (pl n back t)) = _
    rw [so_pl hb]
  rw [if_neg k6, if_neg k6]
  by_cases k7 : k = 7
  · rw [if_pos k7, if_pos k7, so_pl hb]
  rw [if_neg k7, if_neg k7]
  by_cases k8 : k = 8
  · rw [if_pos k8, if_pos k8]
    show (!soP n back (fun j => !(!a j || soP n back b j)) (pl n back t)) = _
    rw [so_pl hb]
    have e : (fun s => !(!a (pl n back s) || soP n back b (pl n back s))) = fun s => !(!a (pl n back s) || soI (fun s => b (pl n back s)) s) := funext fun s => by rw [so_pl hb]
    rw [e]
  rw [if_neg k8, if_neg k8, un_pl hb]
theorem tv_pl {n back : Nat} {W : List Int} {u : Nat → Int} (hb : back < n) (hu : ∀ s, W.getD (pl n back s) 0 = u s) {F : List Nd} (hk : ∀ j, j < F.length → Good F j) : ∀ (r : Nat), r < F.length → ∀ t, tv (tk n back W) F r (pl n back t) = tv (skB u) F r t := by
  intro r
  induction r using Nat.strongRecOn with
  | _ r ih =>
    intro hr t
    have hg := hk r hr
    by_cases h0 : nA F r = []
    · rw [tv_leaf (hg.leaf h0) (fun _ => false) (fun _ => false), skB_leaf (hg.leaf h0) (fun _ => false) (fun _ => false), tk_sk hb hu]
    · obtain ⟨h1, h2, h3, h4⟩ := hg.args h0
      rw [tv_eq hg h0, tv_eq hg h0, tk_sk hb hu]
      have eA : (fun s => opA (tk n back W) F r (pl n back s)) = opA (skB u) F r := funext fun s => ih _ (by omega) (by omega) s
      have eB : (fun s => opB (tk n back W) F r (pl n back s)) = opB (skB u) F r := funext fun s => ih _ (by omega) (by omega) s
      rw [eA, eB]
structure Bis (R : Nat → Nat → Prop) : Prop where
  fw : ∀ {i j}, R i j → ∀ i', i ≤ i' → ∃ j', j ≤ j' ∧ R i' j' ∧ ∀ m', j ≤ m' → m' < j' → ∃ m, i ≤ m ∧ m < i' ∧ R m m'
  bw : ∀ {i j}, R i j → ∀ j', j ≤ j' → ∃ i', i ≤ i' ∧ R i' j' ∧ ∀ m, i ≤ m → m < i' → ∃ m', j ≤ m' ∧ m' < j' ∧ R m m'
theorem un_bis {R : Nat → Nat → Prop} (hR : Bis R) {a b a' b' : NB} (ha : ∀ i j, R i j → a i = a' j) (hb : ∀ i j, R i j → b i = b' j) {i j : Nat} (h : R i j) : unI a b i = unI a' b' j := by
  refine dec_congr ⟨?_, ?_⟩
  · rintro ⟨i', h1, h2, h3⟩
    obtain ⟨j', g1, g2, g3⟩ := hR.fw h i' h1
    refine ⟨j', g1, by rw [← hb _ _ g2]; exact h2, fun m' k1 k2 => ?_⟩
    obtain ⟨m, m1, m2, m3⟩ := g3 m' k1 k2
    rw [← ha _ _ m3]; exact h3 m m1 m2
  · rintro ⟨j', h1, h2, h3⟩
    obtain ⟨i', g1, g2, g3⟩ := hR.bw h j' h1
    refine ⟨i', g1, by rw [hb _ _ g2]; exact h2, fun m k1 k2 => ?_⟩
    obtain ⟨m', m1, m2, m3⟩ := g3 m k1 k2
    rw [ha _ _ m3]; exact h3 m' m1 m2
theorem so_bis {R : Nat → Nat → Prop} (hR : Bis R) {b b' : NB} (hb : ∀ i j, R i j → b i = b' j) {i j : Nat} (h : R i j) : soI b i = soI b' j := un_bis hR (fun _ _ _ => rfl) hb h
theorem sk_bis {R : Nat → Nat → Prop} (hR : Bis R) {u v : Nat → Int} {k m : Int} (hu : k = 1 → ∀ i j, R i j → bit (u i) m = bit (v j) m) {a b a' b' : NB} (ha : ∀ i j, R i j → a i = a' j) (hb : ∀ i j, R i j → b i = b' j) {i j : Nat} (h : R i j) :
    skB u k m a b i = skB v k m a' b' j := by
  unfold skB
  by_cases k0 : k = 0
  · rw [if_pos k0, if_pos k0]
  rw [if_neg k0, if_neg k0]
  by_cases k1 : k = 1
  · rw [if_pos k1, if_pos k1]; exact hu k1 i j h
  rw [if_neg k1, if_neg k1]
  by_cases k2 : k = 2
  · rw [if_pos k2, if_pos k2, ha i j h]
  rw [if_neg k2, if_neg k2]
  by_cases k3 : k = 3
  · rw [if_pos k3, if_pos k3, ha i j h, hb i j h]
  rw [if_neg k3, if_neg k3]
  by_cases k4 : k = 4
  · rw [if_pos k4, if_pos k4, ha i j h, hb i j h]
  rw [if_neg k4, if_neg k4]
  by_cases k5 : k = 5
  · rw [if_pos k5, if_pos k5, ha i j h, hb i j h]
  rw [if_neg k5, if_neg k5]
  by_cases k6 : k = 6
  · rw [if_pos k6, if_pos k6]
    show (!soI (fun j => !a j) i) = !soI (fun j => !a' j) j
    rw [so_bis hR (b' := fun j => !a' j) (fun i j hij => by rw [ha i j hij]) h]
  rw [if_neg k6, if_neg k6]
  by_cases k7 : k = 7
  · rw [if_pos k7, if_pos k7, so_bis hR ha h]
  rw [if_neg k7, if_neg k7]
  by_cases k8 : k = 8
  · rw [if_pos k8, if_pos k8]
    show (!soI (fun j => !(!a j || soI b j)) i) = !soI (fun j => !(!a' j || soI b' j)) j
    rw [so_bis hR (b' := fun j => !(!a' j || soI b' j)) (fun i j hij => by rw [ha i j hij, so_bis hR hb hij]) h]
  rw [if_neg k8, if_neg k8, un_bis hR ha hb h]
theorem tv_bis {R : Nat → Nat → Prop} (hR : Bis R) {u v : Nat → Int} (hu : ∀ i j, R i j → u i = v j) {F : List Nd} (hk : ∀ j, j < F.length → Good F j) : ∀ (r : Nat), r < F.length → ∀ i j, R i j → tv (skB u) F r i = tv (skB v) F r j := by
  intro r
  induction r using Nat.strongRecOn with
  | _ r ih =>
    intro hr i j h
    have hg := hk r hr
    by_cases h0 : nA F r = []
    · rw [skB_leaf (hg.leaf h0) (fun _ => false) (fun _ => false), skB_leaf (hg.leaf h0) (fun _ => false) (fun _ => false)]
      exact sk_bis hR (fun _ i j hij => by rw [hu i j hij]) (fun _ _ _ => rfl) (fun _ _ _ => rfl) h
    · obtain ⟨h1, h2, h3, h4⟩ := hg.args h0
      rw [tv_eq hg h0, tv_eq hg h0]
      exact sk_bis hR (fun _ i j hij => by rw [hu i j hij]) (fun i j hij => ih _ (by omega) (by omega) i j hij) (fun i j hij => ih _ (by omega) (by omega) i j hij) h
def pre (u : Nat → Int) (n : Nat) : List Int := (List.range n).map u
theorem pre_succ (u : Nat → Int) (n : Nat) : pre u (n + 1) = pre u n ++ [u n] := by simp [pre, List.range_succ]
theorem pre_len (u : Nat → Int) (n : Nat) : (pre u n).length = n := by simp [pre]
def oc (u : Nat → Int) (n : Nat) : List Int := once (pre u n)
theorem oc_succ (u : Nat → Int) (n : Nat) : oc u (n + 1) = oc u n ∨ oc u (n + 1) = oc u n ++ [u n] := by
  unfold oc
  rw [pre_succ]
  by_cases h : pre u n = []
  · rw [h]; exact .inr rfl
  · rw [once_append h, dd]
    by_cases e : u n = lastI (pre u n)
    · rw [if_pos e]; exact .inl (by simp [dd])
    · rw [if_neg e]; exact .inr (by simp [dd])
theorem oc_last (u : Nat → Int) (n : Nat) : oc u (n + 1) ≠ [] ∧ lastI (oc u (n + 1)) = u n := by
  have hne : pre u (n + 1) ≠ [] := by rw [pre_succ]; simp
  obtain ⟨h1, h2⟩ := once_last hne
  refine ⟨h1, h2.trans ?_⟩
  rw [pre_succ, lastI_snoc]
theorem oc_mono (u : Nat → Int) {i j : Nat} (h : i ≤ j) : oc u i <+: oc u j := by
  induction j with
  | zero => rw [show i = 0 by omega]; exact List.prefix_refl _
  | succ j ih =>
    rcases Nat.lt_or_ge j i with c | c
    · rw [show i = j + 1 by omega]; exact List.prefix_refl _
    · refine (ih c).trans ?_
      rcases oc_succ u j with e | e
      · rw [e]; exact List.prefix_refl _
      · rw [e]; exact List.prefix_append _ _
theorem oc_mid (u : Nat → Int) {i : Nat} {k : Nat} : ∀ (j : Nat), i ≤ j → (oc u i).length ≤ k → k ≤ (oc u j).length → ∃ m, i ≤ m ∧ m ≤ j ∧ (oc u m).length = k := by
  intro j
  induction j with
  | zero => exact fun h1 h2 h3 => ⟨0, by omega, by omega, by rw [show i = 0 by omega] at h2; omega⟩
  | succ j ih =>
    intro h1 h2 h3
    rcases Nat.lt_or_ge j i with c | c
    · exact ⟨j + 1, h1, Nat.le_refl _, by rw [show i = j + 1 by omega] at h2; omega⟩
    · by_cases e : k ≤ (oc u j).length
      · obtain ⟨m, m1, m2, m3⟩ := ih c h2 e
        exact ⟨m, m1, by omega, m3⟩
      · refine ⟨j + 1, h1, Nat.le_refl _, ?_⟩
        rcases oc_succ u j with g | g
        · rw [g] at h3; omega
        · rw [g] at h3 ⊢; simp at h3 ⊢; omega
theorem pfx_eq {a b l : List Int} (h1 : a <+: l) (h2 : b <+: l) (h : a.length = b.length) : a = b := by
  rw [List.prefix_iff_eq_take] at h1 h2
  rw [h1, h2, h]
def Cof (u v : Nat → Int) : Prop := ∀ n, ∃ m, oc u n <+: oc v m
def Rel (u v : Nat → Int) (i j : Nat) : Prop := oc u (i + 1) = oc v (j + 1)
theorem cof_at {u v : Nat → Int} (h : Cof u v) (i : Nat) : ∃ j, oc v (j + 1) = oc u (i + 1) := by
  obtain ⟨m, hm⟩ := h (i + 1)
  have h1 := (oc_last u i).1
  have h2 := List.length_pos_iff.2 h1
  have hl : (oc u (i + 1)).length ≤ (oc v m).length := hm.length_le
  have h0 : (oc v 0).length = 0 := rfl
  obtain ⟨j, j1, j2, j3⟩ := oc_mid v (i := 0) (k := (oc u (i + 1)).length) m (Nat.zero_le _) (by omega) hl
  obtain ⟨j', rfl⟩ : ∃ j', j = j' + 1 := ⟨j - 1, by
    rcases Nat.eq_zero_or_pos j with e | e
    · rw [e] at j3; omega
    · omega⟩
  exact ⟨j', pfx_eq (oc_mono v j2) hm j3⟩
theorem rel_fw {u v : Nat → Int} (h : Cof u v) {i j : Nat} (hR : Rel u v i j) (i' : Nat) (hi : i ≤ i') : ∃ j', j ≤ j' ∧ Rel u v i' j' ∧ ∀ m', j ≤ m' → m' < j' → ∃ m, i ≤ m ∧ m < i' ∧ Rel u v m m' := by
  unfold Rel at hR ⊢
  have hm := oc_mono u (show i + 1 ≤ i' + 1 by omega)
  by_cases e : (oc u (i' + 1)).length = (oc u (i + 1)).length
  · have e2 := pfx_eq hm (List.prefix_refl _) e.symm
    exact ⟨j, Nat.le_refl _, by rw [← e2]; exact hR, fun m' h1 h2 => by omega⟩
  · have hlt : (oc u (i + 1)).length < (oc u (i' + 1)).length := by
      have := hm.length_le; omega
    obtain ⟨j0, h0⟩ := cof_at h i'
    obtain ⟨j', p1, p2⟩ := least (P := fun j' => (oc u (i' + 1)).length ≤ (oc v (j' + 1)).length) ⟨j0, by rw [h0]; exact Nat.le_refl _⟩
    have hj0 : j' ≤ j0 := by
      rcases Nat.lt_or_ge j0 j' with c | c
      · exact absurd (by rw [h0]; exact Nat.le_refl _) (p2 j0 c)
      · exact c
    have q1 := oc_mono v (show j' + 1 ≤ j0 + 1 by omega)
    have e3 : oc v (j' + 1) = oc u (i' + 1) := by
      refine pfx_eq q1 (by rw [h0]; exact List.prefix_refl _) ?_
      have := q1.length_le
      rw [h0] at this
      omega
    have hjj : j ≤ j' := by
      rcases Nat.lt_or_ge j' j with c | c
      · have := (oc_mono v (show j' + 1 ≤ j + 1 by omega)).length_le
        rw [← hR] at this
        omega
      · exact c
    refine ⟨j', hjj, e3.symm, fun m' k1 k2 => ?_⟩
    have k3 := p2 m' k2
    have k4 := (oc_mono v (show j + 1 ≤ m' + 1 by omega)).length_le
    rw [← hR] at k4
    obtain ⟨m, m1, m2, m3⟩ := oc_mid u (i := i + 1) (k := (oc v (m' + 1)).length) (i' + 1) (by omega) k4 (by omega)
    have m4 : m ≠ i' + 1 := fun c => by rw [c] at m3; omega
    refine ⟨m - 1, by omega, by omega, ?_⟩
    rw [show m - 1 + 1 = m by omega]
    refine pfx_eq (oc_mono u (show m ≤ i' + 1 by omega)) ?_ m3
    rw [← e3]
    exact oc_mono v (by omega)
theorem rel_bis {u v : Nat → Int} (h1 : Cof u v) (h2 : Cof v u) : Bis (Rel u v) where
  fw hR i' hi := rel_fw h1 hR i' hi
  bw hR j' hj := by
    obtain ⟨i', a, b, c⟩ := rel_fw h2 (show Rel v u _ _ from hR.symm) j' hj
    exact ⟨i', a, b.symm, fun m k1 k2 => by
      obtain ⟨m', g1, g2, g3⟩ := c m k1 k2
      exact ⟨m', g1, g2, g3.symm⟩⟩
theorem rel_zero (u v : Nat → Int) (h : Cof u v) : u 0 = v 0 → Rel u v 0 0 := by
  intro e
  show once [u 0] = once [v 0]
  rw [e]
theorem rel_at {u v : Nat → Int} {i j : Nat} (h : Rel u v i j) : u i = v j := by
  rw [← (oc_last u i).2, ← (oc_last v j).2]
  unfold Rel at h
  rw [h]
theorem cof_zero {u v : Nat → Int} (h : Cof u v) : u 0 = v 0 := by
  obtain ⟨m, hm⟩ := h 1
  have e : oc u 1 = [u 0] := rfl
  rw [e] at hm
  obtain ⟨m', rfl⟩ : ∃ m', m = m' + 1 := ⟨m - 1, by
    rcases Nat.eq_zero_or_pos m with c | c
    · rw [c] at hm
      have := hm.length_le
      have h0 : (oc v 0).length = 0 := rfl
      simp at this; omega
    · omega⟩
  have h1 := oc_mono v (show 1 ≤ m' + 1 by omega)
  have e2 : oc v 1 = [v 0] := rfl
  rw [e2] at h1
  have := pfx_eq hm h1 rfl
  simpa using this
theorem dd_dd : ∀ (l : List Int) (p : Int), dd p (dd p l) = dd p l
  | [], p => rfl
  | x :: l, p => by
    rw [dd]
    by_cases h : x = p
    · rw [if_pos h]; exact dd_dd l p
    · rw [if_neg h, dd, if_neg h, dd_dd l x]
theorem once_once (l : List Int) : once (once l) = once l := by
  cases l with
  | nil => rfl
  | cons x l => rw [once, once, dd_dd]
theorem pre_rep {P Q : List Int} (hQ : Q ≠ []) (k : Nat) : pre (atW P Q) (P.length + k * Q.length) = P ++ rep Q k := by
  have hq := List.length_pos_iff.2 hQ
  refine List.ext_getElem (by simp [pre, rep_len]) fun i h1 h2 => ?_
  rw [pre_len] at h1
  have e1 : (pre (atW P Q) (P.length + k * Q.length))[i] = atW P Q i := by simp [pre]
  rw [e1]
  unfold atW
  by_cases c : i < P.length
  · rw [if_pos c, List.getElem_append_left c, List.getD_eq_getElem?_getD, List.getElem?_eq_getElem c]; rfl
  · rw [if_neg c, List.getElem_append_right (by omega)]
    have hg := rep_get (l := Q) (k := k) (i := i - P.length) (by omega)
    rw [← hg, List.getD_eq_getElem?_getD, List.getElem?_eq_getElem (by rw [rep_len]; omega)]; rfl
theorem once_rep {R : List Int} (P : List Int) (h : R ≠ []) (k : Nat) : once (P ++ rep R (k + 1)) = once (P ++ R) ++ rep (dd (lastI R) R) k := by
  rw [rep, ← List.append_assoc, once_append (by simp [h]), lastI_append _ h, dd_rep h]
theorem unst_cof {P Q : List Int} (hQ : Q ≠ []) : Cof (atW P Q) (atW (unst P Q).1 (unst P Q).2) ∧ Cof (atW (unst P Q).1 (unst P Q).2) (atW P Q) := by
  have hq := List.length_pos_iff.2 hQ
  have hU : ∀ k, oc (atW P Q) (P.length + (k + 1) * Q.length) = once (P ++ Q) ++ rep (dd (lastI Q) Q) k := fun k => by
    unfold oc; rw [pre_rep hQ, once_rep P hQ]
  have hle : ∀ n, n ≤ P.length + (n + 1) * Q.length := fun n => by
    have : n * 1 ≤ (n + 1) * Q.length := Nat.mul_le_mul (by omega) hq
    omega
  unfold unst
  by_cases hD : dd (lastI Q) Q = []
  · rw [if_pos hD]
    have hc : ([lastI Q] : List Int) ≠ [] := by simp
    have hO : once (P ++ Q) = (once (P ++ Q)).dropLast ++ [lastI Q] := by
      obtain ⟨h1, h2⟩ := once_last (l := P ++ Q) (by simp [hQ])
      have := dropLast_snoc h1
      rwa [h2, lastI_append _ hQ] at this
    have hV : ∀ k, oc (atW (once (P ++ Q)).dropLast [lastI Q]) ((once (P ++ Q)).dropLast.length + (k + 1) * 1) = once (P ++ Q) := fun k => by
      unfold oc
      have := pre_rep (P := (once (P ++ Q)).dropLast) hc (k + 1)
      rw [show ([lastI Q] : List Int).length = 1 from rfl] at this
      rw [this, once_rep _ hc, ← hO, once_once]
      have e : dd (lastI [lastI Q]) [lastI Q] = [] := by
        have : lastI [lastI Q] = lastI Q := rfl
        rw [this, dd, if_pos rfl]; rfl
      rw [e, rep_nil, List.append_nil]
    have e1 : atW (short (once (P ++ Q)).dropLast [lastI Q]).1 (short (once (P ++ Q)).dropLast [lastI Q]).2 = atW (once (P ++ Q)).dropLast [lastI Q] := funext fun i => short_at _ hc i
    rw [e1]
    constructor
    · intro n
      refine ⟨(once (P ++ Q)).dropLast.length + (0 + 1) * 1, ?_⟩
      rw [hV 0]
      refine (oc_mono _ (hle n)).trans ?_
      rw [hU n, hD, rep_nil, List.append_nil]; exact List.prefix_refl _
    · intro n
      refine ⟨P.length + (0 + 1) * Q.length, ?_⟩
      rw [hU 0]
      refine (oc_mono _ (show n ≤ (once (P ++ Q)).dropLast.length + (n + 1) * 1 by omega)).trans ?_
      rw [hV n]; exact List.prefix_append _ _
  · rw [if_neg hD]
    have hd := List.length_pos_iff.2 hD
    have hV : ∀ k, oc (atW (once (P ++ Q)) (dd (lastI Q) Q)) ((once (P ++ Q)).length + k * (dd (lastI Q) Q).length) = once (P ++ Q) ++ rep (dd (lastI Q) Q) k := fun k => by
      unfold oc
      rw [pre_rep hD, ← once_rep P hQ, once_once]
    have e1 : atW (short (once (P ++ Q)) (dd (lastI Q) Q)).1 (short (once (P ++ Q)) (dd (lastI Q) Q)).2 = atW (once (P ++ Q)) (dd (lastI Q) Q) := funext fun i => short_at _ hD i
    rw [e1]
    constructor
    · intro n
      refine ⟨(once (P ++ Q)).length + n * (dd (lastI Q) Q).length, ?_⟩
      rw [hV n, ← hU n]
      exact oc_mono _ (hle n)
    · intro n
      refine ⟨P.length + (n + 1) * Q.length, ?_⟩
      rw [hU n, ← hV n]
      refine oc_mono _ ?_
      have : n * 1 ≤ n * (dd (lastI Q) Q).length := Nat.mul_le_mul (Nat.le_refl _) hd
      omega
end Las
end Go.D
end
/- Chapter 13: Shortest and Unstuttered in the reference; LassoWords. -/
section
set_option linter.unusedVariables false
set_option linter.unusedSimpArgs false
namespace Go.D
open Las
section
variable {w : Wd} {Q : List Int} (hQ : Q.length ≤ 1000) (hP : (L w.p).length ≤ 1000) {lo : Nat} {x2 : DV} {σ : Store}
include hQ hP
end
theorem out_pl {σ : Store} {lo : Nat} {l : List Int} {x : DV} (h : Out σ lo 1 l.length (eInts l) x) : PL x l := by
  rcases h.2 with ⟨h1, rfl⟩ | ⟨_, r, v, rfl, _, _⟩
  · exact .inl ⟨rfl, List.length_eq_zero_iff.1 h1⟩
  · exact .inr (.inr ⟨r, v, rfl⟩)
theorem Out.pushI {σ : Store} {lo : Nat} {l : List Int} {v : Int} {x : DV} (ho : Out σ lo 1 l.length (eInts l) x) (hn : l.length ≤ 100000) (hlo : lo ≤ σ.length) :
    ∃ x' σ', append PP lo false 24 24 x (.p (.sl true 1 [.int .i64 v])) σ = some (x', σ') ∧ Out σ' lo 1 (l ++ [v]).length (eInts (l ++ [v])) x' ∧ Others σ σ' x ∧ σ.length ≤ σ'.length := by
  obtain ⟨x', σ', h1, h2, h3, h4⟩ := Out.push24 (v := pI v) ho (by omega) hlo
  refine ⟨x', σ', h1, ?_, h3, h4⟩
  have e : eInts l ++ [pI v] = eInts (l ++ [v]) := by simp [eInts]
  rw [e] at h2
  rw [List.length_append]
  exact h2
section
variable {x : DV} {l : List Int} (hx : PL x l) (hl : l.length ≤ 10000)
include hx hl
end
end Go.D
end
/- Chapter 13: Unstuttered in the reference. -/
section
set_option linter.unusedVariables false
set_option linter.unusedSimpArgs false
namespace Go.D
open Las
theorem dd_len : ∀ (p : Int) (l : List Int), (dd p l).length ≤ l.length
  | _, [] => Nat.zero_le _
  | p, a :: l => by
    unfold dd
    split
    · exact Nat.le_succ_of_le (dd_len p l)
    · exact Nat.succ_le_succ (dd_len a l)
section
variable {s : Wd} (hQ : 0 < (L s.l).length) (hP : (L s.p).length + (L s.l).length ≤ 1000)
include hQ hP
end
end Go.D
end
/- Chapter 13: the errors of formulas, in the reference and in the program. -/
section
set_option linter.unusedVariables false
set_option linter.unusedSimpArgs false
set_option maxRecDepth 4000
namespace Go.D
open Las
def pr2 (x : Int × Int) : DV := .tuple [.p (.int .i64 x.1), .p (.int .i64 x.2)]
theorem nd_case {F : List Nd} {d i : Nat} : chkF F (d + 1) i = if inR (F.getD i default).k 0 9 = true then
      if (((nA F i).length : Nat) : Int) = ar (F.getD i default).k ∧ stands F i = true then
        if bad (F.getD i default) = true then (((i : Nat) : Int), (3 : Int)) else chkF F d (i + 1)
      else (((i : Nat) : Int), (6 : Int))
    else (((i : Nat) : Int), (4 : Int)) := rfl
section
variable {f : Fm} (hf : FSm f)
include hf
theorem L46 : ∀ (d i : Nat) (σ : Store), 0 < (L f).length → (L f).length - i = d → i ≤ (L f).length → ∃ σ', f46_L0 guardT 0 (.p (eFm f)) (N i) σ = some (pr2 (chkF (L f) d i), σ')
  | 0, i, σ, hp, hd, hi => by
    have h1 := hf.1
    have e : i = (L f).length := by omega
    subst e
    have e1 : foI (L f) (((L f).length : Int) - 1) = fo (L f) ((L f).length - 1) := by
      unfold foI
      rw [if_neg (by omega)]
      congr 1; omega
    have hS := S105 hf (r := ((L f).length : Int) - 1) (by omega)
    rw [e1] at hS
    have e2 : (((L f).length - 1 : Nat) : Int) = ((L f).length : Int) - 1 := by omega
    refine ⟨σ, ?_⟩
    rw [f46_L0_eq guardT rfl]
    unfold chkF pr2
    by_cases c : fo (L f) ((L f).length - 1) = 0
    · rw [if_pos c]
      simp (disch := omega) only [N, len23, gG, b_lss, ltF, subI, shift_ptr, shift_pptr, Nat.zero_add, Nat.add_zero, pureFn_fn, List.append_nil, List.singleton_append, List.cons_append, List.nil_append, hS, b_neq, eqT c]
    · rw [if_neg c, e2]
      simp (disch := omega) only [N, len23, gG, b_lss, ltF, subI, shift_ptr, shift_pptr, Nat.zero_add, Nat.add_zero, pureFn_fn, List.append_nil, List.singleton_append, List.cons_append, List.nil_append, hS, b_neq, eqF c]
  | d + 1, i, σ, hp, hd, hi => by
    have h1 := hf.1
    have hlt : i < (L f).length := by omega
    have h3 := hf.2 i
    have ha : L ((L f).getD i default).a = nA (L f) i := rfl
    have hS := S104 hf hlt
    have hnd := nd_all hlt
    rw [nd_case]
    generalize hx : (L f).getD i default = x at *
    have g : (σ ++ [Row.mix (ndD x)])[σ.length]? = some (.mix (ndD x)) := get_snoc
    have st := st67 (σ := σ) (lo := 0) (z := [.p (pI 0), .p (pI 0), .p .nilsl]) x rfl (Nat.zero_le _)
    by_cases c1 : inR x.k 0 9 = true
    · rw [if_pos c1]
      by_cases c2 : (((nA (L f) i).length : Nat) : Int) = ar x.k
      · by_cases c3 : stands (L f) i = true
        · rw [if_pos ⟨c2, c3⟩]
          have hnext : bad x = false → ∃ σ', f46_L0 guardT 0 (.p (eFm f)) (N (i + 1)) (σ ++ [Row.mix (ndD x)]) = some (pr2 (if bad x = true then (((i : Nat) : Int), (3 : Int)) else chkF (L f) d (i + 1)), σ') := fun hb => by
            obtain ⟨σ', h⟩ := L46 d (i + 1) (σ ++ [Row.mix (ndD x)]) hp (by omega) (by omega)
            exact ⟨σ', by rw [h, if_neg (by rw [hb]; simp)]⟩
          by_cases c4 : x.k = 1
          · by_cases c5 : inR x.n 0 11 = true
            · have hb : bad x = false := by unfold bad; rw [if_pos c4, c5]; rfl
              obtain ⟨σ', h⟩ := hnext hb
              refine ⟨σ', ?_⟩
              rw [← h, f46_L0_eq guardT rfl]
              simp (disch := omega) only [N, len23, gG, b_lss, ltT, idx23 hlt, load67, hnd, zero67, st, fa67_0, fa67_1, fa67_2, shift_ptr, shift_pptr, Nat.zero_add, Nat.add_zero, pureFn_fn, List.append_nil, List.singleton_append, List.cons_append, List.nil_append, load3, row_k g, S26, c1, load24, row_a g, (PL.sl _).len, ha, S103, b_neq, eqT c2, hS, c3, b_eql, eqT c4, row_n g, c5, add1]
            · have hb : bad x = true := by unfold bad; rw [if_pos c4, (Bool.not_eq_true _).mp c5]; rfl
              refine ⟨σ ++ [Row.mix (ndD x)], ?_⟩
              rw [if_pos hb, f46_L0_eq guardT rfl]
              simp (disch := omega) only [N, len23, gG, b_lss, ltT, idx23 hlt, load67, hnd, zero67, st, fa67_0, fa67_1, fa67_2, shift_ptr, shift_pptr, Nat.zero_add, Nat.add_zero, pureFn_fn, List.append_nil, List.singleton_append, List.cons_append, List.nil_append, load3, row_k g, S26, c1, load24, row_a g, (PL.sl _).len, ha, S103, b_neq, eqT c2, hS, c3, b_eql, eqT c4, row_n g, (Bool.not_eq_true _).mp c5, pr2]
          · by_cases c5 : x.n = 0
            · have hb : bad x = false := by unfold bad; rw [if_neg c4, eqT c5]; rfl
              obtain ⟨σ', h⟩ := hnext hb
              refine ⟨σ', ?_⟩
              rw [← h, f46_L0_eq guardT rfl]
              simp (disch := omega) only [N, len23, gG, b_lss, ltT, idx23 hlt, load67, hnd, zero67, st, fa67_0, fa67_1, fa67_2, shift_ptr, shift_pptr, Nat.zero_add, Nat.add_zero, pureFn_fn, List.append_nil, List.singleton_append, List.cons_append, List.nil_append, load3, row_k g, S26, c1, load24, row_a g, (PL.sl _).len, ha, S103, b_neq, eqT c2, hS, c3, b_eql, eqF c4, row_n g, eqT c5, add1]
            · have hb : bad x = true := by unfold bad; rw [if_neg c4, eqF c5]; rfl
              refine ⟨σ ++ [Row.mix (ndD x)], ?_⟩
              rw [if_pos hb, f46_L0_eq guardT rfl]
              simp (disch := omega) only [N, len23, gG, b_lss, ltT, idx23 hlt, load67, hnd, zero67, st, fa67_0, fa67_1, fa67_2, shift_ptr, shift_pptr, Nat.zero_add, Nat.add_zero, pureFn_fn, List.append_nil, List.singleton_append, List.cons_append, List.nil_append, load3, row_k g, S26, c1, load24, row_a g, (PL.sl _).len, ha, S103, b_neq, eqT c2, hS, c3, b_eql, eqF c4, row_n g, eqF c5, pr2]
        · rw [if_neg (fun h => c3 h.2)]
          refine ⟨σ ++ [Row.mix (ndD x)], ?_⟩
          rw [f46_L0_eq guardT rfl]
          simp (disch := omega) only [N, len23, gG, b_lss, ltT, idx23 hlt, load67, hnd, zero67, st, fa67_0, fa67_1, fa67_2, shift_ptr, shift_pptr, Nat.zero_add, Nat.add_zero, pureFn_fn, List.append_nil, List.singleton_append, List.cons_append, List.nil_append, load3, row_k g, S26, c1, load24, row_a g, (PL.sl _).len, ha, S103, b_neq, eqT c2, hS, (Bool.not_eq_true _).mp c3, pr2]
      · rw [if_neg (fun h => c2 h.1)]
        refine ⟨σ ++ [Row.mix (ndD x)], ?_⟩
        rw [f46_L0_eq guardT rfl]
        simp (disch := omega) only [N, len23, gG, b_lss, ltT, idx23 hlt, load67, hnd, zero67, st, fa67_0, fa67_1, fa67_2, shift_ptr, shift_pptr, Nat.zero_add, Nat.add_zero, pureFn_fn, List.append_nil, List.singleton_append, List.cons_append, List.nil_append, load3, row_k g, S26, c1, load24, row_a g, (PL.sl _).len, ha, S103, b_neq, eqF c2, pr2]
    · rw [if_neg c1]
      refine ⟨σ ++ [Row.mix (ndD x)], ?_⟩
      rw [f46_L0_eq guardT rfl]
      simp (disch := omega) only [N, len23, gG, b_lss, ltT, idx23 hlt, load67, hnd, zero67, st, fa67_0, shift_ptr, shift_pptr, Nat.zero_add, Nat.add_zero, pureFn_fn, List.append_nil, List.singleton_append, List.cons_append, List.nil_append, load3, row_k g, S26, (Bool.not_eq_true _).mp c1, pr2]
theorem S46 (σ : Store) : pureV CC 46 [.p (eFm f)] σ = some (pr2 (chk (L f))) := by
  have h1 := hf.1
  unfold chk
  by_cases c1 : (L f).length = 0
  · have c1' : ((L f).length : Int) = 0 := by omega
    rw [if_pos c1]
    refine pureV_free (by simp [fm_view]) rfl (F46_call (r := (pr2 (0, 1), [])) ?_) rfl
    rw [F46_eq]
    simp only [len23, N, gG, b_eql, eqT c1', pr2]
  · have c1' : ¬ ((L f).length : Int) = 0 := by omega
    rw [if_neg c1]
    by_cases c2 : (L f).length > 40
    · have c2' : ((L f).length : Int) > 40 := by omega
      rw [if_pos c2]
      refine pureV_free (by simp [fm_view]) rfl (F46_call (r := (pr2 (0, 2), [])) ?_) rfl
      rw [F46_eq]
      simp only [len23, N, gG, b_eql, eqF c1', b_gtr, gtT c2', pr2]
    · have c2' : ¬ ((L f).length : Int) > 40 := by omega
      rw [if_neg c2]
      obtain ⟨σ', h⟩ := L46 hf _ 0 [] (by omega) rfl (Nat.zero_le _)
      rw [Nat.sub_zero] at h
      refine pureV_free (by simp [fm_view]) rfl (F46_call (r := (pr2 (chkF (L f) (L f).length 0), σ')) ?_) rfl
      rw [F46_eq, ← h]
      simp only [len23, N, gG, b_eql, eqF c1', b_gtr, gtF c2']
      rfl
theorem S25 (σ : Store) : pureV CC 25 [.p (eFm f)] σ = some (.p (.int .i64 (chk (L f)).2)) := by
  refine pureV_free (by simp [fm_view]) rfl (F25_call (r := (.p (.int .i64 (chk (L f)).2), [])) ?_) rfl
  have ex0 : ∀ (a b : DV), extractV (.tuple [a, b]) 0 = some a := fun _ _ => rfl
  have ex1 : ∀ (a b : DV), extractV (.tuple [a, b]) 1 = some b := fun _ _ => rfl
  rw [F25_eq]
  simp only [shift_ptr, shift_pptr, Nat.zero_add, Nat.add_zero, pureFn_fn, List.append_nil, List.singleton_append, List.cons_append, List.nil_append, S46 hf, pr2, gG, ex0, ex1]
end
end Go.D
end
