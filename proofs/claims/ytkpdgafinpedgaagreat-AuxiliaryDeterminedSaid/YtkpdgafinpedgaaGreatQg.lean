/- Chapter 22: the moves of a history variable. -/
import Derived.Test.YtkpdgafinpedgaaGreatQf
import Derived.Test.YtkpdgafinpedgaaGreatQc
section
set_option linter.unusedVariables false
set_option linter.unusedSimpArgs false
namespace Go.D.StS
open Go.D.Srt
structure Hs where
  s : OI
  x : Option (List OI)
def eLs : Option (List OI) → PV
  | none => .nilsl
  | some l => .sl false l.length (l.map eSl)
def eHs (h : Hs) : List DV := [.p (eSl h.s), .p (eLs h.x)]
theorem u26 : PP.underlying 26 = some (.slice 22) := Eq.trans (by kernel_rfl) rfl
theorem len26 (o : Option (List OI)) (σ : Store) : len PP 26 (.p (eLs o)) σ = some (.p (.int .i64 ((L o).length : Nat))) := by cases o <;> simp [len, u26, eLs]
theorem idx26 {o : Option (List OI)} {i : Nat} (h : i < (L o).length) : indexAddr PP 26 (.p (eLs o)) (.p (.int .i64 (i : Nat))) = some (.pptr ((L o).map eSl) i) := by
  cases o with
  | none => exact absurd h (by simp [L])
  | some l =>
    have h2 : (0 : Int) ≤ (i : Int) ∧ (i : Int) < (l.length : Nat) := by
      simp only [L, Option.getD_some] at h; omega
    simp [indexAddr, u26, s22', eLs, h2, L]
theorem load26 (x : DV) (σ : Store) : load PP 26 x σ = load1 x σ := Eq.trans (by kernel_rfl) rfl
theorem fa28_0 (x : DV) : fieldAddr PP 28 x 0 = shiftPtr x 0 := Eq.trans (by kernel_rfl) rfl
theorem fa28_1 (x : DV) : fieldAddr PP 28 x 1 = shiftPtr x 1 := Eq.trans (by kernel_rfl) rfl
theorem load28 (x : DV) (σ : Store) : load PP 28 x σ = (loadN σ 2 x).map .agg := Eq.trans (by kernel_rfl) rfl
theorem zero28 : zeroOf PP 28 = some [.p .nilsl, .p .nilsl] := Eq.trans (by kernel_rfl) rfl
theorem ldLs {l : List OI} {i : Nat} (h : i < l.length) (σ : Store) : load1 (.pptr (l.map eSl) i) σ = some (.p (eSl (l.getD i none))) := by
  refine load1_pptr ?_ σ
  rw [List.getElem?_map, List.getD_eq_getElem?_getD, List.getElem?_eq_getElem h]
  rfl
def frN (l : List Edg) (s : Int) (i : Nat) : List Nat := (List.range i).filter fun j => decide ((gE l j).f = s)
theorem frN_succ (l : List Edg) (s : Int) (i : Nat) : frN l s (i + 1) = if (gE l i).f = s then frN l s i ++ [i] else frN l s i := by
  unfold frN
  rw [List.range_succ, List.filter_append]
  by_cases h : (gE l i).f = s
  · rw [if_pos h, List.filter_cons_of_pos (by simpa using h)]; rfl
  · rw [if_neg h, List.filter_cons_of_neg (by simpa using h)]; simp
def intL (l : List Nat) : List Int := l.map fun (j : Nat) => (j : Int)
theorem intL_len (l : List Nat) : (intL l).length = l.length := by simp [intL]
theorem frN_len (l : List Edg) (s : Int) (i : Nat) : (frN l s i).length ≤ i := by
  unfold frN
  exact Nat.le_trans (List.length_filter_le _ _) (by simp)
theorem stN69 {σ : Store} (e : Edg) {lo : Nat} (hlo : lo ≤ σ.length) : store PP lo 69 (.ptr σ.length 0) (.agg (edgD e)) (σ ++ [.mix [.p (pI 0), .p (pI 0), .p (pI 0)]]) = some (σ ++ [.mix (edgD e)]) := by
  have e1 : (DV.agg (edgD e)).cells = edgD e := rfl
  have e2 : (σ ++ [Row.mix [.p (pI 0), .p (pI 0), .p (pI 0)]])[σ.length]? = some (.mix [.p (pI 0), .p (pI 0), .p (pI 0)]) := get_snoc
  have e3 : splice [DV.p (pI 0), .p (pI 0), .p (pI 0)] 0 (edgD e) = edgD e := rfl
  have e4 : (edgD e).length = 3 := rfl
  have e5 : (edgD e).all DV.one = true := rfl
  simp only [store, s69, e1, e4, if_true, storeN, hlo, e2, e5, e3]
  rw [List.set_append_right _ _ (Nat.le_refl _), Nat.sub_self]
  rfl
theorem ld69 {l : List Edg} {i : Nat} (h : i < l.length) (σ : Store) : (loadN σ 3 (.pptr (eEdgs l) (i * 3))).map DV.agg = some (.agg (edgD (gE l i))) := by
  rw [load69_edgs h, gE_at h]; rfl
section
variable {o : OE} {s : Int}
theorem L84 (hl : (L o).length ≤ 1000) : ∀ (d i : Nat) (y : DV) (σ : Store), (L o).length - i = d → i ≤ (L o).length → Out σ 0 1 (frN (L o) s i).length (eInts (intL (frN (L o) s i))) y →
    ∃ y' σ', f84_L0 guardT 0 (.p (pI s)) y (.p (eEs o)) (N (L o).length) (N i) σ = some (y', σ') ∧ Out σ' 0 1 (frN (L o) s (L o).length).length (eInts (intL (frN (L o) s (L o).length))) y'
  | 0, i, y, σ, hd, hi, ho => by
    have e : i = (L o).length := by omega
    subst e
    refine ⟨y, σ, ?_, ho⟩
    rw [f84_L0_eq guardT rfl]
    simp (disch := omega) only [N, b_lss, ltF, gG]
  | d + 1, i, y, σ, hd, hi, ho => by
    have hil : i < (L o).length := by omega
    have hsn := stN69 (lo := 0) (σ := σ) (gE (L o) i) (Nat.zero_le _)
    have hB : (σ ++ [Row.mix (edgD (gE (L o) i))])[σ.length]? = some (.mix (edgD (gE (L o) i))) := get_snoc
    have ho1 := Out.snocM ho (.mix (edgD (gE (L o) i)))
    have hfl := frN_len (L o) s i
    by_cases hf : (gE (L o) i).f = s
    · obtain ⟨y1, σ1, p1, p2, p3, p4⟩ := Out.pushG (lo := 0) (vs := [pI (i : Nat)]) src22 u22 s3 bytes3 zero3 rfl (by decide) (by decide) (by decide) rfl ho1 (by omega) (Nat.zero_le _) (Nat.zero_le _)
      have e1 : frN (L o) s (i + 1) = frN (L o) s i ++ [i] := by rw [frN_succ, if_pos hf]
      have e2 : eInts (intL (frN (L o) s i)) ++ [pI (i : Nat)] = eInts (intL (frN (L o) s (i + 1))) := by rw [e1]; simp [intL, eInts]
      have e3 : (frN (L o) s i).length + 1 = (frN (L o) s (i + 1)).length := by rw [e1]; simp
      rw [e2, e3] at p2
      obtain ⟨y', σ', r1, r2⟩ := L84 hl d (i + 1) y1 σ1 (by omega) (by omega) p2
      refine ⟨y', σ', ?_, r2⟩
      rw [← r1, f84_L0_eq guardT rfl]
      simp (disch := omega) only [N, b_lss, ltT, gG, idx23, load69, ld69, zero69, hsn, fa69_0, shift_ptr, shift_pptr, Nat.zero_add, Nat.add_zero, pureFn_fn, List.append_nil, List.singleton_append, List.cons_append, List.nil_append, load3, load1_ptr (off := 0) hB (v := .p (.int .i64 (gE (L o) i).f)) rfl, b_eql, eqT hf, bs22_1, p1, f84_J0_eq, add1]
    · have e1 : frN (L o) s (i + 1) = frN (L o) s i := by rw [frN_succ, if_neg hf]
      obtain ⟨y', σ', r1, r2⟩ := L84 hl d (i + 1) y _ (by omega) (by omega) (by rw [e1]; exact ho1)
      refine ⟨y', σ', ?_, r2⟩
      rw [← r1, f84_L0_eq guardT rfl]
      simp (disch := omega) only [N, b_lss, ltT, gG, idx23, load69, ld69, zero69, hsn, fa69_0, shift_ptr, shift_pptr, Nat.zero_add, Nat.add_zero, pureFn_fn, List.append_nil, List.singleton_append, List.cons_append, List.nil_append, load3, load1_ptr (off := 0) hB (v := .p (.int .i64 (gE (L o) i).f)) rfl, b_eql, eqF hf, f84_J0_eq, add1]
end
theorem twAll_oI {σ σ' : Store} {lo m : Nat} {l : List Int} {y : DV} (h : Out σ lo 1 l.length (eInts l) y) : thawAll m σ' y = some (.p (eSl (oI l))) := by
  have h2 : thawAll m σ y = some (.p (eSl (oI l))) := by
    rw [Out.twAll h m, loosens_ints]
    unfold oI
    by_cases e : l = []
    · subst e; rfl
    · rw [if_neg e, if_neg (fun h => e (List.length_eq_zero_iff.1 h))]; rfl
  rcases h.2 with ⟨_, rfl⟩ | ⟨_, r, ver, rfl, _, _⟩
  · exact h2
  · exact h2
theorem S84 {g : Gr} {s : Int} {σ : Store} (hl : (L g.edges).length ≤ 1000) : pureV CC 84 [.agg (eGr g), .p (pI s)] σ = some (.p (eSl (oI (intL (frN (L g.edges) s (L g.edges).length))))) := by
  have g0 : ([Row.mix (eGr g)] : Store)[0]? = some (.mix (eGr g)) := rfl
  obtain ⟨y, σ', e1, o1⟩ := L84 (s := s) hl _ 0 (.p .nilsl) [Row.mix (eGr g)] rfl (Nat.zero_le _) Out.zero
  refine pureV_free (by simp [view, viewCell, eGr, loosen_sl, loosen_es, loosen]) rfl (F84_call (r := (y, σ')) ?_) (twAll_oI (by rw [intL_len]; exact o1))
  have hb : boxV (.agg (eGr g)) = some (eGr g) := rfl
  rw [F84_eq]
  simp only [hb, gG, List.length_nil, List.nil_append, fa25_2, shift_ptr, shift_pptr, Nat.zero_add, Nat.add_zero, pureFn_fn, List.append_nil, List.singleton_append, List.cons_append, List.nil_append, load23, load1_ptr (off := 2) g0 rfl, len23]
  exact e1
def mvE (g : Gr) (h : Hs) (x : E) (j : Nat) : Edg := ⟨(gE (L g.edges) j).t, (L ((L h.x).getD j none)).getD x.2.toNat 0, (gE (L g.edges) j).a⟩
def mvH (g : Gr) (h : Hs) (x : E) : List Edg := (frN (L g.edges) x.1 (L g.edges).length).map (mvE g h x)
def oE (l : List Edg) : OE := if l = [] then none else some l
theorem L_oE (l : List Edg) : L (oE l) = l := by
  unfold oE
  by_cases h : l = []
  · subst h; rfl
  · rw [if_neg h]; rfl
theorem bytes141 : bytes? PP 141 = some 24 := Eq.trans (by kernel_rfl) rfl
theorem src138 : srcType PP 138 = true := Eq.trans (by kernel_rfl) rfl
theorem bld102 (x y : Int) : build PP 102 [(0, .p (.int .i64 x)), (1, .p (.int .i64 y))] = some (val (x, y)) := Eq.trans (by kernel_rfl) rfl
theorem bld141 (x y z : Int) : build PP 141 [(0, val (x, y)), (1, .p (.int .i64 z))] = some (.agg (edgD ⟨x, y, z⟩)) := Eq.trans (by kernel_rfl) rfl
theorem bs138 (e : Edg) (σ : Store) : buildSlice PP none 138 1 [(0, .agg (edgD e))] σ = some (.p (.sl true 1 (eEdg e)), σ) := Eq.trans (by kernel_rfl) rfl
theorem idx22i {o : OI} {i : Int} (h0 : 0 ≤ i) (h : i.toNat < (L o).length) : indexAddr PP 22 (.p (eSl o)) (.p (.int .i64 i)) = some (.pptr (eInts (L o)) i.toNat) := idxi h0 h
theorem eEdgs_snoc (l : List Edg) (v : Edg) : eEdgs l ++ eEdg v = eEdgs (l ++ [v]) := by
  induction l with
  | nil => simp [eEdgs, eEdg]
  | cons a l ih => simp only [List.cons_append, eEdgs, List.append_assoc, ih]
theorem ldEt {l : List Edg} {j : Nat} (h : j < l.length) (σ : Store) : load1 (.pptr (eEdgs l) (j * 3 + 1)) σ = some (.p (.int .i64 (gE l j).t)) := by
  rw [gE_at h]; exact load1_pptr (edgs_get l j h).2.1 σ
theorem ldEa {l : List Edg} {j : Nat} (h : j < l.length) (σ : Store) : load1 (.pptr (eEdgs l) (j * 3 + 2)) σ = some (.p (.int .i64 (gE l j).a)) := by
  rw [gE_at h]; exact load1_pptr (edgs_get l j h).2.2 σ
theorem ldEf {l : List Edg} {j : Nat} (h : j < l.length) (σ : Store) : load1 (.pptr (eEdgs l) (j * 3)) σ = some (.p (.int .i64 (gE l j).f)) := by
  rw [gE_at h]; exact load1_pptr (edgs_get l j h).1 σ
section
variable {g : Gr} {h : Hs} {x : E} {fr : List Nat} {B g0 h0 b : Nat}
theorem L83 (hfr : ∀ j ∈ fr, j < (L g.edges).length ∧ j < (L h.x).length ∧ x.2.toNat < (L ((L h.x).getD j none)).length) (hx : 0 ≤ x.2) (hl : fr.length ≤ 1000) :
    ∀ (d k : Nat) (y : DV) (σ : Store), fr.length - k = d → k ≤ fr.length → σ[g0]? = some (.mix (eGr g)) → σ[h0]? = some (.mix (eHs h)) → σ[b]? = some (.mix (cel x)) → B ≤ σ.length → Out σ B 3 k (eEdgs ((fr.take k).map (mvE g h x))) y →
    ∃ y' σ', f83_L0 guardT B (.ptr g0 0) (.ptr h0 0) (.ptr b 0) y (.p (eSl (oI (intL fr)))) (N fr.length) (N k) σ = some (y', σ') ∧ Out σ' B 3 fr.length (eEdgs (fr.map (mvE g h x))) y'
  | 0, k, y, σ, hd, hk, w1, w2, w3, wB, ho => by
    have e : k = fr.length := by omega
    subst e
    rw [List.take_length] at ho
    refine ⟨y, σ, ?_, ho⟩
    rw [f83_L0_eq guardT rfl]
    simp (disch := omega) only [N, b_lss, ltF, gG]
  | d + 1, k, y, σ, hd, hk, w1, w2, w3, wB, ho => by
    have hkl : k < fr.length := by omega
    obtain ⟨a1, a2, a3⟩ := hfr _ (List.getElem_mem hkl)
    generalize hj : fr[k] = j at *
    have ix : indexAddr PP 22 (.p (eSl (oI (intL fr)))) (.p (.int .i64 (k : Nat))) = some (.pptr (eInts (intL fr)) k) := by
      have := idx22 (o := oI (intL fr)) (i := k) (by rw [L_oI, intL_len]; exact hkl)
      rwa [L_oI] at this
    have ldk : load1 (.pptr (eInts (intL fr)) k) σ = some (.p (.int .i64 (j : Nat))) := by
      have := load1_ints (l := intL fr) (i := k) (by rw [intL_len]; exact hkl) σ
      rw [this]
      simp [intL, hj]
    have ixe := idx23 (o := g.edges) (i := j) a1
    have ixh := idx26 (o := h.x) (i := j) a2
    have ixa := idx22i (o := (L h.x).getD j none) hx a3
    have lda := load1_getD (l := L ((L h.x).getD j none)) a3 σ
    obtain ⟨y1, σ1, p1, p2, p3, p4⟩ := Out.pushG (lo := B) (vs := eEdg (mvE g h x j)) src138 u138 s141 bytes141 zero141 rfl (by decide) (by decide) (by decide) rfl ho (by omega) wB (Nat.le_refl _)
    have e1 : eEdgs ((fr.take k).map (mvE g h x)) ++ eEdg (mvE g h x j) = eEdgs ((fr.take (k + 1)).map (mvE g h x)) := by
      rw [eEdgs_snoc, List.take_succ_eq_append_getElem hkl, List.map_append, hj]; rfl
    rw [e1] at p2
    have km : ∀ (j : Nat) (cs : List DV), σ[j]? = some (Row.mix cs) → σ1[j]? = some (Row.mix cs) := fun j cs e => Others.mix p3 ho e (fun v e => by cases e)
    have hlen : B ≤ σ1.length := by
      rcases p2.2 with ⟨e, _⟩ | ⟨_, r, ver, _, e, e2⟩
      · omega
      · have := get_lt e; omega
    obtain ⟨y', σ', r1, r2⟩ := L83 hfr hx hl d (k + 1) y1 σ1 (by omega) (by omega) (km _ _ w1) (km _ _ w2) (km _ _ w3) hlen p2
    refine ⟨y', σ', ?_, r2⟩
    rw [← r1, f83_L0_eq guardT rfl]
    simp only [pI] at lda
    simp (disch := omega) only [N, b_lss, ltT, gG, ix, load3, ldk, fa25_2, shift_ptr, shift_pptr, Nat.zero_add, Nat.add_zero, pureFn_fn, List.append_nil, List.singleton_append, List.cons_append, List.nil_append, load23, load1_ptr (off := 2) w1 (v := .p (eEs g.edges)) rfl, ixe, fa69_1, fa69_2, ldEt a1, ldEa a1, fa28_1, load26, load1_ptr (off := 1) w2 (v := .p (eLs h.x)) rfl, ixh, load22, ldLs a2, fa102_1, load1_ptr (off := 1) w3 (v := .p (.int .i64 x.2)) rfl, ixa, lda, bld102, bld141, bs138]
    have p1' : append PP B false 138 138 y (.p (.sl true 1 (eEdg ⟨(gE (L g.edges) j).t, (L ((L h.x).getD j none)).getD x.2.toNat 0, (gE (L g.edges) j).a⟩))) σ = some (y1, σ1) := p1
    simp (disch := omega) only [p1', gG, add1]
end
theorem twAll_oE {σ σ' : Store} {lo m : Nat} {l : List Edg} {y : DV} (h : Out σ lo 3 l.length (eEdgs l) y) : thawAll m σ' y = some (.p (eEs (oE l))) := by
  have h2 : thawAll m σ y = some (.p (eEs (oE l))) := by
    rw [Out.twAll h m, loosens_edgs]
    unfold oE
    by_cases e : l = []
    · subst e; rfl
    · rw [if_neg e, if_neg (fun h => e (List.length_eq_zero_iff.1 h))]; rfl
  rcases h.2 with ⟨_, rfl⟩ | ⟨_, r, ver, rfl, _, _⟩
  · exact h2
  · exact h2
theorem S83 {g : Gr} {h : Hs} {x : E} {σ : Store} {g0 h0 : Nat} (w1 : σ[g0]? = some (.mix (eGr g))) (w2 : σ[h0]? = some (.mix (eHs h))) (hl : (L g.edges).length ≤ 1000) (hn : (L h.x).length = (L g.edges).length) (hr : ∀ j, j < (L h.x).length → (L ((L h.x).getD j none)).length = 8) (hx : 0 ≤ x.2 ∧ x.2 ≤ 7) :
    pureV CC 83 [val x, .ptr g0 0, .ptr h0 0] σ = some (.p (eEs (oE (mvH g h x)))) := by
  have hmem : ∀ j ∈ frN (L g.edges) x.1 (L g.edges).length, j < (L g.edges).length := fun j hj => by
    unfold frN at hj
    rw [List.mem_filter, List.mem_range] at hj
    exact hj.1
  have v1 : (σ ++ [Row.mix (cel x)])[g0]? = some (.mix (eGr g)) := get_old w1
  have v2 : (σ ++ [Row.mix (cel x)])[h0]? = some (.mix (eHs h)) := get_old w2
  have v3 : (σ ++ [Row.mix (cel x)])[σ.length]? = some (.mix (cel x)) := get_snoc
  have hfl := frN_len (L g.edges) x.1 (L g.edges).length
  obtain ⟨y, σ', e1, o1⟩ := L83 (g := g) (h := h) (x := x) (fr := frN (L g.edges) x.1 (L g.edges).length) (B := σ.length) (g0 := g0) (h0 := h0) (b := σ.length) (fun j hj => ⟨hmem j hj, by rw [hn]; exact hmem j hj, by rw [hr j (by rw [hn]; exact hmem j hj)]; omega⟩) hx.1 (by omega)
    _ 0 (.p .nilsl) _ rfl (Nat.zero_le _) v1 v2 v3 (by simp) Out.zero
  refine pureV_rows (by simp [view, viewCell, val, cel, loosen]) (by simp [rowFree, rowFree1]) (F83_call (r := (y, σ')) ?_) (twAll_oE (by unfold mvH; rw [List.length_map]; exact o1))
  have hld : load PP 25 (.ptr g0 0) (σ ++ [Row.mix (cel x)]) = some (.agg (eGr g)) := by
    rw [load25, loadN_ptr (vs := eGr g) v1 rfl (by simp [eGr])]; rfl
  have hlen : len PP 22 (.p (eSl (oI (intL (frN (L g.edges) x.1 (L g.edges).length))))) (σ ++ [Row.mix (cel x)]) = some (N (frN (L g.edges) x.1 (L g.edges).length).length) := by
    rw [len22, L_oI, intL_len]
  rw [F83_eq]
  simp only [box_val, gG, hld, fa102_0, shift_ptr, shift_pptr, Nat.zero_add, Nat.add_zero, pureFn_fn, List.append_nil, List.singleton_append, List.cons_append, List.nil_append, load3, load1_ptr (off := 0) v3 (v := .p (.int .i64 x.1)) rfl, S84 hl, hlen]
  exact e1
end Go.D.StS
end
/- Chapter 22: graphs and history variables as arguments. -/
section
set_option linter.unusedVariables false
set_option maxRecDepth 100000
namespace Go.D
open Go.ChangeShapes Go.WideShapes Go.ChangeAt Go.RowKit
open Go.D.StS (Hs eHs eLs)
theorem dec26 {a : List PV} (h : Plain PP 26 a) : ∃ o, a = [eLs o] := by
  rcases h.inv_slice StS.u26 with rfl | ⟨n, xs, hx, rfl⟩
  · exact ⟨none, rfl⟩
  · obtain ⟨l, rfl, rfl⟩ := hx.inv_rep (f := fun n => [eSl n]) fun a ha => dec22 ha
    exact ⟨some l, by rw [flat1]; rfl⟩
section
variable {H : Type} {enc : TypeId × Value → H} {W : World} {hd : Bool} {r : Reach} {b0 : Nat} {v : Value} {d : DataW H} {ps : List MemPlace}
theorem read_gr (hok : Value.okWide PP W r b0 25 v) (h : DataW.Trod enc PP W 0 (fun _ => true) hd 25 v d ps) : ∃ g : Gr, VRel (fun _ _ => none) (memOf W) (.agg (eGr g)) v := by
  obtain ⟨c, h1, h2⟩ := read_struct 8 Go.Proofs.Tryz.underlying25 (by kernel_rfl) hok h
  obtain ⟨g, rfl⟩ := dec25 h1
  exact ⟨g, h2⟩
theorem read_hs (hok : Value.okWide PP W r b0 28 v) (h : DataW.Trod enc PP W 0 (fun _ => true) hd 28 v d ps) : ∃ x : Hs, VRel (fun _ _ => none) (memOf W) (.agg (eHs x)) v := by
  obtain ⟨c, h1, h2⟩ := read_struct 8 Go.Proofs.Tryz.underlying28 (by kernel_rfl) hok h
  have h3 := h1.inv_struct Go.Proofs.Tryz.underlying28
  obtain ⟨a1, b1, k1, h5, rfl⟩ := PlainL.inv_cons h3
  obtain ⟨a2, b2, k2, h7, rfl⟩ := PlainL.inv_cons h5
  obtain ⟨p, rfl⟩ := dec22 k1
  obtain ⟨q, rfl⟩ := dec26 k2
  obtain rfl := PlainL.inv_nil h7
  exact ⟨⟨p, q⟩, h2⟩
end
end Go.D
end
/- Closed calls, worked out by the kernel one by one. -/
section
set_option linter.unusedVariables false
set_option maxRecDepth 100000
namespace Go.D

mutual
def eqPV : PV → PV → Bool
  | .bool a, .bool b => a == b
  | .int k n, .int k' m => k == k' && n == m
  | .nilsl, .nilsl => true
  | .sl a n cs, .sl b m ds => a == b && n == m && eqPVs cs ds
  | _, _ => false
def eqPVs : List PV → List PV → Bool
  | [], [] => true
  | a :: as', b :: bs => eqPV a b && eqPVs as' bs
  | _, _ => false
end
mutual
theorem eqPV_eq : ∀ (a b : PV), eqPV a b = true → a = b
  | .bool a, .bool b, h => by simp [eqPV] at h; rw [h]
  | .int k n, .int k' m, h => by
    simp [eqPV] at h
    rw [h.1, h.2]
  | .nilsl, .nilsl, h => rfl
  | .sl a n cs, .sl b m ds, h => by
    simp [eqPV] at h
    rw [h.1.1, h.1.2, eqPVs_eq cs ds h.2]
  | .bool _, .int .., h | .bool _, .str _, h | .bool _, .nilptr, h | .bool _, .nilsl, h | .bool _, .nilmap, h | .bool _, .nilfn, h | .bool _, .niliface, h | .bool _, .sl .., h => by simp [eqPV] at h
  | .int .., .bool _, h | .int .., .str _, h | .int .., .nilptr, h | .int .., .nilsl, h | .int .., .nilmap, h | .int .., .nilfn, h | .int .., .niliface, h | .int .., .sl .., h => by simp [eqPV] at h
  | .nilsl, .bool _, h | .nilsl, .int .., h | .nilsl, .str _, h | .nilsl, .nilptr, h | .nilsl, .nilmap, h | .nilsl, .nilfn, h | .nilsl, .niliface, h | .nilsl, .sl .., h => by simp [eqPV] at h
  | .sl .., .bool _, h | .sl .., .int .., h | .sl .., .str _, h | .sl .., .nilptr, h | .sl .., .nilsl, h | .sl .., .nilmap, h | .sl .., .nilfn, h | .sl .., .niliface, h => by simp [eqPV] at h
  | .str _, b, h | .nilptr, b, h | .nilmap, b, h | .nilfn, b, h | .niliface, b, h => by cases b <;> simp [eqPV] at h
theorem eqPVs_eq : ∀ (a b : List PV), eqPVs a b = true → a = b
  | [], [], h => rfl
  | a :: as', b :: bs, h => by
    simp [eqPVs] at h
    rw [eqPV_eq a b h.1, eqPVs_eq as' bs h.2]
  | [], _ :: _, h | _ :: _, [], h => by simp [eqPVs] at h
end

def flatD : DV → Option (List (Nat × PV))
  | .p v => some [(0, v)]
  | .agg cs => some (cs.filterMap fun c => match c with | .p v => some (1, v) | _ => none)
  | _ => none

def eqD1 : DV → DV → Bool
  | .p v, .p w => eqPV v w
  | _, _ => false
def eqD1s : List DV → List DV → Bool
  | [], [] => true
  | a :: as', b :: bs => eqD1 a b && eqD1s as' bs
  | _, _ => false
def eqD2 : DV → DV → Bool
  | .agg cs, .agg ds => eqD1s cs ds
  | a, b => eqD1 a b
def eqD2s : List DV → List DV → Bool
  | [], [] => true
  | a :: as', b :: bs => eqD2 a b && eqD2s as' bs
  | _, _ => false
def eqD : DV → DV → Bool
  | .tuple cs, .tuple ds => eqD2s cs ds
  | a, b => eqD2 a b

theorem eqD1_eq {a b : DV} (h : eqD1 a b = true) : a = b := by
  unfold eqD1 at h
  split at h
  · rw [eqPV_eq _ _ h]
  · exact absurd h (by simp)
theorem eqD1s_eq : ∀ {a b : List DV}, eqD1s a b = true → a = b
  | [], [], h => rfl
  | a :: as', b :: bs, h => by
    simp only [eqD1s, Bool.and_eq_true] at h
    rw [eqD1_eq h.1, eqD1s_eq h.2]
  | [], _ :: _, h => absurd h (by simp [eqD1s])
  | _ :: _, [], h => absurd h (by simp [eqD1s])
theorem eqD2_eq {a b : DV} (h : eqD2 a b = true) : a = b := by
  unfold eqD2 at h
  split at h
  · rw [eqD1s_eq h]
  · exact eqD1_eq h
theorem eqD2s_eq : ∀ {a b : List DV}, eqD2s a b = true → a = b
  | [], [], h => rfl
  | a :: as', b :: bs, h => by
    simp only [eqD2s, Bool.and_eq_true] at h
    rw [eqD2_eq h.1, eqD2s_eq h.2]
  | [], _ :: _, h => absurd h (by simp [eqD2s])
  | _ :: _, [], h => absurd h (by simp [eqD2s])
theorem eqD_eq {a b : DV} (h : eqD a b = true) : a = b := by
  unfold eqD at h
  split at h
  · rw [eqD2s_eq h]
  · exact eqD2_eq h

def runIs (P : Program) (pol : FuncId → FPol) (k : Nat) (f : FuncId) (args : List DV) (r : DV) : Bool :=
  match callK P pol k 0 f args [] with
  | some (v, σ) => match thawAll 0 σ v with
    | some v' => eqD v' r
    | none => false
  | none => false

theorem pureV_run {k : Nat} {f : FuncId} {args : List DV} {r : DV} {σ : Store} (h : runIs PP pol k f args r = true) (h1 : args.map view = args) (h2 : args.all rowFree = true) : pureV CC f args σ = some r := by
  unfold runIs at h
  split at h
  · rename_i v σ' hc
    split at h
    · rename_i v' ht
      exact pureV_free h1 h2 (callL_at hc) (ht.trans (by rw [eqD_eq h]))
    · exact absurd h (by simp)
  · exact absurd h (by simp)

end Go.D
end
