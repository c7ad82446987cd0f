/- OpenCircular: for every rule the law answers true and leaves its arguments as they were: the given statement, without conditions. -/
import Derived.Test.YthddgnfaaccgjaaQj
import Derived.Test.YthddgnfaaccgjaaQg
/- Seat 2: what CheckRule answers for right rules. -/
section
set_option linter.unusedVariables false
set_option linter.unusedSimpArgs false
namespace Go.D.Ci
open Go.D.StB Go.D.Srt
def flt (pm : Int) (r : Run) (o : OP) : List DV := [.p (pI pm), .p (eSl r.st), .p (ePs r.ps), .p (ePs o)]
def run00 : Run := ⟨none, none⟩
def ckRes (x : Rle) : List DV × Int :=
  match viRes x.A (wl x.aa) (wl x.ga) with
  | some p => (flt 1 (runV x.A p) none, 31)
  | none => match viRes x.B (wl x.ab) (wl x.gb) with
    | some p => (flt 2 (runV x.B p) none, 31)
    | none => match un1 x with
      | some p => (flt 3 run00 (some (pathP p)), 31)
      | none => match un2 x with
        | some p => (flt 4 run00 (some (pathP p)), 31)
        | none => (flt 0 run00 none, 0)
theorem zero88 : zeroOf PP 88 = some (flt 0 run00 none) := Eq.trans (by kernel_rfl) rfl
theorem s88 : size? PP 88 = some 4 := Eq.trans (by kernel_rfl) rfl
theorem load88 (x : DV) (σ : Store) : load PP 88 x σ = (loadN σ 4 x).map .agg := Eq.trans (by kernel_rfl) rfl
theorem bld88_0 : build PP 88 [] = some (.agg (flt 0 run00 none)) := Eq.trans (by kernel_rfl) rfl
theorem bld88_1 (a : Int) (u v : PV) : build PP 88 [(0, .p (pI a)), (1, .agg [.p u, .p v])] = some (.agg [.p (pI a), .p u, .p v, .p .nilsl]) := Eq.trans (by kernel_rfl) rfl
theorem bld88_r (a : Int) (r : Run) : build PP 88 [(0, .p (pI a)), (1, .agg (eRun r))] = some (.agg (flt a r none)) := bld88_1 a _ _
theorem bld88_2 (a : Int) (u : PV) : build PP 88 [(0, .p (pI a)), (2, .p u)] = some (.agg [.p (pI a), .p .nilsl, .p .nilsl, .p u]) := Eq.trans (by kernel_rfl) rfl
theorem bld88_p (a : Int) (l : List Pr) : build PP 88 [(0, .p (pI a)), (2, .p (ePs (some l)))] = some (.agg (flt a run00 (some l))) := bld88_2 a _
theorem flt_one (a : Int) (r : Run) (o : OP) : (flt a r o).all DV.one = true := rfl
theorem st88 {σ : Store} {q : Nat} {z : List DV} (h : σ[q]? = some (.mix z)) (hz : z.length = 4) (a : Int) (r : Run) (o : OP) : store PP 0 88 (.ptr q 0) (.agg (flt a r o)) σ = some (σ.set q (.mix (flt a r o))) := by
  have e : splice z 0 (flt a r o) = flt a r o := by simp [splice, hz, flt]
  have e2 : 0 + (flt a r o).length ≤ z.length := by rw [hz]; exact Nat.le_refl _
  simp only [store, s88, DV.cells, storeN, h, flt_one, e, e2, Nat.zero_le, and_self, if_true]
  simp [flt]
theorem cv88 {σ : Store} {q : Nat} (hq : q < σ.length) (a : Int) (r : Run) (o : OP) : cellV PP 88 (.ptr q 0) (σ.set q (.mix (flt a r o))) = some (.agg (flt a r o)) := by
  have g : (σ.set q (.mix (flt a r o)))[q]? = some (.mix (flt a r o)) := by rw [List.getElem?_set_self hq]
  rw [cellV_ptr, load88, loadN_ptr (vs := flt a r o) g rfl (by simp [flt])]; rfl
theorem thaw_flt (σ : Store) (a e : Int) (r : Run) (o : OP) : thawAll 0 σ (.tuple [.agg (flt a r o), .p (pI e)]) = some (.tuple [.agg (flt a r o), .p (pI e)]) := by
  have h1 : ∀ n, thaw n σ (.p (eSl r.st)) = some (.p (eSl r.st)) := fun n => by simp [thaw, thaw1, thawP, loosen_sl]
  have h2 : ∀ n, thaw n σ (.p (ePs r.ps)) = some (.p (ePs r.ps)) := fun n => by simp [thaw, thaw1, thawP, loosen_ps]
  have h3 : ∀ n, thaw n σ (.p (ePs o)) = some (.p (ePs o)) := fun n => by simp [thaw, thaw1, thawP, loosen_ps]
  have h4 : ∀ n (v : Int), thaw n σ (.p (pI v)) = some (.p (pI v)) := fun n v => rfl
  simp only [ta_tup, mapO, tp_agg, flt, h1, h2, h3, h4, Option.map_some]
  rfl
theorem bs56_2 (a b : PV) (σ : Store) : buildSlice PP none 56 2 [(0, .p a), (1, .p b)] σ = some (.p (.sl true 2 [a, b]), σ) := Eq.trans (by kernel_rfl) rfl
theorem len56t (l : List PV) (σ : Store) : len PP 56 (.p (.sl true 2 l)) σ = some (.p (.int .i64 2)) := by simp [len, u56]
theorem idx56_0 (a b : PV) : indexAddr PP 56 (.p (.sl true 2 [a, b])) (.p (.int .i64 0)) = some (.pptr [a, b] 0) := Eq.trans (by kernel_rfl) rfl
theorem idx56_1 (a b : PV) : indexAddr PP 56 (.p (.sl true 2 [a, b])) (.p (.int .i64 1)) = some (.pptr [a, b] 1) := Eq.trans (by kernel_rfl) rfl
def unT (o : Option (List Int)) : DV := match o with | none => .tuple [.p .nilsl, .p (.bool false)] | some p => .tuple [.p (ePs (some (pathP p))), .p (.bool true)]
theorem S76t {a b w : OW} {σ : Store} (ha : WOk (wl a) (wl a).length) (hb : WOk (wl b) (wl b).length) (hw : WOk (wl w) (wl w).length) : pureV CC 76 [.p (.sl true 2 [eWt a, eWt b]), .p (eWt w)] σ = some (unT (unRes [wl a, wl b] (wl w))) := by
  rw [pureV_view (args' := [.p (eWs (some [a, b])), .p (eWt w)]) (by simp [view, viewCell, loosen, loosens, loosen_wt, eWs]) (by simp [ws_view, wt_view])]
  have h := S76 (ws := some [a, b]) (w := w) (σ := σ) (wsok2 ha hb hw)
  exact h.trans (by unfold unT; rfl)
theorem S45 {x : Rle} {na nb : Nat} {σ : Store} (hs : RSl x) (h0 : ruE x = 0) (hx : ROk x na nb) : pureV CC 45 [.agg (eRule x)] σ = some (.tuple [.agg (ckRes x).1, .p (pI (ckRes x).2)]) := by
  have hF : ∃ a r o e σ', ckRes x = (flt a r o, e) ∧ F45 guardT 0 (.agg (eRule x)) [] = some (.tuple [.agg (flt a r o), .p (pI e)], σ') := by
    have hturnB := wok_turn hx.gb
    have hturnA := wok_turn hx.ab
    rw [← wl_turn] at hturnB hturnA
    rw [F45_eq]
    simp only [box_ru, zero88, obind]
    have l1 : (([] : Store) ++ [Row.mix (eRule x)]).length = 1 := rfl
    simp only [l1, List.length_nil]
    generalize hτ : ((([] : Store) ++ [Row.mix (eRule x)]) ++ [Row.mix (flt 0 run00 none)] : Store) = τ
    have g0 : τ[0]? = some (.mix (eRule x)) := by rw [← hτ]; rfl
    have g1 : τ[1]? = some (.mix (flt 0 run00 none)) := by rw [← hτ]; rfl
    have gl : τ.length = 2 := by rw [← hτ]; rfl
    clear hτ l1
    have h53A := fun σ => S53 (σ := σ) hx.A hx.aa hx.ga
    have h53B := fun σ => S53 (σ := σ) hx.B hx.ab hx.gb
    have stR : ∀ (σ : Store) (r : Run), store PP 0 33 (.ptr σ.length 0) (.agg (eRun r)) (σ ++ [.mix [.p .nilsl, .p .nilsl]]) = some (σ ++ [.mix (eRun r)]) := fun σ r => RnV.storeNew s33 σ rfl rfl rfl (Nat.zero_le _)
    have ldR : ∀ (σ : Store) (r : Run), load PP 33 (.ptr σ.length 0) (σ ++ [.mix (eRun r)]) = some (.agg (eRun r)) := fun σ r => by
      rw [load33, loadN_ptr (vs := eRun r) get_snoc rfl (by simp [eRun])]; rfl
    simp only [ru_all g0, shift_ptr, shift_pptr, Nat.zero_add, Nat.add_zero, pureFn_fn, List.append_nil, List.singleton_append, List.cons_append, List.nil_append, S96 hs, b_neq', eqT h0, gG, fa84_0, fa84_2, fa84_3, ru_A g0, ru_aa g0, ru_ga g0, h53A]
    unfold ckRes
    cases hA : viRes x.A (wl x.aa) (wl x.ga) with
    | some p =>
      have q1 := get_old (r := .mix (eRun (runV x.A p))) g1
      refine ⟨1, runV x.A p, none, 31, (τ ++ [Row.mix (eRun (runV x.A p))]).set 1 (.mix (flt 1 (runV x.A p) none)), rfl, ?_⟩
      simp only [ex0, ex1, gG, zero33, stR, ldR, bld88_r, st88 q1 rfl, cv88 (get_lt q1)]
    | none =>
      have q0 := get_old (r := .mix (eRun ⟨none, none⟩)) g0
      have q1 := get_old (r := .mix (eRun ⟨none, none⟩)) g1
      have ql : (τ ++ [Row.mix (eRun ⟨none, none⟩)]).length = 3 := by simp [gl]
      simp only [ex0, ex1, gG, zero33, stR, fa84_1, fa84_4, fa84_5, shift_ptr, shift_pptr, Nat.zero_add, Nat.add_zero, pureFn_fn, List.append_nil, List.singleton_append, List.cons_append, List.nil_append, ru_B q0, ru_ab q0, ru_gb q0, h53B]
      generalize hτ1 : τ ++ [Row.mix (eRun ⟨none, none⟩)] = τ1 at *
      cases hB : viRes x.B (wl x.ab) (wl x.gb) with
      | some p =>
        have w1 := get_old (r := .mix (eRun (runV x.B p))) q1
        refine ⟨2, runV x.B p, none, 31, (τ1 ++ [Row.mix (eRun (runV x.B p))]).set 1 (.mix (flt 2 (runV x.B p) none)), rfl, ?_⟩
        simp only [ex0, ex1, gG, zero33, stR, ldR, bld88_r, st88 w1 rfl, cv88 (get_lt w1)]
      | none =>
        have w0 := get_old (r := .mix (eRun ⟨none, none⟩)) q0
        have w1 := get_old (r := .mix (eRun ⟨none, none⟩)) q1
        simp only [ex0, ex1, gG, zero33, stR, fa84_2, fa84_3, fa84_4, fa84_5, shift_ptr, shift_pptr, Nat.zero_add, Nat.add_zero, pureFn_fn, List.append_nil, List.singleton_append, List.cons_append, List.nil_append, ru_aa w0, ru_ab w0, ru_ga w0, ru_gb w0]
        generalize hτ2 : τ1 ++ [Row.mix (eRun ⟨none, none⟩)] = τ2 at *
        have hlt := get_lt w1
        have h76a : ∀ σ, pureV CC 76 [.p (.sl true 2 [eWt x.ga, eWt (turnW (wl x.gb))]), .p (eWt x.aa)] σ = some (unT (un1 x)) := fun σ => by
          rw [S76t hx.ga hturnB hx.aa, wl_turn]; rfl
        have h76b : ∀ σ, pureV CC 76 [.p (.sl true 2 [eWt x.ga, eWt (turnW (wl x.gb))]), .p (eWt (turnW (wl x.ab)))] σ = some (unT (un2 x)) := fun σ => by
          rw [S76t hx.ga hturnB hturnA, wl_turn, wl_turn]; rfl
        have h95a := fun σ => S95 (σ := σ) hx.gb
        have h95b := fun σ => S95 (σ := σ) hx.ab
        have l0 : ∀ σ, load PP 27 (.pptr [eWt x.aa, eWt (turnW (wl x.ab))] 0) σ = some (.p (eWt x.aa)) := fun σ => by rw [load27v]; exact load1_pptr rfl σ
        have l1 : ∀ σ, load PP 27 (.pptr [eWt x.aa, eWt (turnW (wl x.ab))] 1) σ = some (.p (eWt (turnW (wl x.ab)))) := fun σ => by rw [load27v]; exact load1_pptr rfl σ
        have lt0 : decide ((0 : Int) < 2) = true := by decide
        have lt1 : decide ((1 : Int) < 2) = true := by decide
        have lt2 : decide ((2 : Int) < 2) = false := by decide
        have i01 : binOp PP .add 3 (.p (.int .i64 0)) (.p (.int .i64 1)) = some (.p (.int .i64 1)) := Eq.trans rfl rfl
        have i12 : binOp PP .add 3 (.p (.int .i64 1)) (.p (.int .i64 1)) = some (.p (.int .i64 2)) := Eq.trans rfl rfl
        have i30 : binOp PP .add 3 (.p (.int .i64 3)) (.p (.int .i64 0)) = some (.p (.int .i64 3)) := Eq.trans rfl rfl
        have i31 : binOp PP .add 3 (.p (.int .i64 3)) (.p (.int .i64 1)) = some (.p (.int .i64 4)) := Eq.trans rfl rfl
        have loop2 : ∀ z, f45_L0 guardT 0 (.ptr 1 0) (.p (.sl true 2 [eWt x.ga, eWt (turnW (wl x.gb))])) z (.p (.int .i64 2)) (.p (.int .i64 2)) τ2 = some (.tuple [.agg (flt 0 run00 none), .p (pI 0)], τ2.set 1 (.mix (flt 0 run00 none))) := by
          intro z
          rw [f45_L0_eq guardT rfl]
          simp only [b_lss, lt2, gG, bld88_0, st88 w1 rfl, cv88 hlt]
        simp only [h95a, h95b, bs56_2, gG, shift_ptr, shift_pptr, Nat.zero_add, Nat.add_zero, pureFn_fn, List.append_nil, List.singleton_append, List.cons_append, List.nil_append, len56t, ru_aa w0, ru_ab w0]
        rw [f45_L0_eq guardT rfl]
        simp only [b_lss, lt0, gG, idx56_0, l0, shift_ptr, shift_pptr, Nat.zero_add, Nat.add_zero, pureFn_fn, List.append_nil, List.singleton_append, List.cons_append, List.nil_append, h76a]
        cases hU : un1 x with
        | some p =>
          refine ⟨3, run00, some (pathP p), 31, τ2.set 1 (.mix (flt 3 run00 (some (pathP p)))), rfl, ?_⟩
          simp only [unT, ex0, ex1, gG, i30, bld88_p, st88 w1 rfl, cv88 hlt]
        | none =>
          simp only [unT, ex0, ex1, gG, i01]
          rw [f45_L0_eq guardT rfl]
          simp only [b_lss, lt1, gG, idx56_1, l1, shift_ptr, shift_pptr, Nat.zero_add, Nat.add_zero, pureFn_fn, List.append_nil, List.singleton_append, List.cons_append, List.nil_append, h76b]
          cases hU2 : un2 x with
          | some p =>
            refine ⟨4, run00, some (pathP p), 31, τ2.set 1 (.mix (flt 4 run00 (some (pathP p)))), rfl, ?_⟩
            simp only [unT, ex0, ex1, gG, i31, bld88_p, st88 w1 rfl, cv88 hlt]
          | none =>
            refine ⟨0, run00, none, 0, τ2.set 1 (.mix (flt 0 run00 none)), rfl, ?_⟩
            simp only [unT, ex0, ex1, gG, i12, loop2]
  obtain ⟨a, r, o, e, σ', h1, h2⟩ := hF
  rw [h1]
  exact pureV_free (by simp [ru_view]) rfl (F45_call h2) (thaw_flt _ _ _ _ _)
end Go.D.Ci
end
/- Seat 2: OpenCircular: the law answers true. -/
section
set_option linter.unusedVariables false
set_option linter.unusedSimpArgs false
namespace Go.D.Ci
open Go.D.StB Go.D.Srt
def plR (x : Rle) : Bool := fewC x.A && fewC x.B && smallW x.aa && smallW x.ga && smallW x.ab && smallW x.gb
theorem S43 {x : Rle} {σ : Store} : pureV CC 43 [.agg (eRule x)] σ = some (.p (.bool (plR x))) := by
  have g0 : ([Row.mix (eRule x)] : Store)[0]? = some (.mix (eRule x)) := rfl
  refine pureV_free (by simp [ru_view]) rfl (F43_call (r := (.p (.bool (plR x)), [.mix (eRule x)])) ?_) rfl
  rw [F43_eq]
  unfold plR
  simp only [box_ru, gG, List.length_nil, List.nil_append, fa84_0, shift_ptr, shift_pptr, Nat.zero_add, Nat.add_zero, pureFn_fn, List.append_nil, List.singleton_append, List.cons_append, List.nil_append, ru_A g0, S11]
  cases h1 : fewC x.A with
  | false => simp only [gG, Bool.false_and]
  | true =>
    simp only [gG, fa84_1, shift_ptr, shift_pptr, Nat.zero_add, Nat.add_zero, pureFn_fn, List.append_nil, List.singleton_append, List.cons_append, List.nil_append, ru_B g0, S11, Bool.true_and]
    cases h2 : fewC x.B with
    | false => simp only [gG, Bool.false_and]
    | true =>
      simp only [gG, fa84_2, shift_ptr, shift_pptr, Nat.zero_add, Nat.add_zero, pureFn_fn, List.append_nil, List.singleton_append, List.cons_append, List.nil_append, ru_aa g0, S12, Bool.true_and]
      cases h3 : smallW x.aa with
      | false => simp only [gG, Bool.false_and]
      | true =>
        simp only [gG, fa84_3, shift_ptr, shift_pptr, Nat.zero_add, Nat.add_zero, pureFn_fn, List.append_nil, List.singleton_append, List.cons_append, List.nil_append, ru_ga g0, S12, Bool.true_and]
        cases h4 : smallW x.ga with
        | false => simp only [gG, Bool.false_and]
        | true =>
          simp only [gG, fa84_4, shift_ptr, shift_pptr, Nat.zero_add, Nat.add_zero, pureFn_fn, List.append_nil, List.singleton_append, List.cons_append, List.nil_append, ru_ab g0, S12, Bool.true_and]
          cases h5 : smallW x.ab with
          | false => simp only [gG, Bool.false_and]
          | true => simp only [gG, fa84_5, shift_ptr, shift_pptr, Nat.zero_add, Nat.add_zero, pureFn_fn, List.append_nil, List.singleton_append, List.cons_append, List.nil_append, ru_gb g0, S12, Bool.true_and]
theorem L44 {l : List Int} {n : Nat} (hn : n = l.length) (hl : n ≤ 1000) (σ : Store) : ∀ (d i : Nat), n - i = d → i ≤ n → f44_L0 guardT 0 (.p (.sl true n (eInts l))) (.p (.int .i64 (i : Nat))) σ = some (.p (pI (orL (l.drop i))), σ)
  | 0, i, hd, hi => by
    have h : ¬ ((i : Int) < (n : Nat)) := by omega
    rw [f44_L0_eq guardT rfl, List.drop_of_length_le (by omega)]
    simp only [len, u22, b_lss, decide_eq_false h, gG, orL]
  | d + 1, i, hd, hi => by
    have h : i < l.length := by omega
    have h' : (i : Int) < (n : Nat) := by omega
    have hix : indexAddr PP 22 (.p (.sl true n (eInts l))) (.p (.int .i64 (i : Nat))) = some (.pptr (eInts l) i) := by
      have h2 : (0 : Int) ≤ (i : Int) ∧ (i : Int) < (n : Nat) := by omega
      simp [indexAddr, u22, s3, h2, show i < n by omega]
    have e0 : l.drop i = l.getD i 0 :: l.drop (i + 1) := by
      rw [getD_at 0 h]; exact List.drop_eq_getElem_cons h
    have ih := L44 hn hl σ d (i + 1) (by omega) (by omega)
    have hld : ∀ σ, load1 (.pptr (eInts l) i) σ = some (.p (.int .i64 (l.getD i 0))) := fun σ => load1_getD h σ
    rw [f44_L0_eq guardT rfl, e0, orL]
    by_cases hz : l.getD i 0 = 0
    · have hd0 : decide (¬ (l.getD i 0 = 0)) = false := decide_eq_false (fun hh => hh hz)
      rw [if_pos hz]
      simp only [len, u22, b_lss, decide_eq_true h', gG, hix, load3, hld, b_neq', eqT hz, b_add, wrap_succ (show i ≤ 1000000 by omega), Bool.not_true]
      exact ih
    · rw [if_neg hz]
      simp only [len, u22, b_lss, decide_eq_true h', gG, hix, load3, hld, b_neq', eqF hz, Bool.not_false]
theorem bs22_6 (a b c d e f : Int) (σ : Store) : buildSlice PP none 22 6 [(0, .p (pI a)), (1, .p (pI b)), (2, .p (pI c)), (3, .p (pI d)), (4, .p (pI e)), (5, .p (pI f))] σ = some (.p (.sl true 6 (eInts [a, b, c, d, e, f])), σ) := Eq.trans (by kernel_rfl) rfl
theorem S44 {x : Rle} {σ : Store} (h : RSl x) : pureV CC 44 [.agg (eRule x)] σ = some (.p (pI (ruE x))) := by
  have g0 : ([Row.mix (eRule x)] : Store)[0]? = some (.mix (eRule x)) := rfl
  refine pureV_free (by simp [ru_view]) rfl (F44_call (r := (.p (pI (ruE x)), [.mix (eRule x)])) ?_) rfl
  rw [F44_eq]
  have h44 := L44 (l := ruL x) (n := 6) rfl (by decide) [Row.mix (eRule x)] 6 0 rfl (Nat.zero_le _)
  unfold ruL at h44
  have h44 : f44_L0 guardT 0 (.p (.sl true 6 (eInts [cmpE x.A, wchE (wl x.aa), wchE (wl x.ga), cmpE x.B, wchE (wl x.ab), wchE (wl x.gb)]))) (.p (.int .i64 0)) [Row.mix (eRule x)] = some (.p (pI (ruE x)), [Row.mix (eRule x)]) := h44
  simp only [box_ru, gG, List.length_nil, List.nil_append, fa84_0, fa84_1, fa84_2, fa84_3, fa84_4, fa84_5, shift_ptr, shift_pptr, Nat.zero_add, Nat.add_zero, pureFn_fn, List.append_nil, List.singleton_append, List.cons_append, List.nil_append, ru_A g0, ru_B g0, ru_aa g0, ru_ga g0, ru_ab g0, ru_gb g0, S16 h.A, S16 h.B, S17 h.aa, S17 h.ga, S17 h.ab, S17 h.gb, bs22_6, h44]
def ownR (x : Rle) : Rle := ⟨ownC x.A, ownC x.B, ownW x.aa, ownW x.ga, ownW x.ab, ownW x.gb⟩
theorem rsl_own {x : Rle} (h : RSl x) : RSl (ownR x) := ⟨csm_own h.A, csm_own h.B, wsm_own h.aa, wsm_own h.ga, wsm_own h.ab, wsm_own h.gb⟩
theorem ruE_own (x : Rle) : ruE (ownR x) = ruE x := by
  simp only [ruE, ruL, ownR, cmpE_own, wl_own]
theorem bld84c (a1 a2 a3 a4 b1 b2 b3 b4 p q r s : PV) : build PP 84 [(0, .agg [.p a1, .p a2, .p a3, .p a4]), (1, .agg [.p b1, .p b2, .p b3, .p b4]), (2, .p p), (3, .p q), (4, .p r), (5, .p s)] = some (.agg [.p a1, .p a2, .p a3, .p a4, .p b1, .p b2, .p b3, .p b4, .p p, .p q, .p r, .p s]) := Eq.trans (by kernel_rfl) rfl
theorem bld84 (x : Rle) : build PP 84 [(0, .agg (eCmp x.A)), (1, .agg (eCmp x.B)), (2, .p (eWt x.aa)), (3, .p (eWt x.ga)), (4, .p (eWt x.ab)), (5, .p (eWt x.gb))] = some (.agg (eRule x)) := bld84c _ _ _ _ _ _ _ _ _ _ _ _
theorem S46 {x : Rle} {σ : Store} (h : RSl x) : pureV CC 46 [.agg (eRule x)] σ = some (.agg (eRule (ownR x))) := by
  have hst : store PP 0 84 (.ptr 1 0) (.agg (eRule (ownR x))) [Row.mix (eRule x), Row.mix [.p (pI 0), .p .nilsl, .p .nilsl, .p .nilsl, .p (pI 0), .p .nilsl, .p .nilsl, .p .nilsl, .p .nilsl, .p .nilsl, .p .nilsl, .p .nilsl]] = some [Row.mix (eRule x), Row.mix (eRule (ownR x))] := by
    simp [store, s84, DV.cells, storeN, DV.one, splice, eRule]
  have g0 : ([Row.mix (eRule x), Row.mix [.p (pI 0), .p .nilsl, .p .nilsl, .p .nilsl, .p (pI 0), .p .nilsl, .p .nilsl, .p .nilsl, .p .nilsl, .p .nilsl, .p .nilsl, .p .nilsl]] : Store)[0]? = some (.mix (eRule x)) := rfl
  have g1 : ([Row.mix (eRule x), Row.mix (eRule (ownR x))] : Store)[1]? = some (.mix (eRule (ownR x))) := rfl
  have hth : thawAll 0 [Row.mix (eRule x), Row.mix (eRule (ownR x))] (.agg (eRule (ownR x))) = some (.agg (eRule (ownR x))) := by
    have h1 : ∀ (n : Nat) (σ : Store) (o : OI), thaw n σ (.p (eSl o)) = some (.p (eSl o)) := fun n σ o => by simp [thaw, thaw1, thawP, loosen_sl]
    have h2 : ∀ (n : Nat) (σ : Store) (o : Option (List Edg)), thaw n σ (.p (eEs o)) = some (.p (eEs o)) := fun n σ o => by simp [thaw, thaw1, thawP, loosen_es]
    have h3 : ∀ (n : Nat) (σ : Store) (o : OW), thaw n σ (.p (eWt o)) = some (.p (eWt o)) := fun n σ o => by simp [thaw, thaw1, thawP, loosen_wt]
    have h4 : ∀ (n : Nat) (σ : Store) (v : Int), thaw n σ (.p (pI v)) = some (.p (pI v)) := fun n σ v => rfl
    show thawPart 0 [Row.mix (eRule x), Row.mix (eRule (ownR x))] (.agg (eRule (ownR x))) = _
    simp only [tp_agg, eRule, mapO, h1, h2, h3, h4, Option.map_some]
  refine pureV_free (by simp [ru_view]) rfl (F46_call (r := (.agg (eRule (ownR x)), [Row.mix (eRule x), Row.mix (eRule (ownR x))])) ?_) hth
  have hb : build PP 84 [(0, .agg (eCmp (ownC x.A))), (1, .agg (eCmp (ownC x.B))), (2, .p (eWt (ownW x.aa))), (3, .p (eWt (ownW x.ga))), (4, .p (eWt (ownW x.ab))), (5, .p (eWt (ownW x.gb)))] = some (.agg (eRule (ownR x))) := bld84 (ownR x)
  rw [F46_eq]
  simp only [box_ru, zero84, gG, List.length_nil, List.nil_append, List.length_cons, List.cons_append, Nat.reduceAdd, fa84_0, fa84_1, fa84_2, fa84_3, fa84_4, fa84_5, shift_ptr, shift_pptr, Nat.zero_add, Nat.add_zero, pureFn_fn, List.append_nil, List.singleton_append, List.cons_append, List.nil_append, ru_A g0, ru_B g0, ru_aa g0, ru_ga g0, ru_ab g0, ru_gb g0, S14 h.A, S14 h.B, S15 h.aa, S15 h.ga, S15 h.ab, S15 h.gb, hb, hst, cellV_ptr, ru_all g1]
theorem ck_zero {x : Rle} {na nb : Nat} (hx : ROk x na nb) (h : (ckRes x).2 = 0) : brRes x = none := by
  unfold ckRes at h
  cases h1 : viRes x.A (wl x.aa) (wl x.ga) with
  | some p => rw [h1] at h; exact absurd h (by simp)
  | none =>
    rw [h1] at h
    cases h2 : viRes x.B (wl x.ab) (wl x.gb) with
    | some p => rw [h2] at h; exact absurd h (by simp)
    | none =>
      rw [h2] at h
      cases h3 : un1 x with
      | some p => rw [h3] at h; exact absurd h (by simp)
      | none =>
        rw [h3] at h
        cases h4 : un2 x with
        | some p => rw [h4] at h; exact absurd h (by simp)
        | none => exact circ hx h1 h2 h3 h4
theorem ck_form (x : Rle) : ∃ a r o e, ckRes x = (flt a r o, e) ∧ (e = 0 ∨ e = 31) := by
  unfold ckRes
  split
  · exact ⟨_, _, _, _, rfl, .inr rfl⟩
  · split
    · exact ⟨_, _, _, _, rfl, .inr rfl⟩
    · split
      · exact ⟨_, _, _, _, rfl, .inr rfl⟩
      · split
        · exact ⟨_, _, _, _, rfl, .inr rfl⟩
        · exact ⟨_, _, _, _, rfl, .inl rfl⟩
theorem law9 (hawake : ∀ σ, pureV CC 10 [] σ = some (.p (.bool true))) (x : Rle) : ∃ σ', F9 guardT 0 (.agg (eRule x)) [] = some (.p (.bool true), σ') := by
  have g0 : ([Row.mix (eRule x)] : Store)[0]? = some (.mix (eRule x)) := rfl
  rw [F9_eq]
  simp only [box_ru, gG, List.length_nil, List.nil_append]
  generalize ([Row.mix (eRule x)] : Store) = τ at *
  simp only [pureFn_fn, List.append_nil, hawake, gG, ru_all g0, S43]
  cases hp : plR x with
  | false => exact ⟨_, by simp only [gG]; rfl⟩
  | true =>
    have hs : RSl x := by
      simp only [plR, Bool.and_eq_true] at hp
      obtain ⟨⟨⟨⟨⟨h1, h2⟩, h3⟩, h4⟩, h5⟩, h6⟩ := hp
      exact ⟨csm_of h1, csm_of h2, wsm_of h3, wsm_of h4, wsm_of h5, wsm_of h6⟩
    by_cases he : ruE x = 0
    · have he' : ruE (ownR x) = 0 := (ruE_own x).trans he
      have hs' := rsl_own hs
      have hx := rok_of hs' he'
      obtain ⟨a, r, o, e, hc, hee⟩ := ck_form (ownR x)
      have h45 := S45 (σ := τ) hs' he' hx
      rw [hc] at h45
      have hst := RnV.storeNew (lo := 0) (cs := flt a r o) (z := flt 0 run00 none) s88 τ rfl rfl rfl (Nat.zero_le _)
      have q0 := get_old (r := .mix (flt a r o)) g0
      rcases hee with rfl | rfl
      · have hn := ck_zero hx (by rw [hc])
        have h47 := fun σ => S47n (σ := σ) hs' he' hx hn
        exact ⟨_, by simp only [gG, ru_all g0, pureFn_fn, List.append_nil, S44 hs, he, b_neq', eqT (rfl : (0 : Int) = 0), S46 hs, h45, ex0, ex1, zero88, hst, ru_all q0, h47, b_eql, eqT (rfl : (25 : Int) = 25)]; rfl⟩
      · exact ⟨_, by simp only [gG, ru_all g0, pureFn_fn, List.append_nil, S44 hs, he, b_neq', eqT (rfl : (0 : Int) = 0), S46 hs, h45, ex0, ex1, zero88, hst, b_eql, eqF (show ¬ ((31 : Int) = 0) by decide), eqT (rfl : (31 : Int) = 31)]; rfl⟩
    · exact ⟨_, by simp only [gG, ru_all g0, pureFn_fn, List.append_nil, S44 hs, b_neq', eqF he]; rfl⟩
theorem call9 (hawake : ∀ σ, pureV CC 10 [] σ = some (.p (.bool true))) (x : Rle) : ∃ σ', CC 0 9 [.agg (eRule x)] [] = some (.p (.bool true), σ') := by
  obtain ⟨σ', h⟩ := law9 hawake x
  exact ⟨σ', F9_call h⟩
end Go.D.Ci
end
/- OpenCircular: for every rule the law answers true and leaves its arguments as they were: the given statement, without conditions. -/
section
set_option linter.unusedVariables false
set_option linter.unusedSimpArgs false
set_option maxRecDepth 100000
namespace Go.D
open Go.D.Ci
open Go.ChangeShapes Go.WideShapes Go.ChangeAt Go.RowKit

theorem openCircular_calls (hawake : Awake) {H : Type} {enc : TypeId × Value → H} {W : World} {base : Nat} {args : Array Value} {ds : List (DataW H)} {ps : List MemPlace}
    (hval : ∀ (j : Nat) t v, ([84] : List TypeId).toArray[j]? = some t → args[j]? = some v → Value.okWide PP W .any base t v)
    (hA : DataW.TrodAll enc PP W 0 (fun _ => true) true [84] args.toList ds ps) :
    Calls PP 9 args W fun e W' => e = .returned (.bool true) ∧ Below W.heap.size W W' := by
  obtain ⟨v0, d0, rfl, rfl, h0⟩ := trodAll_one hA
  obtain ⟨o0, ho0⟩ := read_ru (hval 0 84 v0 rfl rfl) h0
  obtain ⟨σ', hc⟩ := call9 hawake o0
  refine calls_of hc ⟨rfl, fun j h1 h2 => ?_⟩
  match j, h1 with
  | 0, _ => exact ho0

end Go.D
namespace Go.Proofs.Ythddgnfaaccgjaa
open Go.D Go.D.Ci Go.ChangeShapes Go.WideShapes Go.ChangeAt Go.RowKit

set_option maxRecDepth 100000 in
theorem openCircular_lifted (hawake : Awake) (os : Os) (started : os.Started) (H : Type) (enc : TypeId × Value → H) :
    ReturnsInHanded {} Try.checked os 9 .any (Rows.openCircularSpec.pre6 enc Try.prog Try.f9 Rows.openCircularRow.domain false) (Rows.openCircularSpec.post enc Try.prog Try.f9 false true false false) := by
  refine returnsInHanded_of_change_sized (C := Try.checked) own_ok started (by kernel_rfl) Try.func9
    (ChangeSpec.witness6 (enc := enc) (C := Try.checked) false ⟨#[], #[.agg #[.int .i64 0, .slice none 0 0, .slice none 0 0, .slice none 0 0, .int .i64 0, .slice none 0 0, .slice none 0 0, .slice none 0 0, .slice none 0 0, .slice none 0 0, .slice none 0 0, .slice none 0 0]], []⟩ 8 (by kernel_rfl) (by kernel_rfl) (by kernel_rfl) (by kernel_rfl)) ?_
  intro W base args ds gs before hval0 hW _ hsz0 _
  have hval : ∀ (j : Nat) t v, Try.f9.params[j]? = some t → args[j]? = some v → Value.okWide Try.prog W .any base t v := hval0
  have hW' := hW
  obtain ⟨p, q, hA0, hV, rfl, _, _⟩ := hW
  have hA : DataW.TrodAll enc Try.prog W 0 (fun _ => true) true Try.f9.params.toList args.toList ds p := hA0
  rw [Try.params9] at hA hval
  have hA2 := hA
  obtain ⟨v0, d0, rfl, rfl, h0⟩ := trodAll_one hA
  obtain ⟨rfl, rfl⟩ := trodVars_none hV
  have hlt : ∀ x ∈ p, x.block < W.heap.size := fun x hx => by
    have := hW'.lt x (by simpa using hx)
    exact this
  have e0 : ∀ x ∈ p, x.block < W.heap.size := fun x hx => hlt x (hx)
  refine (openCircular_calls hawake (base := base) hval hA2).mono ?_
  rintro e W2 ⟨rfl, hnx⟩
  refine ⟨_, rfl, _, _, _, [], p, [], hW', ?_, ?_, rfl, hnx.frame _, fun h => by cases h⟩
  · exact trodAll_mk1 (shut_bool ul4 true)
  · exact trodAll_mk1 (Below.trod laidOut_ok (by kernel_rfl) (of_decide_eq_true (by kernel_rfl)) h0 hnx e0)

theorem openCircular_holds : Rows.OpenCircularSaid :=
  OpenClaim.holds_of_wide 9 Try.f9 rfl rfl rfl rfl rfl rfl rfl ⟨rfl, rfl, rfl, rfl, rfl⟩ rfl rfl rfl rfl rfl (by kernel_rfl) Try.func9 (by kernel_rfl)
    (of_decide_eq_true (by kernel_rfl)) (by unfold Func.isWrapper; first | (rw [if_pos (by decide +kernel)]; kernel_rfl) | (rw [if_neg (by decide +kernel)]; exact ⟨rfl, rfl⟩))
    (fun os started H enc _ => openCircular_lifted awake_true os started H enc)

end Go.Proofs.Ythddgnfaaccgjaa
end
