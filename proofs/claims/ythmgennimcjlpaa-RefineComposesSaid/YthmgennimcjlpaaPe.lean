/- The reference's Upper: what it answers. -/
import Derived.Test.YthmgennimcjlpaaPd
section
set_option linter.unusedVariables false
set_option linter.unusedSimpArgs false
namespace Go.D

theorem firstFrom_last {q : Nat → Bool} : ∀ (d u : Nat), firstFrom q u (d + 1) = match firstFrom q u d with
    | some w => some w
    | none => if q (u + d) then some (u + d) else none
  | 0, u => by simp [firstFrom]
  | d + 1, u => by
    rw [firstFrom, firstFrom_last d (u + 1)]
    conv => rhs; rw [firstFrom]
    cases h : q u with
    | true => simp
    | false =>
      simp only [Bool.false_eq_true, if_false]
      have e : u + 1 + d = u + (d + 1) := by omega
      rw [e]

section
variable {p : Pair} {o : Option (List Int)} {n : Nat}

def orD (w : Int) : Option Nat → Int
  | some v => v
  | none => w

def OutRel2 (σ : Store) (n : Nat) (out : List Nat) (x : DV) : Prop :=
  (∀ u ∈ out, u < n) ∧ ((out = [] ∧ x = .p .nilsl) ∨ (out ≠ [] ∧ ∃ r ver, x = .osl r ver 1 out.length (eInts (natsI out)) ∧ σ[r]? = some (.tok ver) ∧ 2 ≤ r))

theorem HI.push {σ : Store} {k : Nat} {cs : List DV} (h : HI p o n σ k cs) (r : Row) : HI p o n (σ ++ [r]) k cs :=
  ⟨get_old h.h0, get_old h.h1, h.len, fun j h1 h2 => let ⟨q, a, b, c⟩ := h.row j h1 h2; ⟨q, a, b, get_old c⟩⟩
theorem HI.tok {σ : Store} {k : Nat} {cs : List DV} (h : HI p o n σ k cs) {r v v' : Nat} (hr : σ[r]? = some (.tok v)) (h5 : 2 ≤ r) : HI p o n (σ.set r (.tok v')) k cs := by
  refine ⟨get_set_ne h.h0 (by omega), get_set_ne h.h1 (by omega), h.len, fun j h1 h2 => ?_⟩
  obtain ⟨q, a, b, c⟩ := h.row j h1 h2
  exact ⟨q, a, b, get_set_ne c fun e => by rw [e, hr] at c; injection c with c; cases c⟩

theorem app_out2 {σ : Store} {out : List Nat} {x : DV} {u : Nat} (h5 : 2 ≤ σ.length) (h : OutRel2 σ n out x) (hu : u < n) (hl : out.length ≤ 1000) :
    ∃ x' σ', append PP 0 false 22 22 x (.p (.sl true 1 [pI (u : Nat)])) σ = some (x', σ') ∧ OutRel2 σ' n (out ++ [u]) x' ∧ (∀ (p : Pair) (o : Option (List Int)) (k : Nat) (cs : List DV), HI p o n σ k cs → HI p o n σ' k cs) := by
  obtain ⟨h0, h⟩ := h
  have hall : ∀ w ∈ out ++ [u], w < n := by
    intro w hw
    rcases List.mem_append.1 hw with h1 | h1
    · exact h0 w h1
    · simp at h1; omega
  rcases h with ⟨rfl, rfl⟩ | ⟨hne, r, ver, rfl, hr, h5⟩
  · exact ⟨_, _, app22_nil _ σ, ⟨hall, .inr ⟨by simp, σ.length, 0, rfl, get_snoc, h5⟩⟩, fun p o k cs h => h.push _⟩
  · refine ⟨_, _, app22_tok _ hr (by simp [ints_length, natsI]) hl, ⟨hall, .inr ⟨by simp, r, ver + 1, by simp [natsI, eInts], ?_, h5⟩⟩, fun p o k cs h => h.tok hr h5⟩
    rw [List.getElem?_set_self (get_lt hr)]

theorem L17_4 (hf : Fine p o n) {i q : Nat} {cs : List DV} {σ : Store} {out : List Nat} {x : DV} (h : HI p o n σ 0 cs) (hi : i < (L o).length) (hcq : cs[i]? = some (.rsl q 1 0 n)) (hq : σ[q]? = some (.arr (eBools (rowG p (L o) n i)))) (hout : OutRel2 σ n out x) (hol : out.length = i) :
    ∀ (d : Nat) (w : Int), d ≤ n → f17_L4 guardT 0 (.p (eSl o)) (.ptr 0 0) (mat (L o).length) x (.p (pI (i : Nat))) (.p (pI w)) (.p (pI ((d : Int) - 1))) σ =
      f17_L4 guardT 0 (.p (eSl o)) (.ptr 0 0) (mat (L o).length) x (.p (pI (i : Nat))) (.p (pI (orD w (firstFrom (pickB p (L o) n i out) 0 d)))) (.p (pI (-1))) σ := by
  have e4 : load1 (.ptr 0 4) σ = some (.p (eSl p.up.init)) := pr_4 h.h0
  have e3 : load1 (.ptr 1 i) σ = some (.rsl q 1 0 n) := load1_ptr h.h1 hcq
  have hn40 := hf.n40
  have hlen := hf.len
  intro d
  induction d with
  | zero => intro w hd; simp [firstFrom, orD]
  | succ d ih =>
    intro w hd
    have hun : d < n := by omega
    have ed : (((d + 1 : Nat) : Int) - 1) = (d : Int) := by omega
    have hge : (d : Int) ≥ 0 := by omega
    have wd : IntKind.wrap .i64 ((d : Int) - 1) = (d : Int) - 1 := wrap_ok (by omega) (by omega)
    have hi0 : decide ((i : Int) = 0) = decide (i = 0) := by simp only [decide_eq_decide]; omega
    have hig : decide ((i : Int) > 0) = decide (i > 0) := by simp only [decide_eq_decide]; omega
    have hres : ∀ b : Bool, b = pickB p (L o) n i out d → orD w (firstFrom (pickB p (L o) n i out) 0 (d + 1)) = orD (bif b then (d : Int) else w) (firstFrom (pickB p (L o) n i out) 0 d) := by
      intro b hb
      rw [firstFrom_last, Nat.zero_add, ← hb]
      cases firstFrom (pickB p (L o) n i out) 0 d with
      | some v => rfl
      | none => cases b <;> rfl
    rw [ed]
    conv => lhs; rw [f17_L4_eq guardT rfl]
    simp only [b_geq, obind, hge, decide_true, condK_true, idx84_r hi, Nat.zero_add, load88, e3, idx88_r hun, load4, load1_arr hq (show d < (rowG p (L o) n i).length by rw [rowG_len]; exact hun), rowG_get _ _ _ _ _ hun]
    cases hg : goodAt p (L o) n i d with
    | false =>
      have hpk : pickB p (L o) n i out d = false := by simp [pickB, hg]
      simp only [guard_ft, guard_sk, obind, pickV_false, condK_false, f17_J0_eq, b_sub, wd]
      rw [hres false hpk.symm]
      exact ih w (by omega)
    | true =>
      have hpk : pickB p (L o) n i out d = fitsB p i out d := by simp [pickB, hg]
      simp only [guard_tt, obind, b_eql, hi0]
      by_cases h0 : i = 0
      · have hd0 : decide (i = 0) = true := by simp [h0]
        have hd1 : decide (i > 0) = false := by simp [h0]
        have hfi : fitsB p i out d = hasI (L p.up.init) d := by simp [fitsB, h0]
        simp only [hd0, guard_tt, obind, fa27_1, fa25_1, shift_ptr, Nat.zero_add, load22, e4, pureFn_fn, List.append_nil, S49 hf.small.ui, pickV_true]
        cases hh : hasI (L p.up.init) d with
        | true =>
          simp only [guard_tf, guard_sk, obind, pickV_true, condK_true, f17_J0_eq, b_sub, wd]
          rw [hres true (by rw [hpk, hfi, hh])]
          exact ih d (by omega)
        | false =>
          simp only [guard_ff, obind, b_gtr, hig, hd1, guard_ft, guard_sk, pickV_false, condK_false, f17_J0_eq, b_sub, wd]
          rw [hres false (by rw [hpk, hfi, hh])]
          exact ih w (by omega)
      · have hd0 : decide (i = 0) = false := by simp [h0]
        have hd1 : decide (i > 0) = true := by simp; omega
        have hne : out ≠ [] := by intro e; rw [e] at hol; simp at hol; omega
        obtain ⟨hall, hor⟩ := hout
        rcases hor with ⟨e, _⟩ | ⟨_, r, ver, rfl, hr, h5⟩
        · exact absurd e hne
        have hi1 : i - 1 < out.length := by omega
        have hfi : fitsB p i out d = follows p.up (out.getD (i - 1) 0 : Nat) d := by simp [fitsB, h0]
        simp only [hd0, guard_ft, guard_sk, obind, pickV_false, guard_ff, b_gtr, hig, hd1, guard_tt, fa27_1, shift_ptr, Nat.zero_add, load25, pr_up h.h0, omap, b_sub, wrap_pred (show 0 < i by omega) (show i ≤ 1000000 by omega), idx22_o (σ := σ) hi1, load3, load1_getD (show i - 1 < (natsI out).length by rw [natsI_len]; exact hi1), natsI_get hi1, pureFn_fn, List.append_nil, S50 hf.small.ue, pickV_true]
        cases hh : follows p.up (out.getD (i - 1) 0 : Nat) d with
        | true =>
          simp only [condK_true, f17_J0_eq, b_sub, obind, wd]
          rw [hres true (by rw [hpk, hfi, hh])]
          exact ih d (by omega)
        | false =>
          simp only [condK_false, f17_J0_eq, b_sub, obind, wd]
          rw [hres false (by rw [hpk, hfi, hh])]
          exact ih w (by omega)

def resR : Option (List Nat) → DV
  | none => .tuple [.p .nilsl, .p (.bool false)]
  | some r => .tuple [.p (eSl (some (natsI r))), .p (.bool true)]

theorem L17_3 (hf : Fine p o n) :
    ∀ (k i : Nat) (out : List Nat) (σ : Store) (x : DV) (cs : List DV), (L o).length - i = k → i ≤ (L o).length → out.length = i → HI p o n σ 0 cs → OutRel2 σ n out x →
      ∃ v σ', f17_L3 guardT 0 (.p (eSl o)) (.ptr 0 0) (mat (L o).length) x (.p (pI (i : Nat))) σ = some (v, σ') ∧ thawAll 0 σ' v = some (resR (goUp p (L o) n k i out))
  | 0, i, out, σ, x, cs, hk, hi, hol, h, hout => by
    have hlt : ¬ (i : Int) < ((L o).length : Nat) := by omega
    have hpos := hf.pos
    refine ⟨.tuple [x, .p (.bool true)], σ, ?_, ?_⟩
    · rw [f17_L3_eq guardT rfl]
      simp only [len22, b_lss, obind, hlt, decide_false, condK_false]
    · obtain ⟨_, hor⟩ := hout
      rcases hor with ⟨e, _⟩ | ⟨_, r, ver, rfl, hr, h5⟩
      · rw [e] at hol; simp at hol; omega
      · simp [thawAll, thawPart, mapO, thaw, thaw1, thawP, loosen, resR, goUp, eSl, natsI_len, loosens_ints]
  | k + 1, i, out, σ, x, cs, hk, hi, hol, h, hout => by
    have hlt : (i : Int) < ((L o).length : Nat) := by omega
    have hil : i < (L o).length := by omega
    have hlen := hf.len
    have hn40 := hf.n40
    obtain ⟨q, hc, h5, hq⟩ := h.row i (Nat.zero_le _) hil
    have l4 := get_lt h.h1
    have e0 : load1 (.ptr 0 3) σ = some (.p (pI (n : Nat))) := by rw [← hf.n0]; exact pr_3 h.h0
    have wn : IntKind.wrap .i64 ((n : Int) - 1) = (n : Int) - 1 := wrap_ok (by omega) (by omega)
    rw [f17_L3_eq guardT rfl]
    simp only [len22, b_lss, obind, hlt, decide_true, condK_true, fa27_1, fa25_0, shift_ptr, Nat.zero_add, load3, e0, b_sub, wn]
    rw [L17_4 hf h hil hc hq hout hol n (-1) (Nat.le_refl _), f17_L4_eq guardT rfl]
    have hneg1 : ¬ (-1 : Int) ≥ 0 := by omega
    simp only [b_geq, obind, hneg1, decide_false, condK_false]
    unfold goUp
    cases hfst : firstFrom (pickB p (L o) n i out) 0 n with
    | none =>
      refine ⟨.tuple [.p .nilsl, .p (.bool false)], σ, ?_, rfl⟩
      simp [orD, b_lss, condK_true]
    | some u =>
      have hun : u < n := by have := firstFrom_lt n 0 hfst; omega
      have hneg : ¬ (u : Int) < 0 := by omega
      obtain ⟨x', σ', happ, hout', hgi⟩ := app_out2 (σ := σ) (by omega) hout hun (by omega)
      simp only [orD, b_lss, hneg, decide_false, obind, condK_false, bs22_1, happ, b_add, wrap_succ (show i ≤ 1000000 by omega)]
      exact L17_3 hf k (i + 1) (out ++ [u]) σ' x' cs (by omega) (by omega) (by simp [hol]) (hgi _ _ _ _ h) hout'

theorem S17 {σ : Store} (hf : Fine p o n) : pureV CC 17 [.agg (ePair p), .p (eSl o)] σ = some (resR (upPath p (L o) n)) := by
  refine pureV_any (by simp [pair_view, sl_view]) fun lo σ0 hs => ?_
  rcases hs with ⟨rfl, rfl, _⟩ | ⟨_, _, h⟩
  case inr => exact absurd h (by simp [rowFree, rowFree1, ePair])
  have hF : ∃ v σ', F17 guardT 0 (.agg (ePair p)) (.p (eSl o)) [] = some (v, σ') ∧ thawAll 0 σ' v = some (resR (upPath p (L o) n)) := by
    have hlen := hf.len
    have hpos := hf.pos
    have wm : IntKind.wrap .i64 (((L o).length : Nat) - 1 : Int) = ((L o).length : Int) - 1 := wrap_ok (by omega) (by omega)
    rw [F17_eq]
    simp only [box_pair, obind, List.length_nil, List.nil_append, len22, mk84 hlen, b_sub, wm]
    obtain ⟨σ', cs', h1, h2⟩ := L17_0 hf (L o).length (List.replicate (L o).length (.p .nilsl)) [Row.mix (ePair p), .mix (List.replicate (L o).length (.p .nilsl))] ⟨rfl, rfl, by simp, fun j h1 h2 => absurd h1 (by omega)⟩ (Nat.le_refl _)
    obtain ⟨v, σ2, h3, h4⟩ := L17_3 hf (L o).length 0 [] σ' (.p .nilsl) cs' (by omega) (Nat.zero_le _) rfl h1 ⟨fun u hu => absurd hu (by simp), .inl ⟨rfl, rfl⟩⟩
    exact ⟨v, σ2, h2.trans h3, h4⟩
  obtain ⟨v, σ', h1, h2⟩ := hF
  exact ⟨v, σ', F17_call h1, h2⟩

end
end Go.D
end
/- RefinePaths: what the law answers, if awake answers true. -/
section
set_option linter.unusedVariables false
set_option linter.unusedSimpArgs false
namespace Go.D

theorem small_of {p : Pair} (h : fewP p = true) : Small p := by
  simp only [fewP, smallG, Bool.and_eq_true, decide_eq_true_eq] at h
  exact ⟨by omega, by omega, by omega, by omega, by omega, by omega⟩
theorem small_own {p : Pair} (h : Small p) : Small (ownP p) := ⟨h.li, h.le, h.ui, h.ue, h.ll, h.ul⟩

theorem goUp_len {p : Pair} {l : List Int} {n : Nat} : ∀ (k i : Nat) (out r : List Nat), goUp p l n k i out = some r → r.length = out.length + k
  | 0, i, out, r, h => by simp only [goUp] at h; injection h with h; rw [h]; rfl
  | k + 1, i, out, r, h => by
    unfold goUp at h
    split at h
    · exact absurd h (by simp)
    · have := goUp_len k (i + 1) _ r h
      simp at this
      omega

theorem ex0 (a b : DV) : extractV (.tuple [a, b]) 0 = some a := Eq.trans rfl rfl
theorem ex1 (a b : DV) : extractV (.tuple [a, b]) 1 = some b := Eq.trans rfl rfl
theorem len22_nil (σ : Store) : len PP 22 (.p .nilsl) σ = some (.p (.int .i64 0)) := by simp [len, u22]

theorem goodK_own (p : Pair) (l : List Int) (n : Nat) : ∀ k, goodK (ownP p) l n k = goodK p l n k
  | 0 => rfl
  | k + 1 => by
    funext u
    simp only [goodK, goodK_own p l n k]
    rfl
theorem goUp_own (p : Pair) (l : List Int) (n : Nat) : ∀ k i out, goUp (ownP p) l n k i out = goUp p l n k i out
  | 0, i, out => rfl
  | k + 1, i, out => by
    have h : pickB (ownP p) l n i out = pickB p l n i out := by
      funext u
      simp only [pickB, goodAt, goodK_own]
      rfl
    simp only [goUp, h, goUp_own p l n k]

theorem resU_own (p : Pair) (o : Option (List Int)) : resU (ownP p) (some (L o)) = resU p o := by
  have h1 : errP (ownP p) = errP p := rfl
  have h2 : errPath (ownP p).lo (L (some (L o))) = errPath p.lo (L o) := rfl
  have h3 : ∀ n, upPath (ownP p) (L (some (L o))) n = upPath p (L o) n := fun n => goUp_own p _ n _ 0 []
  unfold resU
  rw [h1, h2, h3]
  rfl

theorem law3 (hawake : ∀ σ, pureV CC 10 [] σ = some (.p (.bool true))) (p : Pair) (o : Option (List Int)) : ∃ σ', F3 guardT 0 (.agg (ePair p)) (.p (eSl o)) [] = some (.p (.bool true), σ') := by
  have g0 : ([Row.mix (ePair p)] : Store)[0]? = some (.mix (ePair p)) := rfl
  refine ⟨[Row.mix (ePair p)], ?_⟩
  rw [F3_eq]
  simp only [box_pair, obind, List.length_nil, List.nil_append, pureFn_fn, List.append_nil, hawake, not_bool, Bool.not_true, condK_false, load27, pr_all g0, omap, S11]
  cases hfew : fewP p with
  | false => simp only [Bool.not_false, guard_tf, guard_sk, obind, pickV_true, condK_true]
  | true =>
    have hp := small_of hfew
    simp only [Bool.not_true, guard_ff, obind, len22, b_gtr, pickV_false]
    by_cases hl : ((L o).length : Int) > 62
    · simp only [hl, decide_true, condK_true]
    · have hl' : (L o).length ≤ 1000 := by omega
      have hown : (L (some (L o))).length ≤ 1000 := hl'
      simp only [hl, decide_false, condK_false, load27, pr_all g0, omap, obind, pureFn_fn, List.append_nil, S13 hp, S14 hl', S12 (small_own hp) hown, resU_own, S15 hp]
      by_cases he : errP p = 0
      · simp only [resU, he, if_true]
        by_cases hq : errPath p.lo (L o) = 0
        · have hf := fine_of hp hl' he hq
          simp only [hq, if_true]
          cases hu : upPath p (L o) p.up.n.toNat with
          | none =>
            simp only [resUp, ex0, ex1, obind, load27, pr_all g0, omap, pureFn_fn, List.append_nil, b_eql, decide_true, condK_true, S16 hl' hp.li hp.le, hq, f3_J0_eq, b_neq, Bool.not_true, condK_false, S17 hf, hu, resR, not_bool, Bool.not_false, guard_tt, len22_nil, pickV_true]
          | some r =>
            have hr := goUp_len _ _ _ _ hu
            have hlr : (L (some (natsI r))).length ≤ 1000 := by simp [natsI_len]; simp at hr; omega
            simp only [resUp, ex0, ex1, obind, load27, pr_all g0, omap, pureFn_fn, List.append_nil, b_eql, decide_true, condK_true, S16 hl' hp.li hp.le, hq, f3_J0_eq, b_neq, Bool.not_true, condK_false, S17 hf, hu, resR, not_bool, guard_tt, S18 (rfl : L (some (natsI r)) = L (some (natsI r))) hlr, pickV_true]
        · simp only [hq, if_false, ex0, ex1, obind, load27, pr_all g0, omap, pureFn_fn, List.append_nil, b_eql, decide_true, condK_true, S16 hl' hp.li hp.le, f3_J0_eq, b_neq, decide_false, Bool.not_false, guard_tt, len22_nil, pickV_true]
      · simp only [resU, he, if_false, ex0, ex1, obind, b_eql, decide_false, condK_false, f3_J0_eq, b_neq, Bool.not_false, condK_true, decide_true, guard_tt, len22_nil, pickV_true]

theorem call3 (hawake : ∀ σ, pureV CC 10 [] σ = some (.p (.bool true))) (p : Pair) (o : Option (List Int)) : ∃ σ', CC 0 3 [.agg (ePair p), .p (eSl o)] [] = some (.p (.bool true), σ') := by
  obtain ⟨σ', h⟩ := law3 hawake p o
  exact ⟨σ', F3_call h⟩

end Go.D
end
