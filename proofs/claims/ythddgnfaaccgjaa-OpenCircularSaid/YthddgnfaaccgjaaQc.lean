/- D without fuel is sound: what the continuation style answers, the evaluator answers with enough fuel. -/
import Derived.Test.YthddgnfaaccgjaaQb
import Derived.KernelRfl
import Derived.Test.YthddgnfaaccgjaaProg
section
set_option linter.unusedVariables false
set_option linter.unusedSimpArgs false
namespace Go.D

variable {P : Program} {pol : FuncId → FPol}

/-- From some fuel on. -/
def Evt {α : Type} (m : Nat → Option α) (r : α) : Prop := ∃ k0, ∀ k, k0 ≤ k → m k = some r
theorem pureV_evt {f : FuncId} {args : List DV} {σ : Store} {v : DV} (h : pureV (callL P pol) f args σ = some v) : Evt (fun k => pureV (callK P pol k) f args σ) v := by
  unfold pureV at h
  split at h
  · rename_i hc
    split at h
    · rename_i v1 σ1 h1
      obtain ⟨k0, h0⟩ := lim_some h1
      refine ⟨k0, fun k hk => ?_⟩
      show pureV _ _ _ _ = _
      unfold pureV
      rw [if_pos hc, h0 k hk]
      exact h
    · exact absurd h (by simp)
  · rename_i hc
    split at h
    · rename_i v1 σ1 h1
      obtain ⟨k0, h0⟩ := lim_some h1
      refine ⟨k0, fun k hk => ?_⟩
      show pureV _ _ _ _ = _
      unfold pureV
      rw [if_neg hc, h0 k hk]
      exact h
    · exact absurd h (by simp)
theorem op_evt {pl : FPol} {lo : Nat} {a : Frame} {o : Oper} {σ : Store} {r : DV × Store} (h : op P pl (callL P pol) lo a o σ = some r) : Evt (fun k => op P pl (callK P pol k) lo a o σ) r := by
  unfold op at h
  cases ho : o.op with
  | call c =>
    simp only [ho] at h
    cases hc : c.callee with
    | value g =>
      simp only [hc] at h
      cases hg : ev a g with
      | fn f caps =>
        simp only [hg] at h
        by_cases hp : pl.isPlain o.dst = true
        · rw [if_pos hp] at h
          obtain ⟨k0, h0⟩ := lim_some h
          refine ⟨k0, fun k hk => ?_⟩
          simp only [op, ho, hc, hg, if_pos hp]
          exact h0 k hk
        · rw [if_neg hp, pureCall_eq] at h
          obtain ⟨v, hv, rfl⟩ := Option.map_eq_some_iff.1 h
          obtain ⟨k0, h0⟩ := pureV_evt hv
          refine ⟨k0, fun k hk => ?_⟩
          simp only [op, ho, hc, hg, if_neg hp, pureCall_eq]
          have := h0 k hk
          simp only [this, Option.map_some]
      | _ => simp [hg] at h
    | builtin b => cases b <;> exact ⟨0, fun k _ => by unfold op; simp only [ho, hc]; simpa only [hc] using h⟩
    | invoke r m => exact ⟨0, fun k _ => by unfold op; simp only [ho, hc]; simpa only [hc] using h⟩
  | makeFunc f first caps => cases f <;> exact ⟨0, fun k _ => by unfold op; simpa only [ho] using h⟩
  | makeMap t n => cases n <;> exact ⟨0, fun k _ => by unfold op; simpa only [ho] using h⟩
  | _ => exact ⟨0, fun k _ => by unfold op; simpa only [ho] using h⟩
theorem opsD_evt {pl : FPol} {all : Array Oper} {lows : Bool → Store → Nat} : ∀ {os : List Oper} {cs : List Bool} {a : Frame} {σ : Store} {r : Frame × Store}, opsD P pl (callL P pol) all lows os cs a σ = some r → Evt (fun k => opsD P pl (callK P pol k) all lows os cs a σ) r
  | [], cs, a, σ, r, h => ⟨0, fun _ _ => h⟩
  | o :: os, cs, a, σ, r, h => by
    simp only [opsD] at h
    split at h
    · rename_i hw
      split at h
      · rename_i v σ1 h1
        obtain ⟨k0, h0⟩ := op_evt h1
        obtain ⟨k1, h2⟩ := opsD_evt h
        refine ⟨max k0 k1, fun k hk => ?_⟩
        simp only [opsD, hw, h0 k (by omega), h2 k (by omega)]
      · exact absurd h (by simp)
    · rename_i hw
      obtain ⟨k1, h2⟩ := opsD_evt h
      exact ⟨k1, fun k hk => by simp only [opsD, hw, h2 k hk]⟩
    · exact absurd h (by simp)
theorem traceD_evt {pl : FPol} {all : Array Oper} {lows : Bool → Store → Nat} : ∀ {os : List Oper} {cs : List Bool} {a : Frame} {σ : Store} {r : Frame × Store}, opsD P pl (callL P pol) all lows os cs a σ = some r → ∃ k0, ∀ k, k0 ≤ k → traceD P pl (callK P pol k) all lows os cs a σ = traceD P pl (callL P pol) all lows os cs a σ
  | [], cs, a, σ, r, h => ⟨0, fun _ _ => rfl⟩
  | o :: os, cs, a, σ, r, h => by
    simp only [opsD] at h
    split at h
    · rename_i hw
      split at h
      · rename_i v σ1 h1
        obtain ⟨k0, h0⟩ := op_evt h1
        obtain ⟨k1, h2⟩ := traceD_evt h
        refine ⟨max k0 k1, fun k hk => ?_⟩
        simp only [traceD, hw, h0 k (by omega), h1, h2 k (by omega)]
      · exact absurd h (by simp)
    · rename_i hw
      obtain ⟨k1, h2⟩ := traceD_evt h
      exact ⟨k1, fun k hk => by simp only [traceD, hw, h2 k hk]⟩
    · exact absurd h (by simp)
theorem bind_some' {α γ : Type} {m : Option α} {K : α → Option γ} {r : γ} (h : m.bind K = some r) : ∃ x, m = some x ∧ K x = some r := Option.bind_eq_some_iff.1 h
theorem region_evt {β : Type} {pl : FPol} {lo id : Nat} {ops : Array Oper} {draw : Bool} {an : Ann} {a : Frame} {σ : Store} {K : Ex → Frame → Store → Option β} {r : β} (h : codeK P pl (callL P pol) lo (.region id ops draw) an a σ K = some r) :
    ∃ a' σ', K .normal a' σ' = some r ∧ Evt (fun k => region P pl (callK P pol k) lo ops draw a σ) (a', σ') := by
  unfold codeK at h
  cases draw with
  | true =>
    simp only [if_true, opsK_eq] at h
    split at h
    · rename_i he
      obtain ⟨⟨a', σ'⟩, h1, h2⟩ := bind_some' h
      obtain ⟨k0, h0⟩ := opsD_evt h1
      exact ⟨a', σ', h2, k0, fun k hk => by simp only [region, if_true, he, Bool.true_or]; exact h0 k hk⟩
    · rw [opsKT_eq] at h
      obtain ⟨⟨a', σ'⟩, h1, h2⟩ := bind_some' h
      simp only [List.nil_append] at h2
      obtain ⟨k0, h0⟩ := opsD_evt h1
      obtain ⟨k1, h3⟩ := traceD_evt h1
      cases hs : stableB P pl ops.toList (traceD P pl (callL P pol) ops (lowOf lo) ops.toList (flags pl ops) a σ) with
      | false => rw [hs] at h2; exact absurd h2 (by simp)
      | true =>
        rw [hs] at h2
        refine ⟨a', σ', h2, max k0 k1, fun k hk => ?_⟩
        simp only [region, if_true, h3 k (by omega), hs, Bool.or_true]
        exact h0 k (by omega)
  | false =>
    simp only [Bool.false_eq_true, if_false, opsK_eq] at h
    obtain ⟨⟨a', σ'⟩, h1, h2⟩ := bind_some' h
    obtain ⟨k0, h0⟩ := opsD_evt h1
    exact ⟨a', σ', h2, k0, fun k hk => by simp only [region, Bool.false_eq_true, if_false]; exact h0 k hk⟩
theorem mask_mask : ∀ (m : List Bool) (a : Frame), mask m (mask m a) = mask m a
  | _, [] => by simp [mask]
  | [], v :: a => by simp [mask, mask_mask [] a]
  | b :: m, v :: a => by cases b <;> simp [mask, mask_mask m a]
theorem cut_cut (an : Ann) (a : Frame) : an.cut (an.cut a) = an.cut a := by
  cases an with
  | keep m an => exact mask_mask m a
  | _ => rfl
theorem codeK_evt {pl : FPol} {lo : Nat} : ∀ (c : Code) {β : Type} {an : Ann} {a : Frame} {σ : Store} {K : Ex → Frame → Store → Option β} {r : β}, codeK P pl (callL P pol) lo c an a σ K = some r →
    ∃ ex a' σ', K ex a' σ' = some r ∧ Evt (fun k => code P pl (callK P pol k) k lo c an a σ) (ex, a', σ') := by
  intro c
  induction c with
  | skip =>
    intro β an a σ K r h
    exact ⟨_, a, σ, h, 0, fun _ _ => rfl⟩
  | region id ops draw =>
    intro β an a σ K r h
    obtain ⟨a', σ', h1, k0, h2⟩ := region_evt h
    exact ⟨.normal, a', σ', h1, k0, fun k hk => by simp only [code, h2 k hk, Option.map_some]⟩
  | seq x y ihx ihy =>
    intro β an a σ K r h
    unfold codeK at h
    obtain ⟨ex, a1, σ1, h1, k0, h0⟩ := ihx h
    cases ex with
    | normal =>
      obtain ⟨ex2, a2, σ2, h2, k1, h3⟩ := ihy h1
      exact ⟨ex2, a2, σ2, h2, max k0 k1, fun k hk => by simp only [code, h0 k (by omega), h3 k (by omega)]⟩
    | exit i => exact ⟨_, a1, σ1, h1, k0, fun k hk => by simp only [code, h0 k hk]⟩
    | ret => exact ⟨_, a1, σ1, h1, k0, fun k hk => by simp only [code, h0 k hk]⟩
  | cond c x y ihx ihy =>
    intro β an a σ K r h
    unfold codeK condK at h
    split at h
    · rename_i hc
      obtain ⟨ex, a1, σ1, h1, k0, h0⟩ := ihx h
      exact ⟨ex, a1, σ1, h1, k0, fun k hk => by simp only [code, hc]; exact h0 k hk⟩
    · rename_i hc
      obtain ⟨ex, a1, σ1, h1, k0, h0⟩ := ihy h
      exact ⟨ex, a1, σ1, h1, k0, fun k hk => by simp only [code, hc]; exact h0 k hk⟩
    · exact absurd h (by simp)
  | block id x ih =>
    intro β an a σ K r h
    unfold codeK at h
    obtain ⟨ex, a1, σ1, h1, k0, h0⟩ := ih h
    cases ex with
    | normal => exact ⟨_, _, σ1, h1, k0, fun k hk => by simp only [code, h0 k hk]⟩
    | exit i =>
      simp only [] at h1
      by_cases hi : i = id
      · rw [if_pos hi] at h1
        exact ⟨_, _, σ1, h1, k0, fun k hk => by simp only [code, h0 k hk, if_pos hi]⟩
      · rw [if_neg hi] at h1
        exact ⟨_, _, σ1, h1, k0, fun k hk => by simp only [code, h0 k hk, if_neg hi]⟩
    | ret => exact ⟨_, a1, σ1, h1, k0, fun k hk => by simp only [code, h0 k hk]⟩
  | loop x ih =>
    intro β an a σ K r h
    unfold codeK loopWith at h
    obtain ⟨⟨ex, a', σ'⟩, h1, h2⟩ := bind_some' h
    obtain ⟨j, hj⟩ := lim_some h1
    have hj := hj j (Nat.le_refl _)
    have key : ∀ (j : Nat) (a : Frame) (σ : Store), iter (fun a σ => codeK P pl (callL P pol) lo x an.left (an.cut a) σ fun ex a σ => some (ex, a, σ)) j a σ = some (ex, a', σ') →
        ∃ k0, ∀ k n, k0 ≤ k → k0 ≤ n → iter (fun a σ => code P pl (callK P pol k) k lo x an.left (an.cut a) σ) n a σ = some (ex, a', σ') := by
      intro j
      induction j with
      | zero => intro a σ h; exact absurd h (by simp [iter])
      | succ j ihj =>
        intro a σ h
        simp only [iter] at h
        split at h
        · rename_i a1 σ1 hb
          obtain ⟨ex2, a2, σ2, e, k0, h0⟩ := ih hb
          injection e with e; injection e with e1 e2; injection e2 with e2 e3; subst e1; subst e2; subst e3
          obtain ⟨k1, h3⟩ := ihj a2 σ2 h
          refine ⟨max k0 k1 + 1, fun k n hk hn => ?_⟩
          match n, hn with
          | n + 1, hn => simp only [iter, h0 k (by omega), h3 k n (by omega) (by omega)]
        · rename_i hne
          obtain ⟨ex2, a2, σ2, e, k0, h0⟩ := ih h
          injection e with e; injection e with e1 e2; injection e2 with e2 e3; subst e1; subst e2; subst e3
          refine ⟨k0 + 1, fun k n hk hn => ?_⟩
          match n, hn with
          | n + 1, hn =>
            simp only [iter, h0 k (by omega)]
            cases ex2 with
            | normal => exact absurd h (hne a2 σ2)
            | exit i => rfl
            | ret => rfl
    obtain ⟨k0, h0⟩ := key j _ σ hj
    refine ⟨ex, a', σ', h2, k0 + 1, fun k hk => ?_⟩
    simp only [code]
    have := h0 k k (by omega) (by omega)
    match k, hk with
    | k + 1, hk =>
      simp only [iter, cut_cut] at this ⊢
      exact this
  | exit id =>
    intro β an a σ K r h
    exact ⟨_, a, σ, h, 0, fun _ _ => rfl⟩
  | ret =>
    intro β an a σ K r h
    exact ⟨_, a, σ, h, 0, fun _ _ => rfl⟩
  | rangeFunc g ps x y ihx ihy =>
    intro β an a σ K r h
    unfold codeK at h
    split at h
    · rename_i f caps hg
      split at h
      · rename_i xss hx
        split at h
        · rename_i hc
          have key : ∀ (xss : List (List DV)) (σ : Store), roundsK (fun xs σ K' => codeK P pl (callL P pol) lo x .nil (putAll ps.toList xs a) σ fun ex a1 σ1 => match ex with
              | .normal => codeK P pl (callL P pol) lo y an.left a1 σ1 fun ex _ σ2 => K' ex σ2
              | _ => none) xss σ (fun ex σ' => K ex a σ') = some r →
              ∃ ex σ', K ex a σ' = some r ∧ Evt (fun k => roundsD (roundWith (fun a σ => code P pl (callK P pol k) k lo x .nil a σ) (fun a σ => code P pl (callK P pol k) k lo y an.left a σ) ps.toList a) xss σ) (ex, σ') := by
            intro xss
            induction xss with
            | nil => intro σ h; exact ⟨.normal, σ, h, 0, fun _ _ => rfl⟩
            | cons xs xss ihr =>
              intro σ h
              simp only [roundsK] at h
              obtain ⟨ex1, a1, σ1, h1, k0, h0⟩ := ihx h
              cases ex1 with
              | normal =>
                obtain ⟨ex2, a2, σ2, h2, k1, h3⟩ := ihy h1
                have hrw : ∀ k, max k0 k1 ≤ k → roundWith (fun a σ => code P pl (callK P pol k) k lo x .nil a σ) (fun a σ => code P pl (callK P pol k) k lo y an.left a σ) ps.toList a xs σ = some (ex2, σ2) := fun k hk => by
                  simp only [roundWith, h0 k (by omega), h3 k (by omega)]
                cases ex2 with
                | normal =>
                  obtain ⟨ex3, σ3, h4, k2, h5⟩ := ihr σ2 h2
                  refine ⟨ex3, σ3, h4, max (max k0 k1) k2, fun k hk => ?_⟩
                  simp only [roundsD, hrw k (by omega), h5 k (by omega)]
                | exit i => exact ⟨_, σ2, h2, max k0 k1, fun k hk => by simp only [roundsD, hrw k (by omega)]⟩
                | ret => exact ⟨_, σ2, h2, max k0 k1, fun k hk => by simp only [roundsD, hrw k (by omega)]⟩
              | exit i => exact absurd h1 (by simp)
              | ret => exact absurd h1 (by simp)
          obtain ⟨ex, σ', h1, k0, h0⟩ := key xss σ h
          refine ⟨ex, a, σ', h1, k0, fun k hk => ?_⟩
          simp only [code, hg, hx, if_pos hc]
          have := h0 k hk
          simp only at this
          rw [this]
          rfl
        · exact absurd h (by simp)
      · exact absurd h (by simp)
    · exact absurd h (by simp)
  | _ =>
    intro β an a σ K r h
    unfold codeK at h
    exact absurd h (by simp)
/-- What stands behind a function's code. -/
def finK (P : Program) (rs : List ResultVar) : Ex → Frame → Store → Option (DV × Store)
  | .normal, a, σ | .ret, a, σ => (resultsOf P a σ rs).bind fun vs => some (wrap vs, σ)
  | _, _, _ => none
theorem callL_of {f lo : Nat} {fn : Func} {c : Code} {args : List DV} {σ : Store} {r : DV × Store} (hf : P.funcs[f]? = some fn) (hname : (fn.name == "runtime.NumGoroutine") = false) (hb : fn.body = some c) (hd : drawsOk c = true)
    (h : codeK P (pol f) (callL P pol) lo c (pol f).ann (args ++ List.replicate (fn.ntmps - args.length) .undef) σ (finK P fn.results.toList) = some r) : callL P pol lo f args σ = some r := by
  obtain ⟨ex, a', σ', h1, k0, h0⟩ := codeK_evt c h
  refine lim_eq ⟨k0 + 1, fun k hk => ?_⟩
  match k, hk with
  | k + 1, hk =>
    have h0 := h0 k (by omega)
    simp only at h0
    simp only [callK, hf, hname, hb, hd, Bool.true_eq_false, if_false, h0]
    cases ex with
    | normal => obtain ⟨vs, hv, he⟩ := bind_some' h1; simp only [hv, Option.map_some]; exact he
    | ret => obtain ⟨vs, hv, he⟩ := bind_some' h1; simp only [hv, Option.map_some]; exact he
    | exit i => exact absurd h1 (by simp [finK])
theorem codeK_bind {pl : FPol} {call : CallF} {lo : Nat} : ∀ (c : Code) {β γ : Type} {an : Ann} {a : Frame} {σ : Store} {K : Ex → Frame → Store → Option β} {J : β → Option γ},
    (codeK P pl call lo c an a σ K).bind J = codeK P pl call lo c an a σ fun ex a σ => (K ex a σ).bind J := by
  have hroundsK : ∀ {β γ : Type} {run : {β : Type} → List DV → Store → (Ex → Store → Option β) → Option β} (hr : ∀ {β γ : Type} xs σ (K : Ex → Store → Option β) (J : β → Option γ), (run xs σ K).bind J = run xs σ fun ex σ => (K ex σ).bind J) (J : β → Option γ) (K : Ex → Store → Option β) (xss : List (List DV)) (σ : Store),
      (roundsK run xss σ K).bind J = roundsK run xss σ fun ex σ => (K ex σ).bind J := by
    intro β γ run hr J K xss
    induction xss with
    | nil => intro σ; rfl
    | cons xs xss ih =>
      intro σ
      simp only [roundsK, hr]
      congr 1
      funext ex σ'
      cases ex with
      | normal => exact ih σ'
      | exit i => rfl
      | ret => rfl
  intro c
  induction c with
  | skip => intros; rfl
  | region id ops draw =>
    intro β γ an a σ K J
    cases draw with
    | false => simp only [codeK, opsK_eq, Option.bind_assoc, Bool.false_eq_true, if_false]
    | true =>
      simp only [codeK, opsK_eq, if_true]
      split
      · simp only [Option.bind_assoc]
      · simp only [opsKT_eq, Option.bind_assoc, List.nil_append]
        congr 1
        funext r
        cases stableB P pl ops.toList (traceD P pl call ops (lowOf lo) ops.toList (flags pl ops) a σ) <;> rfl
  | seq x y ihx ihy =>
    intro β γ an a σ K J
    simp only [codeK, ihx]
    congr 1
    funext ex a' σ'
    cases ex with
    | normal => exact ihy
    | exit i => rfl
    | ret => rfl
  | cond c x y ihx ihy =>
    intro β γ an a σ K J
    simp only [codeK, ← ihx, ← ihy]
    unfold condK
    split <;> rfl
  | block id x ih =>
    intro β γ an a σ K J
    simp only [codeK, ih]
    congr 1
    funext ex a' σ'
    cases ex with
    | normal => rfl
    | exit i => simp only []; split <;> rfl
    | ret => rfl
  | loop x ih =>
    intro β γ an a σ K J
    simp only [codeK, loopWith, Option.bind_assoc]
  | exit id => intros; rfl
  | ret => intros; rfl
  | rangeFunc g ps x y ihx ihy =>
    intro β γ an a σ K J
    simp only [codeK]
    split
    · split
      · split
        · refine hroundsK (run := fun {β} xs σ K' => codeK P pl call lo x .nil (putAll ps.toList xs a) σ fun ex a1 σ1 => match ex with
              | .normal => codeK P pl call lo y an.left a1 σ1 fun ex _ σ2 => K' ex σ2
              | _ => none) (fun xs σ K J => ?_) J _ _ _
          rw [ihx]
          congr 1
          funext ex a1 σ1
          cases ex with
          | normal => exact ihy
          | exit i => rfl
          | ret => rfl
        · rfl
      · rfl
    · rfl
  | _ => intros; rfl
theorem loop_eq {β : Type} {pl : FPol} {call : CallF} {lo : Nat} {x : Code} {an : Ann} {a : Frame} {σ : Store} {K : Ex → Frame → Store → Option β} :
    codeK P pl call lo (.loop x) an a σ K = codeK P pl call lo x an.left (an.cut a) σ fun ex a' σ' => match ex with
      | .normal => codeK P pl call lo (.loop x) an a' σ' K
      | ex => K ex a' σ' := by
  have hcut : ∀ a σ, iterL (fun a σ => codeK P pl call lo x an.left (an.cut a) σ fun ex a σ => some (ex, a, σ)) (an.cut a) σ = iterL (fun a σ => codeK P pl call lo x an.left (an.cut a) σ fun ex a σ => some (ex, a, σ)) a σ := by
    intro a σ
    rw [iterL_eq, iterL_eq _ a]
    simp only [cut_cut]
  have h1 : codeK P pl call lo (.loop x) an a σ K = (iterL (fun a σ => codeK P pl call lo x an.left (an.cut a) σ fun ex a σ => some (ex, a, σ)) a σ).bind fun r => K r.1 r.2.1 r.2.2 := by
    simp only [codeK, loopWith, hcut]
  rw [h1, iterL_eq]
  have h2 : ∀ (J : St → Option β), (codeK P pl call lo x an.left (an.cut a) σ fun ex a σ => some (ex, a, σ)).bind J = codeK P pl call lo x an.left (an.cut a) σ fun ex a σ => J (ex, a, σ) := by
    intro J
    rw [codeK_bind]
    rfl
  refine Eq.trans ?_ (h2 fun r => match r.1 with
    | .normal => codeK P pl call lo (.loop x) an r.2.1 r.2.2 K
    | ex => K ex r.2.1 r.2.2)
  generalize (codeK P pl call lo x an.left (an.cut a) σ fun ex a σ => some (ex, a, σ)) = o
  cases o with
  | none => rfl
  | some r =>
    obtain ⟨ex, a', σ'⟩ := r
    cases ex with
    | normal => simp only [Option.bind_some, codeK, loopWith, hcut]
    | exit i => rfl
    | ret => rfl
end Go.D
end
/- More fuel answers the same. -/
section
set_option linter.unusedVariables false
set_option linter.unusedSimpArgs false
namespace Go.D

variable {P : Program}

def CallLe (c c' : CallF) : Prop := ∀ lo f args σ r, c lo f args σ = some r → c' lo f args σ = some r
theorem pureCall_le {c c' : CallF} (h : CallLe c c') {f : FuncId} {args : List DV} {σ : Store} {r : DV × Store} (hr : pureCall c f args σ = some r) : pureCall c' f args σ = some r := by
  unfold pureCall at hr ⊢
  split at hr
  · rename_i hc
    rw [if_pos hc]
    split at hr
    · rename_i v1 σ1 h1
      rw [h _ _ _ _ _ h1]; exact hr
    · exact absurd hr (by simp)
  · rename_i hc
    rw [if_neg hc]
    split at hr
    · rename_i v1 σ1 h1
      rw [h _ _ _ _ _ h1]; exact hr
    · exact absurd hr (by simp)
theorem op_le {c c' : CallF} (h : CallLe c c') {pl : FPol} {lo : Nat} {a : Frame} {o : Oper} {σ : Store} {r : DV × Store} (hr : op P pl c lo a o σ = some r) : op P pl c' lo a o σ = some r := by
  unfold op at hr
  cases ho : o.op with
  | call q =>
    simp only [ho] at hr
    cases hc : q.callee with
    | value g =>
      simp only [hc] at hr
      cases hg : ev a g with
      | fn f caps =>
        simp only [hg] at hr
        simp only [op, ho, hc, hg]
        by_cases hp : pl.isPlain o.dst = true
        · rw [if_pos hp] at hr ⊢
          exact h _ _ _ _ _ hr
        · rw [if_neg hp] at hr ⊢
          exact pureCall_le h hr
      | _ => simp [hg] at hr
    | builtin b => cases b <;> (unfold op; simp only [ho, hc]; simpa only [hc] using hr)
    | invoke r m => unfold op; simp only [ho, hc]; simpa only [hc] using hr
  | makeFunc f first caps => cases f <;> (unfold op; simpa only [ho] using hr)
  | makeMap t n => cases n <;> (unfold op; simpa only [ho] using hr)
  | _ => unfold op; simpa only [ho] using hr
theorem opsD_le {c c' : CallF} (h : CallLe c c') {pl : FPol} {all : Array Oper} {lows : Bool → Store → Nat} : ∀ {os : List Oper} {cs : List Bool} {a : Frame} {σ : Store} {r : Frame × Store}, opsD P pl c all lows os cs a σ = some r → opsD P pl c' all lows os cs a σ = some r
  | [], cs, a, σ, r, hr => hr
  | o :: os, cs, a, σ, r, hr => by
    simp only [opsD] at hr ⊢
    split at hr
    · rename_i hw
      split at hr
      · rename_i v σ1 h1
        simp only [hw, op_le h h1]
        exact opsD_le h hr
      · exact absurd hr (by simp)
    · rename_i hw
      try simp only [hw]
      exact opsD_le h hr
    · exact absurd hr (by simp)
theorem traceD_le {c c' : CallF} (h : CallLe c c') {pl : FPol} {all : Array Oper} {lows : Bool → Store → Nat} : ∀ {os : List Oper} {cs : List Bool} {a : Frame} {σ : Store} {r : Frame × Store}, opsD P pl c all lows os cs a σ = some r → traceD P pl c all lows os cs a σ = traceD P pl c' all lows os cs a σ
  | [], cs, a, σ, r, hr => rfl
  | o :: os, cs, a, σ, r, hr => by
    simp only [opsD] at hr
    simp only [traceD]
    split at hr
    · rename_i hw
      split at hr
      · rename_i v σ1 h1
        simp only [hw, h1, op_le h h1, traceD_le h hr]
      · exact absurd hr (by simp)
    · rename_i hw
      simp only [hw, traceD_le h hr]
    · exact absurd hr (by simp)
theorem iter_le {b b' : Frame → Store → Option St} (h : ∀ a σ r, b a σ = some r → b' a σ = some r) : ∀ (k k' : Nat) (a : Frame) (σ : Store) (r : St), k ≤ k' → iter b k a σ = some r → iter b' k' a σ = some r
  | 0, k', a, σ, r, hk, hr => absurd hr (by simp [iter])
  | k + 1, 0, a, σ, r, hk, hr => absurd hk (by omega)
  | k + 1, k' + 1, a, σ, r, hk, hr => by
    simp only [iter] at hr ⊢
    split at hr
    · rename_i a1 σ1 h1
      rw [h _ _ _ h1]
      exact iter_le h k k' a1 σ1 r (by omega) hr
    · rename_i hne
      have h2 := h _ _ _ hr
      rw [h2]
      obtain ⟨ex, a1, σ1⟩ := r
      cases ex with
      | normal => exact absurd hr (hne a1 σ1)
      | exit i => rfl
      | ret => rfl
theorem roundsD_le {b b' : List DV → Store → Option (Ex × Store)} (h : ∀ xs σ r, b xs σ = some r → b' xs σ = some r) : ∀ (xss : List (List DV)) (σ : Store) (r : Ex × Store), roundsD b xss σ = some r → roundsD b' xss σ = some r
  | [], σ, r, hr => hr
  | xs :: xss, σ, r, hr => by
    simp only [roundsD] at hr ⊢
    split at hr
    · rename_i σ1 h1
      rw [h _ _ _ h1]
      exact roundsD_le h xss σ1 r hr
    · rename_i hne
      have h2 := h _ _ _ hr
      rw [h2]
      obtain ⟨ex, σ1⟩ := r
      cases ex with
      | normal => exact absurd hr (hne σ1)
      | exit i => rfl
      | ret => rfl
theorem code_le {c c' : CallF} (h : CallLe c c') {pl : FPol} {k k' lo : Nat} (hk : k ≤ k') : ∀ (x : Code) (an : Ann) (a : Frame) (σ : Store) (r : St), code P pl c k lo x an a σ = some r → code P pl c' k' lo x an a σ = some r := by
  intro x
  induction x with
  | region id ops draw =>
    intro an a σ r hr
    simp only [code] at hr ⊢
    obtain ⟨⟨a1, σ1⟩, h1, rfl⟩ := Option.map_eq_some_iff.1 hr
    have : region P pl c' lo ops draw a σ = some (a1, σ1) := by
      unfold region at h1 ⊢
      cases draw with
      | true =>
        simp only [if_true] at h1 ⊢
        split at h1
        · rename_i hst
          have hst2 : (pl.rload.isEmpty || stableB P pl ops.toList (traceD P pl c' ops (lowOf lo) ops.toList (flags pl ops) a σ)) = true := by
            rw [← traceD_le h h1]; exact hst
          rw [if_pos hst2]
          exact opsD_le h h1
        · exact absurd h1 (by simp)
      | false => simp only [Bool.false_eq_true, if_false] at h1 ⊢; exact opsD_le h h1
    rw [this]; rfl
  | seq x y ihx ihy =>
    intro an a σ r hr
    simp only [code] at hr ⊢
    split at hr
    · rename_i a1 σ1 h1
      rw [ihx _ _ _ _ h1]
      exact ihy _ _ _ _ hr
    · rename_i hne
      have h2 := ihx _ _ _ _ hr
      rw [h2]
      obtain ⟨ex, a1, σ1⟩ := r
      cases ex with
      | normal => exact absurd hr (hne a1 σ1)
      | exit i => rfl
      | ret => rfl
  | cond q x y ihx ihy =>
    intro an a σ r hr
    simp only [code] at hr ⊢
    split at hr
    · rename_i hc; (try simp only [hc]); exact ihx _ _ _ _ hr
    · rename_i hc; (try simp only [hc]); exact ihy _ _ _ _ hr
    · exact absurd hr (by simp)
  | block id x ih =>
    intro an a σ r hr
    simp only [code] at hr ⊢
    split at hr
    · rename_i h1; rw [ih _ _ _ _ h1]; exact hr
    · rename_i h1; rw [ih _ _ _ _ h1]; exact hr
    · rename_i h1; rw [ih _ _ _ _ h1]; exact hr
    · exact absurd hr (by simp)
  | loop x ih =>
    intro an a σ r hr
    simp only [code] at hr ⊢
    exact iter_le (fun a σ r hr => ih _ _ _ _ hr) _ _ _ _ _ hk hr
  | rangeFunc g ps x y ihx ihy =>
    intro an a σ r hr
    simp only [code] at hr ⊢
    split at hr
    · rename_i f caps hg
      try simp only [hg]
      split at hr
      · rename_i xss hx
        try simp only [hx]
        split at hr
        · rename_i hc
          rw [if_pos hc]
          obtain ⟨⟨ex, σ1⟩, h1, rfl⟩ := Option.map_eq_some_iff.1 hr
          rw [roundsD_le (fun xs σ r hr => ?_) _ _ _ h1]
          · rfl
          · obtain ⟨ex, σ2⟩ := r
            obtain ⟨a1, σ1, a2, h2, h3⟩ := roundWith_some hr
            simp only [roundWith, ihx _ _ _ _ h2, ihy _ _ _ _ h3]
        · exact absurd hr (by simp)
      · exact absurd hr (by simp)
    · exact absurd hr (by simp)
  | _ =>
    intro an a σ r hr
    simp only [code] at hr ⊢
    exact hr
theorem callK_le {pol : FuncId → FPol} : ∀ k, CallLe (callK P pol k) (callK P pol (k + 1))
  | 0 => fun lo f args σ r h => absurd h (by simp [callK])
  | k + 1 => by
    intro lo f args σ r h
    rw [callK] at h ⊢
    split at h
    · rename_i fn hf
      split at h
      · rename_i c hname hb
        try simp only [hf, hname, hb]
        split at h
        · exact absurd h (by simp)
        rename_i hd
        rw [if_neg hd]
        split at h
        · rename_i a1 σ1 h1
          rw [code_le (callK_le k) (Nat.le_succ k) _ _ _ _ _ h1]
          exact h
        · rename_i a1 σ1 h1
          rw [code_le (callK_le k) (Nat.le_succ k) _ _ _ _ _ h1]
          exact h
        · exact absurd h (by simp)
      · exact absurd h (by simp)
    · exact absurd h (by simp)
theorem callL_at {pol : FuncId → FPol} {k lo : Nat} {f : FuncId} {args : List DV} {σ : Store} {r : DV × Store} (h : callK P pol k lo f args σ = some r) : callL P pol lo f args σ = some r := by
  refine lim_eq ⟨k, fun m hm => ?_⟩
  obtain ⟨d, rfl⟩ := Nat.exists_eq_add_of_le hm
  clear hm
  induction d with
  | zero => exact h
  | succ d ih => exact callK_le (k + d) _ _ _ _ _ ih
end Go.D
end
/- The continuation style once more, so that a kernel works out frames as it goes. -/
section
set_option linter.unusedVariables false
set_option linter.unusedSimpArgs false
namespace Go.D

section
variable {β : Type}
/-- Definitions that name 'high' are taller than guardK: a kernel opens them first. -/
def tall : Unit := (fun (_ : DV → Bool → Option (DV × Store) → Store → (DV → Store → Option Unit) → Option Unit) => ()) guardK
def high (x : β) : β := match tall with | () => x
theorem high_eq (x : β) : high x = x := rfl
def getK : List DV → Nat → (DV → β) → β
  | [], _, K => K .undef
  | x :: _, 0, K => high (K x)
  | _ :: xs, n + 1, K => getK xs n K
theorem getK_eq : ∀ (a : List DV) (n : Nat) (K : DV → β), getK a n K = K (a.getD n .undef)
  | [], n, K => by simp [getK]
  | x :: _, 0, K => rfl
  | _ :: xs, n + 1, K => by simpa [getK] using getK_eq xs n K
def evK (a : Frame) (x : Operand) (K : DV → β) : β := match x with
  | .tmp t => getK a t K
  | .const v => K (cst v)
  | .global _ => K .undef
  | .func f => K (.fn f [])
theorem evK_eq (a : Frame) (x : Operand) (K : DV → β) : evK a x K = K (ev a x) := by
  cases x <;> first | rfl | exact getK_eq _ _ _
def evsK (a : Frame) : List Operand → (List DV → β) → β
  | [], K => K []
  | x :: xs, K => evK a x fun v => evsK a xs fun vs => K (v :: vs)
theorem evsK_eq (a : Frame) : ∀ (xs : List Operand) (K : List DV → β), evsK a xs K = K (xs.map (ev a))
  | [], K => rfl
  | x :: xs, K => by simp only [evsK, evK_eq, evsK_eq a xs, List.map_cons]
def partsK (a : Frame) : List (Nat × Operand) → (List (Nat × DV) → β) → β
  | [], K => K []
  | q :: xs, K => evK a q.2 fun v => partsK a xs fun vs => K ((q.1, v) :: vs)
theorem partsK_eq (a : Frame) : ∀ (xs : List (Nat × Operand)) (K : List (Nat × DV) → β), partsK a xs K = K (xs.map fun q => (q.1, ev a q.2))
  | [], K => rfl
  | q :: xs, K => by simp only [partsK, evK_eq, partsK_eq a xs, List.map_cons]
def optK (a : Frame) (x : Option Operand) (K : Option DV → β) : β := match x with
  | none => K none
  | some x => evK a x fun v => K (some v)
theorem optK_eq (a : Frame) (x : Option Operand) (K : Option DV → β) : optK a x K = K (x.map (ev a)) := by
  cases x <;> simp [optK, evK_eq]
def setK : List DV → Nat → DV → (List DV → β) → β
  | [], _, _, K => K []
  | x :: xs, 0, v, K => high (K (v :: xs))
  | x :: xs, n + 1, v, K => setK xs n v fun xs' => K (x :: xs')
theorem setK_eq : ∀ (a : List DV) (n : Nat) (v : DV) (K : List DV → β), setK a n v K = K (a.set n v)
  | [], n, v, K => by simp [setK]
  | x :: xs, 0, v, K => by simp [setK, high_eq]
  | x :: xs, n + 1, v, K => by simp [setK, setK_eq xs n v]
def putK (a : Frame) (d : Option Tmp) (v : DV) (K : Frame → β) : β := match d with
  | some d => setK a d v K
  | none => K a
theorem putK_eq (a : Frame) (d : Option Tmp) (v : DV) (K : Frame → β) : putK a d v K = K (put a d v) := by
  cases d <;> first | rfl | exact setK_eq _ _ _ _
def maskK : List Bool → Frame → (Frame → β) → β
  | _, [], K => K []
  | [], v :: a, K => maskK [] a fun r => K (.undef :: r)
  | true :: bs, v :: a, K => maskK bs a fun r => K (v :: r)
  | false :: bs, v :: a, K => maskK bs a fun r => K (.undef :: r)
theorem maskK_eq : ∀ (m : List Bool) (a : Frame) (K : Frame → β), maskK m a K = K (mask m a)
  | m, [], K => by cases m <;> simp [maskK, mask]
  | [], v :: a, K => by simp [maskK, mask, maskK_eq [] a]
  | b :: bs, v :: a, K => by cases b <;> simp [maskK, mask, maskK_eq bs a]
def cutK (an : Ann) (a : Frame) (K : Frame → β) : β := match an with
  | .keep m _ => maskK m a K
  | _ => K a
theorem cutK_eq (an : Ann) (a : Frame) (K : Frame → β) : cutK an a K = K (an.cut a) := by
  cases an <;> first | rfl | exact maskK_eq _ _ _
def opF (P : Program) (pl : FPol) (call : CallF) (lo : Nat) (a : Frame) (o : Oper) (σ : Store) (K : DV → Store → Option β) : Option β :=
  match o.op with
  | .move x | .assign x => evK a x fun x => K x σ
  | .pick c x y => evK a c fun c => evK a x fun x => evK a y fun y => (pickV c x y).bind fun v => K v σ
  | .alloc t => (zeroOf P t).bind fun z => K (.ptr σ.length 0) (σ ++ [.mix z])
  | .box _ x => evK a x fun x => (boxV x).bind fun cs => K (.ptr σ.length 0) (σ ++ [.mix cs])
  | .build t ps => partsK a ps.toList fun ps => (build P t ps).bind fun v => K v σ
  | .buildSlice t n ps => partsK a ps.toList fun ps => (buildSlice P (pl.asRow o.dst) t n ps σ).bind fun r => K r.1 r.2
  | .load t x => evK a x fun x => (loadP P pl o.dst t x σ).bind fun v => K v σ
  | .store t x y => evK a x fun x => evK a y fun y => (store P lo t x y σ).bind fun σ' => K .undef σ'
  | .nilCheck x => evK a x fun x => (nilCheckV x).bind fun v => K v σ
  | .binOp op t x y _ => evK a x fun x => evK a y fun y => (binOp P op t x y).bind fun v => K v σ
  | .unOp op _ x => evK a x fun x => (unOp op x).bind fun v => K v σ
  | .convert s d x => evK a x fun x => (convert P s d x).bind fun v => K v σ
  | .makeFunc (.func f) first caps => if first.size = 0 then evsK a caps.toList fun cs => K (.fn f cs) σ else none
  | .makeMap _ none => K (.map σ.length) (σ ++ [.map []])
  | .makeSlice t l c => evK a l fun l => evK a c fun c => (makeSlice P (pl.isMixed o.dst) t l c σ).bind fun r => K r.1 r.2
  | .slice t x l h m => evK a x fun x => optK a l fun l => optK a h fun h => optK a m fun m => (sliceOp P t x l h m).bind fun v => K v σ
  | .fieldAddr t x i => evK a x fun x => (fieldAddr P t x i).bind fun v => K v σ
  | .field t x i => evK a x fun x => (field P t x i).bind fun v => K v σ
  | .indexAddr t x i => evK a x fun x => evK a i fun i => (indexAddr P t x i).bind fun v => K v σ
  | .index t x i => evK a x fun x => evK a i fun i => (index P t x i).bind fun v => K v σ
  | .lookup t x i ok => evK a x fun x => evK a i fun i => (lookup P t x i ok σ).bind fun v => K v σ
  | .mapUpdate t m k v => evK a m fun m => evK a k fun k => evK a v fun v => (mapUpdate P lo t m k v σ).bind fun σ' => K .undef σ'
  | .extract x i => evK a x fun x => (extractV x i).bind fun v => K v σ
  | .call c =>
    match c.callee with
    | .builtin .len => if c.args.size = 1 ∧ c.argTypes.size = 1 then evK a (c.args.getD 0 (.const undef)) fun x => (len P (c.argTypes.getD 0 0) x σ).bind fun v => K v σ else none
    | .builtin .append => if c.args.size = 2 ∧ c.argTypes.size = 2 then evK a (c.args.getD 0 (.const undef)) fun x => evK a (c.args.getD 1 (.const undef)) fun y => (append P lo (pl.isMixed o.dst) (c.argTypes.getD 0 0) (c.argTypes.getD 1 0) x y σ).bind fun r => K r.1 r.2 else none
    | .builtin .max => evsK a c.args.toList fun xs => (maxMin true xs).bind fun v => K v σ
    | .builtin .min => evsK a c.args.toList fun xs => (maxMin false xs).bind fun v => K v σ
    | .builtin _ => none
    | .value g => evK a g fun g => evsK a c.args.toList fun xs => if pl.isPlain o.dst then (plainFn call lo g xs σ).bind fun r => K r.1 r.2
      else (pureFn call g xs σ).bind fun v => K v σ
    | .invoke _ _ => none
  | _ => none
theorem opF_eq (P : Program) (pl : FPol) (call : CallF) (lo : Nat) (a : Frame) (o : Oper) (σ : Store) (K : DV → Store → Option β) : opF P pl call lo a o σ K = opK P pl call lo a o σ K := by
  cases ho : o.op
  case makeFunc f first caps => first | (simp only [opF, opK, ho, evK_eq, evsK_eq, partsK_eq, optK_eq]; done) | (cases f <;> simp only [opF, opK, ho, evsK_eq])
  case makeMap t n => first | (simp only [opF, opK, ho, evK_eq, evsK_eq, partsK_eq, optK_eq]; done) | (cases n <;> simp only [opF, opK, ho])
  case call c =>
    first
    | (simp only [opF, opK, ho, evK_eq, evsK_eq, partsK_eq, optK_eq]; done)
    | (simp only [opF, opK, ho]
       cases hc : c.callee with
       | builtin b => cases b <;> simp only [evK_eq, evsK_eq]
       | value g => simp only [evK_eq, evsK_eq]
       | invoke r m => rfl)
  all_goals simp only [opF, opK, ho, evK_eq, evsK_eq, partsK_eq, optK_eq]
def guardF (all : Array Oper) (a : Frame) (j : Nat) (K : DV → β) : β := match (all.toList[j]?).bind (·.dst) with
  | some t => getK a t K
  | none => K .undef
theorem guardF_eq (all : Array Oper) (a : Frame) (j : Nat) (K : DV → β) : guardF all a j K = K (guardVal all a j) := by
  unfold guardF guardVal
  rw [Array.getElem?_toList]
  cases (all[j]?).bind (·.dst) <;> first | rfl | exact getK_eq _ _ _
/-- guardK is handed in, so that no kernel opens it while it compares. -/
abbrev GuardT := (β : Type) → DV → Bool → Option (DV × Store) → Store → (DV → Store → Option β) → Option β
def guardT : GuardT := fun _ => guardK
def opsF (G : GuardT) (P : Program) (pl : FPol) (call : CallF) (all : Array Oper) (lows : Bool → Store → Nat) : List Oper → List Bool → Frame → Store → (Frame → Store → Option β) → Option β
  | [], _, a, σ, K => K a σ
  | o :: os, cs, a, σ, K => match o.guard with
    | none => opF P pl call (lows (cs.headD true) σ) a o σ fun v σ' => putK a o.dst v fun a => opsF G P pl call all lows os cs.tail a σ' K
    | some (j, want) => guardF all a j fun g => G β g want (opF P pl call (lows (cs.headD true) σ) a o σ fun v σ' => some (v, σ')) σ fun v σ' => putK a o.dst v fun a => opsF G P pl call all lows os cs.tail a σ' K
theorem opsF_eq (P : Program) (pl : FPol) (call : CallF) (all : Array Oper) (lows : Bool → Store → Nat) : ∀ (os : List Oper) (cs : List Bool) (a : Frame) (σ : Store) (K : Frame → Store → Option β),
    opsF guardT P pl call all lows os cs a σ K = opsK P pl call all lows os cs a σ K
  | [], cs, a, σ, K => rfl
  | o :: os, cs, a, σ, K => by
    cases hg : o.guard with
    | none => simp only [opsF, opsK, hg, opF_eq, putK_eq, opsF_eq P pl call all lows os]
    | some g =>
      simp only [opsF, opsK, hg, opF_eq, putK_eq, guardF_eq, opsF_eq P pl call all lows os]
      rfl
end

section
variable {β : Type}
def opsFT (G : GuardT) (P : Program) (pl : FPol) (call : CallF) (all : Array Oper) (lows : Bool → Store → Nat) : List Oper → List Bool → Frame → Store → List (Frame × Store) → (Frame → Store → List (Frame × Store) → Option β) → Option β
  | [], _, a, σ, tr, K => K a σ (tr ++ [(a, σ)])
  | o :: os, cs, a, σ, tr, K => match o.guard with
    | none => opF P pl call (lows (cs.headD true) σ) a o σ fun v σ' => putK a o.dst v fun a2 => opsFT G P pl call all lows os cs.tail a2 σ' (tr ++ [(a, σ)]) K
    | some (j, want) => guardF all a j fun g => G β g want (opF P pl call (lows (cs.headD true) σ) a o σ fun v σ' => some (v, σ')) σ fun v σ' => putK a o.dst v fun a2 => opsFT G P pl call all lows os cs.tail a2 σ' (tr ++ [(a, σ)]) K
theorem opsFT_eq (P : Program) (pl : FPol) (call : CallF) (all : Array Oper) (lows : Bool → Store → Nat) : ∀ (os : List Oper) (cs : List Bool) (a : Frame) (σ : Store) (tr : List (Frame × Store)) (K : Frame → Store → List (Frame × Store) → Option β),
    opsFT guardT P pl call all lows os cs a σ tr K = opsKT P pl call all lows os cs a σ tr K
  | [], cs, a, σ, tr, K => rfl
  | o :: os, cs, a, σ, tr, K => by
    cases hg : o.guard with
    | none => simp only [opsFT, opsKT, hg, opF_eq, putK_eq, opsFT_eq P pl call all lows os]
    | some g =>
      simp only [opsFT, opsKT, hg, opF_eq, putK_eq, guardF_eq, opsFT_eq P pl call all lows os]
      rfl
end

noncomputable def codeF (G : GuardT) (P : Program) (pl : FPol) (call : CallF) (lo : Nat) : Code → {β : Type} → Ann → Frame → Store → (Ex → Frame → Store → Option β) → Option β
  | .skip, _, _, a, σ, K => K .normal a σ
  | .region _ ops draw, _, _, a, σ, K => if draw then (if pl.rload.isEmpty then opsF G P pl call ops (lowOf lo) ops.toList (flags pl ops) a σ (K .normal) else opsFT G P pl call ops (lowOf lo) ops.toList (flags pl ops) a σ [] fun a' σ' tr => bif stableB P pl ops.toList tr then K .normal a' σ' else none) else opsF G P pl call ops (fun _ _ => lo) ops.toList [] a σ (K .normal)
  | .seq x y, _, an, a, σ, K => codeF G P pl call lo x an.left a σ fun ex a' σ' => match ex with
    | .normal => codeF G P pl call lo y an.right a' σ' K
    | ex => K ex a' σ'
  | .cond c x y, _, an, a, σ, K => evK a c fun c => condK c (codeF G P pl call lo x an.left a σ K) (codeF G P pl call lo y an.right a σ K)
  | .block id x, _, an, a, σ, K => codeF G P pl call lo x an.left a σ fun ex a' σ' => match ex with
    | .normal => cutK an a' fun a2 => K .normal a2 σ'
    | .exit i => if i = id then cutK an a' fun a2 => K .normal a2 σ' else K (.exit i) a' σ'
    | .ret => K .ret a' σ'
  | .loop x, _, an, a, σ, K => cutK an a fun a2 => loopWith (fun a σ => codeF G P pl call lo x an.left (an.cut a) σ fun ex a σ => some (ex, a, σ)) a2 σ K
  | .exit id, _, _, a, σ, K => K (.exit id) a σ
  | .ret, _, _, a, σ, K => K .ret a σ
  | .rangeFunc g ps x y, _, an, a, σ, K => evK a g fun g => match g with
    | .fn f caps => match (pl.seq f).bind fun kind => seqList kind caps with
      | some xss =>
        if xss.all (·.length == ps.size) && !hasRange x && !hasRange y then
          roundsK (fun xs σ K' => codeF G P pl call lo x .nil (putAll ps.toList xs a) σ fun ex a1 σ1 => match ex with
            | .normal => codeF G P pl call lo y an.left a1 σ1 fun ex _ σ2 => K' ex σ2
            | _ => none) xss σ fun ex σ' => K ex a σ'
        else none
      | none => none
    | _ => none
  | _, _, _, _, _, _ => none
theorem codeF_eq {P : Program} {pl : FPol} {call : CallF} {lo : Nat} : ∀ (c : Code) {β : Type} {an : Ann} {a : Frame} {σ : Store} {K : Ex → Frame → Store → Option β}, codeF guardT P pl call lo c an a σ K = codeK P pl call lo c an a σ K := by
  intro c
  induction c with
  | region id ops draw => intros; simp only [codeF, codeK, opsF_eq, opsFT_eq]
  | seq x y ihx ihy =>
    intro β an a σ K
    simp only [codeF, codeK, ihx]
    congr 1
    funext ex a' σ'
    cases ex with
    | normal => exact ihy
    | exit i => rfl
    | ret => rfl
  | cond c x y ihx ihy => intros; simp only [codeF, codeK, evK_eq, ihx, ihy]
  | block id x ih =>
    intro β an a σ K
    first
    | (simp only [codeF, codeK, ih, cutK_eq]; done)
    | (simp only [codeF, codeK, ih, cutK_eq]; congr 1)
  | loop x ih => intros; simp only [codeF, codeK, ih, cutK_eq]
  | rangeFunc g ps x y ihx ihy =>
    intro β an a σ K
    first
    | (simp only [codeF, codeK, evK_eq, ihx, ihy]; done)
    | (simp only [codeF, codeK, evK_eq, ihx, ihy]; cases ev a g <;> try rfl)
  | _ => intros; rfl
/-- What loops need of the guards: they go along with what stands behind. -/
def GuardOk (G : GuardT) : Prop := G = guardT
theorem loopF_eq {P : Program} {β : Type} {pl : FPol} {call : CallF} {lo : Nat} {x : Code} {an : Ann} {a : Frame} {σ : Store} {K : Ex → Frame → Store → Option β} (G : GuardT) (hG : GuardOk G) :
    codeF G P pl call lo (.loop x) an a σ K = cutK an a fun a => codeF G P pl call lo x an.left a σ fun ex a' σ' => match ex with
      | .normal => codeF G P pl call lo (.loop x) an a' σ' K
      | ex => K ex a' σ' := by
  cases hG
  simp only [codeF_eq, cutK_eq]
  exact loop_eq
end Go.D
end
/- What the generated texts need: contexts as functions, results in continuation style. -/
section
set_option linter.unusedVariables false
set_option linter.unusedSimpArgs false
namespace Go.D
/-- Short names for printed texts. -/
abbrev Z : DV := .undef
abbrev tt : Bool := true
abbrev ff : Bool := false
def cellV (P : Program) (t : TypeId) (x : DV) (σ : Store) : Option DV := match x with
  | .ptr r off => load P t (.ptr r off) σ
  | _ => none
def resK {β : Type} (P : Program) (a : Frame) (σ : Store) : List ResultVar → (List DV → Option β) → Option β
  | [], K => K []
  | .tmp t :: rs, K => resK P a σ rs fun vs => K (a.getD t .undef :: vs)
  | .cell x t :: rs, K => (cellV P t (a.getD x .undef) σ).bind fun v => resK P a σ rs fun vs => K (v :: vs)
theorem resK_eq {β : Type} (P : Program) (a : Frame) (σ : Store) : ∀ (rs : List ResultVar) (K : List DV → Option β), resK P a σ rs K = (resultsOf P a σ rs).bind K
  | [], K => rfl
  | .tmp t :: rs, K => by
    simp only [resK, resultsOf, resultOf, resK_eq P a σ rs]
    cases resultsOf P a σ rs <;> rfl
  | .cell x t :: rs, K => by
    simp only [resK, resultsOf, resultOf, resK_eq P a σ rs]
    unfold cellV
    generalize a.getD x .undef = g
    cases g <;> try rfl
    rename_i r off
    simp only []
    cases load P t (.ptr r off) σ <;> first | rfl | (cases resultsOf P a σ rs <;> rfl)
def finR (P : Program) (rs : List ResultVar) : Ex → Frame → Store → Option (DV × Store)
  | .normal, a, σ => resK P a σ rs fun vs => some (wrap vs, σ)
  | .ret, a, σ => resK P a σ rs fun vs => some (wrap vs, σ)
  | _, _, _ => none
theorem finR_eq (P : Program) (rs : List ResultVar) : finR P rs = finK P rs := by
  funext ex a σ
  cases ex <;> first | rfl | exact resK_eq P a σ rs _
def bodyOf (f : Func) : Code := f.body.getD .skip
theorem callL_run {P : Program} {pol : FuncId → FPol} {f lo : Nat} {fn : Func} {args : List DV} {σ : Store} {r : DV × Store} (hf : P.funcs[f]? = some fn) (hname : (fn.name == "runtime.NumGoroutine") = false) (hb : fn.body.isSome = true) (hd : drawsOk (bodyOf fn) = true)
    (h : codeF guardT P (pol f) (callL P pol) lo (bodyOf fn) (pol f).ann (args ++ List.replicate (fn.ntmps - args.length) .undef) σ (finR P fn.results.toList) = some r) : callL P pol lo f args σ = some r := by
  obtain ⟨c, hc⟩ := Option.isSome_iff_exists.1 hb
  have e : bodyOf fn = c := by unfold bodyOf; rw [hc]; rfl
  rw [e] at hd h
  rw [finR_eq, codeF_eq] at h
  exact callL_of hf hname hc hd h
def Code.fstC : Code → Code
  | .seq x _ => x | .cond _ x _ => x | .block _ x => x | .loop x => x | .rangeFunc _ _ x _ => x | c => c
def Code.sndC : Code → Code
  | .seq _ y => y | .cond _ _ y => y | .rangeFunc _ _ _ y => y | c => c
def splitC {β : Type} (N : Frame → Store → Option β) (E : Ex → Frame → Store → Option β) : Ex → Frame → Store → Option β := fun ex a σ => match ex with
  | .normal => N a σ
  | ex => E ex a σ
theorem splitC_eta {β : Type} (K : Ex → Frame → Store → Option β) : splitC (K .normal) K = K := by
  funext ex a σ
  cases ex <;> rfl
section
variable {β : Type} (G : GuardT) (P : Program) (pl : FPol) (call : CallF) (lo : Nat)
noncomputable def seqC (y : Code) (an : Ann) (K : Ex → Frame → Store → Option β) : Ex → Frame → Store → Option β := fun ex a σ => match ex with
  | .normal => codeF G P pl call lo y an a σ K
  | ex => K ex a σ
def blockC (id : Nat) (an : Ann) (K : Ex → Frame → Store → Option β) : Ex → Frame → Store → Option β := fun ex a σ => match ex with
  | .normal => cutK an a fun a2 => K .normal a2 σ
  | .exit i => if i = id then cutK an a fun a2 => K .normal a2 σ else K (.exit i) a σ
  | .ret => K .ret a σ
noncomputable def loopC (x : Code) (an : Ann) (K : Ex → Frame → Store → Option β) : Ex → Frame → Store → Option β := fun ex a σ => match ex with
  | .normal => codeF G P pl call lo (.loop x) an a σ K
  | ex => K ex a σ
end
end Go.D
end
/- Policies of the functions: what is kept of temporaries, which calls are plain, which slices are rows. -/
section
namespace Go.D
noncomputable abbrev PP : Program := Go.Proofs.Try.prog
def pol3 : FPol := { ann := .nil }
def pol4 : FPol := { ann := .nil }
def pol5 : FPol := { ann := (.seq .nil (.seq .nil (.seq .nil (.seq .nil (.seq .nil (.seq (.seq .nil (.keep [tt, tt, ff, ff, ff, tt] (.keep [tt, tt, ff, ff, ff, tt, tt] (.seq .nil (.seq (.keep [tt, tt, ff, ff, ff, tt, tt] .nil) .nil))))) .nil)))))) }
def pol6 : FPol := { ann := .nil }
def pol7 : FPol := { ann := .nil }
def pol8 : FPol := { ann := .nil }
def pol9 : FPol := { ann := .nil }
def pol10 : FPol := { ann := .nil }
def pol11 : FPol := { ann := .nil }
def pol12 : FPol := { ann := (.seq .nil (.seq .nil (.seq (.seq .nil (.keep [] (.keep [tt, ff, ff, tt] (.seq .nil (.seq (.keep [tt, ff, ff, tt] (.seq .nil (.seq .nil (.keep [tt, ff, ff, tt] (.keep [tt, ff, ff, tt, tt] (.seq .nil (.seq (.keep [tt, ff, ff, tt, tt] .nil) .nil))))))) .nil))))) .nil))) }
def pol13 : FPol := { ann := .nil }
def pol14 : FPol := { ann := .nil }
def pol15 : FPol := { ann := (.seq .nil (.seq .nil (.seq (.seq .nil (.keep [ff, ff, ff, tt] (.keep [tt, ff, ff, tt, tt] (.seq .nil (.seq (.keep [tt, ff, ff, tt, tt] .nil) .nil))))) .nil))) }
def pol16 : FPol := { ann := (.seq .nil (.seq .nil (.seq .nil (.seq .nil (.seq (.seq .nil (.keep [ff, tt] (.keep [ff, tt, ff, tt] (.seq .nil (.seq (.keep [ff, tt, ff, tt] .nil) .nil))))) (.seq (.seq .nil (.keep [ff, tt] (.keep [ff, tt, ff, ff, tt] (.seq .nil (.seq (.keep [ff, tt, ff, ff, tt] .nil) .nil))))) (.seq (.seq .nil (.keep [] (.keep [ff, tt, ff, ff, ff, tt] (.seq .nil (.seq (.keep [ff, tt, ff, ff, ff, tt] .nil) .nil))))) .nil))))))) }
def pol17 : FPol := { ann := (.seq .nil (.seq .nil (.seq .nil (.seq (.seq .nil (.keep [] (.keep [tt, ff, ff, tt] (.seq .nil (.seq (.keep [tt, ff, ff, tt] (.seq .nil (.seq (.seq .nil (.keep [tt, ff, ff, tt] (.keep [tt, ff, ff, tt, tt] (.seq .nil (.seq (.keep [tt, ff, ff, tt, tt] .nil) .nil))))) (.seq .nil (.keep [tt, ff, ff, tt] (.keep [tt, ff, ff, tt, ff, tt] (.seq .nil (.seq (.keep [tt, ff, ff, tt, ff, tt] (.seq .nil (.keep [tt, ff, ff, tt, ff, tt] (.keep [tt, ff, ff, tt, ff, tt, tt] (.seq .nil (.seq (.keep [tt, ff, ff, tt, ff, tt, tt] .nil) .nil)))))) .nil)))))))) .nil))))) .nil)))) }
def pol18 : FPol := { ann := .nil }
def pol19 : FPol := { ann := (.seq .nil (.seq .nil (.seq (.seq .nil (.keep [ff, tt, tt, tt, ff, ff, tt, ff, tt] (.keep [ff, tt, tt, tt, ff, ff, tt, ff, tt, tt] (.seq .nil (.seq (.keep [ff, tt, tt, tt, ff, ff, tt, ff, tt, tt] .nil) .nil))))) (.seq .nil (.seq (.keep [ff, ff, ff, ff, ff, ff, tt] (.keep [ff, tt, tt, tt, ff, ff, tt, ff, tt, ff, tt] (.seq .nil (.keep [ff, tt, tt, tt, ff, ff, tt, ff, tt, ff, tt] (.seq .nil (.seq (.seq .nil (.keep [ff, tt, tt, tt, ff, ff, tt, ff, tt, ff, tt, tt] (.keep [ff, tt, tt, tt, ff, ff, tt, ff, tt, ff, tt, tt, tt] (.seq .nil (.seq (.keep [ff, tt, tt, tt, ff, ff, tt, ff, tt, ff, tt, tt, tt] (.seq .nil (.keep [ff, tt, tt, tt, ff, ff, tt, ff, tt, ff, tt, tt, tt] (.keep [ff, tt, tt, tt, ff, ff, tt, ff, tt, ff, tt, tt, tt, tt] (.seq .nil (.seq (.keep [ff, tt, tt, tt, ff, ff, tt, ff, tt, ff, tt, tt, tt, tt] .nil) .nil)))))) .nil))))) (.seq (.seq .nil (.keep [ff, tt, tt, tt, ff, ff, tt, ff, tt, ff, ff, tt] (.keep [ff, tt, tt, tt, ff, ff, tt, ff, tt, ff, ff, tt, ff, ff, ff, tt] (.seq .nil (.seq (.keep [ff, tt, tt, tt, ff, ff, tt, ff, tt, ff, ff, tt, ff, ff, ff, tt] (.seq .nil (.keep [ff, tt, tt, tt, ff, ff, tt, ff, tt, ff, ff, tt, ff, ff, ff, tt] (.keep [ff, tt, tt, tt, ff, ff, tt, ff, tt, ff, ff, tt, ff, ff, ff, tt, tt] (.seq .nil (.seq (.keep [ff, tt, tt, tt, ff, ff, tt, ff, tt, ff, ff, tt, ff, ff, ff, tt, tt] .nil) .nil)))))) .nil))))) .nil))))))) .nil))))) }
def pol20 : FPol := { ann := (.seq .nil (.seq .nil (.seq .nil (.seq .nil (.seq (.seq .nil (.keep [ff, ff, tt, tt, tt, ff, ff, ff, tt, tt] (.keep [ff, ff, tt, tt, tt, ff, ff, ff, tt, tt, tt] (.seq .nil (.seq (.keep [ff, ff, tt, tt, tt, ff, ff, ff, tt, tt, tt] (.seq .nil (.keep [ff, ff, tt, tt, tt, ff, ff, ff, tt, tt, tt] (.keep [ff, ff, tt, tt, tt, ff, ff, ff, tt, tt, tt, ff, ff, ff, ff, ff, ff, ff, ff, ff, ff, ff, ff, ff, ff, ff, ff, ff, ff, ff, ff, ff, ff, ff, ff, ff, ff, ff, ff, ff, ff, ff, ff, ff, ff, ff, ff, ff, ff, tt, tt, tt] (.seq .nil (.seq .nil (.seq (.keep [ff, ff, tt, tt, tt, ff, ff, ff, tt, tt, tt, ff, ff, ff, ff, ff, ff, ff, ff, ff, ff, ff, ff, ff, ff, ff, ff, ff, ff, ff, ff, ff, ff, ff, ff, ff, ff, ff, ff, ff, ff, ff, ff, ff, ff, ff, ff, ff, ff, tt, tt, tt] .nil) .nil))))))) .nil))))) (.seq .nil (.seq .nil (.seq .nil (.seq (.seq .nil (.keep [ff, ff, tt, tt, tt, ff, ff, ff, ff, tt, ff, ff, ff, tt, tt] (.keep [ff, ff, tt, tt, tt, ff, ff, ff, ff, tt, ff, ff, ff, tt, tt, ff, ff, ff, ff, ff, ff, ff, ff, ff, ff, ff, ff, ff, ff, ff, ff, ff, ff, ff, ff, ff, ff, ff, ff, ff, ff, ff, ff, ff, ff, ff, ff, ff, ff, ff, ff, ff, ff, ff, ff, ff, ff, ff, ff, ff, ff, ff, ff, ff, ff, ff, ff, ff, ff, ff, tt, tt, tt] (.seq .nil (.seq .nil (.seq (.keep [ff, ff, tt, tt, tt, ff, ff, ff, ff, tt, ff, ff, ff, tt, tt, ff, ff, ff, ff, ff, ff, ff, ff, ff, ff, ff, ff, ff, ff, ff, ff, ff, ff, ff, ff, ff, ff, ff, ff, ff, ff, ff, ff, ff, ff, ff, ff, ff, ff, ff, ff, ff, ff, ff, ff, ff, ff, ff, ff, ff, ff, ff, ff, ff, ff, ff, ff, ff, ff, ff, tt, tt, tt] .nil) .nil)))))) (.seq .nil (.seq (.seq .nil (.keep [ff, ff, ff, ff, tt, ff, ff, ff, ff, ff, ff, ff, ff, ff, tt, ff, ff, tt] (.keep [ff, ff, tt, tt, tt, ff, ff, ff, ff, ff, ff, ff, ff, tt, tt, ff, ff, tt, ff, ff, ff, ff, ff, ff, ff, ff, ff, ff, ff, ff, ff, ff, ff, ff, ff, ff, ff, ff, ff, ff, ff, ff, ff, ff, ff, ff, ff, ff, ff, ff, ff, ff, ff, ff, ff, ff, ff, ff, ff, ff, ff, ff, ff, ff, ff, ff, ff, ff, ff, ff, ff, ff, ff, ff, ff, ff, ff, ff, ff, ff, ff, ff, ff, ff, ff, tt, tt, tt] (.seq .nil (.seq .nil (.seq (.keep [ff, ff, tt, tt, tt, ff, ff, ff, ff, ff, ff, ff, ff, tt, tt, ff, ff, tt, ff, ff, ff, ff, ff, ff, ff, ff, ff, ff, ff, ff, ff, ff, ff, ff, ff, ff, ff, ff, ff, ff, ff, ff, ff, ff, ff, ff, ff, ff, ff, ff, ff, ff, ff, ff, ff, ff, ff, ff, ff, ff, ff, ff, ff, ff, ff, ff, ff, ff, ff, ff, ff, ff, ff, ff, ff, ff, ff, ff, ff, ff, ff, ff, ff, ff, ff, tt, tt, tt] (.seq .nil (.seq .nil (.seq .nil (.keep [ff, ff, tt, tt, tt, ff, ff, ff, ff, ff, ff, ff, ff, tt, tt, ff, ff, tt, ff, ff, ff, ff, ff, ff, ff, ff, ff, ff, ff, ff, ff, ff, ff, ff, ff, ff, ff, ff, ff, ff, ff, ff, ff, ff, ff, ff, ff, ff, ff, ff, ff, ff, ff, ff, ff, ff, ff, ff, ff, ff, ff, ff, ff, ff, ff, ff, ff, ff, ff, ff, ff, ff, ff, ff, ff, ff, ff, ff, ff, ff, ff, ff, ff, ff, ff, tt, tt, tt] (.keep [ff, ff, tt, tt, tt, ff, ff, ff, ff, ff, ff, ff, ff, tt, tt, ff, ff, tt, tt, ff, ff, ff, ff, ff, ff, ff, ff, ff, ff, ff, ff, ff, ff, ff, ff, ff, ff, ff, ff, ff, ff, ff, ff, ff, ff, ff, ff, ff, ff, ff, ff, ff, ff, ff, ff, ff, ff, ff, ff, ff, ff, ff, ff, ff, ff, ff, ff, ff, ff, ff, ff, ff, ff, ff, ff, ff, ff, ff, ff, ff, ff, ff, ff, ff, ff, tt, tt, tt, ff, ff, ff, ff, ff, ff, ff, ff, ff, ff, ff, ff, ff, ff, ff, tt, tt, tt] (.seq .nil (.seq .nil (.seq (.keep [ff, ff, tt, tt, tt, ff, ff, ff, ff, ff, ff, ff, ff, tt, tt, ff, ff, tt, tt, ff, ff, ff, ff, ff, ff, ff, ff, ff, ff, ff, ff, ff, ff, ff, ff, ff, ff, ff, ff, ff, ff, ff, ff, ff, ff, ff, ff, ff, ff, ff, ff, ff, ff, ff, ff, ff, ff, ff, ff, ff, ff, ff, ff, ff, ff, ff, ff, ff, ff, ff, ff, ff, ff, ff, ff, ff, ff, ff, ff, ff, ff, ff, ff, ff, ff, tt, tt, tt, ff, ff, ff, ff, ff, ff, ff, ff, ff, ff, ff, ff, ff, ff, ff, tt, tt, tt] .nil) .nil))))))))) .nil)))))) .nil))))))))))), plain := [36, 65] }
def pol21 : FPol := { ann := (.seq .nil (.seq .nil (.seq (.seq .nil (.keep [] (.keep [ff, ff, tt, tt, ff, tt] (.seq .nil (.seq (.keep [ff, ff, tt, tt, ff, tt] .nil) .nil))))) .nil))) }
def pol22 : FPol := { ann := (.seq .nil (.seq .nil (.seq (.seq .nil (.keep [ff, ff, tt, tt, tt, ff, tt] (.keep [ff, ff, tt, tt, tt, ff, tt, tt] (.seq .nil (.seq (.keep [ff, ff, tt, tt, tt, ff, tt, tt] (.seq .nil (.seq .nil (.keep [ff, ff, tt, tt, tt, ff, tt, tt] (.keep [ff, ff, tt, tt, tt, ff, tt, tt, tt, tt] (.seq .nil (.seq (.keep [ff, ff, tt, tt, tt, ff, tt, tt, tt, tt] .nil) .nil))))))) .nil))))) (.seq .nil (.seq (.seq .nil (.keep [ff, ff, tt, tt, tt, ff, ff, ff, ff, ff, tt] (.keep [ff, ff, tt, tt, tt, ff, tt, ff, ff, ff, tt, tt] (.seq .nil (.seq (.keep [ff, ff, tt, tt, tt, ff, tt, ff, ff, ff, tt, tt] (.seq .nil (.keep [ff, ff, tt, tt, tt, ff, tt, ff, ff, ff, tt, tt] (.keep [ff, ff, tt, tt, tt, ff, tt, ff, ff, ff, tt, tt, tt] (.seq .nil (.seq (.keep [ff, ff, tt, tt, tt, ff, tt, ff, ff, ff, tt, tt, tt] .nil) .nil)))))) .nil))))) (.seq .nil (.seq (.seq .nil (.keep [ff, ff, ff, ff, tt, ff, ff, ff, ff, ff, tt, ff, ff, tt] (.keep [ff, ff, tt, tt, tt, ff, ff, ff, ff, ff, tt, ff, ff, tt, tt] (.seq .nil (.seq (.keep [ff, ff, tt, tt, tt, ff, ff, ff, ff, ff, tt, ff, ff, tt, tt] (.seq .nil (.seq .nil (.seq .nil (.keep [ff, ff, tt, tt, tt, ff, ff, ff, ff, ff, tt, ff, ff, tt, tt] (.keep [ff, ff, tt, tt, tt, ff, ff, ff, ff, ff, tt, ff, ff, tt, tt, tt, tt] (.seq .nil (.seq (.keep [ff, ff, tt, tt, tt, ff, ff, ff, ff, ff, tt, ff, ff, tt, tt, tt, tt] .nil) .nil)))))))) .nil))))) .nil))))))), plain := [19] }
def pol23 : FPol := { ann := (.seq .nil (.seq .nil (.seq (.seq .nil (.keep [] (.keep [tt, tt, ff, ff, ff, tt] (.seq .nil (.seq (.keep [tt, tt, ff, ff, ff, tt] .nil) .nil))))) .nil))) }
def pol24 : FPol := { ann := (.seq .nil (.seq .nil (.seq (.seq .nil (.keep [tt, tt] (.keep [tt, tt, ff, ff, ff, ff, ff, ff, ff, ff, ff, ff, ff, ff, ff, tt, tt, tt] (.seq .nil (.seq .nil (.seq (.keep [tt, tt, ff, ff, ff, ff, ff, ff, ff, ff, ff, ff, ff, ff, ff, tt, tt, tt] .nil) .nil)))))) .nil))) }
def pol25 : FPol := { ann := (.seq .nil (.seq .nil (.seq (.seq .nil (.keep [ff, ff, ff, tt] (.keep [tt, ff, ff, tt, tt] (.seq .nil (.seq (.keep [tt, ff, ff, tt, tt] .nil) .nil))))) .nil))) }
def pol26 : FPol := { ann := (.seq .nil (.seq .nil (.seq (.seq .nil (.keep [tt, tt, ff, ff, ff, ff, tt] (.keep [tt, tt, ff, ff, ff, ff, tt, tt] (.seq .nil (.seq (.keep [tt, tt, ff, ff, ff, ff, tt, tt] .nil) .nil))))) (.seq .nil (.seq (.seq .nil (.keep [] (.keep [tt, tt, ff, ff, ff, ff, ff, ff, tt, tt] (.seq .nil (.seq (.keep [tt, tt, ff, ff, ff, ff, ff, ff, tt, tt] (.seq .nil (.keep [tt, tt, ff, ff, ff, ff, ff, ff, tt, tt] (.keep [tt, tt, ff, ff, ff, ff, ff, ff, tt, tt, tt] (.seq .nil (.seq (.keep [tt, tt, ff, ff, ff, ff, ff, ff, tt, tt, tt] (.seq .nil (.keep [tt, tt, ff, ff, ff, ff, ff, ff, tt, tt, tt] (.keep [tt, tt, ff, ff, ff, ff, ff, ff, tt, tt, tt, tt] (.seq .nil (.seq (.keep [tt, tt, ff, ff, ff, ff, ff, ff, tt, tt, tt, tt] (.seq .nil (.seq (.seq .nil (.keep [tt, tt, ff, ff, ff, ff, ff, ff, tt, tt, tt, tt, tt, tt] (.keep [tt, tt, ff, ff, ff, ff, ff, ff, tt, tt, tt, tt, tt, tt, tt] (.seq .nil (.seq (.keep [tt, tt, ff, ff, ff, ff, ff, ff, tt, tt, tt, tt, tt, tt, tt] .nil) .nil))))) .nil))) .nil)))))) .nil)))))) .nil))))) .nil))))), plain := [104] }
def pol27 : FPol := { ann := (.seq .nil (.seq .nil (.seq (.seq .nil (.keep [] (.keep [tt, tt, ff, ff, ff, tt] (.seq .nil (.seq (.keep [tt, tt, ff, ff, ff, tt] .nil) .nil))))) .nil))) }
def pol28 : FPol := { ann := .nil }
def pol29 : FPol := { ann := (.seq .nil (.seq .nil (.seq .nil (.seq .nil (.seq (.seq .nil (.keep [ff, tt, ff, tt, tt, tt] (.keep [ff, tt, ff, tt, tt, tt, ff, ff, ff, ff, ff, ff, ff, ff, ff, ff, ff, ff, tt, tt, tt] (.seq .nil (.seq .nil (.seq (.keep [ff, tt, ff, tt, tt, tt, ff, ff, ff, ff, ff, ff, ff, ff, ff, ff, ff, ff, tt, tt, tt] .nil) .nil)))))) (.seq .nil (.seq (.seq .nil (.keep [] (.keep [ff, tt, ff, tt, ff, ff, ff, ff, ff, ff, ff, ff, ff, ff, ff, ff, ff, ff, ff, ff, ff, ff, ff, ff, ff, ff, ff, ff, ff, ff, ff, ff, ff, ff, ff, ff, ff, ff, ff, ff, ff, ff, ff, ff, ff, ff, ff, ff, ff, ff, ff, ff, ff, ff, ff, ff, ff, ff, ff, ff, ff, ff, ff, ff, ff, ff, ff, ff, ff, ff, ff, ff, tt, tt, tt] (.seq .nil (.seq .nil (.seq (.keep [ff, tt, ff, tt, ff, ff, ff, ff, ff, ff, ff, ff, ff, ff, ff, ff, ff, ff, ff, ff, ff, ff, ff, ff, ff, ff, ff, ff, ff, ff, ff, ff, ff, ff, ff, ff, ff, ff, ff, ff, ff, ff, ff, ff, ff, ff, ff, ff, ff, ff, ff, ff, ff, ff, ff, ff, ff, ff, ff, ff, ff, ff, ff, ff, ff, ff, ff, ff, ff, ff, ff, ff, tt, tt, tt] .nil) .nil)))))) .nil))))))) }
def pol30 : FPol := { ann := (.seq .nil (.seq .nil (.seq .nil (.seq .nil (.seq (.seq .nil (.keep [ff, ff, ff, tt] (.keep [ff, ff, tt, tt, ff, ff, ff, ff, ff, ff, ff, ff, ff, ff, ff, ff, ff, ff, ff, ff, ff, ff, ff, ff, ff, ff, ff, ff, ff, ff, ff, ff, ff, ff, ff, ff, ff, ff, ff, ff, ff, ff, ff, ff, ff, ff, tt, tt, tt] (.seq .nil (.seq .nil (.seq (.keep [ff, ff, tt, tt, ff, ff, ff, ff, ff, ff, ff, ff, ff, ff, ff, ff, ff, ff, ff, ff, ff, ff, ff, ff, ff, ff, ff, ff, ff, ff, ff, ff, ff, ff, ff, ff, ff, ff, ff, ff, ff, ff, ff, ff, ff, ff, tt, tt, tt] .nil) .nil)))))) .nil))))) }
def pol31 : FPol := { ann := .nil, plain := [5, 8] }
def pol32 : FPol := { ann := (.seq .nil (.seq .nil (.seq .nil (.seq (.seq .nil (.keep [ff, ff, tt, tt] (.keep [ff, ff, tt, tt, ff, ff, ff, tt] (.seq .nil (.seq (.keep [ff, ff, tt, tt, ff, ff, ff, tt] .nil) .nil))))) (.seq .nil (.seq (.seq .nil (.keep [ff, ff, ff, tt] (.keep [ff, ff, tt, tt, ff, ff, ff, ff, tt] (.seq .nil (.seq (.keep [ff, ff, tt, tt, ff, ff, ff, ff, tt] .nil) .nil))))) .nil)))))) }
def pol33 : FPol := { ann := (.seq .nil (.seq .nil (.seq (.seq .nil (.keep [] (.keep [ff, tt, ff, ff, ff, ff, ff, ff, ff, ff, ff, ff, ff, ff, ff, ff, ff, ff, ff, ff, ff, ff, ff, tt, tt, tt] (.seq .nil (.seq .nil (.seq (.keep [ff, tt, ff, ff, ff, ff, ff, ff, ff, ff, ff, ff, ff, ff, ff, ff, ff, ff, ff, ff, ff, ff, ff, tt, tt, tt] .nil) .nil)))))) .nil))) }
def pol34 : FPol := { ann := (.seq .nil (.seq .nil (.seq .nil (.seq (.seq .nil (.keep [] (.keep [tt, ff, ff, ff, ff, ff, ff, tt, ff, ff, ff, ff, ff, ff, ff, ff, ff, ff, ff, tt, tt, tt] (.seq .nil (.seq .nil (.seq (.keep [tt, ff, ff, ff, ff, ff, ff, tt, ff, ff, ff, ff, ff, ff, ff, ff, ff, ff, ff, tt, tt, tt] .nil) .nil)))))) .nil)))) }
def pol35 : FPol := { ann := .nil }
def pol36 : FPol := { ann := .nil }
def pol37 : FPol := { ann := (.seq .nil (.seq .nil (.seq (.seq .nil (.keep [] (.keep [tt, tt, ff, ff, ff, tt] (.seq .nil (.seq (.keep [tt, tt, ff, ff, ff, tt] .nil) .nil))))) .nil))) }
def pol38 : FPol := { ann := (.seq .nil (.seq .nil (.seq (.seq .nil (.keep [ff, ff, ff, tt] (.keep [tt, ff, ff, tt, tt] (.seq .nil (.seq (.keep [tt, ff, ff, tt, tt] (.seq .nil (.seq (.seq .nil (.keep [tt, ff, ff, tt, tt, tt] (.keep [tt, ff, ff, tt, tt, tt, tt] (.seq .nil (.seq (.keep [tt, ff, ff, tt, tt, tt, tt] (.seq .nil (.seq (.seq .nil (.keep [tt, ff, ff, tt, tt, tt, tt, tt] (.keep [tt, ff, ff, tt, tt, tt, tt, tt, tt] (.seq .nil (.seq (.keep [tt, ff, ff, tt, tt, tt, tt, tt, tt] .nil) .nil))))) .nil))) .nil))))) .nil))) .nil))))) .nil))) }
def pol39 : FPol := { ann := (.seq .nil (.seq .nil (.seq (.seq .nil (.keep [] (.keep [tt, ff, ff, tt] (.seq .nil (.seq (.keep [tt, ff, ff, tt] .nil) .nil))))) .nil))) }
def pol40 : FPol := { ann := (.seq .nil (.seq .nil (.seq (.seq .nil (.keep [ff, ff, ff, tt] (.keep [tt, ff, ff, tt, tt] (.seq .nil (.seq (.keep [tt, ff, ff, tt, tt] .nil) .nil))))) .nil))) }
def pol41 : FPol := { ann := (.seq .nil (.seq .nil (.seq (.seq .nil (.keep [] (.keep [tt, tt, ff, ff, ff, tt, tt] (.seq .nil (.seq (.keep [tt, tt, ff, ff, ff, tt, tt] .nil) .nil))))) .nil))) }
def pol42 : FPol := { ann := .nil }
def pol43 : FPol := { ann := .nil }
def pol44 : FPol := { ann := (.seq .nil (.seq .nil (.seq (.seq .nil (.keep [] (.keep [ff, ff, ff, tt, tt] (.seq .nil (.seq (.keep [ff, ff, ff, tt, tt] .nil) .nil))))) .nil))) }
def pol45 : FPol := { ann := (.seq .nil (.seq .nil (.seq .nil (.seq .nil (.seq .nil (.seq (.seq .nil (.keep [ff, ff, tt] (.keep [ff, ff, tt, ff, ff, ff, ff, ff, ff, tt, ff, ff, ff, ff, ff, ff, ff, ff, ff, ff, ff, ff, ff, ff, ff, ff, ff, ff, ff, ff, ff, ff, ff, ff, ff, ff, ff, ff, ff, ff, ff, ff, ff, ff, ff, ff, ff, ff, ff, ff, ff, ff, ff, ff, ff, ff, ff, tt, tt, tt] (.seq .nil (.seq .nil (.seq (.keep [ff, ff, tt, ff, ff, ff, ff, ff, ff, tt, ff, ff, ff, ff, ff, ff, ff, ff, ff, ff, ff, ff, ff, ff, ff, ff, ff, ff, ff, ff, ff, ff, ff, ff, ff, ff, ff, ff, ff, ff, ff, ff, ff, ff, ff, ff, ff, ff, ff, ff, ff, ff, ff, ff, ff, ff, ff, tt, tt, tt] .nil) .nil)))))) .nil)))))) }
def pol46 : FPol := { ann := .nil }
def pol47 : FPol := { ann := (.seq .nil (.seq .nil (.seq .nil (.seq (.seq .nil (.keep [ff, tt, ff, ff, ff, tt] (.keep [ff, tt, ff, ff, ff, tt, ff, ff, ff, ff, ff, ff, ff, ff, ff, ff, ff, ff, tt, tt, tt] (.seq .nil (.seq .nil (.seq (.keep [ff, tt, ff, ff, ff, tt, ff, ff, ff, ff, ff, ff, ff, ff, ff, ff, ff, ff, tt, tt, tt] .nil) .nil)))))) .nil)))) }
def pol48 : FPol := { ann := .nil }
def pol49 : FPol := { ann := .nil }
def pol50 : FPol := { ann := .nil }
def pol51 : FPol := { ann := .nil }
def pol52 : FPol := { ann := (.seq .nil (.seq (.seq .nil (.keep [] (.keep [ff, ff, ff, ff, ff, tt, tt, tt] (.seq .nil (.seq .nil (.seq (.keep [ff, ff, ff, ff, ff, tt, tt, tt] .nil) .nil)))))) .nil)) }
def pol53 : FPol := { ann := (.seq .nil (.seq .nil (.seq (.seq .nil (.keep [ff, ff, ff, tt, tt, tt, tt, ff, tt] (.keep [ff, ff, ff, tt, tt, tt, tt, ff, tt, ff, ff, ff, ff, ff, ff, tt, tt, tt] (.seq .nil (.seq .nil (.seq (.keep [ff, ff, ff, tt, tt, tt, tt, ff, tt, ff, ff, ff, ff, ff, ff, tt, tt, tt] .nil) .nil)))))) (.seq .nil (.seq .nil (.seq .nil (.seq (.seq .nil (.keep [ff, ff, ff, ff, ff, ff, tt, ff, ff, ff, ff, ff, tt] (.keep [ff, ff, ff, tt, ff, ff, tt, ff, ff, ff, ff, tt, tt, tt] (.seq .nil (.seq (.keep [ff, ff, ff, tt, ff, ff, tt, ff, ff, ff, ff, tt, tt, tt] .nil) .nil))))) .nil))))))) }
def pol54 : FPol := { ann := .nil }
def pol55 : FPol := { ann := .nil }
def pol56 : FPol := { ann := (.seq .nil (.seq .nil (.seq (.seq .nil (.keep [ff, ff, ff, tt] (.keep [tt, ff, ff, tt, tt] (.seq .nil (.seq (.keep [tt, ff, ff, tt, tt] .nil) .nil))))) .nil))) }
def pol57 : FPol := { ann := .nil }
def pol58 : FPol := { ann := .nil }
def pol59 : FPol := { ann := (.seq .nil (.seq (.seq .nil (.keep [tt, tt] (.keep [tt, tt, ff, ff, ff, tt] (.seq .nil (.seq (.keep [tt, tt, ff, ff, ff, tt] .nil) .nil))))) .nil)) }
def pol60 : FPol := { ann := .nil }
def pol61 : FPol := { ann := (.seq .nil (.seq .nil (.seq (.seq .nil (.keep [] (.keep [tt, tt, ff, ff, ff, tt] (.seq .nil (.seq (.keep [tt, tt, ff, ff, ff, tt] .nil) .nil))))) .nil))) }
def pol62 : FPol := { ann := .nil }
def pol63 : FPol := { ann := .nil, plain := [9] }
def pol64 : FPol := { ann := (.seq .nil (.seq (.seq .nil (.keep [] (.keep [tt, ff, ff, tt, ff, tt] (.seq .nil (.seq (.keep [tt, ff, ff, tt, ff, tt] .nil) .nil))))) .nil)) }
def pol65 : FPol := { ann := (.seq .nil (.seq .nil (.seq (.seq .nil (.keep [ff, ff, ff, ff, ff, tt] (.keep [ff, ff, ff, tt, ff, tt, ff, ff, ff, ff, ff, tt, tt, tt] (.seq .nil (.seq .nil (.seq (.keep [ff, ff, ff, tt, ff, tt, ff, ff, ff, ff, ff, tt, tt, tt] (.seq .nil (.seq .nil (.keep [ff, ff, ff, tt, ff, tt, ff, ff, ff, ff, ff, tt, tt, tt] (.keep [ff, ff, ff, tt, ff, tt, ff, tt, ff, ff, ff, tt, tt, tt, ff, ff, ff, ff, tt, tt, tt] (.seq .nil (.seq .nil (.seq (.keep [ff, ff, ff, tt, ff, tt, ff, tt, ff, ff, ff, tt, tt, tt, ff, ff, ff, ff, tt, tt, tt] .nil) .nil)))))))) .nil)))))) .nil))) }
def pol66 : FPol := { ann := .nil, mixed := [7] }
def pol67 : FPol := { ann := (.seq .nil (.seq .nil (.seq (.seq .nil (.keep [ff, ff, ff, ff, ff, ff, ff, tt] (.keep [ff, ff, ff, tt, tt, tt, ff, tt, ff, ff, ff, ff, ff, tt, tt, tt] (.seq .nil (.seq .nil (.seq (.keep [ff, ff, ff, tt, tt, tt, ff, tt, ff, ff, ff, ff, ff, tt, tt, tt] (.seq .nil (.seq .nil (.keep [ff, ff, ff, tt, tt, tt, ff, tt, ff, ff, ff, ff, ff, tt, tt, tt] (.keep [ff, ff, ff, tt, tt, tt, ff, tt, ff, tt, ff, ff, ff, tt, tt, tt, ff, ff, ff, ff, tt, tt, tt] (.seq .nil (.seq .nil (.seq (.keep [ff, ff, ff, tt, tt, tt, ff, tt, ff, tt, ff, ff, ff, tt, tt, tt, ff, ff, ff, ff, tt, tt, tt] .nil) .nil)))))))) .nil)))))) .nil))), plain := [71, 73], mixed := [67] }
def pol68 : FPol := { ann := .nil }
def pol69 : FPol := { ann := .nil, plain := [13] }
def pol70 : FPol := { ann := .nil }
def pol71 : FPol := { ann := .nil }
def pol72 : FPol := { ann := (.seq .nil (.seq .nil (.seq .nil (.seq (.keep [tt, ff, tt, ff, tt, ff, ff, ff, tt, tt] (.keep [tt, ff, tt, ff, tt, ff, ff, ff, tt, tt, tt] (.seq .nil (.keep [tt, ff, tt, ff, tt, ff, ff, ff, tt, tt, tt] .nil)))) .nil)))) }
def pol73 : FPol := { ann := (.seq .nil (.seq .nil (.seq (.seq .nil (.keep [ff, ff, ff, ff, ff, tt] (.keep [ff, ff, tt, tt, ff, tt, tt] (.seq .nil (.seq (.keep [ff, ff, tt, tt, ff, tt, tt] (.seq .nil (.keep [ff, ff, tt, tt, ff, tt, tt] (.keep [ff, ff, tt, tt, ff, tt, tt, tt] (.seq .nil (.seq (.keep [ff, ff, tt, tt, ff, tt, tt, tt] .nil) .nil)))))) .nil))))) .nil))) }
def pol74 : FPol := { ann := (.seq .nil (.seq .nil (.seq (.seq .nil (.keep [ff, ff, ff, ff, ff, ff, ff, tt] (.keep [ff, ff, tt, tt, tt, ff, ff, tt, tt] (.seq .nil (.seq (.keep [ff, ff, tt, tt, tt, ff, ff, tt, tt] (.seq .nil (.keep [ff, ff, tt, tt, tt, ff, ff, tt, tt] (.keep [ff, ff, tt, tt, tt, ff, ff, tt, tt, tt] (.seq .nil (.seq (.keep [ff, ff, tt, tt, tt, ff, ff, tt, tt, tt] .nil) .nil)))))) .nil))))) .nil))) }
def pol75 : FPol := { ann := (.seq .nil (.seq (.seq .nil (.keep [] (.keep [tt, tt, ff, ff, ff, tt] (.seq .nil (.seq (.keep [tt, tt, ff, ff, ff, tt] .nil) .nil))))) .nil)) }
def pol76 : FPol := { ann := (.seq .nil (.seq .nil (.seq .nil (.seq (.seq .nil (.keep [ff, ff, ff, ff, ff, ff, tt, tt] (.keep [ff, ff, ff, ff, ff, ff, tt, tt, ff, ff, ff, ff, ff, ff, tt, tt, tt] (.seq .nil (.seq .nil (.seq (.keep [ff, ff, ff, ff, ff, ff, tt, tt, ff, ff, ff, ff, ff, ff, tt, tt, tt] .nil) .nil)))))) .nil)))) }
def pol77 : FPol := { ann := (.seq .nil (.seq (.seq .nil (.keep [] (.keep [tt, tt, ff, ff, ff, tt] (.seq .nil (.seq (.keep [tt, tt, ff, ff, ff, tt] .nil) .nil))))) .nil)) }
def pol78 : FPol := { ann := .nil }
def pol79 : FPol := { ann := .nil }
def pol80 : FPol := { ann := .nil }
def pol81 : FPol := { ann := .nil }
def pol82 : FPol := { ann := .nil }
def pol83 : FPol := { ann := .nil }
def pol84 : FPol := { ann := .nil }
def pol85 : FPol := { ann := .nil }
def pol86 : FPol := { ann := .nil }
def pol87 : FPol := { ann := .nil }
def pol88 : FPol := { ann := (.seq .nil (.seq (.seq .nil (.keep [] (.keep [tt, tt, ff, ff, ff, tt] (.seq .nil (.seq (.keep [tt, tt, ff, ff, ff, tt] .nil) .nil))))) .nil)) }
def pol89 : FPol := { ann := (.seq .nil (.seq (.seq .nil (.keep [] (.keep [ff, ff, tt, tt, ff, tt] (.seq .nil (.seq (.keep [ff, ff, tt, tt, ff, tt] .nil) .nil))))) .nil)) }
def pol90 : FPol := { ann := .nil }
def pol91 : FPol := { ann := .nil }
def pol92 : FPol := { ann := .nil }
def pol93 : FPol := { ann := .nil }
def pol94 : FPol := { ann := .nil }
def pol95 : FPol := { ann := (.seq .nil (.seq .nil (.seq (.seq .nil (.keep [ff, ff, ff, tt] (.keep [ff, ff, ff, tt, ff, ff, ff, ff, ff, ff, tt, tt, tt] (.seq .nil (.seq .nil (.seq (.keep [ff, ff, ff, tt, ff, ff, ff, ff, ff, ff, tt, tt, tt] (.seq .nil (.seq .nil (.seq (.seq .nil (.keep [ff, ff, ff, tt, ff, ff, tt, ff, ff, ff, tt, tt, tt] (.keep [ff, ff, ff, tt, ff, tt, tt, ff, ff, ff, tt, tt, tt, ff, ff, ff, ff, ff, tt, tt] (.seq .nil (.seq .nil (.seq (.keep [ff, ff, ff, tt, ff, tt, tt, ff, ff, ff, tt, tt, tt, ff, ff, ff, ff, ff, tt, tt] (.seq .nil (.seq .nil (.keep [ff, ff, ff, tt, ff, tt, tt, ff, ff, ff, tt, tt, tt, ff, ff, ff, ff, ff, tt, tt] (.keep [ff, ff, ff, tt, ff, tt, tt, tt, ff, ff, tt, tt, tt, ff, ff, ff, ff, ff, tt, tt, ff, ff, tt, tt, tt] (.seq .nil (.seq .nil (.seq (.keep [ff, ff, ff, tt, ff, tt, tt, tt, ff, ff, tt, tt, tt, ff, ff, ff, ff, ff, tt, tt, ff, ff, tt, tt, tt] .nil) .nil)))))))) .nil)))))) .nil)))) .nil)))))) .nil))), mixed := [16, 45, 46] }
def pol96 : FPol := { ann := .nil }
def pol97 : FPol := { ann := (.seq .nil (.seq .nil (.seq (.seq .nil (.keep [ff, tt, ff, ff, ff, tt] (.keep [ff, tt, ff, ff, ff, tt, ff, ff, ff, ff, ff, ff, ff, ff, ff, tt, tt, tt] (.seq .nil (.seq .nil (.seq (.keep [ff, tt, ff, ff, ff, tt, ff, ff, ff, ff, ff, ff, ff, ff, ff, tt, tt, tt] .nil) .nil)))))) (.seq (.keep [] (.keep [ff, tt, ff, ff, ff, tt] (.seq .nil (.keep [ff, tt, ff, ff, ff, tt] (.seq .nil (.seq .nil (.seq .nil (.keep [ff, tt, ff, ff, ff, tt] (.keep [ff, tt, ff, ff, ff, tt, ff, ff, ff, ff, ff, ff, ff, ff, ff, ff, ff, ff, ff, ff, ff, ff, ff, ff, ff, ff, ff, ff, ff, ff, ff, ff, ff, ff, ff, ff, ff, ff, ff, ff, ff, tt, tt, tt] (.seq .nil (.seq .nil (.seq (.keep [ff, tt, ff, ff, ff, tt, ff, ff, ff, ff, ff, ff, ff, ff, ff, ff, ff, ff, ff, ff, ff, ff, ff, ff, ff, ff, ff, ff, ff, ff, ff, ff, ff, ff, ff, ff, ff, ff, ff, ff, ff, tt, tt, tt] .nil) .nil)))))))))))) .nil)))), plain := [26, 50] }
def pol98 : FPol := { ann := (.seq .nil (.seq .nil (.seq .nil (.seq .nil (.seq (.seq .nil (.keep [] (.keep [tt, ff, ff, ff, tt, ff, ff, ff, tt, tt, ff, ff, ff, ff, ff, ff, ff, ff, ff, ff, ff, ff, ff, ff, ff, ff, ff, ff, ff, ff, ff, ff, ff, ff, ff, ff, ff, ff, ff, ff, ff, ff, ff, ff, ff, ff, ff, ff, ff, ff, ff, ff, ff, ff, tt, tt, tt] (.seq .nil (.seq .nil (.seq (.keep [tt, ff, ff, ff, tt, ff, ff, ff, tt, tt, ff, ff, ff, ff, ff, ff, ff, ff, ff, ff, ff, ff, ff, ff, ff, ff, ff, ff, ff, ff, ff, ff, ff, ff, ff, ff, ff, ff, ff, ff, ff, ff, ff, ff, ff, ff, ff, ff, ff, ff, ff, ff, ff, ff, tt, tt, tt] .nil) .nil)))))) .nil))))), plain := [62, 82] }
def pol99 : FPol := { ann := .nil }
def pol100 : FPol := { ann := .nil }
def pol101 : FPol := { ann := .nil }
def pol102 : FPol := { ann := .nil }
def pol103 : FPol := { ann := (.seq .nil (.seq .nil (.seq (.seq .nil (.keep [ff, tt, ff, ff, ff, tt] (.keep [ff, tt, ff, ff, ff, tt, ff, ff, ff, ff, ff, ff, ff, ff, ff, tt, tt, tt] (.seq .nil (.seq .nil (.seq (.keep [ff, tt, ff, ff, ff, tt, ff, ff, ff, ff, ff, ff, ff, ff, ff, tt, tt, tt] .nil) .nil)))))) (.seq (.keep [] (.keep [ff, tt, ff, ff, ff, tt] (.seq .nil (.keep [ff, tt, ff, ff, ff, tt] (.seq .nil (.seq .nil (.seq .nil (.keep [ff, tt, ff, ff, ff, tt] (.keep [ff, tt, ff, ff, ff, tt, ff, ff, ff, ff, ff, ff, ff, ff, ff, ff, ff, ff, ff, ff, ff, ff, ff, ff, ff, ff, ff, ff, ff, ff, ff, ff, ff, ff, ff, ff, ff, ff, ff, ff, ff, tt, tt, tt] (.seq .nil (.seq .nil (.seq (.keep [ff, tt, ff, ff, ff, tt, ff, ff, ff, ff, ff, ff, ff, ff, ff, ff, ff, ff, ff, ff, ff, ff, ff, ff, ff, ff, ff, ff, ff, ff, ff, ff, ff, ff, ff, ff, ff, ff, ff, ff, ff, tt, tt, tt] .nil) .nil)))))))))))) .nil)))), plain := [26, 50] }
def pol104 : FPol := { ann := (.seq .nil (.seq (.seq .nil (.keep [] (.keep [tt, ff, tt, tt, tt, ff, tt, ff, ff, ff, ff, ff, ff, ff, ff, tt, tt, tt] (.seq .nil (.seq .nil (.seq (.keep [tt, ff, tt, tt, tt, ff, tt, ff, ff, ff, ff, ff, ff, ff, ff, tt, tt, tt] .nil) .nil)))))) .nil)), plain := [38, 69] }
def pol105 : FPol := { ann := .nil }
def pol106 : FPol := { ann := .nil }
def pol107 : FPol := { ann := (.seq .nil (.seq .nil (.seq (.seq .nil (.keep [tt] (.keep [tt, ff, ff, tt] (.seq .nil (.seq (.keep [tt, ff, ff, tt] (.seq .nil (.seq (.seq .nil (.seq (.seq .nil (.keep [tt, ff, ff, tt] (.keep [tt, ff, ff, tt, tt, tt] (.seq .nil (.seq (.keep [tt, ff, ff, tt, tt, tt] .nil) .nil))))) .nil)) .nil))) .nil))))) .nil))) }
def pol108 : FPol := { ann := (.seq .nil (.seq (.seq .nil (.keep [] (.keep [tt, ff, ff, tt, ff, ff, ff, tt, tt] (.seq .nil (.seq .nil (.seq (.keep [tt, ff, ff, tt, ff, ff, ff, tt, tt] .nil) .nil)))))) .nil)) }
def pol109 : FPol := { ann := (.seq .nil (.seq .nil (.keep [] (.keep [tt, tt, tt, tt, tt, ff, ff, ff, ff, ff, tt, tt] (.keep [tt, tt, tt, tt, tt, ff, ff, ff, ff, ff, tt, tt] .nil))))), plain := [30, 37, 44, 52, 61, 80, 103, 111, 134, 146] }
def pol110 : FPol := { ann := .nil }
def pol111 : FPol := { ann := (.seq .nil (.seq .nil (.seq (.seq .nil (.keep [ff, ff, ff, tt] (.keep [ff, ff, ff, tt, ff, ff, tt, tt, tt] (.seq .nil (.seq .nil (.seq (.keep [ff, ff, ff, tt, ff, ff, tt, tt, tt] .nil) .nil)))))) .nil))) }
def pol112 : FPol := { ann := .nil }
def pol113 : FPol := { ann := (.seq .nil (.seq .nil (.seq (.seq .nil (.keep [ff, tt, ff, ff, ff, tt] (.keep [ff, tt, ff, ff, ff, tt, ff, ff, ff, ff, ff, ff, ff, ff, ff, tt, tt, tt] (.seq .nil (.seq .nil (.seq (.keep [ff, tt, ff, ff, ff, tt, ff, ff, ff, ff, ff, ff, ff, ff, ff, tt, tt, tt] .nil) .nil)))))) (.seq (.keep [] (.keep [ff, tt, ff, ff, ff, tt] (.seq .nil (.keep [ff, tt, ff, ff, ff, tt] (.seq .nil (.seq .nil (.seq .nil (.keep [ff, tt, ff, ff, ff, tt] (.keep [ff, tt, ff, ff, ff, tt, ff, ff, ff, ff, ff, ff, ff, ff, ff, ff, ff, ff, ff, ff, ff, ff, ff, ff, ff, ff, ff, ff, ff, ff, ff, ff, ff, ff, ff, ff, ff, ff, ff, ff, ff, tt, tt, tt] (.seq .nil (.seq .nil (.seq (.keep [ff, tt, ff, ff, ff, tt, ff, ff, ff, ff, ff, ff, ff, ff, ff, ff, ff, ff, ff, ff, ff, ff, ff, ff, ff, ff, ff, ff, ff, ff, ff, ff, ff, ff, ff, ff, ff, ff, ff, ff, ff, tt, tt, tt] .nil) .nil)))))))))))) .nil)))), plain := [26, 50] }
def pol114 : FPol := { ann := (.seq .nil (.seq (.seq .nil (.keep [] (.keep [tt, ff, tt, tt, ff, tt, ff, ff, ff, ff, ff, ff, ff, ff, tt] (.seq .nil (.seq .nil (.seq (.keep [tt, ff, tt, tt, ff, tt, ff, ff, ff, ff, ff, ff, ff, ff, tt] (.seq .nil (.seq .nil (.seq .nil (.seq (.seq .nil (.keep [tt, ff, tt, tt, ff, tt, ff, tt, tt, tt, tt, ff, ff, ff, tt] (.keep [tt, ff, tt, tt, ff, tt, ff, tt, tt, tt, tt, ff, ff, ff, tt, ff, ff, ff, ff, ff, ff, ff, ff, ff, tt, tt, tt] (.seq .nil (.seq .nil (.seq (.keep [tt, ff, tt, tt, ff, tt, ff, tt, tt, tt, tt, ff, ff, ff, tt, ff, ff, ff, ff, ff, ff, ff, ff, ff, tt, tt, tt] .nil) .nil)))))) .nil))))) .nil)))))) .nil)), plain := [55, 73] }
def pol115 : FPol := { ann := .nil }
def pol116 : FPol := { ann := (.seq .nil (.seq (.seq .nil (.keep [] (.keep [tt, tt, ff, ff, ff, ff, ff, tt, tt] (.seq .nil (.seq .nil (.seq (.keep [tt, tt, ff, ff, ff, ff, ff, tt, tt] .nil) .nil)))))) .nil)) }
def pol117 : FPol := { ann := .nil }
def pol118 : FPol := { ann := .nil }
def pol119 : FPol := { ann := (.seq .nil (.seq (.seq .nil (.keep [] (.keep [tt, tt, ff, ff, ff, ff, ff, tt, tt] (.seq .nil (.seq .nil (.seq (.keep [tt, tt, ff, ff, ff, ff, ff, tt, tt] .nil) .nil)))))) .nil)) }
def pol120 : FPol := { ann := (.seq .nil (.seq (.seq .nil (.keep [] (.keep [tt, ff, ff, tt, ff, ff, ff, tt, tt] (.seq .nil (.seq .nil (.seq (.keep [tt, ff, ff, tt, ff, ff, ff, tt, tt] .nil) .nil)))))) .nil)) }
def pol121 : FPol := { ann := (.seq .nil (.seq (.seq .nil (.keep [] (.keep [tt, tt, ff, ff, ff, ff, ff, tt, tt] (.seq .nil (.seq .nil (.seq (.keep [tt, tt, ff, ff, ff, ff, ff, tt, tt] .nil) .nil)))))) .nil)) }
def pol122 : FPol := { ann := (.seq .nil (.seq (.seq .nil (.keep [ff, ff, tt] (.seq (.keep [] .nil) .nil))) .nil)) }
def pol123 : FPol := { ann := (.seq .nil (.keep [] (.keep [tt, tt, tt, ff, tt] (.seq .nil (.seq (.keep [tt, tt, tt, ff, tt] .nil) .nil))))) }
def pol124 : FPol := { ann := (.seq .nil (.keep [] (.keep [tt, tt, tt, tt, ff, ff, ff, ff, tt] (.seq .nil (.seq (.keep [tt, tt, tt, tt, ff, ff, ff, ff, tt] (.seq .nil (.keep [tt, tt, tt, tt, ff, ff, ff, ff, tt] (.keep [tt, tt, tt, tt, ff, ff, ff, ff, tt, tt] (.seq .nil (.seq (.keep [tt, tt, tt, tt, ff, ff, ff, ff, tt, tt] .nil) .nil)))))) .nil))))) }
def pol125 : FPol := { ann := (.seq .nil (.seq .nil (.seq .nil (.seq (.seq .nil (.keep [tt, ff, ff, tt, ff, ff, ff, ff, tt, tt, tt] (.keep [tt, ff, ff, tt, ff, ff, ff, ff, tt, tt, tt, tt] (.seq .nil (.seq (.keep [tt, ff, ff, tt, ff, ff, ff, ff, tt, tt, tt, tt] .nil) .nil))))) (.seq .nil (.keep [] (.keep [tt, ff, ff, tt, ff, ff, ff, ff, tt, tt, ff, ff, tt] (.seq .nil (.seq (.keep [tt, ff, ff, tt, ff, ff, ff, ff, tt, tt, ff, ff, tt] .nil) .nil))))))))), plain := [29, 59] }
def pol126 : FPol := { ann := (.seq .nil (.seq .nil (.seq (.seq .nil (.seq .nil (.seq .nil (.keep [] (.keep [tt, tt, ff, ff, ff, ff, ff, ff, tt, tt, tt, tt] (.seq .nil (.seq (.keep [tt, tt, ff, ff, ff, ff, ff, ff, tt, tt, tt, tt] .nil) .nil))))))) .nil))), plain := [38] }
def pol127 : FPol := { ann := (.seq .nil (.seq .nil (.seq .nil (.seq .nil (.seq .nil (.seq .nil (.seq .nil (.seq .nil (.keep [ff, ff, ff, ff, ff, ff, ff, ff, tt, tt] .nil))))))))), plain := [40, 44, 48, 54] }
def pol128 : FPol := { ann := (.seq .nil (.seq .nil (.keep [] (.keep [tt, ff, ff, ff, ff, ff, ff, ff, tt, tt] (.seq .nil (.keep [tt, ff, ff, ff, ff, ff, ff, ff, tt, tt] .nil)))))) }
def pol129 : FPol := { ann := (.seq .nil (.seq .nil (.seq (.seq .nil (.keep [] (.keep [tt, tt, tt, tt, ff, ff, ff, ff, ff, tt, tt] (.seq .nil (.seq (.keep [tt, tt, tt, tt, ff, ff, ff, ff, ff, tt, tt] (.seq (.keep [tt, tt, tt, tt, ff, ff, ff, ff, ff, tt, tt] (.keep [tt, tt, tt, tt, ff, ff, ff, ff, ff, tt, tt] (.seq .nil (.keep [tt, tt, tt, tt, ff, ff, ff, ff, ff, tt, tt] .nil)))) (.seq .nil (.seq .nil (.seq .nil (.seq (.seq .nil (.seq (.seq .nil (.keep [tt, tt, tt, tt, ff, ff, ff, ff, ff, tt, tt] (.keep [tt, tt, tt, tt, ff, ff, ff, ff, ff, tt, tt, tt] (.seq .nil (.seq (.keep [tt, tt, tt, tt, ff, ff, ff, ff, ff, tt, tt, tt] .nil) .nil))))) .nil)) (.seq .nil (.seq (.seq .nil (.keep [tt, tt, tt, tt, ff, ff, ff, ff, ff, tt, tt] (.keep [tt, tt, tt, tt, ff, ff, ff, ff, ff, tt, tt, ff, tt] (.seq .nil (.seq (.keep [tt, tt, tt, tt, ff, ff, ff, ff, ff, tt, tt, ff, tt] .nil) .nil))))) .nil)))))))) .nil))))) .nil))) }
def pol130 : FPol := { ann := (.seq .nil (.seq .nil (.seq .nil (.seq (.keep [ff, ff, ff, ff, ff, ff, ff, ff, ff, ff, ff, tt] (.keep [tt, tt, ff, ff, tt, ff, ff, ff, ff, ff, ff, tt, tt] (.keep [tt, tt, ff, ff, tt, ff, ff, ff, ff, ff, ff, tt, tt] (.seq (.keep [tt, tt, ff, ff, tt, ff, ff, ff, ff, ff, ff, tt, tt] (.keep [tt, tt, ff, ff, tt, ff, ff, ff, ff, ff, ff, tt, tt] (.seq .nil (.keep [tt, tt, ff, ff, tt, ff, ff, ff, ff, ff, ff, tt, tt] .nil)))) (.seq (.keep [tt, tt, ff, ff, tt, ff, ff, ff, ff, ff, ff, tt, tt] (.keep [tt, tt, ff, ff, tt, ff, ff, ff, ff, ff, ff, tt, tt] (.seq .nil (.keep [tt, tt, ff, ff, tt, ff, ff, ff, ff, ff, ff, tt, tt] .nil)))) .nil))))) .nil)))) }
def pol131 : FPol := { ann := (.seq .nil (.seq .nil (.seq .nil (.seq (.keep [tt, tt, ff, ff, tt, ff, ff, ff, ff, ff, ff, ff, tt, tt] (.keep [tt, tt, ff, ff, tt, ff, ff, ff, ff, ff, ff, ff, tt, tt] (.seq .nil (.keep [tt, tt, ff, ff, tt, ff, ff, ff, ff, ff, ff, ff, tt, tt] .nil)))) (.seq (.keep [tt, tt, ff, ff, tt, ff, ff, ff, ff, ff, ff, ff, tt, tt] (.keep [tt, tt, ff, ff, tt, ff, ff, ff, ff, ff, ff, ff, tt, tt] (.seq .nil (.keep [tt, tt, ff, ff, tt, ff, ff, ff, ff, ff, ff, ff, tt, tt] .nil)))) (.seq .nil (.seq .nil (.seq .nil (.seq .nil (.seq (.keep [tt, tt, ff, ff, ff, ff, ff, ff, ff, ff, ff, ff, ff, tt] (.keep [tt, tt, ff, ff, tt, ff, ff, ff, ff, ff, ff, ff, tt, tt] (.keep [tt, tt, ff, ff, tt, ff, ff, ff, ff, ff, ff, ff, tt, tt] (.seq (.keep [tt, tt, ff, ff, tt, ff, ff, ff, ff, ff, ff, ff, tt, tt] (.keep [tt, tt, ff, ff, tt, ff, ff, ff, ff, ff, ff, ff, tt, tt] (.seq .nil (.keep [tt, tt, ff, ff, tt, ff, ff, ff, ff, ff, ff, ff, tt, tt] .nil)))) (.seq (.keep [tt, tt, ff, ff, tt, ff, ff, ff, ff, ff, ff, ff, tt, tt] (.keep [tt, tt, ff, ff, tt, ff, ff, ff, ff, ff, ff, ff, tt, tt] (.seq .nil (.keep [tt, tt, ff, ff, tt, ff, ff, ff, ff, ff, ff, ff, tt, tt] .nil)))) .nil))))) .nil)))))))))) }
def pol132 : FPol := { ann := .nil }
def pol133 : FPol := { ann := .nil }
def pol134 : FPol := { ann := .nil }
def pol135 : FPol := { ann := (.seq .nil (.seq (.seq .nil (.keep [] (.keep [tt, tt, ff, ff, ff, ff, ff, tt, tt] (.seq .nil (.seq .nil (.seq (.keep [tt, tt, ff, ff, ff, ff, ff, tt, tt] .nil) .nil)))))) .nil)) }
def pol136 : FPol := { ann := (.seq .nil (.keep [] (.keep [tt, ff, tt, tt, tt, ff, ff, ff, ff, ff, tt] (.keep [tt, ff, tt, tt, tt, ff, ff, ff, ff, ff, tt] .nil)))) }
def pol137 : FPol := { ann := .nil }
def pol138 : FPol := { ann := .nil }
def pol139 : FPol := { ann := .nil, plain := [17] }
def pol140 : FPol := { ann := .nil, plain := [19, 28, 37] }
def pol141 : FPol := { ann := .nil }
def pol : FuncId → FPol
  | 3 => pol3
  | 4 => pol4
  | 5 => pol5
  | 6 => pol6
  | 7 => pol7
  | 8 => pol8
  | 9 => pol9
  | 10 => pol10
  | 11 => pol11
  | 12 => pol12
  | 13 => pol13
  | 14 => pol14
  | 15 => pol15
  | 16 => pol16
  | 17 => pol17
  | 18 => pol18
  | 19 => pol19
  | 20 => pol20
  | 21 => pol21
  | 22 => pol22
  | 23 => pol23
  | 24 => pol24
  | 25 => pol25
  | 26 => pol26
  | 27 => pol27
  | 28 => pol28
  | 29 => pol29
  | 30 => pol30
  | 31 => pol31
  | 32 => pol32
  | 33 => pol33
  | 34 => pol34
  | 35 => pol35
  | 36 => pol36
  | 37 => pol37
  | 38 => pol38
  | 39 => pol39
  | 40 => pol40
  | 41 => pol41
  | 42 => pol42
  | 43 => pol43
  | 44 => pol44
  | 45 => pol45
  | 46 => pol46
  | 47 => pol47
  | 48 => pol48
  | 49 => pol49
  | 50 => pol50
  | 51 => pol51
  | 52 => pol52
  | 53 => pol53
  | 54 => pol54
  | 55 => pol55
  | 56 => pol56
  | 57 => pol57
  | 58 => pol58
  | 59 => pol59
  | 60 => pol60
  | 61 => pol61
  | 62 => pol62
  | 63 => pol63
  | 64 => pol64
  | 65 => pol65
  | 66 => pol66
  | 67 => pol67
  | 68 => pol68
  | 69 => pol69
  | 70 => pol70
  | 71 => pol71
  | 72 => pol72
  | 73 => pol73
  | 74 => pol74
  | 75 => pol75
  | 76 => pol76
  | 77 => pol77
  | 78 => pol78
  | 79 => pol79
  | 80 => pol80
  | 81 => pol81
  | 82 => pol82
  | 83 => pol83
  | 84 => pol84
  | 85 => pol85
  | 86 => pol86
  | 87 => pol87
  | 88 => pol88
  | 89 => pol89
  | 90 => pol90
  | 91 => pol91
  | 92 => pol92
  | 93 => pol93
  | 94 => pol94
  | 95 => pol95
  | 96 => pol96
  | 97 => pol97
  | 98 => pol98
  | 99 => pol99
  | 100 => pol100
  | 101 => pol101
  | 102 => pol102
  | 103 => pol103
  | 104 => pol104
  | 105 => pol105
  | 106 => pol106
  | 107 => pol107
  | 108 => pol108
  | 109 => pol109
  | 110 => pol110
  | 111 => pol111
  | 112 => pol112
  | 113 => pol113
  | 114 => pol114
  | 115 => pol115
  | 116 => pol116
  | 117 => pol117
  | 118 => pol118
  | 119 => pol119
  | 120 => pol120
  | 121 => pol121
  | 122 => pol122
  | 123 => pol123
  | 124 => pol124
  | 125 => pol125
  | 126 => pol126
  | 127 => pol127
  | 128 => pol128
  | 129 => pol129
  | 130 => pol130
  | 131 => pol131
  | 132 => pol132
  | 133 => pol133
  | 134 => pol134
  | 135 => pol135
  | 136 => pol136
  | 137 => pol137
  | 138 => pol138
  | 139 => pol139
  | 140 => pol140
  | 141 => pol141
  | _ => {}
noncomputable abbrev CC : CallF := callL PP pol
end Go.D
end
/- Typed values of chapter 24, and what operations do with them. -/
section
set_option linter.unusedVariables false
set_option linter.unusedSimpArgs false
namespace Go.D

abbrev pI (n : Int) : PV := .int .i64 n
def eInts (l : List Int) : List PV := l.map pI
def eSl : Option (List Int) → PV
  | none => .nilsl
  | some l => .sl false l.length (eInts l)
structure Edg where
  f : Int
  t : Int
  a : Int
  deriving DecidableEq, Inhabited
def eEdgs : List Edg → List PV
  | [] => []
  | e :: l => pI e.f :: pI e.t :: pI e.a :: eEdgs l
def eEs : Option (List Edg) → PV
  | none => .nilsl
  | some l => .sl false l.length (eEdgs l)
abbrev L {α : Type} (o : Option (List α)) : List α := o.getD []
theorem loosens_ints (l : List Int) : loosens (eInts l) = eInts l := by
  induction l with
  | nil => rfl
  | cons a l ih => simp only [eInts, List.map_cons, loosens, loosen] at *; rw [ih]
theorem loosens_edgs (l : List Edg) : loosens (eEdgs l) = eEdgs l := by
  induction l with
  | nil => rfl
  | cons a l ih => simp only [eEdgs, loosens, loosen, ih]
theorem loosen_sl (o : Option (List Int)) : loosen (eSl o) = eSl o := by
  cases o <;> simp [eSl, loosen, loosens_ints]
theorem loosen_es (o : Option (List Edg)) : loosen (eEs o) = eEs o := by
  cases o <;> simp [eEs, loosen, loosens_edgs]
theorem pureFn_fn (call : CallF) (f : FuncId) (caps args : List DV) (σ : Store) : pureFn call (.fn f caps) args σ = pureV call f (args ++ caps) σ := Eq.trans rfl rfl
/-- Steps that a kernel need not compute again: no proof by rfl alone. -/
theorem obind {α β : Type} (x : α) (f : α → Option β) : (some x).bind f = f x := Eq.trans rfl rfl
theorem omap {α β : Type} (x : α) (f : α → β) : (some x).map f = some (f x) := Eq.trans rfl rfl
/-- A call on values that name no row, at the empty store. -/
theorem pureV_free {call : CallF} {f : FuncId} {args : List DV} {σ : Store} {v v' : DV} {σ' : Store} (h1 : args.map view = args) (h2 : args.all rowFree = true) (h : call 0 f args [] = some (v', σ')) (ht : thawAll 0 σ' v' = some v) : pureV call f args σ = some v := by
  unfold pureV
  rw [h1, if_pos h2, h]
  exact ht
theorem pureV_rows {call : CallF} {f : FuncId} {args : List DV} {σ : Store} {v v' : DV} {σ' : Store} (h1 : args.map view = args) (h2 : args.all rowFree = false) (h : call σ.length f args σ = some (v', σ')) (ht : thawAll σ.length σ' v' = some v) : pureV call f args σ = some v := by
  unfold pureV
  rw [h1, if_neg (by rw [h2]; simp), h]
  exact ht
theorem pureV_any {call : CallF} {f : FuncId} {args : List DV} {σ : Store} {v : DV} (h1 : args.map view = args)
    (h : ∀ lo σ0, (σ0 = [] ∧ lo = 0 ∧ args.all rowFree = true) ∨ (σ0 = σ ∧ lo = σ.length ∧ args.all rowFree = false) → ∃ v' σ', call lo f args σ0 = some (v', σ') ∧ thawAll lo σ' v' = some v) : pureV call f args σ = some v := by
  cases hr : args.all rowFree with
  | true =>
    obtain ⟨v', σ', h2, h3⟩ := h 0 [] (.inl ⟨rfl, rfl, hr⟩)
    exact pureV_free h1 hr h2 h3
  | false =>
    obtain ⟨v', σ', h2, h3⟩ := h _ σ (.inr ⟨rfl, rfl, hr⟩)
    exact pureV_rows h1 hr h2 h3
theorem condK_true {β : Type} (x y : Option β) : condK (.p (.bool true)) x y = x := Eq.trans rfl rfl
theorem condK_false {β : Type} (x y : Option β) : condK (.p (.bool false)) x y = y := Eq.trans rfl rfl
theorem condK_if {β : Type} (b : Bool) (x y : Option β) : condK (.p (.bool b)) x y = if b = true then x else y := by cases b <;> rfl
theorem pickV_true (x y : DV) : pickV (.p (.bool true)) x y = some x := Eq.trans rfl rfl
theorem pickV_false (x y : DV) : pickV (.p (.bool false)) x y = some y := Eq.trans rfl rfl
theorem guard_tt (β : Type) (m : Option (DV × Store)) (σ : Store) (K : DV → Store → Option β) : guardT β (.p (.bool true)) true m σ K = m.bind fun r => K r.1 r.2 := Eq.trans rfl rfl
theorem guard_ff (β : Type) (m : Option (DV × Store)) (σ : Store) (K : DV → Store → Option β) : guardT β (.p (.bool false)) false m σ K = m.bind fun r => K r.1 r.2 := Eq.trans rfl rfl
theorem guard_tf (β : Type) (m : Option (DV × Store)) (σ : Store) (K : DV → Store → Option β) : guardT β (.p (.bool true)) false m σ K = K .skip σ := Eq.trans rfl rfl
theorem guard_ft (β : Type) (m : Option (DV × Store)) (σ : Store) (K : DV → Store → Option β) : guardT β (.p (.bool false)) true m σ K = K .skip σ := Eq.trans rfl rfl
theorem guard_sk (β : Type) (w : Bool) (m : Option (DV × Store)) (σ : Store) (K : DV → Store → Option β) : guardT β (.tuple []) w m σ K = K .skip σ := Eq.trans rfl rfl
theorem not_bool (b : Bool) : unOp .not (.p (.bool b)) = some (.p (.bool !b)) := Eq.trans rfl rfl
theorem gG : (∀ (β : Type) (m : Option (DV × Store)) (σ : Store) (K : DV → Store → Option β), guardT β (.p (.bool true)) true m σ K = m.bind fun r => K r.1 r.2) ∧
    (∀ (β : Type) (m : Option (DV × Store)) (σ : Store) (K : DV → Store → Option β), guardT β (.p (.bool false)) false m σ K = m.bind fun r => K r.1 r.2) ∧
    (∀ (β : Type) (m : Option (DV × Store)) (σ : Store) (K : DV → Store → Option β), guardT β (.p (.bool true)) false m σ K = K .skip σ) ∧
    (∀ (β : Type) (m : Option (DV × Store)) (σ : Store) (K : DV → Store → Option β), guardT β (.p (.bool false)) true m σ K = K .skip σ) ∧
    (∀ (β : Type) (w : Bool) (m : Option (DV × Store)) (σ : Store) (K : DV → Store → Option β), guardT β (.tuple []) w m σ K = K .skip σ) ∧
    (∀ (α β : Type) (x : α) (f : α → Option β), (some x).bind f = f x) ∧ (∀ (α β : Type) (x : α) (f : α → β), (some x).map f = some (f x)) ∧
    (∀ x y : DV, pickV (.p (.bool true)) x y = some x) ∧ (∀ x y : DV, pickV (.p (.bool false)) x y = some y) ∧
    (∀ (β : Type) (x y : Option β), condK (.p (.bool true)) x y = x) ∧ (∀ (β : Type) (x y : Option β), condK (.p (.bool false)) x y = y) ∧
    (∀ h : Decidable True, @decide True h = true) ∧ (∀ h : Decidable False, @decide False h = false) ∧ ((!true) = false) ∧ ((!false) = true) ∧
    (∀ b : Bool, unOp .not (.p (.bool b)) = some (.p (.bool !b))) :=
  ⟨guard_tt, guard_ff, guard_tf, guard_ft, guard_sk, fun _ _ => obind, fun _ _ => omap, pickV_true, pickV_false, fun _ => condK_true, fun _ => condK_false, decide_true, decide_false, Bool.not_true, Bool.not_false, not_bool⟩
section
variable (P : Program) (t : TypeId) (a b : Int)
theorem b_geq : binOp P .geq t (.p (.int .i64 a)) (.p (.int .i64 b)) = some (.p (.bool (decide (a ≥ b)))) := Eq.trans rfl rfl
theorem b_leq : binOp P .leq t (.p (.int .i64 a)) (.p (.int .i64 b)) = some (.p (.bool (decide (a ≤ b)))) := Eq.trans rfl rfl
theorem b_gtr : binOp P .gtr t (.p (.int .i64 a)) (.p (.int .i64 b)) = some (.p (.bool (decide (a > b)))) := Eq.trans rfl rfl
theorem b_lss : binOp P .lss t (.p (.int .i64 a)) (.p (.int .i64 b)) = some (.p (.bool (decide (a < b)))) := Eq.trans rfl rfl
theorem b_eql : binOp P .eql t (.p (.int .i64 a)) (.p (.int .i64 b)) = some (.p (.bool (decide (a = b)))) := by
  show some (DV.p (PV.bool (a == b))) = _
  exact Eq.trans rfl rfl
theorem b_neq : binOp P .neq t (.p (.int .i64 a)) (.p (.int .i64 b)) = some (.p (.bool (!decide (a = b)))) := by
  show some (DV.p (PV.bool (a != b))) = _
  exact Eq.trans rfl rfl
theorem b_add : binOp P .add t (.p (.int .i64 a)) (.p (.int .i64 b)) = some (.p (.int .i64 (IntKind.wrap .i64 (a + b)))) := Eq.trans rfl rfl
theorem b_sub : binOp P .sub t (.p (.int .i64 a)) (.p (.int .i64 b)) = some (.p (.int .i64 (IntKind.wrap .i64 (a - b)))) := Eq.trans rfl rfl
theorem b_mul : binOp P .mul t (.p (.int .i64 a)) (.p (.int .i64 b)) = some (.p (.int .i64 (IntKind.wrap .i64 (a * b)))) := Eq.trans rfl rfl
end
theorem wrap_ok {x : Int} (h0 : -9223372036854775808 ≤ x) (h1 : x ≤ 9223372036854775807) : IntKind.wrap .i64 x = x := i64_ok h0 h1
theorem wrap_succ {i : Nat} (h : i ≤ 1000000) : IntKind.wrap .i64 ((i : Int) + 1) = ((i + 1 : Nat) : Int) := by
  rw [wrap_ok] <;> omega
theorem u22 : PP.underlying 22 = some (.slice 3) := Eq.trans (by kernel_rfl) rfl
theorem u23 : PP.underlying 23 = some (.slice 106) := Eq.trans (by kernel_rfl) rfl
theorem u160 : PP.underlying 160 = some (.slice 34) := Eq.trans (by kernel_rfl) rfl
theorem s3 : size? PP 3 = some 1 := Eq.trans (by kernel_rfl) rfl
theorem s34 : size? PP 34 = some 1 := Eq.trans (by kernel_rfl) rfl
theorem s106 : size? PP 106 = some 3 := Eq.trans (by kernel_rfl) rfl
theorem len22 (o : Option (List Int)) (σ : Store) : len PP 22 (.p (eSl o)) σ = some (.p (.int .i64 ((L o).length : Nat))) := by cases o <;> simp [len, u22, eSl]
theorem len23 (o : Option (List Edg)) (σ : Store) : len PP 23 (.p (eEs o)) σ = some (.p (.int .i64 ((L o).length : Nat))) := by cases o <;> simp [len, u23, eEs]
theorem ints_length (l : List Int) : (eInts l).length = l.length := by simp [eInts]
theorem edgs_length (l : List Edg) : (eEdgs l).length = l.length * 3 := by
  induction l with
  | nil => rfl
  | cons a l ih => simp [eEdgs, ih]; omega
theorem idx22 {o : Option (List Int)} {i : Nat} (h : i < (L o).length) : indexAddr PP 22 (.p (eSl o)) (.p (.int .i64 (i : Nat))) = some (.pptr (eInts (L o)) i) := by
  cases o with
  | none => simp at h
  | some l =>
    have h2 : (0 : Int) ≤ (i : Int) ∧ (i : Int) < (l.length : Nat) := by simp at h; omega
    simp [indexAddr, u22, s3, eSl, h2]
theorem idx23 {o : Option (List Edg)} {i : Nat} (h : i < (L o).length) : indexAddr PP 23 (.p (eEs o)) (.p (.int .i64 (i : Nat))) = some (.pptr (eEdgs (L o)) (i * 3)) := by
  cases o with
  | none => simp at h
  | some l =>
    have h2 : (0 : Int) ≤ (i : Int) ∧ (i : Int) < (l.length : Nat) := by simp at h; omega
    simp [indexAddr, u23, s106, eEs, h2]
/-- Loads of one cell. -/
def load1 (x : DV) (σ : Store) : Option DV := match loadN σ 1 x with
  | some [v] => some v
  | _ => none
theorem load3 (x : DV) (σ : Store) : load PP 3 x σ = load1 x σ := Eq.trans (by kernel_rfl) rfl
theorem load22 (x : DV) (σ : Store) : load PP 22 x σ = load1 x σ := Eq.trans (by kernel_rfl) rfl
theorem load23 (x : DV) (σ : Store) : load PP 23 x σ = load1 x σ := Eq.trans (by kernel_rfl) rfl
theorem load34 (x : DV) (σ : Store) : load PP 34 x σ = load1 x σ := Eq.trans (by kernel_rfl) rfl
theorem load106 (x : DV) (σ : Store) : load PP 106 x σ = (loadN σ 3 x).map .agg := Eq.trans (by kernel_rfl) rfl
theorem load1_pptr {cs : List PV} {i : Nat} {x : PV} (h : cs[i]? = some x) (σ : Store) : load1 (.pptr cs i) σ = some (.p x) := by
  obtain ⟨h1, h2⟩ := drop_one h
  simp [load1, loadN, h1, h2]
theorem load1_ints {l : List Int} {i : Nat} (h : i < l.length) (σ : Store) : load1 (.pptr (eInts l) i) σ = some (.p (.int .i64 l[i])) :=
  load1_pptr (by simp [eInts, h]) σ
theorem edgs_get : ∀ (l : List Edg) (i : Nat) (h : i < l.length), (eEdgs l)[i * 3]? = some (pI l[i].f) ∧ (eEdgs l)[i * 3 + 1]? = some (pI l[i].t) ∧ (eEdgs l)[i * 3 + 2]? = some (pI l[i].a)
  | e :: l, 0, h => by simp [eEdgs]
  | e :: l, i + 1, h => by
    have := edgs_get l i (by simpa using h)
    have e3 : (i + 1) * 3 = i * 3 + 1 + 1 + 1 := by omega
    rw [e3]
    simpa [eEdgs] using this
theorem load106_edgs {l : List Edg} {i : Nat} (h : i < l.length) (σ : Store) : (loadN σ 3 (.pptr (eEdgs l) (i * 3))).map DV.agg = some (.agg [.p (pI l[i].f), .p (pI l[i].t), .p (pI l[i].a)]) := by
  have hle : i * 3 + 3 ≤ (eEdgs l).length := by rw [edgs_length]; omega
  obtain ⟨h1, h2, h3⟩ := edgs_get l i h
  have hd : ((eEdgs l).drop (i * 3)).take 3 = [pI l[i].f, pI l[i].t, pI l[i].a] := by
    apply List.ext_getElem?
    intro j
    match j with
    | 0 => simpa using h1
    | 1 => simpa using h2
    | 2 => simpa using h3
    | j + 3 => simp; omega
  simp [loadN, hle, hd]
theorem fa106_0 (x : DV) : fieldAddr PP 106 x 0 = shiftPtr x 0 := Eq.trans (by kernel_rfl) rfl
theorem fa106_1 (x : DV) : fieldAddr PP 106 x 1 = shiftPtr x 1 := Eq.trans (by kernel_rfl) rfl
theorem fa106_2 (x : DV) : fieldAddr PP 106 x 2 = shiftPtr x 2 := Eq.trans (by kernel_rfl) rfl
theorem shift_ptr (r off n : Nat) : shiftPtr (.ptr r off) n = some (.ptr r (off + n)) := Eq.trans rfl rfl
theorem shift_pptr (cs : List PV) (off n : Nat) : shiftPtr (.pptr cs off) n = some (.pptr cs (off + n)) := Eq.trans rfl rfl
theorem nil_ptr (r off : Nat) : nilCheckV (.ptr r off) = some (.ptr r off) := Eq.trans rfl rfl
theorem load1_ptr {σ : Store} {r off : Nat} {cs : List DV} {v : DV} (h : σ[r]? = some (.mix cs)) (hv : cs[off]? = some v) : load1 (.ptr r off) σ = some v := by
  obtain ⟨h1, h2⟩ := List.getElem?_eq_some_iff.1 hv
  have h3 : (cs.drop off).take 1 = [v] := by rw [List.drop_eq_getElem_cons h1, h2]; rfl
  have h4 : off + 1 ≤ cs.length := h1
  simp [load1, loadN, h, h3, h4]
theorem loadN_ptr {σ : Store} {r off n : Nat} {cs vs : List DV} (h : σ[r]? = some (.mix cs)) (hv : (cs.drop off).take n = vs) (hn : off + n ≤ cs.length) : loadN σ n (.ptr r off) = some vs := by
  simp [loadN, h, hn, hv]
theorem zero106 : zeroOf PP 106 = some [.p (pI 0), .p (pI 0), .p (pI 0)] := Eq.trans (by kernel_rfl) rfl
theorem zero3 : zeroOf PP 3 = some [.p (pI 0)] := Eq.trans (by kernel_rfl) rfl
end Go.D
end
/- Closed calls, worked out by the kernel one by one. -/
section
set_option linter.unusedVariables false
set_option maxRecDepth 100000
namespace Go.D

mutual
def eqPV : PV → PV → Bool
  | .bool a, .bool b => a == b
  | .int k n, .int k' m => k == k' && n == m
  | .nilsl, .nilsl => true
  | .sl a n cs, .sl b m ds => a == b && n == m && eqPVs cs ds
  | _, _ => false
def eqPVs : List PV → List PV → Bool
  | [], [] => true
  | a :: as', b :: bs => eqPV a b && eqPVs as' bs
  | _, _ => false
end
mutual
theorem eqPV_eq : ∀ (a b : PV), eqPV a b = true → a = b
  | .bool a, .bool b, h => by simp [eqPV] at h; rw [h]
  | .int k n, .int k' m, h => by
    simp [eqPV] at h
    rw [h.1, h.2]
  | .nilsl, .nilsl, h => rfl
  | .sl a n cs, .sl b m ds, h => by
    simp [eqPV] at h
    rw [h.1.1, h.1.2, eqPVs_eq cs ds h.2]
  | .bool _, .int .., h | .bool _, .str _, h | .bool _, .nilptr, h | .bool _, .nilsl, h | .bool _, .nilmap, h | .bool _, .nilfn, h | .bool _, .niliface, h | .bool _, .sl .., h => by simp [eqPV] at h
  | .int .., .bool _, h | .int .., .str _, h | .int .., .nilptr, h | .int .., .nilsl, h | .int .., .nilmap, h | .int .., .nilfn, h | .int .., .niliface, h | .int .., .sl .., h => by simp [eqPV] at h
  | .nilsl, .bool _, h | .nilsl, .int .., h | .nilsl, .str _, h | .nilsl, .nilptr, h | .nilsl, .nilmap, h | .nilsl, .nilfn, h | .nilsl, .niliface, h | .nilsl, .sl .., h => by simp [eqPV] at h
  | .sl .., .bool _, h | .sl .., .int .., h | .sl .., .str _, h | .sl .., .nilptr, h | .sl .., .nilsl, h | .sl .., .nilmap, h | .sl .., .nilfn, h | .sl .., .niliface, h => by simp [eqPV] at h
  | .str _, b, h | .nilptr, b, h | .nilmap, b, h | .nilfn, b, h | .niliface, b, h => by cases b <;> simp [eqPV] at h
theorem eqPVs_eq : ∀ (a b : List PV), eqPVs a b = true → a = b
  | [], [], h => rfl
  | a :: as', b :: bs, h => by
    simp [eqPVs] at h
    rw [eqPV_eq a b h.1, eqPVs_eq as' bs h.2]
  | [], _ :: _, h | _ :: _, [], h => by simp [eqPVs] at h
end

/-- Values that are compared: numbers, slices, structs of these, tuples of these. -/
def flatD : DV → Option (List (Nat × PV))
  | .p v => some [(0, v)]
  | .agg cs => some (cs.filterMap fun c => match c with | .p v => some (1, v) | _ => none)
  | _ => none

def eqD1 : DV → DV → Bool
  | .p v, .p w => eqPV v w
  | _, _ => false
def eqD1s : List DV → List DV → Bool
  | [], [] => true
  | a :: as', b :: bs => eqD1 a b && eqD1s as' bs
  | _, _ => false
def eqD2 : DV → DV → Bool
  | .agg cs, .agg ds => eqD1s cs ds
  | a, b => eqD1 a b
def eqD2s : List DV → List DV → Bool
  | [], [] => true
  | a :: as', b :: bs => eqD2 a b && eqD2s as' bs
  | _, _ => false
def eqD : DV → DV → Bool
  | .tuple cs, .tuple ds => eqD2s cs ds
  | a, b => eqD2 a b

theorem eqD1_eq {a b : DV} (h : eqD1 a b = true) : a = b := by
  unfold eqD1 at h
  split at h
  · rw [eqPV_eq _ _ h]
  · exact absurd h (by simp)
theorem eqD1s_eq : ∀ {a b : List DV}, eqD1s a b = true → a = b
  | [], [], h => rfl
  | a :: as', b :: bs, h => by
    simp only [eqD1s, Bool.and_eq_true] at h
    rw [eqD1_eq h.1, eqD1s_eq h.2]
  | [], _ :: _, h => absurd h (by simp [eqD1s])
  | _ :: _, [], h => absurd h (by simp [eqD1s])
theorem eqD2_eq {a b : DV} (h : eqD2 a b = true) : a = b := by
  unfold eqD2 at h
  split at h
  · rw [eqD1s_eq h]
  · exact eqD1_eq h
theorem eqD2s_eq : ∀ {a b : List DV}, eqD2s a b = true → a = b
  | [], [], h => rfl
  | a :: as', b :: bs, h => by
    simp only [eqD2s, Bool.and_eq_true] at h
    rw [eqD2_eq h.1, eqD2s_eq h.2]
  | [], _ :: _, h => absurd h (by simp [eqD2s])
  | _ :: _, [], h => absurd h (by simp [eqD2s])
theorem eqD_eq {a b : DV} (h : eqD a b = true) : a = b := by
  unfold eqD at h
  split at h
  · rw [eqD2s_eq h]
  · exact eqD2_eq h

def runIs (P : Program) (pol : FuncId → FPol) (k : Nat) (f : FuncId) (args : List DV) (r : DV) : Bool :=
  match callK P pol k 0 f args [] with
  | some (v, σ) => match thawAll 0 σ v with
    | some v' => eqD v' r
    | none => false
  | none => false

theorem pureV_run {k : Nat} {f : FuncId} {args : List DV} {r : DV} {σ : Store} (h : runIs PP pol k f args r = true) (h1 : args.map view = args) (h2 : args.all rowFree = true) : pureV CC f args σ = some r := by
  unfold runIs at h
  split at h
  · rename_i v σ' hc
    split at h
    · rename_i v' ht
      exact pureV_free h1 h2 (callL_at hc) (ht.trans (by rw [eqD_eq h]))
    · exact absurd h (by simp)
  · exact absurd h (by simp)

end Go.D
end
/- Equations of functions 52, 54, 57, 58, 59, 60, 61, 79, 80, 81, 82, 83, 86, 88, 111, 112, 106, 116, 119, 134, 55, 78, 84, printed by gen.py. -/
section
set_option linter.unusedVariables false
set_option maxRecDepth 10000
namespace Go.D
open _root_.Go.D.Code (fstC sndC)
open _root_.Go.D.Ann (left right)
noncomputable def c52_0 : Code := bodyOf Go.Proofs.Try.f52
noncomputable def a52_0 : Ann := (pol 52).ann
noncomputable def a52_5 : Ann := right (left (right a52_0))
noncomputable def a52_6 : Ann := left a52_5
noncomputable def c52_7 : Code := fstC (fstC (sndC (fstC (sndC c52_0))))
noncomputable def c52_25 : Code := sndC (sndC c52_0)
noncomputable def a52_25 : Ann := right (right a52_0)
noncomputable def f52_L0 (G : GuardT) (lo : Nat) (x5 x6 x7 : DV) (σ : Store) : Option (DV × Store) :=
 codeF G PP (pol 52) CC lo (.loop c52_7) a52_6 [Z, Z, Z, Z, Z, x5, x6, x7, Z, Z, Z, Z, Z, Z, Z] σ
 (blockC 0 a52_5 (seqC G PP (pol 52) CC lo c52_25 a52_25 (finR PP Go.Proofs.Try.f52.results.toList)))
noncomputable def F52 (G : GuardT) (lo : Nat) (x0 : DV) (σ : Store) : Option (DV × Store) :=
 codeF G PP (pol 52) CC lo c52_0 a52_0 [x0, Z, Z, Z, Z, Z, Z, Z, Z, Z, Z, Z, Z, Z, Z] σ (finR PP Go.Proofs.Try.f52.results.toList)
theorem f52_L0_eq (G : GuardT) (hG : GuardOk G) (lo : Nat) (x5 x6 x7 : DV) (σ : Store) : f52_L0 G lo x5 x6 x7 σ =
 (binOp PP .lss 3 x7 x6).bind fun x8 =>
 condK x8
 (
 (indexAddr PP 160 x5 x7).bind fun x9 =>
 (load PP 34 x9 σ).bind fun x10 =>
 (binOp PP .neq 34 x10 (DV.p (PV.int IntKind.i64 (0)))).bind fun x12 =>
 condK x12
 (
 some (x10, σ)
 )
 (
 (binOp PP .add 3 x7 (DV.p (PV.int IntKind.i64 (1)))).bind fun x14 =>
 f52_L0 G lo x5 x6 x14 σ
 )
 )
 (
 some ((DV.p (PV.int IntKind.i64 (0))), σ)
 ) := (loopF_eq G hG).trans (by kernel_rfl)
theorem F52_eq (G : GuardT) (lo : Nat) (x0 : DV) (σ : Store) : F52 G lo x0 σ =
 (len PP 160 x0 σ).bind fun x6 =>
 f52_L0 G lo x0 x6 (DV.p (PV.int IntKind.i64 (0))) σ := by kernel_rfl
theorem F52_call {lo : Nat} {x0 : DV} {σ : Store} {r : DV × Store} (h : F52 guardT lo x0 σ = some r) : CC lo 52 [x0] σ = some r :=
 callL_run Go.Proofs.Try.func52 (by decide +kernel) rfl (by decide +kernel) h
noncomputable def c54_0 : Code := bodyOf Go.Proofs.Try.f54
noncomputable def a54_0 : Ann := (pol 54).ann
noncomputable def F54 (G : GuardT) (lo : Nat) (x0 x1 : DV) (σ : Store) : Option (DV × Store) :=
 codeF G PP (pol 54) CC lo c54_0 a54_0 [x0, x1, Z, Z, Z, Z, Z] σ (finR PP Go.Proofs.Try.f54.results.toList)
theorem F54_eq (G : GuardT) (lo : Nat) (x0 x1 : DV) (σ : Store) : F54 G lo x0 x1 σ =
 condK x0
 (
 some ((DV.p (PV.int IntKind.i64 (0))), σ)
 )
 (
 some (x1, σ)
 ) := by kernel_rfl
theorem F54_call {lo : Nat} {x0 x1 : DV} {σ : Store} {r : DV × Store} (h : F54 guardT lo x0 x1 σ = some r) : CC lo 54 [x0, x1] σ = some r :=
 callL_run Go.Proofs.Try.func54 (by decide +kernel) rfl (by decide +kernel) h
noncomputable def c57_0 : Code := bodyOf Go.Proofs.Try.f57
noncomputable def a57_0 : Ann := (pol 57).ann
noncomputable def F57 (G : GuardT) (lo : Nat) (x0 x1 x2 : DV) (σ : Store) : Option (DV × Store) :=
 codeF G PP (pol 57) CC lo c57_0 a57_0 [x0, x1, x2, Z, Z, Z, Z, Z, Z, Z, Z, Z, Z, Z, Z] σ (finR PP Go.Proofs.Try.f57.results.toList)
theorem F57_eq (G : GuardT) (lo : Nat) (x0 x1 x2 : DV) (σ : Store) : F57 G lo x0 x1 x2 σ =
 (binOp PP .geq 3 x0 x1).bind fun x9 =>
 G _ x9 true (some (x0, σ)) σ fun x11 σ1 =>
 G _ x9 true (some (x2, σ1)) σ1 fun x12 σ2 =>
 G _ x9 true ((binOp PP .leq 3 x11 x12).bind fun v => some (v, σ2)) σ2 fun x13 σ3 =>
 (pickV x9 x13 (DV.p (PV.bool false))).bind fun x14 =>
 some (x14, σ3) := by kernel_rfl
theorem F57_call {lo : Nat} {x0 x1 x2 : DV} {σ : Store} {r : DV × Store} (h : F57 guardT lo x0 x1 x2 σ = some r) : CC lo 57 [x0, x1, x2] σ = some r :=
 callL_run Go.Proofs.Try.func57 (by decide +kernel) rfl (by decide +kernel) h
noncomputable def c58_0 : Code := bodyOf Go.Proofs.Try.f58
noncomputable def a58_0 : Ann := (pol 58).ann
noncomputable def F58 (G : GuardT) (lo : Nat) (x0 : DV) (σ : Store) : Option (DV × Store) :=
 codeF G PP (pol 58) CC lo c58_0 a58_0 [x0, Z, Z, Z, Z] σ (finR PP Go.Proofs.Try.f58.results.toList)
theorem F58_eq (G : GuardT) (lo : Nat) (x0 : DV) (σ : Store) : F58 G lo x0 σ =
 (pureFn CC (DV.fn 57 []) [x0, (DV.p (PV.int IntKind.i64 (0))), (DV.p (PV.int IntKind.i64 (2)))] σ).bind fun x4 =>
 some (x4, σ) := by kernel_rfl
theorem F58_call {lo : Nat} {x0 : DV} {σ : Store} {r : DV × Store} (h : F58 guardT lo x0 σ = some r) : CC lo 58 [x0] σ = some r :=
 callL_run Go.Proofs.Try.func58 (by decide +kernel) rfl (by decide +kernel) h
noncomputable def c59_0 : Code := bodyOf Go.Proofs.Try.f59
noncomputable def a59_0 : Ann := (pol 59).ann
noncomputable def a59_5 : Ann := right (left (right a59_0))
noncomputable def a59_6 : Ann := left a59_5
noncomputable def c59_7 : Code := fstC (fstC (sndC (fstC (sndC c59_0))))
noncomputable def c59_23 : Code := sndC (sndC c59_0)
noncomputable def a59_23 : Ann := right (right a59_0)
noncomputable def f59_L0 (G : GuardT) (lo : Nat) (x0 x1 x5 : DV) (σ : Store) : Option (DV × Store) :=
 codeF G PP (pol 59) CC lo (.loop c59_7) a59_6 [x0, x1, Z, Z, Z, x5, Z, Z, Z, Z, Z, Z, Z, Z, Z, Z, Z, Z, Z, Z, Z, Z, Z, Z, Z, Z, Z, Z, Z, Z, Z, Z, Z, Z, Z, Z, Z, Z, Z, Z, Z, Z, Z, Z, Z, Z, Z, Z, Z, Z, Z, Z] σ
 (blockC 0 a59_5 (seqC G PP (pol 59) CC lo c59_23 a59_23 (finR PP Go.Proofs.Try.f59.results.toList)))
noncomputable def F59 (G : GuardT) (lo : Nat) (x0 x1 : DV) (σ : Store) : Option (DV × Store) :=
 codeF G PP (pol 59) CC lo c59_0 a59_0 [x0, x1, Z, Z, Z, Z, Z, Z, Z, Z, Z, Z, Z, Z, Z, Z, Z, Z, Z, Z, Z, Z, Z, Z, Z, Z, Z, Z, Z, Z, Z, Z, Z, Z, Z, Z, Z, Z, Z, Z, Z, Z, Z, Z, Z, Z, Z, Z, Z, Z, Z, Z] σ (finR PP Go.Proofs.Try.f59.results.toList)
theorem f59_L0_eq (G : GuardT) (hG : GuardOk G) (lo : Nat) (x0 x1 x5 : DV) (σ : Store) : f59_L0 G lo x0 x1 x5 σ =
 (len PP 22 x0 σ).bind fun x8 =>
 (binOp PP .lss 3 x5 x8).bind fun x9 =>
 G _ x9 true (some (x5, σ)) σ fun x11 σ1 =>
 G _ x9 true (some (x1, σ1)) σ1 fun x12 σ2 =>
 G _ x9 true ((len PP 22 x12 σ2).bind fun v => some (v, σ2)) σ2 fun x13 σ3 =>
 G _ x9 true ((binOp PP .lss 3 x11 x13).bind fun v => some (v, σ3)) σ3 fun x14 σ4 =>
 (pickV x9 x14 (DV.p (PV.bool false))).bind fun x15 =>
 condK x15
 (
 (indexAddr PP 22 x0 x5).bind fun x20 =>
 (load PP 3 x20 σ4).bind fun x21 =>
 (indexAddr PP 22 x1 x5).bind fun x24 =>
 (load PP 3 x24 σ4).bind fun x25 =>
 (binOp PP .neq 3 x21 x25).bind fun x26 =>
 condK x26
 (
 (indexAddr PP 22 x0 x5).bind fun x29 =>
 (load PP 3 x29 σ4).bind fun x30 =>
 (indexAddr PP 22 x1 x5).bind fun x33 =>
 (load PP 3 x33 σ4).bind fun x34 =>
 (binOp PP .lss 3 x30 x34).bind fun x35 =>
 (pureFn CC (DV.fn 106 []) [x35] σ4).bind fun x36 =>
 (binOp PP .mul 3 (DV.p (PV.int IntKind.i64 (2))) x36).bind fun x37 =>
 (binOp PP .sub 3 (DV.p (PV.int IntKind.i64 (1))) x37).bind fun x38 =>
 some (x38, σ4)
 )
 (
 (binOp PP .add 3 x5 (DV.p (PV.int IntKind.i64 (1)))).bind fun x17 =>
 f59_L0 G lo x0 x1 x17 σ4
 )
 )
 (
 (len PP 22 x0 σ4).bind fun x40 =>
 (len PP 22 x1 σ4).bind fun x42 =>
 (binOp PP .gtr 3 x40 x42).bind fun x43 =>
 (pureFn CC (DV.fn 106 []) [x43] σ4).bind fun x44 =>
 (len PP 22 x0 σ4).bind fun x46 =>
 (len PP 22 x1 σ4).bind fun x48 =>
 (binOp PP .lss 3 x46 x48).bind fun x49 =>
 (pureFn CC (DV.fn 106 []) [x49] σ4).bind fun x50 =>
 (binOp PP .sub 3 x44 x50).bind fun x51 =>
 some (x51, σ4)
 ) := (loopF_eq G hG).trans (by kernel_rfl)
theorem F59_eq (G : GuardT) (lo : Nat) (x0 x1 : DV) (σ : Store) : F59 G lo x0 x1 σ =
 f59_L0 G lo x0 x1 (DV.p (PV.int IntKind.i64 (0))) σ := by kernel_rfl
theorem F59_call {lo : Nat} {x0 x1 : DV} {σ : Store} {r : DV × Store} (h : F59 guardT lo x0 x1 σ = some r) : CC lo 59 [x0, x1] σ = some r :=
 callL_run Go.Proofs.Try.func59 (by decide +kernel) rfl (by decide +kernel) h
noncomputable def c60_0 : Code := bodyOf Go.Proofs.Try.f60
noncomputable def a60_0 : Ann := (pol 60).ann
noncomputable def F60 (G : GuardT) (lo : Nat) (x0 : DV) (σ : Store) : Option (DV × Store) :=
 codeF G PP (pol 60) CC lo c60_0 a60_0 [x0, Z, Z, Z, Z, Z, Z, Z, Z, Z] σ (finR PP Go.Proofs.Try.f60.results.toList)
theorem F60_eq (G : GuardT) (lo : Nat) (x0 : DV) (σ : Store) : F60 G lo x0 σ =
 (boxV x0).bind fun z1 =>
 (fieldAddr PP 106 (DV.ptr (List.length σ) 0) 0).bind fun x3 =>
 (load PP 3 x3 (σ ++ [Row.mix z1])).bind fun x4 =>
 (fieldAddr PP 106 (DV.ptr (List.length σ) 0) 1).bind fun x5 =>
 (load PP 3 x5 (σ ++ [Row.mix z1])).bind fun x6 =>
 (fieldAddr PP 106 (DV.ptr (List.length σ) 0) 2).bind fun x7 =>
 (load PP 3 x7 (σ ++ [Row.mix z1])).bind fun x8 =>
 (buildSlice PP none 22 3 [(0, x4), (1, x6), (2, x8)] (σ ++ [Row.mix z1])).bind fun r9_1 =>
 some (r9_1.1, r9_1.2) := by kernel_rfl
theorem F60_call {lo : Nat} {x0 : DV} {σ : Store} {r : DV × Store} (h : F60 guardT lo x0 σ = some r) : CC lo 60 [x0] σ = some r :=
 callL_run Go.Proofs.Try.func60 (by decide +kernel) rfl (by decide +kernel) h
noncomputable def c79_0 : Code := bodyOf Go.Proofs.Try.f79
noncomputable def a79_0 : Ann := (pol 79).ann
noncomputable def F79 (G : GuardT) (lo : Nat) (x0 x1 x2 : DV) (σ : Store) : Option (DV × Store) :=
 codeF G PP (pol 79) CC lo c79_0 a79_0 [x0, x1, x2, Z, Z, Z, Z, Z, Z, Z, Z, Z, Z, Z, Z] σ (finR PP Go.Proofs.Try.f79.results.toList)
theorem F79_eq (G : GuardT) (lo : Nat) (x0 x1 x2 : DV) (σ : Store) : F79 G lo x0 x1 x2 σ =
 (binOp PP .geq 3 x0 x1).bind fun x9 =>
 G _ x9 true (some (x0, σ)) σ fun x11 σ1 =>
 G _ x9 true (some (x2, σ1)) σ1 fun x12 σ2 =>
 G _ x9 true ((binOp PP .leq 3 x11 x12).bind fun v => some (v, σ2)) σ2 fun x13 σ3 =>
 (pickV x9 x13 (DV.p (PV.bool false))).bind fun x14 =>
 some (x14, σ3) := by kernel_rfl
theorem F79_call {lo : Nat} {x0 x1 x2 : DV} {σ : Store} {r : DV × Store} (h : F79 guardT lo x0 x1 x2 σ = some r) : CC lo 79 [x0, x1, x2] σ = some r :=
 callL_run Go.Proofs.Try.func79 (by decide +kernel) rfl (by decide +kernel) h
noncomputable def c80_0 : Code := bodyOf Go.Proofs.Try.f80
noncomputable def a80_0 : Ann := (pol 80).ann
noncomputable def F80 (G : GuardT) (lo : Nat) (x0 x1 : DV) (σ : Store) : Option (DV × Store) :=
 codeF G PP (pol 80) CC lo c80_0 a80_0 [x0, x1, Z, Z, Z, Z, Z, Z, Z] σ (finR PP Go.Proofs.Try.f80.results.toList)
theorem F80_eq (G : GuardT) (lo : Nat) (x0 x1 : DV) (σ : Store) : F80 G lo x0 x1 σ =
 (pureFn CC (DV.fn 116 []) [x0, x1] σ).bind fun x7 =>
 (binOp PP .geq 3 x7 (DV.p (PV.int IntKind.i64 (0)))).bind fun x8 =>
 some (x8, σ) := by kernel_rfl
theorem F80_call {lo : Nat} {x0 x1 : DV} {σ : Store} {r : DV × Store} (h : F80 guardT lo x0 x1 σ = some r) : CC lo 80 [x0, x1] σ = some r :=
 callL_run Go.Proofs.Try.func80 (by decide +kernel) rfl (by decide +kernel) h
noncomputable def c81_0 : Code := bodyOf Go.Proofs.Try.f81
noncomputable def a81_0 : Ann := (pol 81).ann
noncomputable def F81 (G : GuardT) (lo : Nat) (x0 : DV) (σ : Store) : Option (DV × Store) :=
 codeF G PP (pol 81) CC lo c81_0 a81_0 [x0, Z, Z, Z, Z, Z] σ (finR PP Go.Proofs.Try.f81.results.toList)
theorem F81_eq (G : GuardT) (lo : Nat) (x0 : DV) (σ : Store) : F81 G lo x0 σ =
 (pureFn CC (DV.fn 82 []) [x0] σ).bind fun x4 =>
 (unOp .not x4).bind fun x5 =>
 some (x5, σ) := by kernel_rfl
theorem F81_call {lo : Nat} {x0 : DV} {σ : Store} {r : DV × Store} (h : F81 guardT lo x0 σ = some r) : CC lo 81 [x0] σ = some r :=
 callL_run Go.Proofs.Try.func81 (by decide +kernel) rfl (by decide +kernel) h
noncomputable def c82_0 : Code := bodyOf Go.Proofs.Try.f82
noncomputable def a82_0 : Ann := (pol 82).ann
noncomputable def F82 (G : GuardT) (lo : Nat) (x0 : DV) (σ : Store) : Option (DV × Store) :=
 codeF G PP (pol 82) CC lo c82_0 a82_0 [x0, Z, Z, Z, Z] σ (finR PP Go.Proofs.Try.f82.results.toList)
theorem F82_eq (G : GuardT) (lo : Nat) (x0 : DV) (σ : Store) : F82 G lo x0 σ =
 (pureFn CC (DV.fn 79 []) [x0, (DV.p (PV.int IntKind.i64 (0))), (DV.p (PV.int IntKind.i64 (2)))] σ).bind fun x4 =>
 some (x4, σ) := by kernel_rfl
theorem F82_call {lo : Nat} {x0 : DV} {σ : Store} {r : DV × Store} (h : F82 guardT lo x0 σ = some r) : CC lo 82 [x0] σ = some r :=
 callL_run Go.Proofs.Try.func82 (by decide +kernel) rfl (by decide +kernel) h
noncomputable def c83_0 : Code := bodyOf Go.Proofs.Try.f83
noncomputable def a83_0 : Ann := (pol 83).ann
noncomputable def F83 (G : GuardT) (lo : Nat) (x0 x1 : DV) (σ : Store) : Option (DV × Store) :=
 codeF G PP (pol 83) CC lo c83_0 a83_0 [x0, x1, Z, Z, Z, Z, Z, Z, Z, Z, Z, Z, Z, Z, Z, Z, Z, Z, Z, Z, Z, Z] σ (finR PP Go.Proofs.Try.f83.results.toList)
theorem F83_eq (G : GuardT) (lo : Nat) (x0 x1 : DV) (σ : Store) : F83 G lo x0 x1 σ =
 (boxV x0).bind fun z2 =>
 (boxV x1).bind fun z3 =>
 (fieldAddr PP 106 (DV.ptr (List.length σ) 0) 0).bind fun x5 =>
 (load PP 3 x5 ((σ ++ [Row.mix z2]) ++ [Row.mix z3])).bind fun x6 =>
 (fieldAddr PP 106 (DV.ptr (List.length (σ ++ [Row.mix z2])) 0) 0).bind fun x7 =>
 (load PP 3 x7 ((σ ++ [Row.mix z2]) ++ [Row.mix z3])).bind fun x8 =>
 (pureFn CC (DV.fn 112 []) [x6, x8] ((σ ++ [Row.mix z2]) ++ [Row.mix z3])).bind fun x9 =>
 (fieldAddr PP 106 (DV.ptr (List.length σ) 0) 1).bind fun x10 =>
 (load PP 3 x10 ((σ ++ [Row.mix z2]) ++ [Row.mix z3])).bind fun x11 =>
 (fieldAddr PP 106 (DV.ptr (List.length (σ ++ [Row.mix z2])) 0) 1).bind fun x12 =>
 (load PP 3 x12 ((σ ++ [Row.mix z2]) ++ [Row.mix z3])).bind fun x13 =>
 (pureFn CC (DV.fn 112 []) [x11, x13] ((σ ++ [Row.mix z2]) ++ [Row.mix z3])).bind fun x14 =>
 (fieldAddr PP 106 (DV.ptr (List.length σ) 0) 2).bind fun x15 =>
 (load PP 3 x15 ((σ ++ [Row.mix z2]) ++ [Row.mix z3])).bind fun x16 =>
 (fieldAddr PP 106 (DV.ptr (List.length (σ ++ [Row.mix z2])) 0) 2).bind fun x17 =>
 (load PP 3 x17 ((σ ++ [Row.mix z2]) ++ [Row.mix z3])).bind fun x18 =>
 (pureFn CC (DV.fn 112 []) [x16, x18] ((σ ++ [Row.mix z2]) ++ [Row.mix z3])).bind fun x19 =>
 (buildSlice PP none 22 3 [(0, x9), (1, x14), (2, x19)] ((σ ++ [Row.mix z2]) ++ [Row.mix z3])).bind fun r20_1 =>
 (pureFn CC (DV.fn 111 []) [r20_1.1] r20_1.2).bind fun x21 =>
 some (x21, r20_1.2) := by kernel_rfl
theorem F83_call {lo : Nat} {x0 x1 : DV} {σ : Store} {r : DV × Store} (h : F83 guardT lo x0 x1 σ = some r) : CC lo 83 [x0, x1] σ = some r :=
 callL_run Go.Proofs.Try.func83 (by decide +kernel) rfl (by decide +kernel) h
noncomputable def c111_0 : Code := bodyOf Go.Proofs.Try.f111
noncomputable def a111_0 : Ann := (pol 111).ann
noncomputable def a111_7 : Ann := right (left (right (right a111_0)))
noncomputable def a111_8 : Ann := left a111_7
noncomputable def c111_9 : Code := fstC (fstC (sndC (fstC (sndC (sndC c111_0)))))
noncomputable def c111_27 : Code := sndC (sndC (sndC c111_0))
noncomputable def a111_27 : Ann := right (right (right a111_0))
noncomputable def f111_L0 (G : GuardT) (lo : Nat) (x3 x6 x7 x8 : DV) (σ : Store) : Option (DV × Store) :=
 codeF G PP (pol 111) CC lo (.loop c111_9) a111_8 [Z, Z, Z, x3, Z, Z, x6, x7, x8, Z, Z, Z, Z, Z, Z, Z, Z, Z] σ
 (blockC 0 a111_7 (seqC G PP (pol 111) CC lo c111_27 a111_27 (finR PP Go.Proofs.Try.f111.results.toList)))
noncomputable def F111 (G : GuardT) (lo : Nat) (x0 : DV) (σ : Store) : Option (DV × Store) :=
 codeF G PP (pol 111) CC lo c111_0 a111_0 [x0, Z, Z, Z, Z, Z, Z, Z, Z, Z, Z, Z, Z, Z, Z, Z, Z, Z] σ (finR PP Go.Proofs.Try.f111.results.toList)
theorem f111_L0_eq (G : GuardT) (hG : GuardOk G) (lo : Nat) (x3 x6 x7 x8 : DV) (σ : Store) : f111_L0 G lo x3 x6 x7 x8 σ =
 (binOp PP .lss 3 x8 x7).bind fun x9 =>
 condK x9
 (
 (indexAddr PP 22 x6 x8).bind fun x10 =>
 (load PP 3 x10 σ).bind fun x11 =>
 (binOp PP .neq 3 x11 x3).bind fun x14 =>
 condK x14
 (
 some (x11, σ)
 )
 (
 (binOp PP .add 3 x8 (DV.p (PV.int IntKind.i64 (1)))).bind fun x16 =>
 f111_L0 G lo x3 x6 x7 x16 σ
 )
 )
 (
 some (x3, σ)
 ) := (loopF_eq G hG).trans (by kernel_rfl)
theorem F111_eq (G : GuardT) (lo : Nat) (x0 : DV) (σ : Store) : F111 G lo x0 σ =
 (len PP 22 x0 σ).bind fun x7 =>
 f111_L0 G lo (DV.p (PV.int IntKind.i64 (0))) x0 x7 (DV.p (PV.int IntKind.i64 (0))) σ := by kernel_rfl
theorem F111_call {lo : Nat} {x0 : DV} {σ : Store} {r : DV × Store} (h : F111 guardT lo x0 σ = some r) : CC lo 111 [x0] σ = some r :=
 callL_run Go.Proofs.Try.func111 (by decide +kernel) rfl (by decide +kernel) h
noncomputable def c112_0 : Code := bodyOf Go.Proofs.Try.f112
noncomputable def a112_0 : Ann := (pol 112).ann
noncomputable def F112 (G : GuardT) (lo : Nat) (x0 x1 : DV) (σ : Store) : Option (DV × Store) :=
 codeF G PP (pol 112) CC lo c112_0 a112_0 [x0, x1, Z, Z, Z, Z, Z, Z, Z, Z, Z, Z, Z, Z, Z, Z, Z, Z, Z, Z] σ (finR PP Go.Proofs.Try.f112.results.toList)
theorem F112_eq (G : GuardT) (lo : Nat) (x0 x1 : DV) (σ : Store) : F112 G lo x0 x1 σ =
 (pureFn CC (DV.fn 134 []) [x0] σ).bind fun x8 =>
 (pureFn CC (DV.fn 134 []) [x1] σ).bind fun x10 =>
 condK x8
 (
 condK x10
 (
 some ((DV.p (PV.int IntKind.i64 (0))), σ)
 )
 (
 some ((DV.p (PV.int IntKind.i64 (-1))), σ)
 )
 )
 (
 condK x10
 (
 some ((DV.p (PV.int IntKind.i64 (1))), σ)
 )
 (
 (binOp PP .lss 3 x0 x1).bind fun x16 =>
 condK x16
 (
 some ((DV.p (PV.int IntKind.i64 (-1))), σ)
 )
 (
 (binOp PP .gtr 3 x0 x1).bind fun x19 =>
 condK x19
 (
 some ((DV.p (PV.int IntKind.i64 (1))), σ)
 )
 (
 some ((DV.p (PV.int IntKind.i64 (0))), σ)
 )
 )
 )
 ) := by kernel_rfl
theorem F112_call {lo : Nat} {x0 x1 : DV} {σ : Store} {r : DV × Store} (h : F112 guardT lo x0 x1 σ = some r) : CC lo 112 [x0, x1] σ = some r :=
 callL_run Go.Proofs.Try.func112 (by decide +kernel) rfl (by decide +kernel) h
noncomputable def c106_0 : Code := bodyOf Go.Proofs.Try.f106
noncomputable def a106_0 : Ann := (pol 106).ann
noncomputable def F106 (G : GuardT) (lo : Nat) (x0 : DV) (σ : Store) : Option (DV × Store) :=
 codeF G PP (pol 106) CC lo c106_0 a106_0 [x0, Z, Z, Z] σ (finR PP Go.Proofs.Try.f106.results.toList)
theorem F106_eq (G : GuardT) (lo : Nat) (x0 : DV) (σ : Store) : F106 G lo x0 σ =
 condK x0
 (
 some ((DV.p (PV.int IntKind.i64 (1))), σ)
 )
 (
 some ((DV.p (PV.int IntKind.i64 (0))), σ)
 ) := by kernel_rfl
theorem F106_call {lo : Nat} {x0 : DV} {σ : Store} {r : DV × Store} (h : F106 guardT lo x0 σ = some r) : CC lo 106 [x0] σ = some r :=
 callL_run Go.Proofs.Try.func106 (by decide +kernel) rfl (by decide +kernel) h
noncomputable def c116_0 : Code := bodyOf Go.Proofs.Try.f116
noncomputable def a116_0 : Ann := (pol 116).ann
noncomputable def a116_5 : Ann := right (left (right a116_0))
noncomputable def a116_6 : Ann := left a116_5
noncomputable def c116_7 : Code := fstC (fstC (sndC (fstC (sndC c116_0))))
noncomputable def c116_25 : Code := sndC (sndC c116_0)
noncomputable def a116_25 : Ann := right (right a116_0)
noncomputable def f116_L0 (G : GuardT) (lo : Nat) (x0 x1 x7 x8 : DV) (σ : Store) : Option (DV × Store) :=
 codeF G PP (pol 116) CC lo (.loop c116_7) a116_6 [x0, x1, Z, Z, Z, Z, Z, x7, x8, Z, Z, Z, Z, Z, Z, Z, Z, Z, Z] σ
 (blockC 0 a116_5 (seqC G PP (pol 116) CC lo c116_25 a116_25 (finR PP Go.Proofs.Try.f116.results.toList)))
noncomputable def F116 (G : GuardT) (lo : Nat) (x0 x1 : DV) (σ : Store) : Option (DV × Store) :=
 codeF G PP (pol 116) CC lo c116_0 a116_0 [x0, x1, Z, Z, Z, Z, Z, Z, Z, Z, Z, Z, Z, Z, Z, Z, Z, Z, Z] σ (finR PP Go.Proofs.Try.f116.results.toList)
theorem f116_L0_eq (G : GuardT) (hG : GuardOk G) (lo : Nat) (x0 x1 x7 x8 : DV) (σ : Store) : f116_L0 G lo x0 x1 x7 x8 σ =
 (binOp PP .lss 3 x8 x7).bind fun x9 =>
 condK x9
 (
 (indexAddr PP 22 x0 x8).bind fun x14 =>
 (load PP 3 x14 σ).bind fun x15 =>
 (pureFn CC x1 [x15] σ).bind fun x16 =>
 condK x16
 (
 some (x8, σ)
 )
 (
 (binOp PP .add 3 x8 (DV.p (PV.int IntKind.i64 (1)))).bind fun x18 =>
 f116_L0 G lo x0 x1 x7 x18 σ
 )
 )
 (
 some ((DV.p (PV.int IntKind.i64 (-1))), σ)
 ) := (loopF_eq G hG).trans (by kernel_rfl)
theorem F116_eq (G : GuardT) (lo : Nat) (x0 x1 : DV) (σ : Store) : F116 G lo x0 x1 σ =
 (len PP 22 x0 σ).bind fun x7 =>
 f116_L0 G lo x0 x1 x7 (DV.p (PV.int IntKind.i64 (0))) σ := by kernel_rfl
theorem F116_call {lo : Nat} {x0 x1 : DV} {σ : Store} {r : DV × Store} (h : F116 guardT lo x0 x1 σ = some r) : CC lo 116 [x0, x1] σ = some r :=
 callL_run Go.Proofs.Try.func116 (by decide +kernel) rfl (by decide +kernel) h
noncomputable def c134_0 : Code := bodyOf Go.Proofs.Try.f134
noncomputable def a134_0 : Ann := (pol 134).ann
noncomputable def F134 (G : GuardT) (lo : Nat) (x0 : DV) (σ : Store) : Option (DV × Store) :=
 codeF G PP (pol 134) CC lo c134_0 a134_0 [x0, Z, Z, Z, Z, Z] σ (finR PP Go.Proofs.Try.f134.results.toList)
theorem F134_eq (G : GuardT) (lo : Nat) (x0 : DV) (σ : Store) : F134 G lo x0 σ =
 (binOp PP .neq 3 x0 x0).bind fun x5 =>
 some (x5, σ) := by kernel_rfl
theorem F134_call {lo : Nat} {x0 : DV} {σ : Store} {r : DV × Store} (h : F134 guardT lo x0 σ = some r) : CC lo 134 [x0] σ = some r :=
 callL_run Go.Proofs.Try.func134 (by decide +kernel) rfl (by decide +kernel) h
noncomputable def c55_0 : Code := bodyOf Go.Proofs.Try.f55
noncomputable def a55_0 : Ann := (pol 55).ann
noncomputable def F55 (G : GuardT) (lo : Nat) (x0 : DV) (σ : Store) : Option (DV × Store) :=
 codeF G PP (pol 55) CC lo c55_0 a55_0 [x0, Z, Z, Z, Z, Z] σ (finR PP Go.Proofs.Try.f55.results.toList)
theorem F55_eq (G : GuardT) (lo : Nat) (x0 : DV) (σ : Store) : F55 G lo x0 σ =
 (buildSlice PP none 22 0 [] σ).bind fun r3_1 =>
 (append PP lo false 22 22 r3_1.1 x0 r3_1.2).bind fun r5_2 =>
 some (r5_2.1, r5_2.2) := by kernel_rfl
theorem F55_call {lo : Nat} {x0 : DV} {σ : Store} {r : DV × Store} (h : F55 guardT lo x0 σ = some r) : CC lo 55 [x0] σ = some r :=
 callL_run Go.Proofs.Try.func55 (by decide +kernel) rfl (by decide +kernel) h
noncomputable def c78_0 : Code := bodyOf Go.Proofs.Try.f78
noncomputable def a78_0 : Ann := (pol 78).ann
noncomputable def F78 (G : GuardT) (lo : Nat) (x0 x1 : DV) (σ : Store) : Option (DV × Store) :=
 codeF G PP (pol 78) CC lo c78_0 a78_0 [x0, x1, Z, Z, Z, Z, Z, Z, Z] σ (finR PP Go.Proofs.Try.f78.results.toList)
theorem F78_eq (G : GuardT) (lo : Nat) (x0 x1 : DV) (σ : Store) : F78 G lo x0 x1 σ =
 (fieldAddr PP 25 x1 0).bind fun x5 =>
 (load PP 3 x5 σ).bind fun x6 =>
 (binOp PP .sub 3 x6 (DV.p (PV.int IntKind.i64 (1)))).bind fun x7 =>
 (pureFn CC (DV.fn 79 []) [x0, (DV.p (PV.int IntKind.i64 (0))), x7] σ).bind fun x8 =>
 some (x8, σ) := by kernel_rfl
theorem F78_call {lo : Nat} {x0 x1 : DV} {σ : Store} {r : DV × Store} (h : F78 guardT lo x0 x1 σ = some r) : CC lo 78 [x0, x1] σ = some r :=
 callL_run Go.Proofs.Try.func78 (by decide +kernel) rfl (by decide +kernel) h
end Go.D
end
/- Equations of functions 29, 16, 14, 11, 28, 35, 39, 85, 117, 118, 135, 31, 30, 32, 87, 89, 120, 6, printed by gen.py. -/
section
set_option linter.unusedVariables false
set_option maxRecDepth 10000
namespace Go.D
open _root_.Go.D.Code (fstC sndC)
open _root_.Go.D.Ann (left right)
noncomputable def c29_0 : Code := bodyOf Go.Proofs.Try.f29
noncomputable def a29_0 : Ann := (pol 29).ann
noncomputable def a29_11 : Ann := right (left (right (right (right (right a29_0)))))
noncomputable def a29_12 : Ann := left a29_11
noncomputable def c29_13 : Code := fstC (fstC (sndC (fstC (sndC (sndC (sndC (sndC c29_0)))))))
noncomputable def c29_25 : Code := sndC (sndC (sndC (sndC (sndC c29_0))))
noncomputable def a29_25 : Ann := right (right (right (right (right a29_0))))
noncomputable def a29_38 : Ann := right (left (right a29_25))
noncomputable def a29_39 : Ann := left a29_38
noncomputable def c29_40 : Code := fstC (fstC (sndC (fstC (sndC c29_25))))
noncomputable def c29_60 : Code := sndC (sndC c29_25)
noncomputable def a29_60 : Ann := right (right a29_25)
noncomputable def f29_L0 (G : GuardT) (lo : Nat) (x1 x3 x4 x5 x18 x19 x20 : DV) (σ : Store) : Option (DV × Store) :=
 codeF G PP (pol 29) CC lo (.loop c29_13) a29_12 [Z, x1, Z, x3, x4, x5, Z, Z, Z, Z, Z, Z, Z, Z, Z, Z, Z, Z, x18, x19, x20, Z, Z, Z, Z, Z, Z, Z, Z, Z, Z, Z, Z, Z, Z, Z, Z, Z, Z, Z, Z, Z, Z, Z, Z, Z, Z, Z, Z, Z, Z, Z, Z, Z, Z, Z, Z, Z, Z, Z, Z, Z, Z, Z, Z, Z, Z, Z, Z, Z, Z, Z, Z, Z, Z, Z, Z, Z, Z, Z, Z, Z, Z, Z, Z, Z, Z, Z, Z, Z, Z, Z, Z, Z, Z, Z, Z, Z, Z, Z, Z, Z, Z, Z, Z, Z, Z, Z, Z, Z, Z, Z, Z, Z, Z] σ
 (blockC 0 a29_11 (seqC G PP (pol 29) CC lo c29_25 a29_25 (finR PP Go.Proofs.Try.f29.results.toList)))
noncomputable def f29_L1 (G : GuardT) (lo : Nat) (x1 x3 x72 x73 x74 : DV) (σ : Store) : Option (DV × Store) :=
 codeF G PP (pol 29) CC lo (.loop c29_40) a29_39 [Z, x1, Z, x3, Z, Z, Z, Z, Z, Z, Z, Z, Z, Z, Z, Z, Z, Z, Z, Z, Z, Z, Z, Z, Z, Z, Z, Z, Z, Z, Z, Z, Z, Z, Z, Z, Z, Z, Z, Z, Z, Z, Z, Z, Z, Z, Z, Z, Z, Z, Z, Z, Z, Z, Z, Z, Z, Z, Z, Z, Z, Z, Z, Z, Z, Z, Z, Z, Z, Z, Z, Z, x72, x73, x74, Z, Z, Z, Z, Z, Z, Z, Z, Z, Z, Z, Z, Z, Z, Z, Z, Z, Z, Z, Z, Z, Z, Z, Z, Z, Z, Z, Z, Z, Z, Z, Z, Z, Z, Z, Z, Z, Z, Z, Z] σ
 (blockC 2 a29_38 (seqC G PP (pol 29) CC lo c29_60 a29_60 (finR PP Go.Proofs.Try.f29.results.toList)))
noncomputable def F29 (G : GuardT) (lo : Nat) (x0 : DV) (σ : Store) : Option (DV × Store) :=
 codeF G PP (pol 29) CC lo c29_0 a29_0 [x0, Z, Z, Z, Z, Z, Z, Z, Z, Z, Z, Z, Z, Z, Z, Z, Z, Z, Z, Z, Z, Z, Z, Z, Z, Z, Z, Z, Z, Z, Z, Z, Z, Z, Z, Z, Z, Z, Z, Z, Z, Z, Z, Z, Z, Z, Z, Z, Z, Z, Z, Z, Z, Z, Z, Z, Z, Z, Z, Z, Z, Z, Z, Z, Z, Z, Z, Z, Z, Z, Z, Z, Z, Z, Z, Z, Z, Z, Z, Z, Z, Z, Z, Z, Z, Z, Z, Z, Z, Z, Z, Z, Z, Z, Z, Z, Z, Z, Z, Z, Z, Z, Z, Z, Z, Z, Z, Z, Z, Z, Z, Z, Z, Z, Z] σ (finR PP Go.Proofs.Try.f29.results.toList)
theorem f29_L0_eq (G : GuardT) (hG : GuardOk G) (lo : Nat) (x1 x3 x4 x5 x18 x19 x20 : DV) (σ : Store) : f29_L0 G lo x1 x3 x4 x5 x18 x19 x20 σ =
 (binOp PP .lss 3 x20 x19).bind fun x21 =>
 condK x21
 (
 (indexAddr PP 22 x18 x20).bind fun x23 =>
 (load PP 3 x23 σ).bind fun x24 =>
 G _ x5 true (some (x3, σ)) σ fun x27 σ1 =>
 G _ x5 true (some (x24, σ1)) σ1 fun x28 σ2 =>
 G _ x5 true ((pureFn CC x27 [x28] σ2).bind fun v => some (v, σ2)) σ2 fun x29 σ3 =>
 (pickV x5 x29 (DV.p (PV.bool false))).bind fun x30 =>
 G _ x30 true (some (x20, σ3)) σ3 fun x32 σ4 =>
 G _ x30 true ((binOp PP .eql 3 x32 (DV.p (PV.int IntKind.i64 (0)))).bind fun v => some (v, σ4)) σ4 fun x33 σ5 =>
 G _ x30 true (some (x33, σ5)) σ5 fun x34 σ6 =>
 G _ x34 false ((fieldAddr PP 25 x1 1).bind fun v => some (v, σ6)) σ6 fun x35 σ7 =>
 G _ x34 false ((load PP 22 x35 σ7).bind fun v => some (v, σ7)) σ7 fun x36 σ8 =>
 G _ x34 false (some (x20, σ8)) σ8 fun x37 σ9 =>
 G _ x34 false ((binOp PP .sub 3 x37 (DV.p (PV.int IntKind.i64 (1)))).bind fun v => some (v, σ9)) σ9 fun x38 σ10 =>
 G _ x34 false ((indexAddr PP 22 x36 x38).bind fun v => some (v, σ10)) σ10 fun x39 σ11 =>
 G _ x34 false ((load PP 3 x39 σ11).bind fun v => some (v, σ11)) σ11 fun x40 σ12 =>
 G _ x34 false (some (x24, σ12)) σ12 fun x41 σ13 =>
 G _ x34 false ((binOp PP .lss 3 x40 x41).bind fun v => some (v, σ13)) σ13 fun x42 σ14 =>
 G _ x30 true ((pickV x34 (DV.p (PV.bool true)) x42).bind fun v => some (v, σ14)) σ14 fun x43 σ15 =>
 (pickV x30 x43 (DV.p (PV.bool false))).bind fun x44 =>
 (binOp PP .add 3 x20 (DV.p (PV.int IntKind.i64 (1)))).bind fun x45 =>
 f29_L0 G lo x1 x3 x4 x44 x18 x19 x45 σ15
 )
 (
 (fieldAddr PP 25 x1 0).bind fun x46 =>
 (load PP 3 x46 σ).bind fun x47 =>
 (pureFn CC (DV.fn 79 []) [x47, (DV.p (PV.int IntKind.i64 (0))), (DV.p (PV.int IntKind.i64 (10)))] σ).bind fun x48 =>
 (pureFn CC (DV.fn 54 []) [x48, (DV.p (PV.int IntKind.i64 (3)))] σ).bind fun x49 =>
 (fieldAddr PP 25 x1 3).bind fun x50 =>
 (load PP 23 x50 σ).bind fun x51 =>
 (len PP 23 x51 σ).bind fun x52 =>
 (binOp PP .leq 3 x52 (DV.p (PV.int IntKind.i64 (60)))).bind fun x53 =>
 (pureFn CC (DV.fn 54 []) [x53, (DV.p (PV.int IntKind.i64 (2)))] σ).bind fun x54 =>
 (fieldAddr PP 25 x1 2).bind fun x55 =>
 (load PP 22 x55 σ).bind fun x56 =>
 (len PP 22 x56 σ).bind fun x57 =>
 (fieldAddr PP 25 x1 0).bind fun x58 =>
 (load PP 3 x58 σ).bind fun x59 =>
 (binOp PP .eql 3 x57 x59).bind fun x60 =>
 (pureFn CC (DV.fn 54 []) [x60, (DV.p (PV.int IntKind.i64 (6)))] σ).bind fun x61 =>
 (pureFn CC (DV.fn 54 []) [x4, (DV.p (PV.int IntKind.i64 (3)))] σ).bind fun x63 =>
 (pureFn CC (DV.fn 54 []) [x5, (DV.p (PV.int IntKind.i64 (5)))] σ).bind fun x65 =>
 (buildSlice PP none 160 5 [(0, x49), (1, x54), (2, x61), (3, x63), (4, x65)] σ).bind fun r66_16 =>
 (pureFn CC (DV.fn 52 []) [r66_16.1] r66_16.2).bind fun x67 =>
 (binOp PP .neq 34 x67 (DV.p (PV.int IntKind.i64 (0)))).bind fun x69 =>
 condK x69
 (
 some (x67, r66_16.2)
 )
 (
 (fieldAddr PP 25 x1 3).bind fun x71 =>
 (load PP 23 x71 r66_16.2).bind fun x72 =>
 (len PP 23 x72 r66_16.2).bind fun x73 =>
 f29_L1 G lo x1 x3 x72 x73 (DV.p (PV.int IntKind.i64 (0))) r66_16.2
 )
 ) := (loopF_eq G hG).trans (by kernel_rfl)
theorem f29_L1_eq (G : GuardT) (hG : GuardOk G) (lo : Nat) (x1 x3 x72 x73 x74 : DV) (σ : Store) : f29_L1 G lo x1 x3 x72 x73 x74 σ =
 (binOp PP .lss 3 x74 x73).bind fun x75 =>
 condK x75
 (
 (indexAddr PP 23 x72 x74).bind fun x77 =>
 (load PP 106 x77 σ).bind fun x78 =>
 (zeroOf PP 106).bind fun z10 =>
 (store PP lo 106 (DV.ptr (List.length σ) 0) x78 (σ ++ [Row.mix z10])).bind fun σ17 =>
 (fieldAddr PP 106 (DV.ptr (List.length σ) 0) 0).bind fun x80 =>
 (load PP 3 x80 σ17).bind fun x81 =>
 (pureFn CC x3 [x81] σ17).bind fun x82 =>
 G _ x82 true (some (x3, σ17)) σ17 fun x84 σ18 =>
 G _ x82 true ((fieldAddr PP 106 (DV.ptr (List.length σ) 0) 2).bind fun v => some (v, σ18)) σ18 fun x85 σ19 =>
 G _ x82 true ((load PP 3 x85 σ19).bind fun v => some (v, σ19)) σ19 fun x86 σ20 =>
 G _ x82 true ((pureFn CC x84 [x86] σ20).bind fun v => some (v, σ20)) σ20 fun x87 σ21 =>
 (pickV x82 x87 (DV.p (PV.bool false))).bind fun x88 =>
 G _ x88 true ((fieldAddr PP 106 (DV.ptr (List.length σ) 0) 1).bind fun v => some (v, σ21)) σ21 fun x90 σ22 =>
 G _ x88 true ((load PP 3 x90 σ22).bind fun v => some (v, σ22)) σ22 fun x91 σ23 =>
 G _ x88 true ((pureFn CC (DV.fn 82 []) [x91] σ23).bind fun v => some (v, σ23)) σ23 fun x92 σ24 =>
 (pickV x88 x92 (DV.p (PV.bool false))).bind fun x93 =>
 (pureFn CC (DV.fn 54 []) [x93, (DV.p (PV.int IntKind.i64 (3)))] σ24).bind fun x94 =>
 (binOp PP .eql 3 x74 (DV.p (PV.int IntKind.i64 (0)))).bind fun x96 =>
 G _ x96 false ((fieldAddr PP 25 x1 3).bind fun v => some (v, σ24)) σ24 fun x98 σ25 =>
 G _ x96 false ((load PP 23 x98 σ25).bind fun v => some (v, σ25)) σ25 fun x99 σ26 =>
 G _ x96 false (some (x74, σ26)) σ26 fun x100 σ27 =>
 G _ x96 false ((binOp PP .sub 3 x100 (DV.p (PV.int IntKind.i64 (1)))).bind fun v => some (v, σ27)) σ27 fun x101 σ28 =>
 G _ x96 false ((indexAddr PP 23 x99 x101).bind fun v => some (v, σ28)) σ28 fun x102 σ29 =>
 G _ x96 false ((load PP 106 x102 σ29).bind fun v => some (v, σ29)) σ29 fun x103 σ30 =>
 G _ x96 false ((load PP 106 (DV.ptr (List.length σ) 0) σ30).bind fun v => some (v, σ30)) σ30 fun x104 σ31 =>
 G _ x96 false ((pureFn CC (DV.fn 83 []) [x103, x104] σ31).bind fun v => some (v, σ31)) σ31 fun x105 σ32 =>
 G _ x96 false ((binOp PP .lss 3 x105 (DV.p (PV.int IntKind.i64 (0)))).bind fun v => some (v, σ32)) σ32 fun x106 σ33 =>
 (pickV x96 (DV.p (PV.bool true)) x106).bind fun x107 =>
 (pureFn CC (DV.fn 54 []) [x107, (DV.p (PV.int IntKind.i64 (13)))] σ33).bind fun x108 =>
 (buildSlice PP none 160 2 [(0, x94), (1, x108)] σ33).bind fun r109_34 =>
 (pureFn CC (DV.fn 52 []) [r109_34.1] r109_34.2).bind fun x110 =>
 (binOp PP .neq 34 x110 (DV.p (PV.int IntKind.i64 (0)))).bind fun x112 =>
 condK x112
 (
 some (x110, r109_34.2)
 )
 (
 (binOp PP .add 3 x74 (DV.p (PV.int IntKind.i64 (1)))).bind fun x114 =>
 f29_L1 G lo x1 x3 x72 x73 x114 r109_34.2
 )
 )
 (
 some ((DV.p (PV.int IntKind.i64 (0))), σ)
 ) := (loopF_eq G hG).trans (by kernel_rfl)
theorem F29_eq (G : GuardT) (lo : Nat) (x0 : DV) (σ : Store) : F29 G lo x0 σ =
 (boxV x0).bind fun z1 =>
 (fieldAddr PP 25 (DV.ptr (List.length σ) 0) 2).bind fun x13 =>
 (load PP 22 x13 (σ ++ [Row.mix z1])).bind fun x14 =>
 (pureFn CC (DV.fn 80 []) [x14, (DV.fn 81 [])] (σ ++ [Row.mix z1])).bind fun x15 =>
 (unOp .not x15).bind fun x16 =>
 (fieldAddr PP 25 (DV.ptr (List.length σ) 0) 1).bind fun x17 =>
 (load PP 22 x17 (σ ++ [Row.mix z1])).bind fun x18 =>
 (len PP 22 x18 (σ ++ [Row.mix z1])).bind fun x19 =>
 f29_L0 G lo (DV.ptr (List.length σ) 0) (DV.fn 78 [(DV.ptr (List.length σ) 0)]) x16 (DV.p (PV.bool true)) x18 x19 (DV.p (PV.int IntKind.i64 (0))) (σ ++ [Row.mix z1]) := by kernel_rfl
theorem F29_call {lo : Nat} {x0 : DV} {σ : Store} {r : DV × Store} (h : F29 guardT lo x0 σ = some r) : CC lo 29 [x0] σ = some r :=
 callL_run Go.Proofs.Try.func29 (by decide +kernel) rfl (by decide +kernel) h
noncomputable def c16_0 : Code := bodyOf Go.Proofs.Try.f16
noncomputable def a16_0 : Ann := (pol 16).ann
noncomputable def a16_29 : Ann := right (left (right (right (right (right a16_0)))))
noncomputable def a16_30 : Ann := left a16_29
noncomputable def c16_31 : Code := fstC (fstC (sndC (fstC (sndC (sndC (sndC (sndC c16_0)))))))
noncomputable def c16_47 : Code := sndC (sndC (sndC (sndC (sndC c16_0))))
noncomputable def a16_47 : Ann := right (right (right (right (right a16_0))))
noncomputable def a16_50 : Ann := right (left a16_47)
noncomputable def a16_51 : Ann := left a16_50
noncomputable def c16_52 : Code := fstC (fstC (sndC (fstC c16_47)))
noncomputable def c16_68 : Code := sndC c16_47
noncomputable def a16_68 : Ann := right a16_47
noncomputable def a16_71 : Ann := right (left a16_68)
noncomputable def a16_72 : Ann := left a16_71
noncomputable def c16_73 : Code := fstC (fstC (sndC (fstC c16_68)))
noncomputable def c16_99 : Code := sndC c16_68
noncomputable def a16_99 : Ann := right a16_68
noncomputable def f16_L0 (G : GuardT) (lo : Nat) (x1 x3 : DV) (σ : Store) : Option (DV × Store) :=
 codeF G PP (pol 16) CC lo (.loop c16_31) a16_30 [Z, x1, Z, x3, Z, Z, Z, Z, Z, Z, Z, Z, Z, Z, Z, Z, Z, Z, Z, Z, Z, Z, Z, Z, Z, Z, Z, Z, Z, Z, Z, Z, Z, Z, Z, Z, Z, Z, Z, Z, Z, Z, Z, Z, Z, Z, Z, Z, Z, Z, Z, Z, Z, Z, Z, Z, Z, Z, Z, Z, Z, Z, Z, Z, Z, Z, Z, Z, Z, Z, Z, Z, Z, Z, Z, Z, Z, Z, Z, Z, Z, Z, Z, Z, Z, Z, Z, Z, Z, Z, Z, Z, Z, Z, Z, Z, Z, Z, Z, Z, Z, Z, Z, Z, Z, Z, Z, Z, Z, Z, Z, Z, Z, Z, Z, Z, Z, Z, Z] σ
 (blockC 0 a16_29 (seqC G PP (pol 16) CC lo c16_47 a16_47 (finR PP Go.Proofs.Try.f16.results.toList)))
noncomputable def f16_L1 (G : GuardT) (lo : Nat) (x1 x4 : DV) (σ : Store) : Option (DV × Store) :=
 codeF G PP (pol 16) CC lo (.loop c16_52) a16_51 [Z, x1, Z, Z, x4, Z, Z, Z, Z, Z, Z, Z, Z, Z, Z, Z, Z, Z, Z, Z, Z, Z, Z, Z, Z, Z, Z, Z, Z, Z, Z, Z, Z, Z, Z, Z, Z, Z, Z, Z, Z, Z, Z, Z, Z, Z, Z, Z, Z, Z, Z, Z, Z, Z, Z, Z, Z, Z, Z, Z, Z, Z, Z, Z, Z, Z, Z, Z, Z, Z, Z, Z, Z, Z, Z, Z, Z, Z, Z, Z, Z, Z, Z, Z, Z, Z, Z, Z, Z, Z, Z, Z, Z, Z, Z, Z, Z, Z, Z, Z, Z, Z, Z, Z, Z, Z, Z, Z, Z, Z, Z, Z, Z, Z, Z, Z, Z, Z, Z] σ
 (blockC 2 a16_50 (seqC G PP (pol 16) CC lo c16_68 a16_68 (finR PP Go.Proofs.Try.f16.results.toList)))
noncomputable def f16_L2 (G : GuardT) (lo : Nat) (x1 x5 : DV) (σ : Store) : Option (DV × Store) :=
 codeF G PP (pol 16) CC lo (.loop c16_73) a16_72 [Z, x1, Z, Z, Z, x5, Z, Z, Z, Z, Z, Z, Z, Z, Z, Z, Z, Z, Z, Z, Z, Z, Z, Z, Z, Z, Z, Z, Z, Z, Z, Z, Z, Z, Z, Z, Z, Z, Z, Z, Z, Z, Z, Z, Z, Z, Z, Z, Z, Z, Z, Z, Z, Z, Z, Z, Z, Z, Z, Z, Z, Z, Z, Z, Z, Z, Z, Z, Z, Z, Z, Z, Z, Z, Z, Z, Z, Z, Z, Z, Z, Z, Z, Z, Z, Z, Z, Z, Z, Z, Z, Z, Z, Z, Z, Z, Z, Z, Z, Z, Z, Z, Z, Z, Z, Z, Z, Z, Z, Z, Z, Z, Z, Z, Z, Z, Z, Z, Z] σ
 (blockC 4 a16_71 (seqC G PP (pol 16) CC lo c16_99 a16_99 (finR PP Go.Proofs.Try.f16.results.toList)))
noncomputable def F16 (G : GuardT) (lo : Nat) (x0 : DV) (σ : Store) : Option (DV × Store) :=
 codeF G PP (pol 16) CC lo c16_0 a16_0 [x0, Z, Z, Z, Z, Z, Z, Z, Z, Z, Z, Z, Z, Z, Z, Z, Z, Z, Z, Z, Z, Z, Z, Z, Z, Z, Z, Z, Z, Z, Z, Z, Z, Z, Z, Z, Z, Z, Z, Z, Z, Z, Z, Z, Z, Z, Z, Z, Z, Z, Z, Z, Z, Z, Z, Z, Z, Z, Z, Z, Z, Z, Z, Z, Z, Z, Z, Z, Z, Z, Z, Z, Z, Z, Z, Z, Z, Z, Z, Z, Z, Z, Z, Z, Z, Z, Z, Z, Z, Z, Z, Z, Z, Z, Z, Z, Z, Z, Z, Z, Z, Z, Z, Z, Z, Z, Z, Z, Z, Z, Z, Z, Z, Z, Z, Z, Z, Z, Z] σ (finR PP Go.Proofs.Try.f16.results.toList)
theorem f16_L0_eq (G : GuardT) (hG : GuardOk G) (lo : Nat) (x1 x3 : DV) (σ : Store) : f16_L0 G lo x1 x3 σ =
 (fieldAddr PP 25 x1 2).bind fun x22 =>
 (load PP 22 x22 σ).bind fun x23 =>
 (len PP 22 x23 σ).bind fun x24 =>
 (binOp PP .lss 3 x3 x24).bind fun x25 =>
 condK x25
 (
 (fieldAddr PP 25 x1 2).bind fun x28 =>
 (load PP 22 x28 σ).bind fun x29 =>
 (indexAddr PP 22 x29 x3).bind fun x31 =>
 (load PP 3 x31 σ).bind fun x32 =>
 (pureFn CC (DV.fn 58 []) [x32] σ).bind fun x33 =>
 (unOp .not x33).bind fun x34 =>
 condK x34
 (
 some ((DV.p (PV.int IntKind.i64 (3))), σ)
 )
 (
 (binOp PP .add 3 x3 (DV.p (PV.int IntKind.i64 (1)))).bind fun x27 =>
 f16_L0 G lo x1 x27 σ
 )
 )
 (
 f16_L1 G lo x1 (DV.p (PV.int IntKind.i64 (0))) σ
 ) := (loopF_eq G hG).trans (by kernel_rfl)
theorem f16_L1_eq (G : GuardT) (hG : GuardOk G) (lo : Nat) (x1 x4 : DV) (σ : Store) : f16_L1 G lo x1 x4 σ =
 (fieldAddr PP 25 x1 1).bind fun x36 =>
 (load PP 22 x36 σ).bind fun x37 =>
 (len PP 22 x37 σ).bind fun x38 =>
 (binOp PP .lss 3 x4 x38).bind fun x39 =>
 condK x39
 (
 (fieldAddr PP 25 x1 1).bind fun x42 =>
 (load PP 22 x42 σ).bind fun x43 =>
 (indexAddr PP 22 x43 x4).bind fun x45 =>
 (load PP 3 x45 σ).bind fun x46 =>
 (fieldAddr PP 25 x1 0).bind fun x47 =>
 (load PP 3 x47 σ).bind fun x48 =>
 (binOp PP .sub 3 x48 (DV.p (PV.int IntKind.i64 (1)))).bind fun x49 =>
 (pureFn CC (DV.fn 57 []) [x46, (DV.p (PV.int IntKind.i64 (0))), x49] σ).bind fun x50 =>
 (unOp .not x50).bind fun x51 =>
 G _ x51 false (some (x4, σ)) σ fun x53 σ1 =>
 G _ x51 false ((binOp PP .gtr 3 x53 (DV.p (PV.int IntKind.i64 (0)))).bind fun v => some (v, σ1)) σ1 fun x54 σ2 =>
 G _ x51 false (some (x54, σ2)) σ2 fun x55 σ3 =>
 G _ x55 true ((fieldAddr PP 25 x1 1).bind fun v => some (v, σ3)) σ3 fun x56 σ4 =>
 G _ x55 true ((load PP 22 x56 σ4).bind fun v => some (v, σ4)) σ4 fun x57 σ5 =>
 G _ x55 true (some (x4, σ5)) σ5 fun x58 σ6 =>
 G _ x55 true ((indexAddr PP 22 x57 x58).bind fun v => some (v, σ6)) σ6 fun x59 σ7 =>
 G _ x55 true ((load PP 3 x59 σ7).bind fun v => some (v, σ7)) σ7 fun x60 σ8 =>
 G _ x55 true ((fieldAddr PP 25 x1 1).bind fun v => some (v, σ8)) σ8 fun x61 σ9 =>
 G _ x55 true ((load PP 22 x61 σ9).bind fun v => some (v, σ9)) σ9 fun x62 σ10 =>
 G _ x55 true (some (x4, σ10)) σ10 fun x63 σ11 =>
 G _ x55 true ((binOp PP .sub 3 x63 (DV.p (PV.int IntKind.i64 (1)))).bind fun v => some (v, σ11)) σ11 fun x64 σ12 =>
 G _ x55 true ((indexAddr PP 22 x62 x64).bind fun v => some (v, σ12)) σ12 fun x65 σ13 =>
 G _ x55 true ((load PP 3 x65 σ13).bind fun v => some (v, σ13)) σ13 fun x66 σ14 =>
 G _ x55 true ((binOp PP .leq 3 x60 x66).bind fun v => some (v, σ14)) σ14 fun x67 σ15 =>
 G _ x51 false ((pickV x55 x67 (DV.p (PV.bool false))).bind fun v => some (v, σ15)) σ15 fun x68 σ16 =>
 (pickV x51 (DV.p (PV.bool true)) x68).bind fun x69 =>
 condK x69
 (
 some ((DV.p (PV.int IntKind.i64 (5))), σ16)
 )
 (
 (binOp PP .add 3 x4 (DV.p (PV.int IntKind.i64 (1)))).bind fun x41 =>
 f16_L1 G lo x1 x41 σ16
 )
 )
 (
 f16_L2 G lo x1 (DV.p (PV.int IntKind.i64 (0))) σ
 ) := (loopF_eq G hG).trans (by kernel_rfl)
theorem f16_L2_eq (G : GuardT) (hG : GuardOk G) (lo : Nat) (x1 x5 : DV) (σ : Store) : f16_L2 G lo x1 x5 σ =
 (fieldAddr PP 25 x1 3).bind fun x71 =>
 (load PP 23 x71 σ).bind fun x72 =>
 (len PP 23 x72 σ).bind fun x73 =>
 (binOp PP .lss 3 x5 x73).bind fun x74 =>
 condK x74
 (
 (fieldAddr PP 25 x1 3).bind fun x77 =>
 (load PP 23 x77 σ).bind fun x78 =>
 (indexAddr PP 23 x78 x5).bind fun x80 =>
 (load PP 106 x80 σ).bind fun x81 =>
 (zeroOf PP 106).bind fun z6 =>
 (store PP lo 106 (DV.ptr (List.length σ) 0) x81 (σ ++ [Row.mix z6])).bind fun σ17 =>
 (fieldAddr PP 106 (DV.ptr (List.length σ) 0) 0).bind fun x82 =>
 (load PP 3 x82 σ17).bind fun x83 =>
 (fieldAddr PP 25 x1 0).bind fun x84 =>
 (load PP 3 x84 σ17).bind fun x85 =>
 (binOp PP .sub 3 x85 (DV.p (PV.int IntKind.i64 (1)))).bind fun x86 =>
 (pureFn CC (DV.fn 57 []) [x83, (DV.p (PV.int IntKind.i64 (0))), x86] σ17).bind fun x87 =>
 (unOp .not x87).bind fun x88 =>
 G _ x88 false ((fieldAddr PP 106 (DV.ptr (List.length σ) 0) 1).bind fun v => some (v, σ17)) σ17 fun x90 σ18 =>
 G _ x88 false ((load PP 3 x90 σ18).bind fun v => some (v, σ18)) σ18 fun x91 σ19 =>
 G _ x88 false ((pureFn CC (DV.fn 58 []) [x91] σ19).bind fun v => some (v, σ19)) σ19 fun x92 σ20 =>
 G _ x88 false ((unOp .not x92).bind fun v => some (v, σ20)) σ20 fun x93 σ21 =>
 (pickV x88 (DV.p (PV.bool true)) x93).bind fun x94 =>
 G _ x94 false ((fieldAddr PP 106 (DV.ptr (List.length σ) 0) 2).bind fun v => some (v, σ21)) σ21 fun x96 σ22 =>
 G _ x94 false ((load PP 3 x96 σ22).bind fun v => some (v, σ22)) σ22 fun x97 σ23 =>
 G _ x94 false ((fieldAddr PP 25 x1 0).bind fun v => some (v, σ23)) σ23 fun x98 σ24 =>
 G _ x94 false ((load PP 3 x98 σ24).bind fun v => some (v, σ24)) σ24 fun x99 σ25 =>
 G _ x94 false ((binOp PP .sub 3 x99 (DV.p (PV.int IntKind.i64 (1)))).bind fun v => some (v, σ25)) σ25 fun x100 σ26 =>
 G _ x94 false ((pureFn CC (DV.fn 57 []) [x97, (DV.p (PV.int IntKind.i64 (0))), x100] σ26).bind fun v => some (v, σ26)) σ26 fun x101 σ27 =>
 G _ x94 false ((unOp .not x101).bind fun v => some (v, σ27)) σ27 fun x102 σ28 =>
 (pickV x94 (DV.p (PV.bool true)) x102).bind fun x103 =>
 condK x103
 (
 some ((DV.p (PV.int IntKind.i64 (3))), σ28)
 )
 (
 (binOp PP .gtr 3 x5 (DV.p (PV.int IntKind.i64 (0)))).bind fun x105 =>
 G _ x105 true ((fieldAddr PP 25 x1 3).bind fun v => some (v, σ28)) σ28 fun x107 σ29 =>
 G _ x105 true ((load PP 23 x107 σ29).bind fun v => some (v, σ29)) σ29 fun x108 σ30 =>
 G _ x105 true (some (x5, σ30)) σ30 fun x109 σ31 =>
 G _ x105 true ((binOp PP .sub 3 x109 (DV.p (PV.int IntKind.i64 (1)))).bind fun v => some (v, σ31)) σ31 fun x110 σ32 =>
 G _ x105 true ((indexAddr PP 23 x108 x110).bind fun v => some (v, σ32)) σ32 fun x111 σ33 =>
 G _ x105 true ((load PP 106 x111 σ33).bind fun v => some (v, σ33)) σ33 fun x112 σ34 =>
 G _ x105 true ((pureFn CC (DV.fn 60 []) [x112] σ34).bind fun v => some (v, σ34)) σ34 fun x113 σ35 =>
 G _ x105 true ((load PP 106 (DV.ptr (List.length σ) 0) σ35).bind fun v => some (v, σ35)) σ35 fun x114 σ36 =>
 G _ x105 true ((pureFn CC (DV.fn 60 []) [x114] σ36).bind fun v => some (v, σ36)) σ36 fun x115 σ37 =>
 G _ x105 true ((pureFn CC (DV.fn 59 []) [x113, x115] σ37).bind fun v => some (v, σ37)) σ37 fun x116 σ38 =>
 G _ x105 true ((binOp PP .geq 3 x116 (DV.p (PV.int IntKind.i64 (0)))).bind fun v => some (v, σ38)) σ38 fun x117 σ39 =>
 (pickV x105 x117 (DV.p (PV.bool false))).bind fun x118 =>
 condK x118
 (
 some ((DV.p (PV.int IntKind.i64 (13))), σ39)
 )
 (
 (binOp PP .add 3 x5 (DV.p (PV.int IntKind.i64 (1)))).bind fun x76 =>
 f16_L2 G lo x1 x76 σ39
 )
 )
 )
 (
 some ((DV.p (PV.int IntKind.i64 (0))), σ)
 ) := (loopF_eq G hG).trans (by kernel_rfl)
theorem F16_eq (G : GuardT) (lo : Nat) (x0 : DV) (σ : Store) : F16 G lo x0 σ =
 (boxV x0).bind fun z1 =>
 (fieldAddr PP 25 (DV.ptr (List.length σ) 0) 0).bind fun x7 =>
 (load PP 3 x7 (σ ++ [Row.mix z1])).bind fun x8 =>
 (pureFn CC (DV.fn 57 []) [x8, (DV.p (PV.int IntKind.i64 (0))), (DV.p (PV.int IntKind.i64 (10)))] (σ ++ [Row.mix z1])).bind fun x9 =>
 (unOp .not x9).bind fun x10 =>
 condK x10
 (
 some ((DV.p (PV.int IntKind.i64 (3))), (σ ++ [Row.mix z1]))
 )
 (
 (fieldAddr PP 25 (DV.ptr (List.length σ) 0) 3).bind fun x11 =>
 (load PP 23 x11 (σ ++ [Row.mix z1])).bind fun x12 =>
 (len PP 23 x12 (σ ++ [Row.mix z1])).bind fun x13 =>
 (binOp PP .gtr 3 x13 (DV.p (PV.int IntKind.i64 (60)))).bind fun x14 =>
 condK x14
 (
 some ((DV.p (PV.int IntKind.i64 (2))), (σ ++ [Row.mix z1]))
 )
 (
 (fieldAddr PP 25 (DV.ptr (List.length σ) 0) 2).bind fun x15 =>
 (load PP 22 x15 (σ ++ [Row.mix z1])).bind fun x16 =>
 (len PP 22 x16 (σ ++ [Row.mix z1])).bind fun x17 =>
 (fieldAddr PP 25 (DV.ptr (List.length σ) 0) 0).bind fun x18 =>
 (load PP 3 x18 (σ ++ [Row.mix z1])).bind fun x19 =>
 (binOp PP .neq 3 x17 x19).bind fun x20 =>
 condK x20
 (
 some ((DV.p (PV.int IntKind.i64 (6))), (σ ++ [Row.mix z1]))
 )
 (
 f16_L0 G lo (DV.ptr (List.length σ) 0) (DV.p (PV.int IntKind.i64 (0))) (σ ++ [Row.mix z1])
 )
 )
 ) := by kernel_rfl
theorem F16_call {lo : Nat} {x0 : DV} {σ : Store} {r : DV × Store} (h : F16 guardT lo x0 σ = some r) : CC lo 16 [x0] σ = some r :=
 callL_run Go.Proofs.Try.func16 (by decide +kernel) rfl (by decide +kernel) h
noncomputable def c14_0 : Code := bodyOf Go.Proofs.Try.f14
noncomputable def a14_0 : Ann := (pol 14).ann
noncomputable def F14 (G : GuardT) (lo : Nat) (x0 : DV) (σ : Store) : Option (DV × Store) :=
 codeF G PP (pol 14) CC lo c14_0 a14_0 [x0, Z, Z, Z, Z, Z, Z, Z, Z, Z, Z, Z, Z, Z, Z, Z] σ (finR PP Go.Proofs.Try.f14.results.toList)
theorem F14_eq (G : GuardT) (lo : Nat) (x0 : DV) (σ : Store) : F14 G lo x0 σ =
 (boxV x0).bind fun z1 =>
 (zeroOf PP 25).bind fun z2 =>
 (fieldAddr PP 25 (DV.ptr (List.length σ) 0) 0).bind fun x3 =>
 (load PP 3 x3 ((σ ++ [Row.mix z1]) ++ [Row.mix z2])).bind fun x4 =>
 (fieldAddr PP 25 (DV.ptr (List.length σ) 0) 1).bind fun x5 =>
 (load PP 22 x5 ((σ ++ [Row.mix z1]) ++ [Row.mix z2])).bind fun x6 =>
 (pureFn CC (DV.fn 55 []) [x6] ((σ ++ [Row.mix z1]) ++ [Row.mix z2])).bind fun x7 =>
 (fieldAddr PP 25 (DV.ptr (List.length σ) 0) 2).bind fun x8 =>
 (load PP 22 x8 ((σ ++ [Row.mix z1]) ++ [Row.mix z2])).bind fun x9 =>
 (pureFn CC (DV.fn 55 []) [x9] ((σ ++ [Row.mix z1]) ++ [Row.mix z2])).bind fun x10 =>
 (buildSlice PP none 23 0 [] ((σ ++ [Row.mix z1]) ++ [Row.mix z2])).bind fun r11_1 =>
 (fieldAddr PP 25 (DV.ptr (List.length σ) 0) 3).bind fun x12 =>
 (load PP 23 x12 r11_1.2).bind fun x13 =>
 (append PP (List.length r11_1.2) false 23 23 r11_1.1 x13 r11_1.2).bind fun r14_2 =>
 (build PP 25 [(0, x4), (1, x7), (2, x10), (3, r14_2.1)]).bind fun x15 =>
 (store PP lo 25 (DV.ptr (List.length (σ ++ [Row.mix z1])) 0) x15 r14_2.2).bind fun σ3 =>
 (cellV PP 25 (DV.ptr (List.length (σ ++ [Row.mix z1])) 0) σ3).bind fun v0 =>
 some (v0, σ3) := by kernel_rfl
theorem F14_call {lo : Nat} {x0 : DV} {σ : Store} {r : DV × Store} (h : F14 guardT lo x0 σ = some r) : CC lo 14 [x0] σ = some r :=
 callL_run Go.Proofs.Try.func14 (by decide +kernel) rfl (by decide +kernel) h
noncomputable def c11_0 : Code := bodyOf Go.Proofs.Try.f11
noncomputable def a11_0 : Ann := (pol 11).ann
noncomputable def F11 (G : GuardT) (lo : Nat) (x0 : DV) (σ : Store) : Option (DV × Store) :=
 codeF G PP (pol 11) CC lo c11_0 a11_0 [x0, Z, Z, Z, Z, Z, Z, Z, Z, Z, Z, Z, Z, Z, Z, Z, Z, Z, Z, Z, Z, Z, Z, Z, Z, Z, Z, Z, Z, Z, Z] σ (finR PP Go.Proofs.Try.f11.results.toList)
theorem F11_eq (G : GuardT) (lo : Nat) (x0 : DV) (σ : Store) : F11 G lo x0 σ =
 (boxV x0).bind fun z1 =>
 (fieldAddr PP 25 (DV.ptr (List.length σ) 0) 1).bind fun x3 =>
 (load PP 22 x3 (σ ++ [Row.mix z1])).bind fun x4 =>
 (len PP 22 x4 (σ ++ [Row.mix z1])).bind fun x5 =>
 (binOp PP .leq 3 x5 (DV.p (PV.int IntKind.i64 (14)))).bind fun x6 =>
 G _ x6 true ((fieldAddr PP 25 (DV.ptr (List.length σ) 0) 2).bind fun v => some (v, (σ ++ [Row.mix z1]))) (σ ++ [Row.mix z1]) fun x8 σ1 =>
 G _ x6 true ((load PP 22 x8 σ1).bind fun v => some (v, σ1)) σ1 fun x9 σ2 =>
 G _ x6 true ((len PP 22 x9 σ2).bind fun v => some (v, σ2)) σ2 fun x10 σ3 =>
 G _ x6 true ((binOp PP .leq 3 x10 (DV.p (PV.int IntKind.i64 (14)))).bind fun v => some (v, σ3)) σ3 fun x11 σ4 =>
 (pickV x6 x11 (DV.p (PV.bool false))).bind fun x12 =>
 G _ x12 true ((fieldAddr PP 25 (DV.ptr (List.length σ) 0) 3).bind fun v => some (v, σ4)) σ4 fun x14 σ5 =>
 G _ x12 true ((load PP 23 x14 σ5).bind fun v => some (v, σ5)) σ5 fun x15 σ6 =>
 G _ x12 true ((len PP 23 x15 σ6).bind fun v => some (v, σ6)) σ6 fun x16 σ7 =>
 G _ x12 true ((binOp PP .leq 3 x16 (DV.p (PV.int IntKind.i64 (24)))).bind fun v => some (v, σ7)) σ7 fun x17 σ8 =>
 G _ x12 true (some (x17, σ8)) σ8 fun x18 σ9 =>
 G _ x18 false ((fieldAddr PP 25 (DV.ptr (List.length σ) 0) 3).bind fun v => some (v, σ9)) σ9 fun x19 σ10 =>
 G _ x18 false ((load PP 23 x19 σ10).bind fun v => some (v, σ10)) σ10 fun x20 σ11 =>
 G _ x18 false ((len PP 23 x20 σ11).bind fun v => some (v, σ11)) σ11 fun x21 σ12 =>
 G _ x18 false ((binOp PP .gtr 3 x21 (DV.p (PV.int IntKind.i64 (60)))).bind fun v => some (v, σ12)) σ12 fun x22 σ13 =>
 G _ x18 false (some (x22, σ13)) σ13 fun x23 σ14 =>
 G _ x23 true ((fieldAddr PP 25 (DV.ptr (List.length σ) 0) 3).bind fun v => some (v, σ14)) σ14 fun x24 σ15 =>
 G _ x23 true ((load PP 23 x24 σ15).bind fun v => some (v, σ15)) σ15 fun x25 σ16 =>
 G _ x23 true ((len PP 23 x25 σ16).bind fun v => some (v, σ16)) σ16 fun x26 σ17 =>
 G _ x23 true ((binOp PP .leq 3 x26 (DV.p (PV.int IntKind.i64 (62)))).bind fun v => some (v, σ17)) σ17 fun x27 σ18 =>
 G _ x18 false ((pickV x23 x27 (DV.p (PV.bool false))).bind fun v => some (v, σ18)) σ18 fun x28 σ19 =>
 G _ x12 true ((pickV x18 (DV.p (PV.bool true)) x28).bind fun v => some (v, σ19)) σ19 fun x29 σ20 =>
 (pickV x12 x29 (DV.p (PV.bool false))).bind fun x30 =>
 some (x30, σ20) := by kernel_rfl
theorem F11_call {lo : Nat} {x0 : DV} {σ : Store} {r : DV × Store} (h : F11 guardT lo x0 σ = some r) : CC lo 11 [x0] σ = some r :=
 callL_run Go.Proofs.Try.func11 (by decide +kernel) rfl (by decide +kernel) h
end Go.D
end
/- Equations of functions 12, 17, 33, 15, 34, 36, 95, 37, 38, 40, 41, 56, 23, 90, 91, 92, 93, 94, 121, 7, printed by gen.py. -/
section
set_option linter.unusedVariables false
set_option maxRecDepth 10000
namespace Go.D
open _root_.Go.D.Code (fstC sndC)
open _root_.Go.D.Ann (left right)
noncomputable def c12_0 : Code := bodyOf Go.Proofs.Try.f12
noncomputable def a12_0 : Ann := (pol 12).ann
noncomputable def a12_13 : Ann := right (left (right (right a12_0)))
noncomputable def a12_14 : Ann := left a12_13
noncomputable def c12_15 : Code := fstC (fstC (sndC (fstC (sndC (sndC c12_0)))))
noncomputable def a12_22 : Ann := left (right (left a12_14))
noncomputable def a12_33 : Ann := right (right (left a12_22))
noncomputable def a12_34 : Ann := left a12_33
noncomputable def c12_35 : Code := fstC (fstC (sndC (sndC (fstC (fstC (sndC c12_15))))))
noncomputable def c12_51 : Code := sndC (sndC c12_15)
noncomputable def a12_51 : Ann := right (right (left a12_14))
noncomputable def c12_52 : Code := sndC (sndC (sndC c12_0))
noncomputable def a12_52 : Ann := right (right (right a12_0))
noncomputable def f12_L0 (G : GuardT) (lo : Nat) (x0 x3 : DV) (σ : Store) : Option (DV × Store) :=
 codeF G PP (pol 12) CC lo (.loop c12_15) a12_14 [x0, Z, Z, x3, Z, Z, Z, Z, Z, Z, Z, Z, Z, Z, Z, Z, Z, Z, Z, Z, Z, Z, Z, Z, Z, Z, Z, Z, Z, Z, Z, Z, Z, Z, Z, Z, Z, Z] σ
 (blockC 0 a12_13 (seqC G PP (pol 12) CC lo c12_52 a12_52 (finR PP Go.Proofs.Try.f12.results.toList)))
noncomputable def f12_L1 (G : GuardT) (lo : Nat) (x0 x3 x4 : DV) (σ : Store) : Option (DV × Store) :=
 codeF G PP (pol 12) CC lo (.loop c12_35) a12_34 [x0, Z, Z, x3, x4, Z, Z, Z, Z, Z, Z, Z, Z, Z, Z, Z, Z, Z, Z, Z, Z, Z, Z, Z, Z, Z, Z, Z, Z, Z, Z, Z, Z, Z, Z, Z, Z, Z] σ
 (blockC 2 a12_33 (blockC 1 a12_22 (seqC G PP (pol 12) CC lo c12_51 a12_51 (loopC G PP (pol 12) CC lo c12_15 a12_14 (blockC 0 a12_13 (seqC G PP (pol 12) CC lo c12_52 a12_52 (finR PP Go.Proofs.Try.f12.results.toList)))))))
noncomputable def F12 (G : GuardT) (lo : Nat) (x0 : DV) (σ : Store) : Option (DV × Store) :=
 codeF G PP (pol 12) CC lo c12_0 a12_0 [x0, Z, Z, Z, Z, Z, Z, Z, Z, Z, Z, Z, Z, Z, Z, Z, Z, Z, Z, Z, Z, Z, Z, Z, Z, Z, Z, Z, Z, Z, Z, Z, Z, Z, Z, Z, Z, Z] σ (finR PP Go.Proofs.Try.f12.results.toList)
theorem f12_L0_eq (G : GuardT) (hG : GuardOk G) (lo : Nat) (x0 x3 : DV) (σ : Store) : f12_L0 G lo x0 x3 σ =
 (len PP 27 x0 σ).bind fun x10 =>
 (binOp PP .lss 3 x3 x10).bind fun x11 =>
 condK x11
 (
 (indexAddr PP 27 x0 x3).bind fun x16 =>
 (load PP 48 x16 σ).bind fun x17 =>
 (len PP 48 x17 σ).bind fun x18 =>
 (binOp PP .gtr 3 x18 (DV.p (PV.int IntKind.i64 (5)))).bind fun x19 =>
 condK x19
 (
 some ((DV.p (PV.bool false)), σ)
 )
 (
 f12_L1 G lo x0 x3 (DV.p (PV.int IntKind.i64 (0))) σ
 )
 )
 (
 some ((DV.p (PV.bool true)), σ)
 ) := (loopF_eq G hG).trans (by kernel_rfl)
theorem f12_L1_eq (G : GuardT) (hG : GuardOk G) (lo : Nat) (x0 x3 x4 : DV) (σ : Store) : f12_L1 G lo x0 x3 x4 σ =
 (indexAddr PP 27 x0 x3).bind fun x23 =>
 (load PP 48 x23 σ).bind fun x24 =>
 (len PP 48 x24 σ).bind fun x25 =>
 (binOp PP .lss 3 x4 x25).bind fun x26 =>
 condK x26
 (
 (indexAddr PP 27 x0 x3).bind fun x31 =>
 (load PP 48 x31 σ).bind fun x32 =>
 (indexAddr PP 48 x32 x4).bind fun x34 =>
 (load PP 22 x34 σ).bind fun x35 =>
 (len PP 22 x35 σ).bind fun x36 =>
 (binOp PP .gtr 3 x36 (DV.p (PV.int IntKind.i64 (5)))).bind fun x37 =>
 condK x37
 (
 some ((DV.p (PV.bool false)), σ)
 )
 (
 (binOp PP .add 3 x4 (DV.p (PV.int IntKind.i64 (1)))).bind fun x28 =>
 f12_L1 G lo x0 x3 x28 σ
 )
 )
 (
 (binOp PP .add 3 x3 (DV.p (PV.int IntKind.i64 (1)))).bind fun x13 =>
 f12_L0 G lo x0 x13 σ
 ) := (loopF_eq G hG).trans (by kernel_rfl)
theorem F12_eq (G : GuardT) (lo : Nat) (x0 : DV) (σ : Store) : F12 G lo x0 σ =
 (len PP 27 x0 σ).bind fun x6 =>
 (binOp PP .gtr 3 x6 (DV.p (PV.int IntKind.i64 (8)))).bind fun x7 =>
 condK x7
 (
 some ((DV.p (PV.bool false)), σ)
 )
 (
 f12_L0 G lo x0 (DV.p (PV.int IntKind.i64 (0))) σ
 ) := by kernel_rfl
theorem F12_call {lo : Nat} {x0 : DV} {σ : Store} {r : DV × Store} (h : F12 guardT lo x0 σ = some r) : CC lo 12 [x0] σ = some r :=
 callL_run Go.Proofs.Try.func12 (by decide +kernel) rfl (by decide +kernel) h
noncomputable def c17_0 : Code := bodyOf Go.Proofs.Try.f17
noncomputable def a17_0 : Ann := (pol 17).ann
noncomputable def a17_21 : Ann := right (left (right (right (right a17_0))))
noncomputable def a17_22 : Ann := left a17_21
noncomputable def c17_23 : Code := fstC (fstC (sndC (fstC (sndC (sndC (sndC c17_0))))))
noncomputable def a17_30 : Ann := left (right (left a17_22))
noncomputable def a17_42 : Ann := right (left (right (left a17_30)))
noncomputable def a17_43 : Ann := left a17_42
noncomputable def c17_44 : Code := fstC (fstC (sndC (fstC (sndC (fstC (fstC (sndC c17_23)))))))
noncomputable def c17_60 : Code := sndC (sndC (fstC (fstC (sndC c17_23))))
noncomputable def a17_60 : Ann := right (right (left a17_30))
noncomputable def a17_62 : Ann := right a17_60
noncomputable def a17_63 : Ann := left a17_62
noncomputable def c17_64 : Code := fstC (fstC (sndC c17_60))
noncomputable def a17_71 : Ann := left (right (left a17_63))
noncomputable def a17_74 : Ann := right (left a17_71)
noncomputable def a17_75 : Ann := left a17_74
noncomputable def c17_76 : Code := fstC (fstC (sndC (fstC (fstC (sndC c17_64)))))
noncomputable def c17_92 : Code := sndC (sndC c17_64)
noncomputable def a17_92 : Ann := right (right (left a17_63))
noncomputable def c17_93 : Code := sndC (sndC c17_23)
noncomputable def a17_93 : Ann := right (right (left a17_22))
noncomputable def c17_94 : Code := sndC (sndC (sndC (sndC c17_0)))
noncomputable def a17_94 : Ann := right (right (right (right a17_0)))
noncomputable def f17_L0 (G : GuardT) (lo : Nat) (x0 x3 : DV) (σ : Store) : Option (DV × Store) :=
 codeF G PP (pol 17) CC lo (.loop c17_23) a17_22 [x0, Z, Z, x3, Z, Z, Z, Z, Z, Z, Z, Z, Z, Z, Z, Z, Z, Z, Z, Z, Z, Z, Z, Z, Z, Z, Z, Z, Z, Z, Z, Z, Z, Z, Z, Z, Z, Z, Z, Z, Z, Z, Z, Z, Z, Z, Z, Z, Z, Z, Z, Z, Z, Z, Z, Z, Z, Z, Z, Z, Z, Z, Z, Z, Z, Z, Z, Z, Z, Z, Z, Z, Z, Z, Z, Z, Z, Z, Z] σ
 (blockC 0 a17_21 (seqC G PP (pol 17) CC lo c17_94 a17_94 (finR PP Go.Proofs.Try.f17.results.toList)))
noncomputable def f17_L1 (G : GuardT) (lo : Nat) (x0 x3 x4 : DV) (σ : Store) : Option (DV × Store) :=
 codeF G PP (pol 17) CC lo (.loop c17_44) a17_43 [x0, Z, Z, x3, x4, Z, Z, Z, Z, Z, Z, Z, Z, Z, Z, Z, Z, Z, Z, Z, Z, Z, Z, Z, Z, Z, Z, Z, Z, Z, Z, Z, Z, Z, Z, Z, Z, Z, Z, Z, Z, Z, Z, Z, Z, Z, Z, Z, Z, Z, Z, Z, Z, Z, Z, Z, Z, Z, Z, Z, Z, Z, Z, Z, Z, Z, Z, Z, Z, Z, Z, Z, Z, Z, Z, Z, Z, Z, Z] σ
 (blockC 2 a17_42 (seqC G PP (pol 17) CC lo c17_60 a17_60 (blockC 1 a17_30 (seqC G PP (pol 17) CC lo c17_93 a17_93 (loopC G PP (pol 17) CC lo c17_23 a17_22 (blockC 0 a17_21 (seqC G PP (pol 17) CC lo c17_94 a17_94 (finR PP Go.Proofs.Try.f17.results.toList))))))))
noncomputable def f17_L2 (G : GuardT) (lo : Nat) (x0 x3 x5 : DV) (σ : Store) : Option (DV × Store) :=
 codeF G PP (pol 17) CC lo (.loop c17_64) a17_63 [x0, Z, Z, x3, Z, x5, Z, Z, Z, Z, Z, Z, Z, Z, Z, Z, Z, Z, Z, Z, Z, Z, Z, Z, Z, Z, Z, Z, Z, Z, Z, Z, Z, Z, Z, Z, Z, Z, Z, Z, Z, Z, Z, Z, Z, Z, Z, Z, Z, Z, Z, Z, Z, Z, Z, Z, Z, Z, Z, Z, Z, Z, Z, Z, Z, Z, Z, Z, Z, Z, Z, Z, Z, Z, Z, Z, Z, Z, Z] σ
 (blockC 4 a17_62 (blockC 1 a17_30 (seqC G PP (pol 17) CC lo c17_93 a17_93 (loopC G PP (pol 17) CC lo c17_23 a17_22 (blockC 0 a17_21 (seqC G PP (pol 17) CC lo c17_94 a17_94 (finR PP Go.Proofs.Try.f17.results.toList)))))))
noncomputable def f17_L3 (G : GuardT) (lo : Nat) (x0 x3 x5 x6 : DV) (σ : Store) : Option (DV × Store) :=
 codeF G PP (pol 17) CC lo (.loop c17_76) a17_75 [x0, Z, Z, x3, Z, x5, x6, Z, Z, Z, Z, Z, Z, Z, Z, Z, Z, Z, Z, Z, Z, Z, Z, Z, Z, Z, Z, Z, Z, Z, Z, Z, Z, Z, Z, Z, Z, Z, Z, Z, Z, Z, Z, Z, Z, Z, Z, Z, Z, Z, Z, Z, Z, Z, Z, Z, Z, Z, Z, Z, Z, Z, Z, Z, Z, Z, Z, Z, Z, Z, Z, Z, Z, Z, Z, Z, Z, Z, Z] σ
 (blockC 6 a17_74 (blockC 5 a17_71 (seqC G PP (pol 17) CC lo c17_92 a17_92 (loopC G PP (pol 17) CC lo c17_64 a17_63 (blockC 4 a17_62 (blockC 1 a17_30 (seqC G PP (pol 17) CC lo c17_93 a17_93 (loopC G PP (pol 17) CC lo c17_23 a17_22 (blockC 0 a17_21 (seqC G PP (pol 17) CC lo c17_94 a17_94 (finR PP Go.Proofs.Try.f17.results.toList)))))))))))
noncomputable def F17 (G : GuardT) (lo : Nat) (x0 : DV) (σ : Store) : Option (DV × Store) :=
 codeF G PP (pol 17) CC lo c17_0 a17_0 [x0, Z, Z, Z, Z, Z, Z, Z, Z, Z, Z, Z, Z, Z, Z, Z, Z, Z, Z, Z, Z, Z, Z, Z, Z, Z, Z, Z, Z, Z, Z, Z, Z, Z, Z, Z, Z, Z, Z, Z, Z, Z, Z, Z, Z, Z, Z, Z, Z, Z, Z, Z, Z, Z, Z, Z, Z, Z, Z, Z, Z, Z, Z, Z, Z, Z, Z, Z, Z, Z, Z, Z, Z, Z, Z, Z, Z, Z, Z] σ (finR PP Go.Proofs.Try.f17.results.toList)
theorem f17_L0_eq (G : GuardT) (hG : GuardOk G) (lo : Nat) (x0 x3 : DV) (σ : Store) : f17_L0 G lo x0 x3 σ =
 (len PP 27 x0 σ).bind fun x15 =>
 (binOp PP .lss 3 x3 x15).bind fun x16 =>
 condK x16
 (
 (indexAddr PP 27 x0 x3).bind fun x21 =>
 (load PP 48 x21 σ).bind fun x22 =>
 (len PP 48 x22 σ).bind fun x23 =>
 (binOp PP .neq 3 x23 (DV.p (PV.int IntKind.i64 (3)))).bind fun x24 =>
 condK x24
 (
 some ((DV.p (PV.int IntKind.i64 (6))), σ)
 )
 (
 f17_L1 G lo x0 x3 (DV.p (PV.int IntKind.i64 (0))) σ
 )
 )
 (
 some ((DV.p (PV.int IntKind.i64 (0))), σ)
 ) := (loopF_eq G hG).trans (by kernel_rfl)
theorem f17_L1_eq (G : GuardT) (hG : GuardOk G) (lo : Nat) (x0 x3 x4 : DV) (σ : Store) : f17_L1 G lo x0 x3 x4 σ =
 (indexAddr PP 27 x0 x3).bind fun x28 =>
 (load PP 48 x28 σ).bind fun x29 =>
 (len PP 48 x29 σ).bind fun x30 =>
 (binOp PP .lss 3 x4 x30).bind fun x31 =>
 condK x31
 (
 (indexAddr PP 27 x0 x3).bind fun x36 =>
 (load PP 48 x36 σ).bind fun x37 =>
 (indexAddr PP 48 x37 x4).bind fun x39 =>
 (load PP 22 x39 σ).bind fun x40 =>
 (len PP 22 x40 σ).bind fun x41 =>
 (binOp PP .neq 3 x41 (DV.p (PV.int IntKind.i64 (3)))).bind fun x42 =>
 condK x42
 (
 some ((DV.p (PV.int IntKind.i64 (6))), σ)
 )
 (
 (binOp PP .add 3 x4 (DV.p (PV.int IntKind.i64 (1)))).bind fun x33 =>
 f17_L1 G lo x0 x3 x33 σ
 )
 )
 (
 f17_L2 G lo x0 x3 (DV.p (PV.int IntKind.i64 (0))) σ
 ) := (loopF_eq G hG).trans (by kernel_rfl)
theorem f17_L2_eq (G : GuardT) (hG : GuardOk G) (lo : Nat) (x0 x3 x5 : DV) (σ : Store) : f17_L2 G lo x0 x3 x5 σ =
 (indexAddr PP 27 x0 x3).bind fun x46 =>
 (load PP 48 x46 σ).bind fun x47 =>
 (len PP 48 x47 σ).bind fun x48 =>
 (binOp PP .lss 3 x5 x48).bind fun x49 =>
 condK x49
 (
 f17_L3 G lo x0 x3 x5 (DV.p (PV.int IntKind.i64 (0))) σ
 )
 (
 (binOp PP .add 3 x3 (DV.p (PV.int IntKind.i64 (1)))).bind fun x18 =>
 f17_L0 G lo x0 x18 σ
 ) := (loopF_eq G hG).trans (by kernel_rfl)
theorem f17_L3_eq (G : GuardT) (hG : GuardOk G) (lo : Nat) (x0 x3 x5 x6 : DV) (σ : Store) : f17_L3 G lo x0 x3 x5 x6 σ =
 (indexAddr PP 27 x0 x3).bind fun x55 =>
 (load PP 48 x55 σ).bind fun x56 =>
 (indexAddr PP 48 x56 x5).bind fun x58 =>
 (load PP 22 x58 σ).bind fun x59 =>
 (len PP 22 x59 σ).bind fun x60 =>
 (binOp PP .lss 3 x6 x60).bind fun x61 =>
 condK x61
 (
 (indexAddr PP 27 x0 x3).bind fun x66 =>
 (load PP 48 x66 σ).bind fun x67 =>
 (indexAddr PP 48 x67 x5).bind fun x69 =>
 (load PP 22 x69 σ).bind fun x70 =>
 (indexAddr PP 22 x70 x6).bind fun x72 =>
 (load PP 3 x72 σ).bind fun x73 =>
 (len PP 27 x0 σ).bind fun x75 =>
 (binOp PP .sub 3 x75 (DV.p (PV.int IntKind.i64 (1)))).bind fun x76 =>
 (pureFn CC (DV.fn 57 []) [x73, (DV.p (PV.int IntKind.i64 (-1))), x76] σ).bind fun x77 =>
 (unOp .not x77).bind fun x78 =>
 condK x78
 (
 some ((DV.p (PV.int IntKind.i64 (3))), σ)
 )
 (
 (binOp PP .add 3 x6 (DV.p (PV.int IntKind.i64 (1)))).bind fun x63 =>
 f17_L3 G lo x0 x3 x5 x63 σ
 )
 )
 (
 (binOp PP .add 3 x5 (DV.p (PV.int IntKind.i64 (1)))).bind fun x51 =>
 f17_L2 G lo x0 x3 x51 σ
 ) := (loopF_eq G hG).trans (by kernel_rfl)
theorem F17_eq (G : GuardT) (lo : Nat) (x0 : DV) (σ : Store) : F17 G lo x0 σ =
 (len PP 27 x0 σ).bind fun x8 =>
 (binOp PP .eql 3 x8 (DV.p (PV.int IntKind.i64 (0)))).bind fun x9 =>
 condK x9
 (
 some ((DV.p (PV.int IntKind.i64 (1))), σ)
 )
 (
 (len PP 27 x0 σ).bind fun x11 =>
 (binOp PP .gtr 3 x11 (DV.p (PV.int IntKind.i64 (6)))).bind fun x12 =>
 condK x12
 (
 some ((DV.p (PV.int IntKind.i64 (2))), σ)
 )
 (
 f17_L0 G lo x0 (DV.p (PV.int IntKind.i64 (0))) σ
 )
 ) := by kernel_rfl
theorem F17_call {lo : Nat} {x0 : DV} {σ : Store} {r : DV × Store} (h : F17 guardT lo x0 σ = some r) : CC lo 17 [x0] σ = some r :=
 callL_run Go.Proofs.Try.func17 (by decide +kernel) rfl (by decide +kernel) h
noncomputable def c33_0 : Code := bodyOf Go.Proofs.Try.f33
noncomputable def a33_0 : Ann := (pol 33).ann
noncomputable def a33_15 : Ann := right (left (right (right a33_0)))
noncomputable def a33_16 : Ann := left a33_15
noncomputable def c33_17 : Code := fstC (fstC (sndC (fstC (sndC (sndC c33_0)))))
noncomputable def c33_43 : Code := sndC (sndC (sndC c33_0))
noncomputable def a33_43 : Ann := right (right (right a33_0))
noncomputable def f33_L0 (G : GuardT) (lo : Nat) (x1 x23 x24 x25 : DV) (σ : Store) : Option (DV × Store) :=
 codeF G PP (pol 33) CC lo (.loop c33_17) a33_16 [Z, x1, Z, Z, Z, Z, Z, Z, Z, Z, Z, Z, Z, Z, Z, Z, Z, Z, Z, Z, Z, Z, Z, x23, x24, x25, Z, Z, Z, Z, Z, Z, Z, Z, Z, Z, Z, Z, Z, Z, Z, Z, Z, Z, Z, Z, Z, Z, Z, Z, Z, Z] σ
 (blockC 0 a33_15 (seqC G PP (pol 33) CC lo c33_43 a33_43 (finR PP Go.Proofs.Try.f33.results.toList)))
noncomputable def F33 (G : GuardT) (lo : Nat) (x0 : DV) (σ : Store) : Option (DV × Store) :=
 codeF G PP (pol 33) CC lo c33_0 a33_0 [x0, Z, Z, Z, Z, Z, Z, Z, Z, Z, Z, Z, Z, Z, Z, Z, Z, Z, Z, Z, Z, Z, Z, Z, Z, Z, Z, Z, Z, Z, Z, Z, Z, Z, Z, Z, Z, Z, Z, Z, Z, Z, Z, Z, Z, Z, Z, Z, Z, Z, Z, Z] σ (finR PP Go.Proofs.Try.f33.results.toList)
theorem f33_L0_eq (G : GuardT) (hG : GuardOk G) (lo : Nat) (x1 x23 x24 x25 : DV) (σ : Store) : f33_L0 G lo x1 x23 x24 x25 σ =
 (binOp PP .lss 3 x25 x24).bind fun x26 =>
 condK x26
 (
 (indexAddr PP 27 x23 x25).bind fun x27 =>
 (load PP 48 x27 σ).bind fun x28 =>
 (len PP 48 x28 σ).bind fun x30 =>
 (binOp PP .eql 3 x30 (DV.p (PV.int IntKind.i64 (3)))).bind fun x31 =>
 G _ x31 true (some (x28, σ)) σ fun x33 σ2 =>
 G _ x31 true ((pureFn CC (DV.fn 90 []) [x33, (DV.fn 91 [])] σ2).bind fun v => some (v, σ2)) σ2 fun x34 σ3 =>
 G _ x31 true ((unOp .not x34).bind fun v => some (v, σ3)) σ3 fun x35 σ4 =>
 (pickV x31 x35 (DV.p (PV.bool false))).bind fun x36 =>
 (zeroOf PP 104).bind fun z7 =>
 (store PP lo 104 (DV.ptr (List.length σ4) 0) (DV.fn 92 [x1]) (σ4 ++ [Row.mix z7])).bind fun σ5 =>
 (pureFn CC (DV.fn 90 []) [x28, (DV.fn 93 [(DV.ptr (List.length σ4) 0)])] σ5).bind fun x40 =>
 (unOp .not x40).bind fun x41 =>
 (pureFn CC (DV.fn 54 []) [x36, (DV.p (PV.int IntKind.i64 (6)))] σ5).bind fun x43 =>
 (pureFn CC (DV.fn 54 []) [x41, (DV.p (PV.int IntKind.i64 (3)))] σ5).bind fun x45 =>
 (buildSlice PP none 160 2 [(0, x43), (1, x45)] σ5).bind fun r46_6 =>
 (pureFn CC (DV.fn 52 []) [r46_6.1] r46_6.2).bind fun x47 =>
 (binOp PP .neq 34 x47 (DV.p (PV.int IntKind.i64 (0)))).bind fun x49 =>
 condK x49
 (
 some (x47, r46_6.2)
 )
 (
 (binOp PP .add 3 x25 (DV.p (PV.int IntKind.i64 (1)))).bind fun x51 =>
 f33_L0 G lo x1 x23 x24 x51 r46_6.2
 )
 )
 (
 some ((DV.p (PV.int IntKind.i64 (0))), σ)
 ) := (loopF_eq G hG).trans (by kernel_rfl)
theorem F33_eq (G : GuardT) (lo : Nat) (x0 : DV) (σ : Store) : F33 G lo x0 σ =
 (boxV x0).bind fun z1 =>
 (load PP 27 (DV.ptr (List.length σ) 0) (σ ++ [Row.mix z1])).bind fun x10 =>
 (len PP 27 x10 (σ ++ [Row.mix z1])).bind fun x11 =>
 (binOp PP .gtr 3 x11 (DV.p (PV.int IntKind.i64 (0)))).bind fun x12 =>
 (pureFn CC (DV.fn 54 []) [x12, (DV.p (PV.int IntKind.i64 (1)))] (σ ++ [Row.mix z1])).bind fun x13 =>
 (load PP 27 (DV.ptr (List.length σ) 0) (σ ++ [Row.mix z1])).bind fun x14 =>
 (len PP 27 x14 (σ ++ [Row.mix z1])).bind fun x15 =>
 (binOp PP .leq 3 x15 (DV.p (PV.int IntKind.i64 (6)))).bind fun x16 =>
 (pureFn CC (DV.fn 54 []) [x16, (DV.p (PV.int IntKind.i64 (2)))] (σ ++ [Row.mix z1])).bind fun x17 =>
 (buildSlice PP none 160 2 [(0, x13), (1, x17)] (σ ++ [Row.mix z1])).bind fun r18_1 =>
 (pureFn CC (DV.fn 52 []) [r18_1.1] r18_1.2).bind fun x19 =>
 (binOp PP .neq 34 x19 (DV.p (PV.int IntKind.i64 (0)))).bind fun x21 =>
 condK x21
 (
 some (x19, r18_1.2)
 )
 (
 (load PP 27 (DV.ptr (List.length σ) 0) r18_1.2).bind fun x23 =>
 (len PP 27 x23 r18_1.2).bind fun x24 =>
 f33_L0 G lo (DV.ptr (List.length σ) 0) x23 x24 (DV.p (PV.int IntKind.i64 (0))) r18_1.2
 ) := by kernel_rfl
theorem F33_call {lo : Nat} {x0 : DV} {σ : Store} {r : DV × Store} (h : F33 guardT lo x0 σ = some r) : CC lo 33 [x0] σ = some r :=
 callL_run Go.Proofs.Try.func33 (by decide +kernel) rfl (by decide +kernel) h
noncomputable def c15_0 : Code := bodyOf Go.Proofs.Try.f15
noncomputable def a15_0 : Ann := (pol 15).ann
noncomputable def a15_7 : Ann := right (left (right (right a15_0)))
noncomputable def a15_8 : Ann := left a15_7
noncomputable def c15_9 : Code := fstC (fstC (sndC (fstC (sndC (sndC c15_0)))))
noncomputable def c15_19 : Code := sndC (sndC (sndC c15_0))
noncomputable def a15_19 : Ann := right (right (right a15_0))
noncomputable def f15_L0 (G : GuardT) (lo : Nat) (x0 x3 x4 : DV) (σ : Store) : Option (DV × Store) :=
 codeF G PP (pol 15) CC lo (.loop c15_9) a15_8 [x0, Z, Z, x3, x4, Z, Z, Z, Z, Z, Z, Z, Z, Z, Z, Z, Z, Z, Z, Z] σ
 (blockC 0 a15_7 (seqC G PP (pol 15) CC lo c15_19 a15_19 (finR PP Go.Proofs.Try.f15.results.toList)))
noncomputable def F15 (G : GuardT) (lo : Nat) (x0 : DV) (σ : Store) : Option (DV × Store) :=
 codeF G PP (pol 15) CC lo c15_0 a15_0 [x0, Z, Z, Z, Z, Z, Z, Z, Z, Z, Z, Z, Z, Z, Z, Z, Z, Z, Z, Z] σ (finR PP Go.Proofs.Try.f15.results.toList)
theorem f15_L0_eq (G : GuardT) (hG : GuardOk G) (lo : Nat) (x0 x3 x4 : DV) (σ : Store) : f15_L0 G lo x0 x3 x4 σ =
 (len PP 27 x0 σ).bind fun x7 =>
 (binOp PP .lss 3 x4 x7).bind fun x8 =>
 condK x8
 (
 (indexAddr PP 27 x0 x4).bind fun x14 =>
 (load PP 48 x14 σ).bind fun x15 =>
 (pureFn CC (DV.fn 56 []) [x15] σ).bind fun x16 =>
 (buildSlice PP none 27 1 [(0, x16)] σ).bind fun r17_1 =>
 (append PP lo false 27 27 x3 r17_1.1 r17_1.2).bind fun r18_2 =>
 (binOp PP .add 3 x4 (DV.p (PV.int IntKind.i64 (1)))).bind fun x10 =>
 f15_L0 G lo x0 r18_2.1 x10 r18_2.2
 )
 (
 some (x3, σ)
 ) := (loopF_eq G hG).trans (by kernel_rfl)
theorem F15_eq (G : GuardT) (lo : Nat) (x0 : DV) (σ : Store) : F15 G lo x0 σ =
 f15_L0 G lo x0 (DV.p PV.nilsl) (DV.p (PV.int IntKind.i64 (0))) σ := by kernel_rfl
theorem F15_call {lo : Nat} {x0 : DV} {σ : Store} {r : DV × Store} (h : F15 guardT lo x0 σ = some r) : CC lo 15 [x0] σ = some r :=
 callL_run Go.Proofs.Try.func15 (by decide +kernel) rfl (by decide +kernel) h
noncomputable def c95_0 : Code := bodyOf Go.Proofs.Try.f95
noncomputable def a95_0 : Ann := (pol 95).ann
noncomputable def a95_7 : Ann := right (left (right (right a95_0)))
noncomputable def a95_8 : Ann := left a95_7
noncomputable def c95_9 : Code := fstC (fstC (sndC (fstC (sndC (sndC c95_0)))))
noncomputable def a95_16 : Ann := left (right (right (left a95_8)))
noncomputable def a95_24 : Ann := right (left (right (right (left a95_16))))
noncomputable def a95_25 : Ann := left a95_24
noncomputable def c95_26 : Code := fstC (fstC (sndC (fstC (sndC (sndC (fstC (fstC (sndC (sndC c95_9)))))))))
noncomputable def a95_33 : Ann := left (right (right (left a95_25)))
noncomputable def a95_38 : Ann := right (right (left a95_33))
noncomputable def a95_39 : Ann := left a95_38
noncomputable def c95_40 : Code := fstC (fstC (sndC (sndC (fstC (fstC (sndC (sndC c95_26)))))))
noncomputable def c95_52 : Code := sndC (sndC (sndC c95_26))
noncomputable def a95_52 : Ann := right (right (right (left a95_25)))
noncomputable def c95_53 : Code := sndC (sndC (sndC (fstC (fstC (sndC (sndC c95_9))))))
noncomputable def a95_53 : Ann := right (right (right (left a95_16)))
noncomputable def c95_54 : Code := sndC (sndC (sndC c95_9))
noncomputable def a95_54 : Ann := right (right (right (left a95_8)))
noncomputable def c95_55 : Code := sndC (sndC (sndC c95_0))
noncomputable def a95_55 : Ann := right (right (right a95_0))
noncomputable def f95_L0 (G : GuardT) (lo : Nat) (x3 x10 x11 x12 : DV) (σ : Store) : Option (DV × Store) :=
 codeF G PP (pol 95) CC lo (.loop c95_9) a95_8 [Z, Z, Z, x3, Z, Z, Z, Z, Z, Z, x10, x11, x12, Z, Z, Z, Z, Z, Z, Z, Z, Z, Z, Z, Z, Z, Z, Z, Z, Z, Z, Z, Z, Z, Z, Z, Z, Z, Z, Z, Z, Z, Z, Z, Z, Z, Z, Z, Z] σ
 (blockC 0 a95_7 (seqC G PP (pol 95) CC lo c95_55 a95_55 (finR PP Go.Proofs.Try.f95.results.toList)))
noncomputable def f95_L1 (G : GuardT) (lo : Nat) (x3 x5 x6 x10 x11 x12 x18 x19 : DV) (σ : Store) : Option (DV × Store) :=
 codeF G PP (pol 95) CC lo (.loop c95_26) a95_25 [Z, Z, Z, x3, Z, x5, x6, Z, Z, Z, x10, x11, x12, Z, Z, Z, Z, Z, x18, x19, Z, Z, Z, Z, Z, Z, Z, Z, Z, Z, Z, Z, Z, Z, Z, Z, Z, Z, Z, Z, Z, Z, Z, Z, Z, Z, Z, Z, Z] σ
 (blockC 2 a95_24 (seqC G PP (pol 95) CC lo c95_53 a95_53 (blockC 1 a95_16 (seqC G PP (pol 95) CC lo c95_54 a95_54 (loopC G PP (pol 95) CC lo c95_9 a95_8 (blockC 0 a95_7 (seqC G PP (pol 95) CC lo c95_55 a95_55 (finR PP Go.Proofs.Try.f95.results.toList))))))))
noncomputable def f95_L2 (G : GuardT) (lo : Nat) (x3 x5 x6 x7 x10 x11 x12 x18 x19 x22 x23 x24 : DV) (σ : Store) : Option (DV × Store) :=
 codeF G PP (pol 95) CC lo (.loop c95_40) a95_39 [Z, Z, Z, x3, Z, x5, x6, x7, Z, Z, x10, x11, x12, Z, Z, Z, Z, Z, x18, x19, Z, Z, x22, x23, x24, Z, Z, Z, Z, Z, Z, Z, Z, Z, Z, Z, Z, Z, Z, Z, Z, Z, Z, Z, Z, Z, Z, Z, Z] σ
 (blockC 4 a95_38 (blockC 3 a95_33 (seqC G PP (pol 95) CC lo c95_52 a95_52 (loopC G PP (pol 95) CC lo c95_26 a95_25 (blockC 2 a95_24 (seqC G PP (pol 95) CC lo c95_53 a95_53 (blockC 1 a95_16 (seqC G PP (pol 95) CC lo c95_54 a95_54 (loopC G PP (pol 95) CC lo c95_9 a95_8 (blockC 0 a95_7 (seqC G PP (pol 95) CC lo c95_55 a95_55 (finR PP Go.Proofs.Try.f95.results.toList))))))))))))
noncomputable def F95 (G : GuardT) (lo : Nat) (x0 : DV) (σ : Store) : Option (DV × Store) :=
 codeF G PP (pol 95) CC lo c95_0 a95_0 [x0, Z, Z, Z, Z, Z, Z, Z, Z, Z, Z, Z, Z, Z, Z, Z, Z, Z, Z, Z, Z, Z, Z, Z, Z, Z, Z, Z, Z, Z, Z, Z, Z, Z, Z, Z, Z, Z, Z, Z, Z, Z, Z, Z, Z, Z, Z, Z, Z] σ (finR PP Go.Proofs.Try.f95.results.toList)
theorem f95_L0_eq (G : GuardT) (hG : GuardOk G) (lo : Nat) (x3 x10 x11 x12 : DV) (σ : Store) : f95_L0 G lo x3 x10 x11 x12 σ =
 (binOp PP .lss 3 x12 x11).bind fun x13 =>
 condK x13
 (
 (indexAddr PP 27 x10 x12).bind fun x14 =>
 (load PP 48 x14 σ).bind fun x15 =>
 (makeSlice PP true 48 (DV.p (PV.int IntKind.i64 (3))) (DV.p (PV.int IntKind.i64 (3))) σ).bind fun r16_1 =>
 (len PP 48 r16_1.1 r16_1.2).bind fun x18 =>
 f95_L1 G lo x3 x15 r16_1.1 x10 x11 x12 x18 (DV.p (PV.int IntKind.i64 (0))) r16_1.2
 )
 (
 some (x3, σ)
 ) := (loopF_eq G hG).trans (by kernel_rfl)
theorem f95_L1_eq (G : GuardT) (hG : GuardOk G) (lo : Nat) (x3 x5 x6 x10 x11 x12 x18 x19 : DV) (σ : Store) : f95_L1 G lo x3 x5 x6 x10 x11 x12 x18 x19 σ =
 (binOp PP .lss 3 x19 x18).bind fun x20 =>
 condK x20
 (
 (len PP 48 x5 σ).bind fun x23 =>
 f95_L2 G lo x3 x5 x6 x19 x10 x11 x12 x18 x19 x5 x23 (DV.p (PV.int IntKind.i64 (0))) σ
 )
 (
 (buildSlice PP (some true) 27 1 [(0, x6)] σ).bind fun r45_5 =>
 (append PP lo true 27 27 x3 r45_5.1 r45_5.2).bind fun r46_6 =>
 (binOp PP .add 3 x12 (DV.p (PV.int IntKind.i64 (1)))).bind fun x47 =>
 f95_L0 G lo r46_6.1 x10 x11 x47 r46_6.2
 ) := (loopF_eq G hG).trans (by kernel_rfl)
theorem f95_L2_eq (G : GuardT) (hG : GuardOk G) (lo : Nat) (x3 x5 x6 x7 x10 x11 x12 x18 x19 x22 x23 x24 : DV) (σ : Store) : f95_L2 G lo x3 x5 x6 x7 x10 x11 x12 x18 x19 x22 x23 x24 σ =
 (binOp PP .lss 3 x24 x23).bind fun x25 =>
 condK x25
 (
 (indexAddr PP 48 x22 x24).bind fun x26 =>
 (load PP 22 x26 σ).bind fun x27 =>
 (indexAddr PP 48 x6 x7).bind fun x32 =>
 (load PP 22 x32 σ).bind fun x33 =>
 (indexAddr PP 22 x27 x7).bind fun x36 =>
 (load PP 3 x36 σ).bind fun x37 =>
 (buildSlice PP none 22 1 [(0, x37)] σ).bind fun r38_2 =>
 (append PP lo false 22 22 x33 r38_2.1 r38_2.2).bind fun r39_3 =>
 (indexAddr PP 48 x6 x7).bind fun x40 =>
 (store PP lo 22 x40 r39_3.1 r39_3.2).bind fun σ4 =>
 (binOp PP .add 3 x24 (DV.p (PV.int IntKind.i64 (1)))).bind fun x41 =>
 f95_L2 G lo x3 x5 x6 x7 x10 x11 x12 x18 x19 x22 x23 x41 σ4
 )
 (
 (binOp PP .add 3 x19 (DV.p (PV.int IntKind.i64 (1)))).bind fun x42 =>
 f95_L1 G lo x3 x5 x6 x10 x11 x12 x18 x42 σ
 ) := (loopF_eq G hG).trans (by kernel_rfl)
theorem F95_eq (G : GuardT) (lo : Nat) (x0 : DV) (σ : Store) : F95 G lo x0 σ =
 (len PP 27 x0 σ).bind fun x11 =>
 f95_L0 G lo (DV.p PV.nilsl) x0 x11 (DV.p (PV.int IntKind.i64 (0))) σ := by kernel_rfl
theorem F95_call {lo : Nat} {x0 : DV} {σ : Store} {r : DV × Store} (h : F95 guardT lo x0 σ = some r) : CC lo 95 [x0] σ = some r :=
 callL_run Go.Proofs.Try.func95 (by decide +kernel) rfl (by decide +kernel) h
noncomputable def c56_0 : Code := bodyOf Go.Proofs.Try.f56
noncomputable def a56_0 : Ann := (pol 56).ann
noncomputable def a56_7 : Ann := right (left (right (right a56_0)))
noncomputable def a56_8 : Ann := left a56_7
noncomputable def c56_9 : Code := fstC (fstC (sndC (fstC (sndC (sndC c56_0)))))
noncomputable def c56_19 : Code := sndC (sndC (sndC c56_0))
noncomputable def a56_19 : Ann := right (right (right a56_0))
noncomputable def f56_L0 (G : GuardT) (lo : Nat) (x0 x3 x4 : DV) (σ : Store) : Option (DV × Store) :=
 codeF G PP (pol 56) CC lo (.loop c56_9) a56_8 [x0, Z, Z, x3, x4, Z, Z, Z, Z, Z, Z, Z, Z, Z, Z, Z, Z, Z, Z, Z] σ
 (blockC 0 a56_7 (seqC G PP (pol 56) CC lo c56_19 a56_19 (finR PP Go.Proofs.Try.f56.results.toList)))
noncomputable def F56 (G : GuardT) (lo : Nat) (x0 : DV) (σ : Store) : Option (DV × Store) :=
 codeF G PP (pol 56) CC lo c56_0 a56_0 [x0, Z, Z, Z, Z, Z, Z, Z, Z, Z, Z, Z, Z, Z, Z, Z, Z, Z, Z, Z] σ (finR PP Go.Proofs.Try.f56.results.toList)
theorem f56_L0_eq (G : GuardT) (hG : GuardOk G) (lo : Nat) (x0 x3 x4 : DV) (σ : Store) : f56_L0 G lo x0 x3 x4 σ =
 (len PP 48 x0 σ).bind fun x7 =>
 (binOp PP .lss 3 x4 x7).bind fun x8 =>
 condK x8
 (
 (indexAddr PP 48 x0 x4).bind fun x14 =>
 (load PP 22 x14 σ).bind fun x15 =>
 (pureFn CC (DV.fn 55 []) [x15] σ).bind fun x16 =>
 (buildSlice PP none 48 1 [(0, x16)] σ).bind fun r17_1 =>
 (append PP lo false 48 48 x3 r17_1.1 r17_1.2).bind fun r18_2 =>
 (binOp PP .add 3 x4 (DV.p (PV.int IntKind.i64 (1)))).bind fun x10 =>
 f56_L0 G lo x0 r18_2.1 x10 r18_2.2
 )
 (
 some (x3, σ)
 ) := (loopF_eq G hG).trans (by kernel_rfl)
theorem F56_eq (G : GuardT) (lo : Nat) (x0 : DV) (σ : Store) : F56 G lo x0 σ =
 f56_L0 G lo x0 (DV.p PV.nilsl) (DV.p (PV.int IntKind.i64 (0))) σ := by kernel_rfl
theorem F56_call {lo : Nat} {x0 : DV} {σ : Store} {r : DV × Store} (h : F56 guardT lo x0 σ = some r) : CC lo 56 [x0] σ = some r :=
 callL_run Go.Proofs.Try.func56 (by decide +kernel) rfl (by decide +kernel) h
noncomputable def c90_0 : Code := bodyOf Go.Proofs.Try.f90
noncomputable def a90_0 : Ann := (pol 90).ann
noncomputable def F90 (G : GuardT) (lo : Nat) (x0 x1 : DV) (σ : Store) : Option (DV × Store) :=
 codeF G PP (pol 90) CC lo c90_0 a90_0 [x0, x1, Z, Z, Z, Z, Z, Z, Z] σ (finR PP Go.Proofs.Try.f90.results.toList)
theorem F90_eq (G : GuardT) (lo : Nat) (x0 x1 : DV) (σ : Store) : F90 G lo x0 x1 σ =
 (pureFn CC (DV.fn 121 []) [x0, x1] σ).bind fun x7 =>
 (binOp PP .geq 3 x7 (DV.p (PV.int IntKind.i64 (0)))).bind fun x8 =>
 some (x8, σ) := by kernel_rfl
theorem F90_call {lo : Nat} {x0 x1 : DV} {σ : Store} {r : DV × Store} (h : F90 guardT lo x0 x1 σ = some r) : CC lo 90 [x0, x1] σ = some r :=
 callL_run Go.Proofs.Try.func90 (by decide +kernel) rfl (by decide +kernel) h
noncomputable def c91_0 : Code := bodyOf Go.Proofs.Try.f91
noncomputable def a91_0 : Ann := (pol 91).ann
noncomputable def F91 (G : GuardT) (lo : Nat) (x0 : DV) (σ : Store) : Option (DV × Store) :=
 codeF G PP (pol 91) CC lo c91_0 a91_0 [x0, Z, Z, Z, Z, Z] σ (finR PP Go.Proofs.Try.f91.results.toList)
theorem F91_eq (G : GuardT) (lo : Nat) (x0 : DV) (σ : Store) : F91 G lo x0 σ =
 (len PP 22 x0 σ).bind fun x4 =>
 (binOp PP .neq 3 x4 (DV.p (PV.int IntKind.i64 (3)))).bind fun x5 =>
 some (x5, σ) := by kernel_rfl
theorem F91_call {lo : Nat} {x0 : DV} {σ : Store} {r : DV × Store} (h : F91 guardT lo x0 σ = some r) : CC lo 91 [x0] σ = some r :=
 callL_run Go.Proofs.Try.func91 (by decide +kernel) rfl (by decide +kernel) h
noncomputable def c92_0 : Code := bodyOf Go.Proofs.Try.f92
noncomputable def a92_0 : Ann := (pol 92).ann
noncomputable def F92 (G : GuardT) (lo : Nat) (x0 x1 : DV) (σ : Store) : Option (DV × Store) :=
 codeF G PP (pol 92) CC lo c92_0 a92_0 [x0, x1, Z, Z, Z, Z, Z, Z, Z, Z] σ (finR PP Go.Proofs.Try.f92.results.toList)
theorem F92_eq (G : GuardT) (lo : Nat) (x0 x1 : DV) (σ : Store) : F92 G lo x0 x1 σ =
 (load PP 27 x1 σ).bind fun x5 =>
 (len PP 27 x5 σ).bind fun x6 =>
 (binOp PP .sub 3 x6 (DV.p (PV.int IntKind.i64 (1)))).bind fun x7 =>
 (pureFn CC (DV.fn 79 []) [x0, (DV.p (PV.int IntKind.i64 (-1))), x7] σ).bind fun x8 =>
 (unOp .not x8).bind fun x9 =>
 some (x9, σ) := by kernel_rfl
theorem F92_call {lo : Nat} {x0 x1 : DV} {σ : Store} {r : DV × Store} (h : F92 guardT lo x0 x1 σ = some r) : CC lo 92 [x0, x1] σ = some r :=
 callL_run Go.Proofs.Try.func92 (by decide +kernel) rfl (by decide +kernel) h
noncomputable def c93_0 : Code := bodyOf Go.Proofs.Try.f93
noncomputable def a93_0 : Ann := (pol 93).ann
noncomputable def F93 (G : GuardT) (lo : Nat) (x0 x1 : DV) (σ : Store) : Option (DV × Store) :=
 codeF G PP (pol 93) CC lo c93_0 a93_0 [x0, x1, Z, Z, Z, Z, Z] σ (finR PP Go.Proofs.Try.f93.results.toList)
theorem F93_eq (G : GuardT) (lo : Nat) (x0 x1 : DV) (σ : Store) : F93 G lo x0 x1 σ =
 (load PP 104 x1 σ).bind fun x5 =>
 (pureFn CC (DV.fn 80 []) [x0, x5] σ).bind fun x6 =>
 some (x6, σ) := by kernel_rfl
theorem F93_call {lo : Nat} {x0 x1 : DV} {σ : Store} {r : DV × Store} (h : F93 guardT lo x0 x1 σ = some r) : CC lo 93 [x0, x1] σ = some r :=
 callL_run Go.Proofs.Try.func93 (by decide +kernel) rfl (by decide +kernel) h
noncomputable def c94_0 : Code := bodyOf Go.Proofs.Try.f94
noncomputable def a94_0 : Ann := (pol 94).ann
noncomputable def F94 (G : GuardT) (lo : Nat) (x0 x1 x2 : DV) (σ : Store) : Option (DV × Store) :=
 codeF G PP (pol 94) CC lo c94_0 a94_0 [x0, x1, x2, Z, Z, Z, Z, Z, Z, Z, Z, Z, Z, Z, Z, Z, Z, Z, Z] σ (finR PP Go.Proofs.Try.f94.results.toList)
theorem F94_eq (G : GuardT) (lo : Nat) (x0 x1 x2 : DV) (σ : Store) : F94 G lo x0 x1 x2 σ =
 (boxV x2).bind fun z5 =>
 (indexAddr PP 27 x0 x1).bind fun x9 =>
 (load PP 48 x9 (σ ++ [Row.mix z5])).bind fun x10 =>
 (fieldAddr PP 98 (DV.ptr (List.length σ) 0) 0).bind fun x11 =>
 (load PP 3 x11 (σ ++ [Row.mix z5])).bind fun x12 =>
 (indexAddr PP 48 x10 x12).bind fun x13 =>
 (load PP 22 x13 (σ ++ [Row.mix z5])).bind fun x14 =>
 (fieldAddr PP 98 (DV.ptr (List.length σ) 0) 1).bind fun x15 =>
 (load PP 3 x15 (σ ++ [Row.mix z5])).bind fun x16 =>
 (indexAddr PP 22 x14 x16).bind fun x17 =>
 (load PP 3 x17 (σ ++ [Row.mix z5])).bind fun x18 =>
 some (x18, (σ ++ [Row.mix z5])) := by kernel_rfl
theorem F94_call {lo : Nat} {x0 x1 x2 : DV} {σ : Store} {r : DV × Store} (h : F94 guardT lo x0 x1 x2 σ = some r) : CC lo 94 [x0, x1, x2] σ = some r :=
 callL_run Go.Proofs.Try.func94 (by decide +kernel) rfl (by decide +kernel) h
noncomputable def c121_0 : Code := bodyOf Go.Proofs.Try.f121
noncomputable def a121_0 : Ann := (pol 121).ann
noncomputable def a121_5 : Ann := right (left (right a121_0))
noncomputable def a121_6 : Ann := left a121_5
noncomputable def c121_7 : Code := fstC (fstC (sndC (fstC (sndC c121_0))))
noncomputable def c121_25 : Code := sndC (sndC c121_0)
noncomputable def a121_25 : Ann := right (right a121_0)
noncomputable def f121_L0 (G : GuardT) (lo : Nat) (x0 x1 x7 x8 : DV) (σ : Store) : Option (DV × Store) :=
 codeF G PP (pol 121) CC lo (.loop c121_7) a121_6 [x0, x1, Z, Z, Z, Z, Z, x7, x8, Z, Z, Z, Z, Z, Z, Z, Z, Z, Z] σ
 (blockC 0 a121_5 (seqC G PP (pol 121) CC lo c121_25 a121_25 (finR PP Go.Proofs.Try.f121.results.toList)))
noncomputable def F121 (G : GuardT) (lo : Nat) (x0 x1 : DV) (σ : Store) : Option (DV × Store) :=
 codeF G PP (pol 121) CC lo c121_0 a121_0 [x0, x1, Z, Z, Z, Z, Z, Z, Z, Z, Z, Z, Z, Z, Z, Z, Z, Z, Z] σ (finR PP Go.Proofs.Try.f121.results.toList)
theorem f121_L0_eq (G : GuardT) (hG : GuardOk G) (lo : Nat) (x0 x1 x7 x8 : DV) (σ : Store) : f121_L0 G lo x0 x1 x7 x8 σ =
 (binOp PP .lss 3 x8 x7).bind fun x9 =>
 condK x9
 (
 (indexAddr PP 48 x0 x8).bind fun x14 =>
 (load PP 22 x14 σ).bind fun x15 =>
 (pureFn CC x1 [x15] σ).bind fun x16 =>
 condK x16
 (
 some (x8, σ)
 )
 (
 (binOp PP .add 3 x8 (DV.p (PV.int IntKind.i64 (1)))).bind fun x18 =>
 f121_L0 G lo x0 x1 x7 x18 σ
 )
 )
 (
 some ((DV.p (PV.int IntKind.i64 (-1))), σ)
 ) := (loopF_eq G hG).trans (by kernel_rfl)
theorem F121_eq (G : GuardT) (lo : Nat) (x0 x1 : DV) (σ : Store) : F121 G lo x0 x1 σ =
 (len PP 48 x0 σ).bind fun x7 =>
 f121_L0 G lo x0 x1 x7 (DV.p (PV.int IntKind.i64 (0))) σ := by kernel_rfl
theorem F121_call {lo : Nat} {x0 x1 : DV} {σ : Store} {r : DV × Store} (h : F121 guardT lo x0 x1 σ = some r) : CC lo 121 [x0, x1] σ = some r :=
 callL_run Go.Proofs.Try.func121 (by decide +kernel) rfl (by decide +kernel) h
end Go.D
end
/- What functions of the library and of the reference's base answer: turned from the texts of chapter 21. -/
section
set_option linter.unusedVariables false
set_option linter.unusedSimpArgs false
namespace Go.D
def inR (n a b : Int) : Bool := decide (n ≥ a) && decide (n ≤ b)
theorem S79 (n a b : Int) (σ : Store) : pureV CC 79 [.p (pI n), .p (pI a), .p (pI b)] σ = some (.p (.bool (inR n a b))) := by
  refine pureV_free rfl rfl (F79_call (r := (.p (.bool (inR n a b)), [])) ?_) rfl
  rw [F79_eq]
  simp only [b_geq, b_leq, obind, inR]
  by_cases h : n ≥ a <;> simp [h, guard_tt, guard_ft, b_leq, pickV_true, pickV_false]
theorem S57 (n a b : Int) (σ : Store) : pureV CC 57 [.p (pI n), .p (pI a), .p (pI b)] σ = some (.p (.bool (inR n a b))) := by
  refine pureV_free rfl rfl (F57_call (r := (.p (.bool (inR n a b)), [])) ?_) rfl
  rw [F57_eq]
  simp only [b_geq, b_leq, obind, inR]
  by_cases h : n ≥ a <;> simp [h, guard_tt, guard_ft, b_leq, pickV_true, pickV_false]
theorem S54 (b : Bool) (e : Int) (σ : Store) : pureV CC 54 [.p (.bool b), .p (pI e)] σ = some (.p (pI (if b then 0 else e))) := by
  refine pureV_free rfl rfl (F54_call (r := (.p (pI (if b then 0 else e)), [])) ?_) rfl
  rw [F54_eq]
  cases b <;> rfl
theorem S134 (n : Int) (σ : Store) : pureV CC 134 [.p (pI n)] σ = some (.p (.bool false)) := by
  refine pureV_free rfl rfl (F134_call (r := (.p (.bool false), [])) ?_) rfl
  rw [F134_eq]
  simp [b_neq]
def cmpI (a b : Int) : Int := if a < b then -1 else if a > b then 1 else 0
theorem S112 (a b : Int) (σ : Store) : pureV CC 112 [.p (pI a), .p (pI b)] σ = some (.p (pI (cmpI a b))) := by
  refine pureV_free rfl rfl (F112_call (r := (.p (pI (cmpI a b)), [])) ?_) rfl
  rw [F112_eq]
  simp only [pureFn_fn, List.append_nil, S134, obind, condK_false, b_lss, b_gtr, cmpI]
  by_cases h : a < b
  · simp [h, condK_true, condK_if]
  · by_cases h2 : a > b <;> simp [h, h2, condK_true, condK_if]
theorem S106 (b : Bool) (σ : Store) : pureV CC 106 [.p (.bool b)] σ = some (.p (pI (if b then 1 else 0))) := by
  refine pureV_free rfl rfl (F106_call (r := (.p (pI (if b then 1 else 0)), [])) ?_) rfl
  rw [F106_eq]
  cases b <;> rfl
def idxFrom {α : Type} (q : α → Bool) : List α → Nat → Int
  | [], _ => -1
  | a :: l, i => if q a then (i : Int) else idxFrom q l (i + 1)
theorem idxFrom_ge {α : Type} (q : α → Bool) : ∀ (l : List α) (i : Nat), decide (idxFrom q l i ≥ 0) = l.any q
  | [], i => rfl
  | a :: l, i => by
    unfold idxFrom
    cases h : q a with
    | true => simp [h]
    | false => simp only [Bool.false_eq_true, if_false, idxFrom_ge q l, List.any_cons, h, Bool.false_or]
theorem drop_cons {α : Type} {l : List α} {i : Nat} (h : i < l.length) : l.drop i = l[i] :: l.drop (i + 1) := List.drop_eq_getElem_cons h
theorem L116 {o : Option (List Int)} {f : FuncId} {caps : List DV} {σ : Store} {lo : Nat} {q : Int → Bool} (hl : (L o).length ≤ 1000) (hq : ∀ v, pureV CC f (.p (pI v) :: caps) σ = some (.p (.bool (q v)))) :
    ∀ (k i : Nat), (L o).length - i = k → i ≤ (L o).length → f116_L0 guardT lo (.p (eSl o)) (.fn f caps) (.p (pI ((L o).length : Nat))) (.p (pI (i : Nat))) σ = some (.p (pI (idxFrom q ((L o).drop i) i)), σ)
  | 0, i, hk, hi => by
    have : i = (L o).length := by omega
    rw [f116_L0_eq guardT rfl]
    subst this
    simp [b_lss, condK_false, idxFrom]
  | k + 1, i, hk, hi => by
    have h : i < (L o).length := by omega
    have h' : (i : Int) < ((L o).length : Nat) := by omega
    rw [f116_L0_eq guardT rfl]
    simp only [b_lss, obind, h', decide_true, condK_true, idx22 h, load3, load1_ints h, pureFn_fn, List.singleton_append, hq]
    rw [drop_cons h]
    cases hqv : q (L o)[i] with
    | true => simp [condK_true, idxFrom, hqv]
    | false =>
      simp only [condK_false, b_add, obind, wrap_succ (show i ≤ 1000000 by omega), idxFrom, hqv, Bool.false_eq_true, if_false]
      exact L116 hl hq k (i + 1) (by omega) (by omega)
theorem fn_view (f : FuncId) (caps : List DV) : view (.fn f caps) = .fn f caps := rfl
theorem sl_view (o : Option (List Int)) : view (.p (eSl o)) = .p (eSl o) := by simp [view, viewCell, loosen_sl]
/-- The stores at which a closure is called. -/
abbrev AtSt (caps : List DV) (σ σ0 : Store) : Prop := (σ0 = [] ∧ caps.all rowFree1 = true) ∨ σ0 = σ
theorem S116 {o : Option (List Int)} {f : FuncId} {caps : List DV} {σ : Store} {q : Int → Bool} (hl : (L o).length ≤ 1000) (hq : ∀ σ0, AtSt caps σ σ0 → ∀ v, pureV CC f (.p (pI v) :: caps) σ0 = some (.p (.bool (q v)))) :
    pureV CC 116 [.p (eSl o), .fn f caps] σ = some (.p (pI (idxFrom q (L o) 0))) := by
  refine pureV_any (by simp [sl_view, fn_view]) fun lo σ0 hs => ⟨_, σ0, F116_call (r := (.p (pI (idxFrom q (L o) 0)), σ0)) ?_, rfl⟩
  have hat : AtSt caps σ σ0 := by
    rcases hs with ⟨h1, _, h3⟩ | ⟨h1, _, _⟩
    · exact .inl ⟨h1, by simpa [rowFree] using (by simpa [rowFree] using h3 : _ ∧ _).2⟩
    · exact .inr h1
  rw [F116_eq]
  simp only [len22, obind]
  have := L116 (lo := lo) hl (hq σ0 hat) _ 0 rfl (Nat.zero_le _)
  simpa using this
theorem S80 {o : Option (List Int)} {f : FuncId} {caps : List DV} {σ : Store} {q : Int → Bool} (hl : (L o).length ≤ 1000) (hq : ∀ σ0, AtSt caps σ σ0 → ∀ v, pureV CC f (.p (pI v) :: caps) σ0 = some (.p (.bool (q v)))) :
    pureV CC 80 [.p (eSl o), .fn f caps] σ = some (.p (.bool ((L o).any q))) := by
  refine pureV_any (by simp [sl_view, fn_view]) fun lo σ0 hs => ⟨_, σ0, F80_call (r := (.p (.bool ((L o).any q)), σ0)) ?_, rfl⟩
  have hat : ∀ σ1, AtSt caps σ0 σ1 → AtSt caps σ σ1 := by
    intro σ1 h
    rcases hs with ⟨h1, _, h3⟩ | ⟨h1, _, _⟩
    · rcases h with h | h
      · exact .inl h
      · exact .inl ⟨h.trans h1, by simpa [rowFree] using (by simpa [rowFree] using h3 : _ ∧ _).2⟩
    · rw [← h1]; exact h
  rw [F80_eq]
  simp only [pureFn_fn, List.append_nil, S116 hl fun σ1 h => hq σ1 (hat σ1 h), obind, b_geq, idxFrom_ge]
theorem load1_getD {l : List Int} {i : Nat} (h : i < l.length) (σ : Store) : load1 (.pptr (eInts l) i) σ = some (.p (pI (l.getD i 0))) := by
  rw [load1_ints h, List.getD_eq_getElem?_getD, List.getElem?_eq_getElem h]; rfl
theorem wrap_pred {i : Nat} (h : 0 < i) (h2 : i ≤ 1000000) : IntKind.wrap .i64 ((i : Int) - 1) = ((i - 1 : Nat) : Int) := by
  rw [wrap_ok] <;> omega
def edgD (e : Edg) : List DV := [.p (pI e.f), .p (pI e.t), .p (pI e.a)]
def orL : List Int → Int
  | [] => 0
  | a :: l => if a = 0 then orL l else a
def ordE (a b : Edg) : Int := orL [cmpI a.f b.f, cmpI a.t b.t, cmpI a.a b.a]
theorem pureV_view {call : CallF} {f : FuncId} {args args' : List DV} {σ : Store} (h : args.map view = args') (h2 : args'.map view = args') : pureV call f args σ = pureV call f args' σ := by
  unfold pureV
  rw [h, h2]
theorem L111 {o : Option (List Int)} {σ : Store} {lo : Nat} (hl : (L o).length ≤ 1000) :
    ∀ (k i : Nat), (L o).length - i = k → i ≤ (L o).length → f111_L0 guardT lo (.p (pI 0)) (.p (eSl o)) (.p (pI ((L o).length : Nat))) (.p (pI (i : Nat))) σ = some (.p (pI (orL ((L o).drop i))), σ)
  | 0, i, hk, hi => by
    have : i = (L o).length := by omega
    rw [f111_L0_eq guardT rfl]
    subst this
    simp [b_lss, condK_false, orL]
  | k + 1, i, hk, hi => by
    have h : i < (L o).length := by omega
    have h' : (i : Int) < ((L o).length : Nat) := by omega
    rw [f111_L0_eq guardT rfl]
    simp only [b_lss, obind, h', decide_true, condK_true, idx22 h, load3, load1_ints h, b_neq]
    rw [drop_cons h]
    by_cases hqv : (L o)[i] = 0
    · simp only [hqv, decide_true, Bool.not_true, condK_false, b_add, obind, wrap_succ (show i ≤ 1000000 by omega), orL, if_true]
      exact L111 hl k (i + 1) (by omega) (by omega)
    · simp [condK_true, orL, hqv]
theorem S111 {o : Option (List Int)} {σ : Store} (hl : (L o).length ≤ 1000) : pureV CC 111 [.p (eSl o)] σ = some (.p (pI (orL (L o)))) := by
  refine pureV_free (by simp [sl_view]) rfl (F111_call (r := (.p (pI (orL (L o))), [])) ?_) rfl
  rw [F111_eq]
  simp only [len22, obind]
  have := L111 (lo := 0) (σ := []) hl _ 0 rfl (Nat.zero_le _)
  simpa using this
theorem box_edg (e : Edg) : boxV (.agg (edgD e)) = some (edgD e) := rfl
theorem bs22_3 (x y z : Int) (σ : Store) : buildSlice PP none 22 3 [(0, .p (pI x)), (1, .p (pI y)), (2, .p (pI z))] σ = some (.p (.sl true 3 (eInts [x, y, z])), σ) := Eq.trans (by kernel_rfl) rfl
theorem sl3_view (x y z : Int) : view (.p (.sl true 3 (eInts [x, y, z]))) = .p (eSl (some [x, y, z])) := rfl
theorem get_snoc {σ : Store} {r : Row} : (σ ++ [r])[σ.length]? = some r := by simp
theorem get_old {σ : Store} {r : Row} {i : Nat} {x : Row} (h : σ[i]? = some x) : (σ ++ [r])[i]? = some x := by
  rw [List.getElem?_append_left (List.getElem?_eq_some_iff.1 h).1]; exact h
theorem S83 (a b : Edg) (σ : Store) : pureV CC 83 [.agg (edgD a), .agg (edgD b)] σ = some (.p (pI (ordE a b))) := by
  refine pureV_free rfl rfl (F83_call (r := (.p (pI (ordE a b)), [.mix (edgD a), .mix (edgD b)])) ?_) rfl
  rw [F83_eq]
  have g0 : ([Row.mix (edgD a), Row.mix (edgD b)] : Store)[0]? = some (.mix (edgD a)) := rfl
  have g1 : ([Row.mix (edgD a), Row.mix (edgD b)] : Store)[1]? = some (.mix (edgD b)) := rfl
  simp only [box_edg, obind, List.length_nil, List.nil_append, List.length_cons, List.cons_append, fa106_0, fa106_1, fa106_2, shift_ptr, load3, Nat.zero_add,
    load1_ptr (off := 0) g0 rfl, load1_ptr (off := 1) g0 rfl, load1_ptr (off := 2) g0 rfl, load1_ptr (off := 0) g1 rfl, load1_ptr (off := 1) g1 rfl, load1_ptr (off := 2) g1 rfl, pureFn_fn, List.append_nil, S112, bs22_3]
  rw [pureV_view (args' := [.p (eSl (some [cmpI a.f b.f, cmpI a.t b.t, cmpI a.a b.a]))]) (by simp [sl3_view]) (by simp [sl_view]), S111 (by simp)]
  rfl
theorem S60 (e : Edg) (σ : Store) : pureV CC 60 [.agg (edgD e)] σ = some (.p (eSl (some [e.f, e.t, e.a]))) := by
  refine pureV_free rfl rfl (F60_call (r := (.p (.sl true 3 (eInts [e.f, e.t, e.a])), [.mix (edgD e)])) ?_) rfl
  rw [F60_eq]
  have g0 : ([Row.mix (edgD e)] : Store)[0]? = some (.mix (edgD e)) := rfl
  simp only [box_edg, obind, List.length_nil, List.nil_append, fa106_0, fa106_1, fa106_2, shift_ptr, load3, Nat.zero_add,
    load1_ptr (off := 0) g0 rfl, load1_ptr (off := 1) g0 rfl, load1_ptr (off := 2) g0 rfl, bs22_3]
def firstI : List Int → List Int → Int
  | a :: xs, b :: ys => if a = b then firstI xs ys else if a < b then -1 else 1
  | xs, ys => (if xs.length > ys.length then 1 else 0) - (if xs.length < ys.length then 1 else 0)
theorem firstI_nil (xs ys : List Int) (h : xs = [] ∨ ys = []) : firstI xs ys = (if xs.length > ys.length then 1 else 0) - (if xs.length < ys.length then 1 else 0) := by
  rcases h with rfl | rfl
  · unfold firstI; rfl
  · cases xs <;> rfl
theorem L59 {a b : Option (List Int)} {σ : Store} {lo : Nat} (ha : (L a).length ≤ 1000) (hb : (L b).length ≤ 1000) :
    ∀ (k i : Nat), (L a).length - i = k → i ≤ (L a).length → i ≤ (L b).length → f59_L0 guardT lo (.p (eSl a)) (.p (eSl b)) (.p (pI (i : Nat))) σ = some (.p (pI (firstI ((L a).drop i) ((L b).drop i))), σ) := by
  have fin : ∀ (i : Nat), i ≤ (L a).length → i ≤ (L b).length → ((L a).length ≤ i ∨ (L b).length ≤ i) → (
      (len PP 22 (.p (eSl a)) σ).bind fun x40 =>
      (len PP 22 (.p (eSl b)) σ).bind fun x42 =>
      (binOp PP .gtr 3 x40 x42).bind fun x43 =>
      (pureFn CC (DV.fn 106 []) [x43] σ).bind fun x44 =>
      (len PP 22 (.p (eSl a)) σ).bind fun x46 =>
      (len PP 22 (.p (eSl b)) σ).bind fun x48 =>
      (binOp PP .lss 3 x46 x48).bind fun x49 =>
      (pureFn CC (DV.fn 106 []) [x49] σ).bind fun x50 =>
      (binOp PP .sub 3 x44 x50).bind fun x51 =>
      some (x51, σ)) = some (.p (pI (firstI ((L a).drop i) ((L b).drop i))), σ) := by
    intro i h1 h2 h
    rw [firstI_nil _ _ (h.imp (fun h => List.drop_eq_nil_of_le h) fun h => List.drop_eq_nil_of_le h)]
    simp only [len22, obind, b_gtr, b_lss, pureFn_fn, List.append_nil, S106, b_sub, List.length_drop, decide_eq_true_eq]
    have e1 : ((((L a).length : Nat) : Int) > ((L b).length : Nat)) ↔ (L a).length - i > (L b).length - i := by omega
    have e2 : ((((L a).length : Nat) : Int) < ((L b).length : Nat)) ↔ (L a).length - i < (L b).length - i := by omega
    simp only [e1, e2]
    rw [wrap_ok]
    · split <;> split <;> simp
    · split <;> split <;> simp
  intro k
  induction k with
  | zero =>
    intro i hk hi hj
    have h' : ¬ (i : Int) < ((L a).length : Nat) := by omega
    rw [f59_L0_eq guardT rfl]
    simp only [len22 a, b_lss, obind, h', decide_false, guard_ft, pickV_false, condK_false]
    have := fin i hi hj (.inl (by omega))
    simpa only [len22 a, b_lss, obind] using this
  | succ k ih =>
    intro i hk hi hj
    have h : i < (L a).length := by omega
    have h' : (i : Int) < ((L a).length : Nat) := by omega
    rw [f59_L0_eq guardT rfl]
    simp only [len22 a, b_lss, obind, h', decide_true, guard_tt, len22 b, pickV_true]
    by_cases hb2 : i < (L b).length
    · have hb' : (i : Int) < ((L b).length : Nat) := by omega
      simp only [hb', decide_true, condK_true, idx22 h, idx22 hb2, load3, load1_ints h, load1_ints hb2, obind, b_neq]
      rw [drop_cons h, drop_cons hb2]
      by_cases e : (L a)[i] = (L b)[i]
      · simp only [e, decide_true, Bool.not_true, condK_false, b_add, obind, wrap_succ (show i ≤ 1000000 by omega), firstI, if_true]
        exact ih (i + 1) (by omega) (by omega) (by omega)
      · simp only [e, decide_false, Bool.not_false, condK_true, pureFn_fn, List.append_nil, b_lss, S106, obind, b_mul, b_sub, firstI, if_false, decide_eq_true_eq]
        by_cases e2 : (L a)[i] < (L b)[i]
        · simp [e2, wrap_ok]
        · simp [e2, wrap_ok]
    · have hb' : ¬ (i : Int) < ((L b).length : Nat) := by omega
      simp only [hb', decide_false, condK_false]
      have := fin i hi hj (.inr (by omega))
      simpa only [len22 a, len22 b, b_lss, obind] using this
theorem S59 {a b : Option (List Int)} {σ : Store} (ha : (L a).length ≤ 1000) (hb : (L b).length ≤ 1000) : pureV CC 59 [.p (eSl a), .p (eSl b)] σ = some (.p (pI (firstI (L a) (L b)))) := by
  refine pureV_free (by simp [sl_view]) rfl (F59_call (r := (.p (pI (firstI (L a) (L b))), [])) ?_) rfl
  rw [F59_eq]
  have := L59 (lo := 0) (σ := []) ha hb _ 0 rfl (Nat.zero_le _) (Nat.zero_le _)
  simpa using this
theorem load106_D {l : List Edg} {i : Nat} (h : i < l.length) (σ : Store) : (loadN σ 3 (.pptr (eEdgs l) (i * 3))).map DV.agg = some (.agg (edgD (l.getD i default))) := by
  rw [load106_edgs h, List.getD_eq_getElem?_getD, List.getElem?_eq_getElem h]; rfl
def allFrom (p : Nat → Bool) : Nat → Nat → Bool
  | _, 0 => true
  | i, k + 1 => p i && allFrom p (i + 1) k
theorem store_new106 (σ : Store) (e : Edg) (z : List DV) (hz : z.length = 3) : store PP 0 106 (.ptr σ.length 0) (.agg (edgD e)) (σ ++ [.mix z]) = some (σ ++ [.mix (edgD e)]) := by
  have hone : (edgD e).all DV.one = true := rfl
  have hs : splice z 0 (edgD e) = edgD e := by
    match z, hz with
    | [a, b, c], _ => rfl
  simp [store, s106, DV.cells, storeN, hone, edgD, hz]
  exact ⟨⟨rfl, rfl, rfl⟩, by simpa [edgD] using hs⟩
theorem allFrom_iff {p : Nat → Bool} : ∀ (k i : Nat), allFrom p i k = true ↔ ∀ j, i ≤ j → j < i + k → p j = true
  | 0, i => by simp [allFrom]; omega
  | k + 1, i => by
    simp only [allFrom, Bool.and_eq_true, allFrom_iff k (i + 1)]
    constructor
    · rintro ⟨h1, h2⟩ j hj hk
      rcases Nat.eq_or_lt_of_le hj with e | e
      · rw [← e]; exact h1
      · exact h2 j e (by omega)
    · intro h
      exact ⟨h i (Nat.le_refl _) (by omega), fun j hj hk => h j (by omega) (by omega)⟩
theorem get_set_ne {σ : Store} {i j : Nat} {r x : Row} (h : σ[i]? = some x) (hne : i ≠ j) : (σ.set j r)[i]? = some x := by
  rw [List.getElem?_set_ne (Ne.symm hne)]; exact h
theorem get_lt {σ : Store} {i : Nat} {x : Row} (h : σ[i]? = some x) : i < σ.length := (List.getElem?_eq_some_iff.1 h).1
theorem len160 (o : Option (List Int)) (σ : Store) : len PP 160 (.p (eSl o)) σ = some (.p (.int .i64 ((L o).length : Nat))) := by cases o <;> simp [len, u160, eSl]
theorem idx160 {o : Option (List Int)} {i : Nat} (h : i < (L o).length) : indexAddr PP 160 (.p (eSl o)) (.p (.int .i64 (i : Nat))) = some (.pptr (eInts (L o)) i) := by
  cases o with
  | none => simp at h
  | some l =>
    have h2 : (0 : Int) ≤ (i : Int) ∧ (i : Int) < (l.length : Nat) := by simp at h; omega
    simp [indexAddr, u160, s34, eSl, h2]
theorem L52 {o : Option (List Int)} {σ : Store} {lo : Nat} (hl : (L o).length ≤ 1000) :
    ∀ (k i : Nat), (L o).length - i = k → i ≤ (L o).length → f52_L0 guardT lo (.p (eSl o)) (.p (pI ((L o).length : Nat))) (.p (pI (i : Nat))) σ = some (.p (pI (orL ((L o).drop i))), σ)
  | 0, i, hk, hi => by
    have : i = (L o).length := by omega
    rw [f52_L0_eq guardT rfl]
    subst this
    simp [b_lss, condK_false, orL]
  | k + 1, i, hk, hi => by
    have h : i < (L o).length := by omega
    have h' : (i : Int) < ((L o).length : Nat) := by omega
    rw [f52_L0_eq guardT rfl]
    simp only [b_lss, obind, h', decide_true, condK_true, idx160 h, load34, load1_ints h, b_neq]
    rw [drop_cons h]
    by_cases hqv : (L o)[i] = 0
    · simp only [hqv, decide_true, Bool.not_true, condK_false, b_add, obind, wrap_succ (show i ≤ 1000000 by omega), orL, if_true]
      exact L52 hl k (i + 1) (by omega) (by omega)
    · simp [condK_true, orL, hqv]
theorem S52 {o : Option (List Int)} {σ : Store} (hl : (L o).length ≤ 1000) : pureV CC 52 [.p (eSl o)] σ = some (.p (pI (orL (L o)))) := by
  refine pureV_free (by simp [sl_view]) rfl (F52_call (r := (.p (pI (orL (L o))), [])) ?_) rfl
  rw [F52_eq]
  simp only [len160, obind]
  have := L52 (lo := 0) (σ := []) hl _ 0 rfl (Nat.zero_le _)
  simpa using this
theorem S52t {l : List Int} {n : Nat} {σ : Store} (hn : n = l.length) (hl : l.length ≤ 1000) : pureV CC 52 [.p (.sl true n (eInts l))] σ = some (.p (pI (orL l))) := by
  rw [pureV_view (args' := [.p (eSl (some l))]) (by subst hn; simp [view, viewCell, loosen, loosens_ints, eSl]) (by simp [sl_view])]
  exact S52 (o := some l) hl
theorem bytes3 : bytes? PP 3 = some 8 := Eq.trans (by kernel_rfl) rfl
theorem bytes106 : bytes? PP 106 = some 24 := Eq.trans (by kernel_rfl) rfl
theorem src22 : srcType PP 22 = true := Eq.trans (by kernel_rfl) rfl
theorem src23 : srcType PP 23 = true := Eq.trans (by kernel_rfl) rfl
theorem bs22_0 (σ : Store) : buildSlice PP none 22 0 [] σ = some (.p (.sl true 0 []), σ) := Eq.trans (by kernel_rfl) rfl
theorem bs23_0 (σ : Store) : buildSlice PP none 23 0 [] σ = some (.p (.sl true 0 []), σ) := Eq.trans (by kernel_rfl) rfl
theorem pures_map (cs : List PV) : pures (cs.map DV.p) = some cs := by
  induction cs with
  | nil => rfl
  | cons a l ih => simp [pures, DV.pure?, ih]
/-- What is appended to an empty literal. -/
theorem app22 {o : Option (List Int)} {lo : Nat} (hl : (L o).length ≤ 1000) (σ : Store) : append PP lo false 22 22 (.p (.sl true 0 [])) (.p (eSl o)) σ = some (if (L o).length = 0 then (.p (.sl true 0 []), σ) else (.osl σ.length 0 1 (L o).length (eInts (L o)), σ ++ [.tok 0])) := by
  have hsrc : source σ 1 (.p (eSl o)) = some ((L o).length, (eInts (L o)).map DV.p) := by
    cases o <;> simp [source, eSl, ints_length, eInts]
  have h1 : (L o).length * 8 ≤ 140737488355328 := by omega
  have h2 : (L o).length ≤ 140737488355328 := by omega
  simp only [append, src22, u22, s3, bytes3, zero3, hsrc, appLit]
  simp [h1, h2, pures_map]
  split <;> rfl
theorem app23 {o : Option (List Edg)} {lo : Nat} (hl : (L o).length ≤ 10000) (σ : Store) : append PP lo false 23 23 (.p (.sl true 0 [])) (.p (eEs o)) σ = some (if (L o).length = 0 then (.p (.sl true 0 []), σ) else (.osl σ.length 0 3 (L o).length (eEdgs (L o)), σ ++ [.tok 0])) := by
  have hsrc : source σ 3 (.p (eEs o)) = some ((L o).length, (eEdgs (L o)).map DV.p) := by
    cases o <;> simp [source, eEs, edgs_length, eEdgs]
  have h1 : (L o).length * 24 ≤ 140737488355328 := by omega
  have h2 : (L o).length ≤ 140737488355328 := by omega
  simp only [append, src23, u23, s106, bytes106, zero106, hsrc, appLit]
  simp [h1, h2, pures_map]
  split <;> rfl
theorem S55 {o : Option (List Int)} {σ : Store} (hl : (L o).length ≤ 1000) : pureV CC 55 [.p (eSl o)] σ = some (.p (eSl (some (L o)))) := by
  refine pureV_any (by simp [sl_view]) fun lo σ0 hs => ?_
  by_cases h : (L o).length = 0
  · refine ⟨.p (.sl true 0 []), σ0, F55_call ?_, ?_⟩
    · rw [F55_eq]
      simp only [bs22_0, obind, app22 hl, h, if_true]
    · have : L o = [] := List.length_eq_zero_iff.1 h
      rw [this]; rfl
  · refine ⟨.osl σ0.length 0 1 (L o).length (eInts (L o)), σ0 ++ [.tok 0], F55_call ?_, ?_⟩
    · rw [F55_eq]
      simp only [bs22_0, obind, app22 hl, h, if_false]
    · simp [thawAll, thawPart, thaw, thaw1, thawP, loosens_ints, eSl]
theorem ex0 (a b : DV) : extractV (.tuple [a, b]) 0 = some a := Eq.trans rfl rfl
theorem ex1 (a b : DV) : extractV (.tuple [a, b]) 1 = some b := Eq.trans rfl rfl
theorem len22_nil (σ : Store) : len PP 22 (.p .nilsl) σ = some (.p (.int .i64 0)) := by simp [len, u22]
theorem orL_zero : ∀ {l : List Int}, orL l = 0 → ∀ a ∈ l, a = 0
  | [], _, a, h => absurd h (by simp)
  | b :: l, h, a, ha => by
    unfold orL at h
    split at h
    · rename_i hb
      rcases List.mem_cons.1 ha with e | e
      · rw [e]; exact hb
      · exact orL_zero h a e
    · rename_i hb; exact absurd h hb
abbrev OI := Option (List Int)
def eLs : Option (List OI) → PV
  | none => .nilsl
  | some l => .sl false l.length (l.map eSl)
theorem u48 : PP.underlying 48 = some (.slice 22) := Eq.trans (by kernel_rfl) rfl
theorem s22 : size? PP 22 = some 1 := Eq.trans (by kernel_rfl) rfl
theorem len48 (o : Option (List OI)) (σ : Store) : len PP 48 (.p (eLs o)) σ = some (.p (.int .i64 ((L o).length : Nat))) := by cases o <;> simp [len, u48, eLs]
theorem idx48 {o : Option (List OI)} {i : Nat} (h : i < (L o).length) : indexAddr PP 48 (.p (eLs o)) (.p (.int .i64 (i : Nat))) = some (.pptr ((L o).map eSl) i) := by
  cases o with
  | none => simp at h
  | some l =>
    have h2 : (0 : Int) ≤ (i : Int) ∧ (i : Int) < (l.length : Nat) := by simp at h; omega
    simp [indexAddr, u48, s22, eLs, h2]
theorem load1_ls {l : List OI} {i : Nat} (h : i < l.length) (σ : Store) : load1 (.pptr (l.map eSl) i) σ = some (.p (eSl (l.getD i none))) :=
  load1_pptr (by simp [h, List.getD_eq_getElem?_getD]) σ
theorem loosens_ls (l : List OI) : loosens (l.map eSl) = l.map eSl := by
  induction l with
  | nil => rfl
  | cons a l ih => simp only [List.map_cons, loosens, loosen_sl, ih]
theorem loosen_ls (o : Option (List OI)) : loosen (eLs o) = eLs o := by
  cases o <;> simp [eLs, loosen, loosens_ls]
theorem ls_view (o : Option (List OI)) : view (.p (eLs o)) = .p (eLs o) := by simp [view, viewCell, loosen_ls]
theorem getD_at {α : Type} {l : List α} {i : Nat} (d : α) (h : i < l.length) : l.getD i d = l[i] := by rw [List.getD_eq_getElem?_getD, List.getElem?_eq_getElem h]; rfl
/-- n elements of sz cells each, as they stand in a list that is appended to. -/
def Out (σ : Store) (lo sz n : Nat) (cs : List PV) (x : DV) : Prop :=
  cs.length = n * sz ∧ ((n = 0 ∧ x = .p .nilsl) ∨ (n ≠ 0 ∧ ∃ r ver, x = .osl r ver sz n cs ∧ σ[r]? = some (.tok ver) ∧ lo ≤ r))
/-- All rows but that of a list stay. -/
def Others (σ σ' : Store) (x : DV) : Prop := ∀ i row, σ[i]? = some row → (∀ r ver sz n cs, x = .osl r ver sz n cs → i ≠ r) → σ'[i]? = some row
theorem Out.zero {σ : Store} {lo sz : Nat} : Out σ lo sz 0 [] (.p .nilsl) := ⟨by simp, .inl ⟨rfl, rfl⟩⟩
theorem Others.mix {σ σ' : Store} {lo sz n : Nat} {cs : List PV} {x : DV} (h : Others σ σ' x) (ho : Out σ lo sz n cs x) {i : Nat} {row : Row} (hi : σ[i]? = some row) (hr : ∀ v, row ≠ .tok v) : σ'[i]? = some row := by
  refine h i row hi ?_
  rintro r ver sz' n' cs' rfl rfl
  rcases ho.2 with ⟨_, h2⟩ | ⟨_, r2, ver2, h2, h3, _⟩
  · cases h2
  · injection h2 with e1
    subst e1
    rw [hi] at h3
    injection h3 with h3
    exact hr _ h3
theorem Out.push {σ : Store} {t e lo sz b n : Nat} {z : List DV} {cs vs : List PV} {x : DV} (hs : srcType PP t = true) (hu : PP.underlying t = some (.slice e)) (h1 : size? PP e = some sz) (h2 : bytes? PP e = some b) (h3 : zeroOf PP e = some z)
    (h4 : z.length = sz) (hz : 0 < sz) (hb : 0 < b) (hb2 : b ≤ 1000) (hv : vs.length = sz) (ho : Out σ lo sz n cs x) (hn : n ≤ 1000000) (hlo : lo ≤ σ.length) :
    ∃ x' σ', append PP lo false t t x (.p (.sl true 1 vs)) σ = some (x', σ') ∧ Out σ' lo sz (n + 1) (cs ++ vs) x' ∧ Others σ σ' x ∧ σ.length ≤ σ'.length := by
  have hsrc : source σ sz (.p (.sl true 1 vs)) = some (1, vs.map DV.p) := by simp [source, hv]
  have hz0 : ¬ (z.length ≠ sz ∨ sz = 0) := by omega
  obtain ⟨hc, ho⟩ := ho
  rcases ho with ⟨rfl, rfl⟩ | ⟨hn0, r, ver, rfl, hr, hl⟩
  · refine ⟨.osl σ.length 0 sz 1 vs, σ ++ [.tok 0], ?_, ⟨by simp [hc, hv], .inr ⟨by simp, σ.length, 0, ?_, get_snoc, hlo⟩⟩, ?_, by simp⟩
    · have : b ≤ 140737488355328 := by omega
      simp only [append, hs, hu, h1, h2, h3, hz0, hsrc, appNil]
      simp [this, hb, pures_map, h4, hz, Nat.ne_of_gt hz]
    · have : cs = [] := List.length_eq_zero_iff.1 (by simpa using hc)
      rw [this]; simp
    · intro i row hi _
      exact get_old hi
  · refine ⟨.osl r (ver + 1) sz (n + 1) (cs ++ vs), σ.set r (.tok (ver + 1)), ?_, ⟨by simp [hc, hv, Nat.add_mul], .inr ⟨by simp, r, ver + 1, rfl, ?_, hl⟩⟩, ?_, by simp⟩
    · have e1 : (n + 1) * b ≤ 140737488355328 := Nat.le_trans (Nat.mul_le_mul (show n + 1 ≤ 1000001 by omega) hb2) (by decide)
      have e2 : n + 1 ≤ 140737488355328 := by omega
      simp only [append, hs, hu, h1, h2, h3, hz0, hsrc, appTok]
      simp [e1, e2, hb, hc, hl, hr, pures_map, h4, Nat.ne_of_gt hz]
    · rw [List.getElem?_set_self (get_lt hr)]
    · intro i row hi hne
      rw [List.getElem?_set_ne (fun e => hne _ _ _ _ _ rfl e.symm)]
      exact hi
theorem Out.tw {σ : Store} {lo sz n : Nat} {cs : List PV} {x : DV} (ho : Out σ lo sz n cs x) (m : Nat) : thaw m σ x = some (.p (if n = 0 then .nilsl else .sl false n (loosens cs))) := by
  rcases ho.2 with ⟨rfl, rfl⟩ | ⟨hn, r, ver, rfl, _, _⟩
  · rfl
  · simp [thaw, thaw1, thawP, hn]
theorem Out.twAll {σ : Store} {lo sz n : Nat} {cs : List PV} {x : DV} (ho : Out σ lo sz n cs x) (m : Nat) : thawAll m σ x = some (.p (if n = 0 then .nilsl else .sl false n (loosens cs))) := by
  rcases ho.2 with ⟨rfl, rfl⟩ | ⟨hn, r, ver, rfl, _, _⟩
  · rfl
  · simp [thawAll, thawPart, thaw, thaw1, thawP, hn]
theorem Out.vw {σ : Store} {lo sz n : Nat} {cs : List PV} {x : DV} (ho : Out σ lo sz n cs x) : view x = .p (if n = 0 then .nilsl else .sl false n (loosens cs)) := by
  rcases ho.2 with ⟨rfl, rfl⟩ | ⟨hn, r, ver, rfl, _, _⟩
  · rfl
  · simp [view, viewCell, hn]
theorem bytes22 : bytes? PP 22 = some 24 := Eq.trans (by kernel_rfl) rfl
theorem zero22 : zeroOf PP 22 = some [.p .nilsl] := Eq.trans (by kernel_rfl) rfl
theorem src48 : srcType PP 48 = true := Eq.trans (by kernel_rfl) rfl
theorem bs48_1 (v : PV) (σ : Store) : buildSlice PP none 48 1 [(0, .p v)] σ = some (.p (.sl true 1 [v]), σ) := Eq.trans (by kernel_rfl) rfl
theorem Out.push48 {σ : Store} {lo n : Nat} {cs : List PV} {v : PV} {x : DV} (ho : Out σ lo 1 n cs x) (hn : n ≤ 1000000) (hlo : lo ≤ σ.length) :
    ∃ x' σ', append PP lo false 48 48 x (.p (.sl true 1 [v])) σ = some (x', σ') ∧ Out σ' lo 1 (n + 1) (cs ++ [v]) x' ∧ Others σ σ' x ∧ σ.length ≤ σ'.length :=
  Out.push src48 u48 s22 bytes22 zero22 rfl (by decide) (by decide) (by decide) rfl ho hn hlo
def ownX (x : OI) : OI := some (L x)
def ownLs (o : Option (List OI)) : Option (List OI) := if L o = [] then none else some ((L o).map ownX)
theorem L56 {o : Option (List OI)} {lo : Nat} (hl : (L o).length ≤ 1000) (hx : ∀ x ∈ L o, (L x).length ≤ 1000) :
    ∀ (k i : Nat) (x : DV) (σ : Store), (L o).length - i = k → i ≤ (L o).length → lo ≤ σ.length → Out σ lo 1 i (((L o).take i).map fun x => eSl (ownX x)) x →
      ∃ x' σ', f56_L0 guardT lo (.p (eLs o)) x (.p (pI (i : Nat))) σ = some (x', σ') ∧ Out σ' lo 1 (L o).length ((L o).map fun x => eSl (ownX x)) x'
  | 0, i, x, σ, hk, hi, hlo, ho => by
    have : i = (L o).length := by omega
    subst this
    rw [List.take_length] at ho
    refine ⟨x, σ, ?_, ho⟩
    rw [f56_L0_eq guardT rfl]
    simp [len48, b_lss, condK_false]
  | k + 1, i, x, σ, hk, hi, hlo, ho => by
    have h : i < (L o).length := by omega
    have h' : (i : Int) < ((L o).length : Nat) := by omega
    obtain ⟨x', σ', h1, h2, h3, h4⟩ := ho.push48 (v := eSl (ownX (L o)[i])) (by omega) hlo
    rw [f56_L0_eq guardT rfl]
    simp only [len48, b_lss, obind, h', decide_true, condK_true, idx48 h, load22, load1_ls h, getD_at none h, pureFn_fn, List.append_nil, S55 (hx _ (List.getElem_mem h)), bs48_1]
    rw [show (eSl (some (L (L o)[i]))) = eSl (ownX (L o)[i]) from rfl, h1]
    simp only [obind, b_add, wrap_succ (show i ≤ 1000000 by omega)]
    refine L56 hl hx k (i + 1) x' σ' (by omega) (by omega) (by omega) ?_
    have e : ((L o).take (i + 1)).map (fun x => eSl (ownX x)) = ((L o).take i).map (fun x => eSl (ownX x)) ++ [eSl (ownX (L o)[i])] := by
      rw [List.take_succ_eq_append_getElem h, List.map_append]; rfl
    rw [e]
    exact h2
theorem S56 {o : Option (List OI)} {σ : Store} (hl : (L o).length ≤ 1000) (hx : ∀ x ∈ L o, (L x).length ≤ 1000) : pureV CC 56 [.p (eLs o)] σ = some (.p (eLs (ownLs o))) := by
  refine pureV_any (by simp [ls_view]) fun lo σ0 hs => ?_
  have hlo : lo ≤ σ0.length := by rcases hs with ⟨rfl, rfl, _⟩ | ⟨_, rfl, _⟩ <;> simp_all
  obtain ⟨x', σ', h1, h2⟩ := L56 (lo := lo) hl hx _ 0 (.p .nilsl) σ0 rfl (Nat.zero_le _) hlo (by simpa using Out.zero)
  refine ⟨x', σ', F56_call ?_, ?_⟩
  · rw [F56_eq]; exact h1
  · rw [h2.twAll]
    unfold ownLs
    by_cases e : L o = []
    · simp [e, eLs]
    · have e2 : ¬ (L o).length = 0 := fun h => e (List.length_eq_zero_iff.1 h)
      have e3 : (L o).map (fun x => eSl (ownX x)) = ((L o).map ownX).map eSl := by simp
      simp only [e, e2, if_false, eLs, e3, loosens_ls, List.length_map]
theorem L_own (o : Option (List OI)) : L (ownLs o) = (L o).map ownX := by
  unfold ownLs
  split
  · rename_i h; rw [h]; rfl
  · rfl
theorem L116' {o : Option (List Int)} {f : FuncId} {caps : List DV} {σ : Store} {lo : Nat} {q : Int → Bool} (hl : (L o).length ≤ 1000) (hq : ∀ v ∈ L o, pureV CC f (.p (pI v) :: caps) σ = some (.p (.bool (q v)))) :
    ∀ (k i : Nat), (L o).length - i = k → i ≤ (L o).length → f116_L0 guardT lo (.p (eSl o)) (.fn f caps) (.p (pI ((L o).length : Nat))) (.p (pI (i : Nat))) σ = some (.p (pI (idxFrom q ((L o).drop i) i)), σ)
  | 0, i, hk, hi => by
    have : i = (L o).length := by omega
    rw [f116_L0_eq guardT rfl]
    subst this
    simp [b_lss, condK_false, idxFrom]
  | k + 1, i, hk, hi => by
    have h : i < (L o).length := by omega
    have h' : (i : Int) < ((L o).length : Nat) := by omega
    rw [f116_L0_eq guardT rfl]
    simp only [b_lss, obind, h', decide_true, condK_true, idx22 h, load3, load1_ints h, pureFn_fn, List.singleton_append, hq _ (List.getElem_mem h)]
    rw [drop_cons h]
    cases hqv : q (L o)[i] with
    | true => simp [condK_true, idxFrom, hqv]
    | false =>
      simp only [condK_false, b_add, obind, wrap_succ (show i ≤ 1000000 by omega), idxFrom, hqv, Bool.false_eq_true, if_false]
      exact L116' hl hq k (i + 1) (by omega) (by omega)
theorem S116' {o : Option (List Int)} {f : FuncId} {caps : List DV} {σ : Store} {q : Int → Bool} (hl : (L o).length ≤ 1000) (hq : ∀ σ0, AtSt caps σ σ0 → ∀ v ∈ L o, pureV CC f (.p (pI v) :: caps) σ0 = some (.p (.bool (q v)))) :
    pureV CC 116 [.p (eSl o), .fn f caps] σ = some (.p (pI (idxFrom q (L o) 0))) := by
  refine pureV_any (by simp [sl_view, fn_view]) fun lo σ0 hs => ⟨_, σ0, F116_call (r := (.p (pI (idxFrom q (L o) 0)), σ0)) ?_, rfl⟩
  have hat : AtSt caps σ σ0 := by
    rcases hs with ⟨h1, _, h3⟩ | ⟨h1, _, _⟩
    · exact .inl ⟨h1, by simpa [rowFree] using (by simpa [rowFree] using h3 : _ ∧ _).2⟩
    · exact .inr h1
  rw [F116_eq]
  simp only [len22, obind]
  have := L116' (lo := lo) hl (hq σ0 hat) _ 0 rfl (Nat.zero_le _)
  simpa using this
theorem S80' {o : Option (List Int)} {f : FuncId} {caps : List DV} {σ : Store} {q : Int → Bool} (hl : (L o).length ≤ 1000) (hq : ∀ σ0, AtSt caps σ σ0 → ∀ v ∈ L o, pureV CC f (.p (pI v) :: caps) σ0 = some (.p (.bool (q v)))) :
    pureV CC 80 [.p (eSl o), .fn f caps] σ = some (.p (.bool ((L o).any q))) := by
  refine pureV_any (by simp [sl_view, fn_view]) fun lo σ0 hs => ⟨_, σ0, F80_call (r := (.p (.bool ((L o).any q)), σ0)) ?_, rfl⟩
  have hat : ∀ σ1, AtSt caps σ0 σ1 → AtSt caps σ σ1 := by
    intro σ1 h
    rcases hs with ⟨h1, _, h3⟩ | ⟨h1, _, _⟩
    · rcases h with h | h
      · exact .inl h
      · exact .inl ⟨h.trans h1, by simpa [rowFree] using (by simpa [rowFree] using h3 : _ ∧ _).2⟩
    · rw [← h1]; exact h
  rw [F80_eq]
  simp only [pureFn_fn, List.append_nil, S116' hl fun σ1 h => hq σ1 (hat σ1 h), obind, b_geq, idxFrom_ge]
theorem neq22_nn : binOp PP .neq 22 (.p .nilsl) (.p .nilsl) = some (.p (.bool false)) := Eq.trans (by kernel_rfl) rfl
theorem neq22_sl (ex : Bool) (n : Nat) (cs : List PV) : binOp PP .neq 22 (.p (.sl ex n cs)) (.p .nilsl) = some (.p (.bool true)) := Eq.trans (by kernel_rfl) rfl
theorem bs22_1 (x : Int) (σ : Store) : buildSlice PP none 22 1 [(0, .p (pI x))] σ = some (.p (.sl true 1 [pI x]), σ) := Eq.trans (by kernel_rfl) rfl
end Go.D
end
