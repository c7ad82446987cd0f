/- D without fuel is sound: what the continuation style answers, the evaluator answers with enough fuel. -/
import Derived.Test.YtkpdgafinpedgaaGreatQb
import Derived.KernelRfl
import Derived.Test.YtkpdgafinpedgaaGreatProg
import Derived.Test.YtkpdgafinpedgaaGreatQa
import Derived.ProofKit
import Derived.OpenShut
import Derived.WideShapes
import Derived.Test.YtkpdgafinpedgaaGreatRows
import Derived.SizedLaws
section
set_option linter.unusedVariables false
set_option linter.unusedSimpArgs false
namespace Go.D

variable {P : Program} {pol : FuncId → FPol}

def Evt {α : Type} (m : Nat → Option α) (r : α) : Prop := ∃ k0, ∀ k, k0 ≤ k → m k = some r
theorem pureV_evt {f : FuncId} {args : List DV} {σ : Store} {v : DV} (h : pureV (callL P pol) f args σ = some v) : Evt (fun k => pureV (callK P pol k) f args σ) v := by
  unfold pureV at h
  split at h
  · rename_i hc
    split at h
    · rename_i v1 σ1 h1
      obtain ⟨k0, h0⟩ := lim_some h1
      refine ⟨k0, fun k hk => ?_⟩
      show pureV _ _ _ _ = _
      unfold pureV
      rw [if_pos hc, h0 k hk]
      exact h
    · exact absurd h (by simp)
  · rename_i hc
    split at h
    · rename_i v1 σ1 h1
      obtain ⟨k0, h0⟩ := lim_some h1
      refine ⟨k0, fun k hk => ?_⟩
      show pureV _ _ _ _ = _
      unfold pureV
      rw [if_neg hc, h0 k hk]
      exact h
    · exact absurd h (by simp)
theorem op_evt {pl : FPol} {lo : Nat} {a : Frame} {o : Oper} {σ : Store} {r : DV × Store} (h : op P pl (callL P pol) lo a o σ = some r) : Evt (fun k => op P pl (callK P pol k) lo a o σ) r := by
  unfold op at h
  cases ho : o.op with
  | call c =>
    simp only [ho] at h
    cases hc : c.callee with
    | value g =>
      simp only [hc] at h
      cases hg : ev a g with
      | fn f caps =>
        simp only [hg] at h
        by_cases hp : pl.isPlain o.dst = true
        · rw [if_pos hp] at h
          obtain ⟨k0, h0⟩ := lim_some h
          refine ⟨k0, fun k hk => ?_⟩
          simp only [op, ho, hc, hg, if_pos hp]
          exact h0 k hk
        · rw [if_neg hp, pureCall_eq] at h
          obtain ⟨v, hv, rfl⟩ := Option.map_eq_some_iff.1 h
          obtain ⟨k0, h0⟩ := pureV_evt hv
          refine ⟨k0, fun k hk => ?_⟩
          simp only [op, ho, hc, hg, if_neg hp, pureCall_eq]
          have := h0 k hk
          simp only [this, Option.map_some]
      | _ => simp [hg] at h
    | builtin b => cases b <;> exact ⟨0, fun k _ => by unfold op; simp only [ho, hc]; simpa only [hc] using h⟩
    | invoke r m => exact ⟨0, fun k _ => by unfold op; simp only [ho, hc]; simpa only [hc] using h⟩
  | makeFunc f first caps => cases f <;> exact ⟨0, fun k _ => by unfold op; simpa only [ho] using h⟩
  | makeMap t n => cases n <;> exact ⟨0, fun k _ => by unfold op; simpa only [ho] using h⟩
  | _ => exact ⟨0, fun k _ => by unfold op; simpa only [ho] using h⟩
theorem opsD_evt {pl : FPol} {all : Array Oper} {lows : Bool → Store → Nat} : ∀ {os : List Oper} {cs : List Bool} {a : Frame} {σ : Store} {r : Frame × Store}, opsD P pl (callL P pol) all lows os cs a σ = some r → Evt (fun k => opsD P pl (callK P pol k) all lows os cs a σ) r
  | [], cs, a, σ, r, h => ⟨0, fun _ _ => h⟩
  | o :: os, cs, a, σ, r, h => by
    simp only [opsD] at h
    split at h
    · rename_i hw
      split at h
      · rename_i v σ1 h1
        obtain ⟨k0, h0⟩ := op_evt h1
        obtain ⟨k1, h2⟩ := opsD_evt h
        refine ⟨max k0 k1, fun k hk => ?_⟩
        simp only [opsD, hw, h0 k (by omega), h2 k (by omega)]
      · exact absurd h (by simp)
    · rename_i hw
      obtain ⟨k1, h2⟩ := opsD_evt h
      exact ⟨k1, fun k hk => by simp only [opsD, hw, h2 k hk]⟩
    · exact absurd h (by simp)
theorem traceD_evt {pl : FPol} {all : Array Oper} {lows : Bool → Store → Nat} : ∀ {os : List Oper} {cs : List Bool} {a : Frame} {σ : Store} {r : Frame × Store}, opsD P pl (callL P pol) all lows os cs a σ = some r → ∃ k0, ∀ k, k0 ≤ k → traceD P pl (callK P pol k) all lows os cs a σ = traceD P pl (callL P pol) all lows os cs a σ
  | [], cs, a, σ, r, h => ⟨0, fun _ _ => rfl⟩
  | o :: os, cs, a, σ, r, h => by
    simp only [opsD] at h
    split at h
    · rename_i hw
      split at h
      · rename_i v σ1 h1
        obtain ⟨k0, h0⟩ := op_evt h1
        obtain ⟨k1, h2⟩ := traceD_evt h
        refine ⟨max k0 k1, fun k hk => ?_⟩
        simp only [traceD, hw, h0 k (by omega), h1, h2 k (by omega)]
      · exact absurd h (by simp)
    · rename_i hw
      obtain ⟨k1, h2⟩ := traceD_evt h
      exact ⟨k1, fun k hk => by simp only [traceD, hw, h2 k hk]⟩
    · exact absurd h (by simp)
theorem bind_some' {α γ : Type} {m : Option α} {K : α → Option γ} {r : γ} (h : m.bind K = some r) : ∃ x, m = some x ∧ K x = some r := Option.bind_eq_some_iff.1 h
theorem region_evt {β : Type} {pl : FPol} {lo id : Nat} {ops : Array Oper} {draw : Bool} {an : Ann} {a : Frame} {σ : Store} {K : Ex → Frame → Store → Option β} {r : β} (h : codeK P pl (callL P pol) lo (.region id ops draw) an a σ K = some r) :
    ∃ a' σ', K .normal a' σ' = some r ∧ Evt (fun k => region P pl (callK P pol k) lo ops draw a σ) (a', σ') := by
  unfold codeK at h
  cases draw with
  | true =>
    simp only [if_true, opsK_eq] at h
    split at h
    · rename_i he
      obtain ⟨⟨a', σ'⟩, h1, h2⟩ := bind_some' h
      obtain ⟨k0, h0⟩ := opsD_evt h1
      exact ⟨a', σ', h2, k0, fun k hk => by simp only [region, if_true, he, Bool.true_or]; exact h0 k hk⟩
    · rw [opsKT_eq] at h
      obtain ⟨⟨a', σ'⟩, h1, h2⟩ := bind_some' h
      simp only [List.nil_append] at h2
      obtain ⟨k0, h0⟩ := opsD_evt h1
      obtain ⟨k1, h3⟩ := traceD_evt h1
      cases hs : stableB P pl ops.toList (traceD P pl (callL P pol) ops (lowOf lo) ops.toList (flags pl ops) a σ) with
      | false => rw [hs] at h2; exact absurd h2 (by simp)
      | true =>
        rw [hs] at h2
        refine ⟨a', σ', h2, max k0 k1, fun k hk => ?_⟩
        simp only [region, if_true, h3 k (by omega), hs, Bool.or_true]
        exact h0 k (by omega)
  | false =>
    simp only [Bool.false_eq_true, if_false, opsK_eq] at h
    obtain ⟨⟨a', σ'⟩, h1, h2⟩ := bind_some' h
    obtain ⟨k0, h0⟩ := opsD_evt h1
    exact ⟨a', σ', h2, k0, fun k hk => by simp only [region, Bool.false_eq_true, if_false]; exact h0 k hk⟩
theorem mask_mask : ∀ (m : List Bool) (a : Frame), mask m (mask m a) = mask m a
  | _, [] => by simp [mask]
  | [], v :: a => by simp [mask, mask_mask [] a]
  | b :: m, v :: a => by cases b <;> simp [mask, mask_mask m a]
theorem cut_cut (an : Ann) (a : Frame) : an.cut (an.cut a) = an.cut a := by
  cases an with
  | keep m an => exact mask_mask m a
  | _ => rfl
theorem codeK_evt {pl : FPol} {lo : Nat} : ∀ (c : Code) {β : Type} {an : Ann} {a : Frame} {σ : Store} {K : Ex → Frame → Store → Option β} {r : β}, codeK P pl (callL P pol) lo c an a σ K = some r →
    ∃ ex a' σ', K ex a' σ' = some r ∧ Evt (fun k => code P pl (callK P pol k) k lo c an a σ) (ex, a', σ') := by
  intro c
  induction c with
  | skip =>
    intro β an a σ K r h
    exact ⟨_, a, σ, h, 0, fun _ _ => rfl⟩
  | region id ops draw =>
    intro β an a σ K r h
    obtain ⟨a', σ', h1, k0, h2⟩ := region_evt h
    exact ⟨.normal, a', σ', h1, k0, fun k hk => by simp only [code, h2 k hk, Option.map_some]⟩
  | seq x y ihx ihy =>
    intro β an a σ K r h
    unfold codeK at h
    obtain ⟨ex, a1, σ1, h1, k0, h0⟩ := ihx h
    cases ex with
    | normal =>
      obtain ⟨ex2, a2, σ2, h2, k1, h3⟩ := ihy h1
      exact ⟨ex2, a2, σ2, h2, max k0 k1, fun k hk => by simp only [code, h0 k (by omega), h3 k (by omega)]⟩
    | exit i => exact ⟨_, a1, σ1, h1, k0, fun k hk => by simp only [code, h0 k hk]⟩
    | ret => exact ⟨_, a1, σ1, h1, k0, fun k hk => by simp only [code, h0 k hk]⟩
  | cond c x y ihx ihy =>
    intro β an a σ K r h
    unfold codeK condK at h
    split at h
    · rename_i hc
      obtain ⟨ex, a1, σ1, h1, k0, h0⟩ := ihx h
      exact ⟨ex, a1, σ1, h1, k0, fun k hk => by simp only [code, hc]; exact h0 k hk⟩
    · rename_i hc
      obtain ⟨ex, a1, σ1, h1, k0, h0⟩ := ihy h
      exact ⟨ex, a1, σ1, h1, k0, fun k hk => by simp only [code, hc]; exact h0 k hk⟩
    · exact absurd h (by simp)
  | block id x ih =>
    intro β an a σ K r h
    unfold codeK at h
    obtain ⟨ex, a1, σ1, h1, k0, h0⟩ := ih h
    cases ex with
    | normal => exact ⟨_, _, σ1, h1, k0, fun k hk => by simp only [code, h0 k hk]⟩
    | exit i =>
      simp only [] at h1
      by_cases hi : i = id
      · rw [if_pos hi] at h1
        exact ⟨_, _, σ1, h1, k0, fun k hk => by simp only [code, h0 k hk, if_pos hi]⟩
      · rw [if_neg hi] at h1
        exact ⟨_, _, σ1, h1, k0, fun k hk => by simp only [code, h0 k hk, if_neg hi]⟩
    | ret => exact ⟨_, a1, σ1, h1, k0, fun k hk => by simp only [code, h0 k hk]⟩
  | loop x ih =>
    intro β an a σ K r h
    unfold codeK loopWith at h
    obtain ⟨⟨ex, a', σ'⟩, h1, h2⟩ := bind_some' h
    obtain ⟨j, hj⟩ := lim_some h1
    have hj := hj j (Nat.le_refl _)
    have key : ∀ (j : Nat) (a : Frame) (σ : Store), iter (fun a σ => codeK P pl (callL P pol) lo x an.left (an.cut a) σ fun ex a σ => some (ex, a, σ)) j a σ = some (ex, a', σ') →
        ∃ k0, ∀ k n, k0 ≤ k → k0 ≤ n → iter (fun a σ => code P pl (callK P pol k) k lo x an.left (an.cut a) σ) n a σ = some (ex, a', σ') := by
      intro j
      induction j with
      | zero => intro a σ h; exact absurd h (by simp [iter])
      | succ j ihj =>
        intro a σ h
        simp only [iter] at h
        split at h
        · rename_i a1 σ1 hb
          obtain ⟨ex2, a2, σ2, e, k0, h0⟩ := ih hb
          injection e with e; injection e with e1 e2; injection e2 with e2 e3; subst e1; subst e2; subst e3
          obtain ⟨k1, h3⟩ := ihj a2 σ2 h
          refine ⟨max k0 k1 + 1, fun k n hk hn => ?_⟩
          match n, hn with
          | n + 1, hn => simp only [iter, h0 k (by omega), h3 k n (by omega) (by omega)]
        · rename_i hne
          obtain ⟨ex2, a2, σ2, e, k0, h0⟩ := ih h
          injection e with e; injection e with e1 e2; injection e2 with e2 e3; subst e1; subst e2; subst e3
          refine ⟨k0 + 1, fun k n hk hn => ?_⟩
          match n, hn with
          | n + 1, hn =>
            simp only [iter, h0 k (by omega)]
            cases ex2 with
            | normal => exact absurd h (hne a2 σ2)
            | exit i => rfl
            | ret => rfl
    obtain ⟨k0, h0⟩ := key j _ σ hj
    refine ⟨ex, a', σ', h2, k0 + 1, fun k hk => ?_⟩
    simp only [code]
    have := h0 k k (by omega) (by omega)
    match k, hk with
    | k + 1, hk =>
      simp only [iter, cut_cut] at this ⊢
      exact this
  | exit id =>
    intro β an a σ K r h
    exact ⟨_, a, σ, h, 0, fun _ _ => rfl⟩
  | ret =>
    intro β an a σ K r h
    exact ⟨_, a, σ, h, 0, fun _ _ => rfl⟩
  | rangeFunc g ps x y ihx ihy =>
    intro β an a σ K r h
    unfold codeK at h
    split at h
    · rename_i f caps hg
      split at h
      · rename_i xss hx
        split at h
        · rename_i hc
          have key : ∀ (xss : List (List DV)) (σ : Store), roundsK (fun xs σ K' => codeK P pl (callL P pol) lo x .nil (putAll ps.toList xs a) σ fun ex a1 σ1 => match ex with
              | .normal => codeK P pl (callL P pol) lo y an.left a1 σ1 fun ex _ σ2 => K' ex σ2
              | _ => none) xss σ (fun ex σ' => K ex a σ') = some r →
              ∃ ex σ', K ex a σ' = some r ∧ Evt (fun k => roundsD (roundWith (fun a σ => code P pl (callK P pol k) k lo x .nil a σ) (fun a σ => code P pl (callK P pol k) k lo y an.left a σ) ps.toList a) xss σ) (ex, σ') := by
            intro xss
            induction xss with
            | nil => intro σ h; exact ⟨.normal, σ, h, 0, fun _ _ => rfl⟩
            | cons xs xss ihr =>
              intro σ h
              simp only [roundsK] at h
              obtain ⟨ex1, a1, σ1, h1, k0, h0⟩ := ihx h
              cases ex1 with
              | normal =>
                obtain ⟨ex2, a2, σ2, h2, k1, h3⟩ := ihy h1
                have hrw : ∀ k, max k0 k1 ≤ k → roundWith (fun a σ => code P pl (callK P pol k) k lo x .nil a σ) (fun a σ => code P pl (callK P pol k) k lo y an.left a σ) ps.toList a xs σ = some (ex2, σ2) := fun k hk => by
                  simp only [roundWith, h0 k (by omega), h3 k (by omega)]
                cases ex2 with
                | normal =>
                  obtain ⟨ex3, σ3, h4, k2, h5⟩ := ihr σ2 h2
                  refine ⟨ex3, σ3, h4, max (max k0 k1) k2, fun k hk => ?_⟩
                  simp only [roundsD, hrw k (by omega), h5 k (by omega)]
                | exit i => exact ⟨_, σ2, h2, max k0 k1, fun k hk => by simp only [roundsD, hrw k (by omega)]⟩
                | ret => exact ⟨_, σ2, h2, max k0 k1, fun k hk => by simp only [roundsD, hrw k (by omega)]⟩
              | exit i => exact absurd h1 (by simp)
              | ret => exact absurd h1 (by simp)
          obtain ⟨ex, σ', h1, k0, h0⟩ := key xss σ h
          refine ⟨ex, a, σ', h1, k0, fun k hk => ?_⟩
          simp only [code, hg, hx, if_pos hc]
          have := h0 k hk
          simp only at this
          rw [this]
          rfl
        · exact absurd h (by simp)
      · exact absurd h (by simp)
    · exact absurd h (by simp)
  | _ =>
    intro β an a σ K r h
    unfold codeK at h
    exact absurd h (by simp)
def finK (P : Program) (rs : List ResultVar) : Ex → Frame → Store → Option (DV × Store)
  | .normal, a, σ | .ret, a, σ => (resultsOf P a σ rs).bind fun vs => some (wrap vs, σ)
  | _, _, _ => none
theorem callL_of {f lo : Nat} {fn : Func} {c : Code} {args : List DV} {σ : Store} {r : DV × Store} (hf : P.funcs[f]? = some fn) (hname : (fn.name == "runtime.NumGoroutine") = false) (hb : fn.body = some c) (hd : drawsOk c = true)
    (h : codeK P (pol f) (callL P pol) lo c (pol f).ann (args ++ List.replicate (fn.ntmps - args.length) .undef) σ (finK P fn.results.toList) = some r) : callL P pol lo f args σ = some r := by
  obtain ⟨ex, a', σ', h1, k0, h0⟩ := codeK_evt c h
  refine lim_eq ⟨k0 + 1, fun k hk => ?_⟩
  match k, hk with
  | k + 1, hk =>
    have h0 := h0 k (by omega)
    simp only at h0
    simp only [callK, hf, hname, hb, hd, Bool.true_eq_false, if_false, h0]
    cases ex with
    | normal => obtain ⟨vs, hv, he⟩ := bind_some' h1; simp only [hv, Option.map_some]; exact he
    | ret => obtain ⟨vs, hv, he⟩ := bind_some' h1; simp only [hv, Option.map_some]; exact he
    | exit i => exact absurd h1 (by simp [finK])
theorem codeK_bind {pl : FPol} {call : CallF} {lo : Nat} : ∀ (c : Code) {β γ : Type} {an : Ann} {a : Frame} {σ : Store} {K : Ex → Frame → Store → Option β} {J : β → Option γ},
    (codeK P pl call lo c an a σ K).bind J = codeK P pl call lo c an a σ fun ex a σ => (K ex a σ).bind J := by
  have hroundsK : ∀ {β γ : Type} {run : {β : Type} → List DV → Store → (Ex → Store → Option β) → Option β} (hr : ∀ {β γ : Type} xs σ (K : Ex → Store → Option β) (J : β → Option γ), (run xs σ K).bind J = run xs σ fun ex σ => (K ex σ).bind J) (J : β → Option γ) (K : Ex → Store → Option β) (xss : List (List DV)) (σ : Store),
      (roundsK run xss σ K).bind J = roundsK run xss σ fun ex σ => (K ex σ).bind J := by
    intro β γ run hr J K xss
    induction xss with
    | nil => intro σ; rfl
    | cons xs xss ih =>
      intro σ
      simp only [roundsK, hr]
      congr 1
      funext ex σ'
      cases ex with
      | normal => exact ih σ'
      | exit i => rfl
      | ret => rfl
  intro c
  induction c with
  | skip => intros; rfl
  | region id ops draw =>
    intro β γ an a σ K J
    cases draw with
    | false => simp only [codeK, opsK_eq, Option.bind_assoc, Bool.false_eq_true, if_false]
    | true =>
      simp only [codeK, opsK_eq, if_true]
      split
      · simp only [Option.bind_assoc]
      · simp only [opsKT_eq, Option.bind_assoc, List.nil_append]
        congr 1
        funext r
        cases stableB P pl ops.toList (traceD P pl call ops (lowOf lo) ops.toList (flags pl ops) a σ) <;> rfl
  | seq x y ihx ihy =>
    intro β γ an a σ K J
    simp only [codeK, ihx]
    congr 1
    funext ex a' σ'
    cases ex with
    | normal => exact ihy
    | exit i => rfl
    | ret => rfl
  | cond c x y ihx ihy =>
    intro β γ an a σ K J
    simp only [codeK, ← ihx, ← ihy]
    unfold condK
    split <;> rfl
  | block id x ih =>
    intro β γ an a σ K J
    simp only [codeK, ih]
    congr 1
    funext ex a' σ'
    cases ex with
    | normal => rfl
    | exit i => simp only []; split <;> rfl
    | ret => rfl
  | loop x ih =>
    intro β γ an a σ K J
    simp only [codeK, loopWith, Option.bind_assoc]
  | exit id => intros; rfl
  | ret => intros; rfl
  | rangeFunc g ps x y ihx ihy =>
    intro β γ an a σ K J
    simp only [codeK]
    split
    · split
      · split
        · refine hroundsK (run := fun {β} xs σ K' => codeK P pl call lo x .nil (putAll ps.toList xs a) σ fun ex a1 σ1 => match ex with
              | .normal => codeK P pl call lo y an.left a1 σ1 fun ex _ σ2 => K' ex σ2
              | _ => none) (fun xs σ K J => ?_) J _ _ _
          rw [ihx]
          congr 1
          funext ex a1 σ1
          cases ex with
          | normal => exact ihy
          | exit i => rfl
          | ret => rfl
        · rfl
      · rfl
    · rfl
  | _ => intros; rfl
theorem loop_eq {β : Type} {pl : FPol} {call : CallF} {lo : Nat} {x : Code} {an : Ann} {a : Frame} {σ : Store} {K : Ex → Frame → Store → Option β} :
    codeK P pl call lo (.loop x) an a σ K = codeK P pl call lo x an.left (an.cut a) σ fun ex a' σ' => match ex with
      | .normal => codeK P pl call lo (.loop x) an a' σ' K
      | ex => K ex a' σ' := by
  have hcut : ∀ a σ, iterL (fun a σ => codeK P pl call lo x an.left (an.cut a) σ fun ex a σ => some (ex, a, σ)) (an.cut a) σ = iterL (fun a σ => codeK P pl call lo x an.left (an.cut a) σ fun ex a σ => some (ex, a, σ)) a σ := by
    intro a σ
    rw [iterL_eq, iterL_eq _ a]
    simp only [cut_cut]
  have h1 : codeK P pl call lo (.loop x) an a σ K = (iterL (fun a σ => codeK P pl call lo x an.left (an.cut a) σ fun ex a σ => some (ex, a, σ)) a σ).bind fun r => K r.1 r.2.1 r.2.2 := by
    simp only [codeK, loopWith, hcut]
  rw [h1, iterL_eq]
  have h2 : ∀ (J : St → Option β), (codeK P pl call lo x an.left (an.cut a) σ fun ex a σ => some (ex, a, σ)).bind J = codeK P pl call lo x an.left (an.cut a) σ fun ex a σ => J (ex, a, σ) := by
    intro J
    rw [codeK_bind]
    rfl
  refine Eq.trans ?_ (h2 fun r => match r.1 with
    | .normal => codeK P pl call lo (.loop x) an r.2.1 r.2.2 K
    | ex => K ex r.2.1 r.2.2)
  generalize (codeK P pl call lo x an.left (an.cut a) σ fun ex a σ => some (ex, a, σ)) = o
  cases o with
  | none => rfl
  | some r =>
    obtain ⟨ex, a', σ'⟩ := r
    cases ex with
    | normal => simp only [Option.bind_some, codeK, loopWith, hcut]
    | exit i => rfl
    | ret => rfl
end Go.D
end
/- More fuel answers the same. -/
section
set_option linter.unusedVariables false
set_option linter.unusedSimpArgs false
namespace Go.D

variable {P : Program}

def CallLe (c c' : CallF) : Prop := ∀ lo f args σ r, c lo f args σ = some r → c' lo f args σ = some r
theorem pureCall_le {c c' : CallF} (h : CallLe c c') {f : FuncId} {args : List DV} {σ : Store} {r : DV × Store} (hr : pureCall c f args σ = some r) : pureCall c' f args σ = some r := by
  unfold pureCall at hr ⊢
  split at hr
  · rename_i hc
    rw [if_pos hc]
    split at hr
    · rename_i v1 σ1 h1
      rw [h _ _ _ _ _ h1]; exact hr
    · exact absurd hr (by simp)
  · rename_i hc
    rw [if_neg hc]
    split at hr
    · rename_i v1 σ1 h1
      rw [h _ _ _ _ _ h1]; exact hr
    · exact absurd hr (by simp)
theorem op_le {c c' : CallF} (h : CallLe c c') {pl : FPol} {lo : Nat} {a : Frame} {o : Oper} {σ : Store} {r : DV × Store} (hr : op P pl c lo a o σ = some r) : op P pl c' lo a o σ = some r := by
  unfold op at hr
  cases ho : o.op with
  | call q =>
    simp only [ho] at hr
    cases hc : q.callee with
    | value g =>
      simp only [hc] at hr
      cases hg : ev a g with
      | fn f caps =>
        simp only [hg] at hr
        simp only [op, ho, hc, hg]
        by_cases hp : pl.isPlain o.dst = true
        · rw [if_pos hp] at hr ⊢
          exact h _ _ _ _ _ hr
        · rw [if_neg hp] at hr ⊢
          exact pureCall_le h hr
      | _ => simp [hg] at hr
    | builtin b => cases b <;> (unfold op; simp only [ho, hc]; simpa only [hc] using hr)
    | invoke r m => unfold op; simp only [ho, hc]; simpa only [hc] using hr
  | makeFunc f first caps => cases f <;> (unfold op; simpa only [ho] using hr)
  | makeMap t n => cases n <;> (unfold op; simpa only [ho] using hr)
  | _ => unfold op; simpa only [ho] using hr
theorem opsD_le {c c' : CallF} (h : CallLe c c') {pl : FPol} {all : Array Oper} {lows : Bool → Store → Nat} : ∀ {os : List Oper} {cs : List Bool} {a : Frame} {σ : Store} {r : Frame × Store}, opsD P pl c all lows os cs a σ = some r → opsD P pl c' all lows os cs a σ = some r
  | [], cs, a, σ, r, hr => hr
  | o :: os, cs, a, σ, r, hr => by
    simp only [opsD] at hr ⊢
    split at hr
    · rename_i hw
      split at hr
      · rename_i v σ1 h1
        simp only [hw, op_le h h1]
        exact opsD_le h hr
      · exact absurd hr (by simp)
    · rename_i hw
      try simp only [hw]
      exact opsD_le h hr
    · exact absurd hr (by simp)
theorem traceD_le {c c' : CallF} (h : CallLe c c') {pl : FPol} {all : Array Oper} {lows : Bool → Store → Nat} : ∀ {os : List Oper} {cs : List Bool} {a : Frame} {σ : Store} {r : Frame × Store}, opsD P pl c all lows os cs a σ = some r → traceD P pl c all lows os cs a σ = traceD P pl c' all lows os cs a σ
  | [], cs, a, σ, r, hr => rfl
  | o :: os, cs, a, σ, r, hr => by
    simp only [opsD] at hr
    simp only [traceD]
    split at hr
    · rename_i hw
      split at hr
      · rename_i v σ1 h1
        simp only [hw, h1, op_le h h1, traceD_le h hr]
      · exact absurd hr (by simp)
    · rename_i hw
      simp only [hw, traceD_le h hr]
    · exact absurd hr (by simp)
theorem iter_le {b b' : Frame → Store → Option St} (h : ∀ a σ r, b a σ = some r → b' a σ = some r) : ∀ (k k' : Nat) (a : Frame) (σ : Store) (r : St), k ≤ k' → iter b k a σ = some r → iter b' k' a σ = some r
  | 0, k', a, σ, r, hk, hr => absurd hr (by simp [iter])
  | k + 1, 0, a, σ, r, hk, hr => absurd hk (by omega)
  | k + 1, k' + 1, a, σ, r, hk, hr => by
    simp only [iter] at hr ⊢
    split at hr
    · rename_i a1 σ1 h1
      rw [h _ _ _ h1]
      exact iter_le h k k' a1 σ1 r (by omega) hr
    · rename_i hne
      have h2 := h _ _ _ hr
      rw [h2]
      obtain ⟨ex, a1, σ1⟩ := r
      cases ex with
      | normal => exact absurd hr (hne a1 σ1)
      | exit i => rfl
      | ret => rfl
theorem roundsD_le {b b' : List DV → Store → Option (Ex × Store)} (h : ∀ xs σ r, b xs σ = some r → b' xs σ = some r) : ∀ (xss : List (List DV)) (σ : Store) (r : Ex × Store), roundsD b xss σ = some r → roundsD b' xss σ = some r
  | [], σ, r, hr => hr
  | xs :: xss, σ, r, hr => by
    simp only [roundsD] at hr ⊢
    split at hr
    · rename_i σ1 h1
      rw [h _ _ _ h1]
      exact roundsD_le h xss σ1 r hr
    · rename_i hne
      have h2 := h _ _ _ hr
      rw [h2]
      obtain ⟨ex, σ1⟩ := r
      cases ex with
      | normal => exact absurd hr (hne σ1)
      | exit i => rfl
      | ret => rfl
theorem code_le {c c' : CallF} (h : CallLe c c') {pl : FPol} {k k' lo : Nat} (hk : k ≤ k') : ∀ (x : Code) (an : Ann) (a : Frame) (σ : Store) (r : St), code P pl c k lo x an a σ = some r → code P pl c' k' lo x an a σ = some r := by
  intro x
  induction x with
  | region id ops draw =>
    intro an a σ r hr
    simp only [code] at hr ⊢
    obtain ⟨⟨a1, σ1⟩, h1, rfl⟩ := Option.map_eq_some_iff.1 hr
    have : region P pl c' lo ops draw a σ = some (a1, σ1) := by
      unfold region at h1 ⊢
      cases draw with
      | true =>
        simp only [if_true] at h1 ⊢
        split at h1
        · rename_i hst
          have hst2 : (pl.rload.isEmpty || stableB P pl ops.toList (traceD P pl c' ops (lowOf lo) ops.toList (flags pl ops) a σ)) = true := by
            rw [← traceD_le h h1]; exact hst
          rw [if_pos hst2]
          exact opsD_le h h1
        · exact absurd h1 (by simp)
      | false => simp only [Bool.false_eq_true, if_false] at h1 ⊢; exact opsD_le h h1
    rw [this]; rfl
  | seq x y ihx ihy =>
    intro an a σ r hr
    simp only [code] at hr ⊢
    split at hr
    · rename_i a1 σ1 h1
      rw [ihx _ _ _ _ h1]
      exact ihy _ _ _ _ hr
    · rename_i hne
      have h2 := ihx _ _ _ _ hr
      rw [h2]
      obtain ⟨ex, a1, σ1⟩ := r
      cases ex with
      | normal => exact absurd hr (hne a1 σ1)
      | exit i => rfl
      | ret => rfl
  | cond q x y ihx ihy =>
    intro an a σ r hr
    simp only [code] at hr ⊢
    split at hr
    · rename_i hc; (try simp only [hc]); exact ihx _ _ _ _ hr
    · rename_i hc; (try simp only [hc]); exact ihy _ _ _ _ hr
    · exact absurd hr (by simp)
  | block id x ih =>
    intro an a σ r hr
    simp only [code] at hr ⊢
    split at hr
    · rename_i h1; rw [ih _ _ _ _ h1]; exact hr
    · rename_i h1; rw [ih _ _ _ _ h1]; exact hr
    · rename_i h1; rw [ih _ _ _ _ h1]; exact hr
    · exact absurd hr (by simp)
  | loop x ih =>
    intro an a σ r hr
    simp only [code] at hr ⊢
    exact iter_le (fun a σ r hr => ih _ _ _ _ hr) _ _ _ _ _ hk hr
  | rangeFunc g ps x y ihx ihy =>
    intro an a σ r hr
    simp only [code] at hr ⊢
    split at hr
    · rename_i f caps hg
      try simp only [hg]
      split at hr
      · rename_i xss hx
        try simp only [hx]
        split at hr
        · rename_i hc
          rw [if_pos hc]
          obtain ⟨⟨ex, σ1⟩, h1, rfl⟩ := Option.map_eq_some_iff.1 hr
          rw [roundsD_le (fun xs σ r hr => ?_) _ _ _ h1]
          · rfl
          · obtain ⟨ex, σ2⟩ := r
            obtain ⟨a1, σ1, a2, h2, h3⟩ := roundWith_some hr
            simp only [roundWith, ihx _ _ _ _ h2, ihy _ _ _ _ h3]
        · exact absurd hr (by simp)
      · exact absurd hr (by simp)
    · exact absurd hr (by simp)
  | _ =>
    intro an a σ r hr
    simp only [code] at hr ⊢
    exact hr
theorem callK_le {pol : FuncId → FPol} : ∀ k, CallLe (callK P pol k) (callK P pol (k + 1))
  | 0 => fun lo f args σ r h => absurd h (by simp [callK])
  | k + 1 => by
    intro lo f args σ r h
    rw [callK] at h ⊢
    split at h
    · rename_i fn hf
      split at h
      · rename_i c hname hb
        try simp only [hf, hname, hb]
        split at h
        · exact absurd h (by simp)
        rename_i hd
        rw [if_neg hd]
        split at h
        · rename_i a1 σ1 h1
          rw [code_le (callK_le k) (Nat.le_succ k) _ _ _ _ _ h1]
          exact h
        · rename_i a1 σ1 h1
          rw [code_le (callK_le k) (Nat.le_succ k) _ _ _ _ _ h1]
          exact h
        · exact absurd h (by simp)
      · exact absurd h (by simp)
    · exact absurd h (by simp)
theorem callL_at {pol : FuncId → FPol} {k lo : Nat} {f : FuncId} {args : List DV} {σ : Store} {r : DV × Store} (h : callK P pol k lo f args σ = some r) : callL P pol lo f args σ = some r := by
  refine lim_eq ⟨k, fun m hm => ?_⟩
  obtain ⟨d, rfl⟩ := Nat.exists_eq_add_of_le hm
  clear hm
  induction d with
  | zero => exact h
  | succ d ih => exact callK_le (k + d) _ _ _ _ _ ih
end Go.D
end
/- The continuation style once more, so that a kernel works out frames as it goes. -/
section
set_option linter.unusedVariables false
set_option linter.unusedSimpArgs false
namespace Go.D

section
variable {β : Type}
def tall : Unit := (fun (_ : DV → Bool → Option (DV × Store) → Store → (DV → Store → Option Unit) → Option Unit) => ()) guardK
def high (x : β) : β := match tall with | () => x
theorem high_eq (x : β) : high x = x := rfl
def getK : List DV → Nat → (DV → β) → β
  | [], _, K => K .undef
  | x :: _, 0, K => high (K x)
  | _ :: xs, n + 1, K => getK xs n K
theorem getK_eq : ∀ (a : List DV) (n : Nat) (K : DV → β), getK a n K = K (a.getD n .undef)
  | [], n, K => by simp [getK]
  | x :: _, 0, K => rfl
  | _ :: xs, n + 1, K => by simpa [getK] using getK_eq xs n K
def evK (a : Frame) (x : Operand) (K : DV → β) : β := match x with
  | .tmp t => getK a t K
  | .const v => K (cst v)
  | .global _ => K .undef
  | .func f => K (.fn f [])
theorem evK_eq (a : Frame) (x : Operand) (K : DV → β) : evK a x K = K (ev a x) := by
  cases x <;> first | rfl | exact getK_eq _ _ _
def evsK (a : Frame) : List Operand → (List DV → β) → β
  | [], K => K []
  | x :: xs, K => evK a x fun v => evsK a xs fun vs => K (v :: vs)
theorem evsK_eq (a : Frame) : ∀ (xs : List Operand) (K : List DV → β), evsK a xs K = K (xs.map (ev a))
  | [], K => rfl
  | x :: xs, K => by simp only [evsK, evK_eq, evsK_eq a xs, List.map_cons]
def partsK (a : Frame) : List (Nat × Operand) → (List (Nat × DV) → β) → β
  | [], K => K []
  | q :: xs, K => evK a q.2 fun v => partsK a xs fun vs => K ((q.1, v) :: vs)
theorem partsK_eq (a : Frame) : ∀ (xs : List (Nat × Operand)) (K : List (Nat × DV) → β), partsK a xs K = K (xs.map fun q => (q.1, ev a q.2))
  | [], K => rfl
  | q :: xs, K => by simp only [partsK, evK_eq, partsK_eq a xs, List.map_cons]
def optK (a : Frame) (x : Option Operand) (K : Option DV → β) : β := match x with
  | none => K none
  | some x => evK a x fun v => K (some v)
theorem optK_eq (a : Frame) (x : Option Operand) (K : Option DV → β) : optK a x K = K (x.map (ev a)) := by
  cases x <;> simp [optK, evK_eq]
def setK : List DV → Nat → DV → (List DV → β) → β
  | [], _, _, K => K []
  | x :: xs, 0, v, K => high (K (v :: xs))
  | x :: xs, n + 1, v, K => setK xs n v fun xs' => K (x :: xs')
theorem setK_eq : ∀ (a : List DV) (n : Nat) (v : DV) (K : List DV → β), setK a n v K = K (a.set n v)
  | [], n, v, K => by simp [setK]
  | x :: xs, 0, v, K => by simp [setK, high_eq]
  | x :: xs, n + 1, v, K => by simp [setK, setK_eq xs n v]
def putK (a : Frame) (d : Option Tmp) (v : DV) (K : Frame → β) : β := match d with
  | some d => setK a d v K
  | none => K a
theorem putK_eq (a : Frame) (d : Option Tmp) (v : DV) (K : Frame → β) : putK a d v K = K (put a d v) := by
  cases d <;> first | rfl | exact setK_eq _ _ _ _
def maskK : List Bool → Frame → (Frame → β) → β
  | _, [], K => K []
  | [], v :: a, K => maskK [] a fun r => K (.undef :: r)
  | true :: bs, v :: a, K => maskK bs a fun r => K (v :: r)
  | false :: bs, v :: a, K => maskK bs a fun r => K (.undef :: r)
theorem maskK_eq : ∀ (m : List Bool) (a : Frame) (K : Frame → β), maskK m a K = K (mask m a)
  | m, [], K => by cases m <;> simp [maskK, mask]
  | [], v :: a, K => by simp [maskK, mask, maskK_eq [] a]
  | b :: bs, v :: a, K => by cases b <;> simp [maskK, mask, maskK_eq bs a]
def cutK (an : Ann) (a : Frame) (K : Frame → β) : β := match an with
  | .keep m _ => maskK m a K
  | _ => K a
theorem cutK_eq (an : Ann) (a : Frame) (K : Frame → β) : cutK an a K = K (an.cut a) := by
  cases an <;> first | rfl | exact maskK_eq _ _ _
def opF (P : Program) (pl : FPol) (call : CallF) (lo : Nat) (a : Frame) (o : Oper) (σ : Store) (K : DV → Store → Option β) : Option β :=
  match o.op with
  | .move x | .assign x => evK a x fun x => K x σ
  | .pick c x y => evK a c fun c => evK a x fun x => evK a y fun y => (pickV c x y).bind fun v => K v σ
  | .alloc t => (zeroOf P t).bind fun z => K (.ptr σ.length 0) (σ ++ [.mix z])
  | .box _ x => evK a x fun x => (boxV x).bind fun cs => K (.ptr σ.length 0) (σ ++ [.mix cs])
  | .build t ps => partsK a ps.toList fun ps => (build P t ps).bind fun v => K v σ
  | .buildSlice t n ps => partsK a ps.toList fun ps => (buildSlice P (pl.asRow o.dst) t n ps σ).bind fun r => K r.1 r.2
  | .load t x => evK a x fun x => (loadP P pl o.dst t x σ).bind fun v => K v σ
  | .store t x y => evK a x fun x => evK a y fun y => (store P lo t x y σ).bind fun σ' => K .undef σ'
  | .nilCheck x => evK a x fun x => (nilCheckV x).bind fun v => K v σ
  | .binOp op t x y _ => evK a x fun x => evK a y fun y => (binOp P op t x y).bind fun v => K v σ
  | .unOp op _ x => evK a x fun x => (unOp op x).bind fun v => K v σ
  | .convert s d x => evK a x fun x => (convert P s d x).bind fun v => K v σ
  | .makeFunc (.func f) first caps => if first.size = 0 then evsK a caps.toList fun cs => K (.fn f cs) σ else none
  | .makeMap _ none => K (.map σ.length) (σ ++ [.map []])
  | .makeSlice t l c => evK a l fun l => evK a c fun c => (makeSlice P (pl.isMixed o.dst) t l c σ).bind fun r => K r.1 r.2
  | .slice t x l h m => evK a x fun x => optK a l fun l => optK a h fun h => optK a m fun m => (sliceOp P t x l h m).bind fun v => K v σ
  | .fieldAddr t x i => evK a x fun x => (fieldAddr P t x i).bind fun v => K v σ
  | .field t x i => evK a x fun x => (field P t x i).bind fun v => K v σ
  | .indexAddr t x i => evK a x fun x => evK a i fun i => (indexAddr P t x i).bind fun v => K v σ
  | .index t x i => evK a x fun x => evK a i fun i => (index P t x i).bind fun v => K v σ
  | .lookup t x i ok => evK a x fun x => evK a i fun i => (lookup P t x i ok σ).bind fun v => K v σ
  | .mapUpdate t m k v => evK a m fun m => evK a k fun k => evK a v fun v => (mapUpdate P lo t m k v σ).bind fun σ' => K .undef σ'
  | .extract x i => evK a x fun x => (extractV x i).bind fun v => K v σ
  | .call c =>
    match c.callee with
    | .builtin .len => if c.args.size = 1 ∧ c.argTypes.size = 1 then evK a (c.args.getD 0 (.const undef)) fun x => (len P (c.argTypes.getD 0 0) x σ).bind fun v => K v σ else none
    | .builtin .append => if c.args.size = 2 ∧ c.argTypes.size = 2 then evK a (c.args.getD 0 (.const undef)) fun x => evK a (c.args.getD 1 (.const undef)) fun y => (append P lo (pl.isMixed o.dst) (c.argTypes.getD 0 0) (c.argTypes.getD 1 0) x y σ).bind fun r => K r.1 r.2 else none
    | .builtin .max => evsK a c.args.toList fun xs => (maxMin true xs).bind fun v => K v σ
    | .builtin .min => evsK a c.args.toList fun xs => (maxMin false xs).bind fun v => K v σ
    | .builtin _ => none
    | .value g => evK a g fun g => evsK a c.args.toList fun xs => if pl.isPlain o.dst then (plainFn call lo g xs σ).bind fun r => K r.1 r.2
      else (pureFn call g xs σ).bind fun v => K v σ
    | .invoke _ _ => none
  | _ => none
theorem opF_eq (P : Program) (pl : FPol) (call : CallF) (lo : Nat) (a : Frame) (o : Oper) (σ : Store) (K : DV → Store → Option β) : opF P pl call lo a o σ K = opK P pl call lo a o σ K := by
  cases ho : o.op
  case makeFunc f first caps => first | (simp only [opF, opK, ho, evK_eq, evsK_eq, partsK_eq, optK_eq]; done) | (cases f <;> simp only [opF, opK, ho, evsK_eq])
  case makeMap t n => first | (simp only [opF, opK, ho, evK_eq, evsK_eq, partsK_eq, optK_eq]; done) | (cases n <;> simp only [opF, opK, ho])
  case call c =>
    first
    | (simp only [opF, opK, ho, evK_eq, evsK_eq, partsK_eq, optK_eq]; done)
    | (simp only [opF, opK, ho]
       cases hc : c.callee with
       | builtin b => cases b <;> simp only [evK_eq, evsK_eq]
       | value g => simp only [evK_eq, evsK_eq]
       | invoke r m => rfl)
  all_goals simp only [opF, opK, ho, evK_eq, evsK_eq, partsK_eq, optK_eq]
def guardF (all : Array Oper) (a : Frame) (j : Nat) (K : DV → β) : β := match (all.toList[j]?).bind (·.dst) with
  | some t => getK a t K
  | none => K .undef
theorem guardF_eq (all : Array Oper) (a : Frame) (j : Nat) (K : DV → β) : guardF all a j K = K (guardVal all a j) := by
  unfold guardF guardVal
  rw [Array.getElem?_toList]
  cases (all[j]?).bind (·.dst) <;> first | rfl | exact getK_eq _ _ _
abbrev GuardT := (β : Type) → DV → Bool → Option (DV × Store) → Store → (DV → Store → Option β) → Option β
def guardT : GuardT := fun _ => guardK
def opsF (G : GuardT) (P : Program) (pl : FPol) (call : CallF) (all : Array Oper) (lows : Bool → Store → Nat) : List Oper → List Bool → Frame → Store → (Frame → Store → Option β) → Option β
  | [], _, a, σ, K => K a σ
  | o :: os, cs, a, σ, K => match o.guard with
    | none => opF P pl call (lows (cs.headD true) σ) a o σ fun v σ' => putK a o.dst v fun a => opsF G P pl call all lows os cs.tail a σ' K
    | some (j, want) => guardF all a j fun g => G β g want (opF P pl call (lows (cs.headD true) σ) a o σ fun v σ' => some (v, σ')) σ fun v σ' => putK a o.dst v fun a => opsF G P pl call all lows os cs.tail a σ' K
theorem opsF_eq (P : Program) (pl : FPol) (call : CallF) (all : Array Oper) (lows : Bool → Store → Nat) : ∀ (os : List Oper) (cs : List Bool) (a : Frame) (σ : Store) (K : Frame → Store → Option β),
    opsF guardT P pl call all lows os cs a σ K = opsK P pl call all lows os cs a σ K
  | [], cs, a, σ, K => rfl
  | o :: os, cs, a, σ, K => by
    cases hg : o.guard with
    | none => simp only [opsF, opsK, hg, opF_eq, putK_eq, opsF_eq P pl call all lows os]
    | some g =>
      simp only [opsF, opsK, hg, opF_eq, putK_eq, guardF_eq, opsF_eq P pl call all lows os]
      rfl
end

section
variable {β : Type}
def opsFT (G : GuardT) (P : Program) (pl : FPol) (call : CallF) (all : Array Oper) (lows : Bool → Store → Nat) : List Oper → List Bool → Frame → Store → List (Frame × Store) → (Frame → Store → List (Frame × Store) → Option β) → Option β
  | [], _, a, σ, tr, K => K a σ (tr ++ [(a, σ)])
  | o :: os, cs, a, σ, tr, K => match o.guard with
    | none => opF P pl call (lows (cs.headD true) σ) a o σ fun v σ' => putK a o.dst v fun a2 => opsFT G P pl call all lows os cs.tail a2 σ' (tr ++ [(a, σ)]) K
    | some (j, want) => guardF all a j fun g => G β g want (opF P pl call (lows (cs.headD true) σ) a o σ fun v σ' => some (v, σ')) σ fun v σ' => putK a o.dst v fun a2 => opsFT G P pl call all lows os cs.tail a2 σ' (tr ++ [(a, σ)]) K
theorem opsFT_eq (P : Program) (pl : FPol) (call : CallF) (all : Array Oper) (lows : Bool → Store → Nat) : ∀ (os : List Oper) (cs : List Bool) (a : Frame) (σ : Store) (tr : List (Frame × Store)) (K : Frame → Store → List (Frame × Store) → Option β),
    opsFT guardT P pl call all lows os cs a σ tr K = opsKT P pl call all lows os cs a σ tr K
  | [], cs, a, σ, tr, K => rfl
  | o :: os, cs, a, σ, tr, K => by
    cases hg : o.guard with
    | none => simp only [opsFT, opsKT, hg, opF_eq, putK_eq, opsFT_eq P pl call all lows os]
    | some g =>
      simp only [opsFT, opsKT, hg, opF_eq, putK_eq, guardF_eq, opsFT_eq P pl call all lows os]
      rfl
end

noncomputable def codeF (G : GuardT) (P : Program) (pl : FPol) (call : CallF) (lo : Nat) : Code → {β : Type} → Ann → Frame → Store → (Ex → Frame → Store → Option β) → Option β
  | .skip, _, _, a, σ, K => K .normal a σ
  | .region _ ops draw, _, _, a, σ, K => if draw then (if pl.rload.isEmpty then opsF G P pl call ops (lowOf lo) ops.toList (flags pl ops) a σ (K .normal) else opsFT G P pl call ops (lowOf lo) ops.toList (flags pl ops) a σ [] fun a' σ' tr => bif stableB P pl ops.toList tr then K .normal a' σ' else none) else opsF G P pl call ops (fun _ _ => lo) ops.toList [] a σ (K .normal)
  | .seq x y, _, an, a, σ, K => codeF G P pl call lo x an.left a σ fun ex a' σ' => match ex with
    | .normal => codeF G P pl call lo y an.right a' σ' K
    | ex => K ex a' σ'
  | .cond c x y, _, an, a, σ, K => evK a c fun c => condK c (codeF G P pl call lo x an.left a σ K) (codeF G P pl call lo y an.right a σ K)
  | .block id x, _, an, a, σ, K => codeF G P pl call lo x an.left a σ fun ex a' σ' => match ex with
    | .normal => cutK an a' fun a2 => K .normal a2 σ'
    | .exit i => if i = id then cutK an a' fun a2 => K .normal a2 σ' else K (.exit i) a' σ'
    | .ret => K .ret a' σ'
  | .loop x, _, an, a, σ, K => cutK an a fun a2 => loopWith (fun a σ => codeF G P pl call lo x an.left (an.cut a) σ fun ex a σ => some (ex, a, σ)) a2 σ K
  | .exit id, _, _, a, σ, K => K (.exit id) a σ
  | .ret, _, _, a, σ, K => K .ret a σ
  | .rangeFunc g ps x y, _, an, a, σ, K => evK a g fun g => match g with
    | .fn f caps => match (pl.seq f).bind fun kind => seqList kind caps with
      | some xss =>
        if xss.all (·.length == ps.size) && !hasRange x && !hasRange y then
          roundsK (fun xs σ K' => codeF G P pl call lo x .nil (putAll ps.toList xs a) σ fun ex a1 σ1 => match ex with
            | .normal => codeF G P pl call lo y an.left a1 σ1 fun ex _ σ2 => K' ex σ2
            | _ => none) xss σ fun ex σ' => K ex a σ'
        else none
      | none => none
    | _ => none
  | _, _, _, _, _, _ => none
theorem codeF_eq {P : Program} {pl : FPol} {call : CallF} {lo : Nat} : ∀ (c : Code) {β : Type} {an : Ann} {a : Frame} {σ : Store} {K : Ex → Frame → Store → Option β}, codeF guardT P pl call lo c an a σ K = codeK P pl call lo c an a σ K := by
  intro c
  induction c with
  | region id ops draw => intros; simp only [codeF, codeK, opsF_eq, opsFT_eq]
  | seq x y ihx ihy =>
    intro β an a σ K
    simp only [codeF, codeK, ihx]
    congr 1
    funext ex a' σ'
    cases ex with
    | normal => exact ihy
    | exit i => rfl
    | ret => rfl
  | cond c x y ihx ihy => intros; simp only [codeF, codeK, evK_eq, ihx, ihy]
  | block id x ih =>
    intro β an a σ K
    first
    | (simp only [codeF, codeK, ih, cutK_eq]; done)
    | (simp only [codeF, codeK, ih, cutK_eq]; congr 1)
  | loop x ih => intros; simp only [codeF, codeK, ih, cutK_eq]
  | rangeFunc g ps x y ihx ihy =>
    intro β an a σ K
    first
    | (simp only [codeF, codeK, evK_eq, ihx, ihy]; done)
    | (simp only [codeF, codeK, evK_eq, ihx, ihy]; cases ev a g <;> try rfl)
  | _ => intros; rfl
def GuardOk (G : GuardT) : Prop := G = guardT
theorem loopF_eq {P : Program} {β : Type} {pl : FPol} {call : CallF} {lo : Nat} {x : Code} {an : Ann} {a : Frame} {σ : Store} {K : Ex → Frame → Store → Option β} (G : GuardT) (hG : GuardOk G) :
    codeF G P pl call lo (.loop x) an a σ K = cutK an a fun a => codeF G P pl call lo x an.left a σ fun ex a' σ' => match ex with
      | .normal => codeF G P pl call lo (.loop x) an a' σ' K
      | ex => K ex a' σ' := by
  cases hG
  simp only [codeF_eq, cutK_eq]
  exact loop_eq
end Go.D
end
/- What the generated texts need: contexts as functions, results in continuation style. -/
section
set_option linter.unusedVariables false
set_option linter.unusedSimpArgs false
namespace Go.D
abbrev Z : DV := .undef
abbrev tt : Bool := true
abbrev ff : Bool := false
def cellV (P : Program) (t : TypeId) (x : DV) (σ : Store) : Option DV := match x with
  | .ptr r off => load P t (.ptr r off) σ
  | _ => none
def resK {β : Type} (P : Program) (a : Frame) (σ : Store) : List ResultVar → (List DV → Option β) → Option β
  | [], K => K []
  | .tmp t :: rs, K => resK P a σ rs fun vs => K (a.getD t .undef :: vs)
  | .cell x t :: rs, K => (cellV P t (a.getD x .undef) σ).bind fun v => resK P a σ rs fun vs => K (v :: vs)
theorem resK_eq {β : Type} (P : Program) (a : Frame) (σ : Store) : ∀ (rs : List ResultVar) (K : List DV → Option β), resK P a σ rs K = (resultsOf P a σ rs).bind K
  | [], K => rfl
  | .tmp t :: rs, K => by
    simp only [resK, resultsOf, resultOf, resK_eq P a σ rs]
    cases resultsOf P a σ rs <;> rfl
  | .cell x t :: rs, K => by
    simp only [resK, resultsOf, resultOf, resK_eq P a σ rs]
    unfold cellV
    generalize a.getD x .undef = g
    cases g <;> try rfl
    rename_i r off
    simp only []
    cases load P t (.ptr r off) σ <;> first | rfl | (cases resultsOf P a σ rs <;> rfl)
def finR (P : Program) (rs : List ResultVar) : Ex → Frame → Store → Option (DV × Store)
  | .normal, a, σ => resK P a σ rs fun vs => some (wrap vs, σ)
  | .ret, a, σ => resK P a σ rs fun vs => some (wrap vs, σ)
  | _, _, _ => none
theorem finR_eq (P : Program) (rs : List ResultVar) : finR P rs = finK P rs := by
  funext ex a σ
  cases ex <;> first | rfl | exact resK_eq P a σ rs _
def bodyOf (f : Func) : Code := f.body.getD .skip
theorem callL_run {P : Program} {pol : FuncId → FPol} {f lo : Nat} {fn : Func} {args : List DV} {σ : Store} {r : DV × Store} (hf : P.funcs[f]? = some fn) (hname : (fn.name == "runtime.NumGoroutine") = false) (hb : fn.body.isSome = true) (hd : drawsOk (bodyOf fn) = true)
    (h : codeF guardT P (pol f) (callL P pol) lo (bodyOf fn) (pol f).ann (args ++ List.replicate (fn.ntmps - args.length) .undef) σ (finR P fn.results.toList) = some r) : callL P pol lo f args σ = some r := by
  obtain ⟨c, hc⟩ := Option.isSome_iff_exists.1 hb
  have e : bodyOf fn = c := by unfold bodyOf; rw [hc]; rfl
  rw [e] at hd h
  rw [finR_eq, codeF_eq] at h
  exact callL_of hf hname hc hd h
def Code.fstC : Code → Code
  | .seq x _ => x | .cond _ x _ => x | .block _ x => x | .loop x => x | .rangeFunc _ _ x _ => x | c => c
def Code.sndC : Code → Code
  | .seq _ y => y | .cond _ _ y => y | .rangeFunc _ _ _ y => y | c => c
def splitC {β : Type} (N : Frame → Store → Option β) (E : Ex → Frame → Store → Option β) : Ex → Frame → Store → Option β := fun ex a σ => match ex with
  | .normal => N a σ
  | ex => E ex a σ
theorem splitC_eta {β : Type} (K : Ex → Frame → Store → Option β) : splitC (K .normal) K = K := by
  funext ex a σ
  cases ex <;> rfl
section
variable {β : Type} (G : GuardT) (P : Program) (pl : FPol) (call : CallF) (lo : Nat)
noncomputable def seqC (y : Code) (an : Ann) (K : Ex → Frame → Store → Option β) : Ex → Frame → Store → Option β := fun ex a σ => match ex with
  | .normal => codeF G P pl call lo y an a σ K
  | ex => K ex a σ
def blockC (id : Nat) (an : Ann) (K : Ex → Frame → Store → Option β) : Ex → Frame → Store → Option β := fun ex a σ => match ex with
  | .normal => cutK an a fun a2 => K .normal a2 σ
  | .exit i => if i = id then cutK an a fun a2 => K .normal a2 σ else K (.exit i) a σ
  | .ret => K .ret a σ
noncomputable def loopC (x : Code) (an : Ann) (K : Ex → Frame → Store → Option β) : Ex → Frame → Store → Option β := fun ex a σ => match ex with
  | .normal => codeF G P pl call lo (.loop x) an a σ K
  | ex => K ex a σ
end
end Go.D
end
/- Policies of the functions: what is kept of temporaries, which calls are plain, which slices are rows. -/
section
namespace Go.D
noncomputable def zn (n : Nat) (l : List DV) : List DV := Nat.rec l (fun _ t => .undef :: t) n
noncomputable def mk (n b : Nat) : List Bool := Nat.rec (motive := fun _ => Nat → List Bool) (fun _ => []) (fun _ ih b => Nat.beq (b % 2) 1 :: ih (b / 2)) n b
abbrev sq (a : Ann) : Ann := .seq .nil a
abbrev I0 : DV := .p (.int .i64 0)
abbrev I1 : DV := .p (.int .i64 1)
abbrev RS : Type := Option (DV × Store)
noncomputable abbrev PP : Program := Go.Proofs.Tryz.prog
noncomputable def pol3 : FPol := { ann := .nil }
noncomputable def pol4 : FPol := { ann := .nil }
noncomputable def pol5 : FPol := { ann := .nil }
noncomputable def pol6 : FPol := { ann := (sq (sq (sq (.seq (sq (.keep (mk 4 12) (.keep (mk 6 44) (sq (.seq (.keep (mk 6 44) .nil) .nil))))) (sq (sq (sq (.seq (sq (.keep (mk 0 0) (.keep (mk 9 324) (sq (.seq (.keep (mk 9 324) (sq (.keep (mk 9 324) (.keep (mk 10 836) (sq (.seq (.keep (mk 10 836) (sq (.seq (sq (.keep (mk 11 1860) (.keep (mk 12 3908) (sq (.seq (.keep (mk 12 3908) .nil) .nil))))) .nil))) .nil)))))) .nil))))) .nil)))))))) }
noncomputable def pol7 : FPol := { ann := (sq (sq (sq (sq (sq (sq (sq (sq (.seq (sq (.keep (mk 13 5140) (.keep (mk 14 13332) (sq (.seq (.keep (mk 14 13332) .nil) .nil))))) (.seq (sq (.keep (mk 13 4112) (.keep (mk 15 21524) (sq (.seq (.keep (mk 15 21524) (sq (.seq (sq (.keep (mk 16 50196) (.keep (mk 17 119828) (sq (.seq (.keep (mk 17 119828) .nil) .nil))))) .nil))) .nil))))) (sq (.seq (sq (.keep (mk 19 262160) (.keep (mk 20 790544) (sq (.seq (.keep (mk 20 790544) .nil) .nil))))) .nil)))))))))))) }
noncomputable def pol8 : FPol := { ann := .nil }
noncomputable def pol9 : FPol := { ann := .nil, plain := [28] }
noncomputable def pol10 : FPol := { ann := .nil }
noncomputable def pol11 : FPol := { ann := (sq (sq (.seq (sq (.keep (mk 0 0) (.keep (mk 4 9) (sq (.seq (.keep (mk 4 9) .nil) .nil))))) .nil))) }
noncomputable def pol12 : FPol := { ann := .nil, plain := [19] }
noncomputable def pol13 : FPol := { ann := .nil }
noncomputable def pol14 : FPol := { ann := .nil }
noncomputable def pol15 : FPol := { ann := (sq (sq (sq (sq (sq (sq (.seq (sq (.keep (mk 13 4096) (.keep (mk 56 63050394783193624) (sq (sq (.seq (.keep (mk 56 63050394783193624) .nil) .nil)))))) .nil))))))), plain := [24] }
noncomputable def pol16 : FPol := { ann := .nil }
noncomputable def pol17 : FPol := { ann := (sq (sq (sq (.seq (sq (.keep (mk 0 0) (.keep (mk 4 10) (sq (.seq (.keep (mk 4 10) .nil) .nil))))) .nil)))) }
noncomputable def pol18 : FPol := { ann := (sq (sq (.seq (sq (.keep (mk 4 12) (.keep (mk 6 44) (sq (.seq (.keep (mk 6 44) .nil) .nil))))) (sq (.seq (sq (.keep (mk 0 0) (.keep (mk 7 72) (sq (.seq (.keep (mk 7 72) (sq (sq (.keep (mk 7 72) (.keep (mk 8 200) (sq (.seq (.keep (mk 8 200) .nil) .nil))))))) .nil))))) .nil))))) }
noncomputable def pol19 : FPol := { ann := .nil }
noncomputable def pol20 : FPol := { ann := (sq (sq (sq (.seq (sq (.keep (mk 7 124) (.keep (mk 8 252) (sq (.seq (.keep (mk 8 252) .nil) .nil))))) (.seq (sq (.keep (mk 7 112) (.keep (mk 9 380) (sq (.seq (.keep (mk 9 380) (sq (.keep (mk 9 380) (.keep (mk 10 892) (sq (.seq (.keep (mk 10 892) .nil) .nil)))))) .nil))))) .nil))))) }
noncomputable def pol21 : FPol := { ann := .nil }
noncomputable def pol22 : FPol := { ann := (sq (sq (sq (.seq (sq (.keep (mk 3 6) (.keep (mk 6 38) (sq (.seq (.keep (mk 6 38) .nil) .nil))))) (sq (.seq (sq (.keep (mk 0 0) (.keep (mk 7 70) (sq (.seq (.keep (mk 7 70) .nil) .nil))))) .nil)))))) }
noncomputable def pol23 : FPol := { ann := .nil }
noncomputable def pol24 : FPol := { ann := (sq (sq (sq (sq (.seq (sq (.keep (mk 10 512) (.keep (mk 11 1948) (sq (.seq (.keep (mk 11 1948) .nil) .nil))))) .nil))))) }
noncomputable def pol25 : FPol := { ann := .nil, plain := [19] }
noncomputable def pol26 : FPol := { ann := .nil }
noncomputable def pol27 : FPol := { ann := (sq (sq (sq (sq (sq (.seq (sq (.keep (mk 12 2048) (.keep (mk 49 492581209246236) (sq (sq (.seq (.keep (mk 49 492581209246236) (sq (sq (.seq (sq (.keep (mk 49 492581209254428) (.keep (mk 49 492581209303580) (sq (.seq (.keep (mk 49 492581209303580) .nil) .nil))))) .nil)))) .nil)))))) .nil)))))), plain := [25] }
noncomputable def pol28 : FPol := { ann := (sq (sq (.seq (sq (.keep (mk 0 0) (.keep (mk 6 40) (sq (.seq (.keep (mk 6 40) .nil) .nil))))) .nil))) }
noncomputable def pol29 : FPol := { ann := (sq (sq (sq (.seq (sq (.keep (mk 7 124) (.keep (mk 8 252) (sq (.seq (.keep (mk 8 252) .nil) .nil))))) (.seq (sq (.keep (mk 7 112) (.keep (mk 9 380) (sq (.seq (.keep (mk 9 380) (sq (sq (sq (sq (.keep (mk 9 380) (.keep (mk 11 1916) (sq (.seq (.keep (mk 11 1916) .nil) .nil))))))))) .nil))))) .nil))))) }
noncomputable def pol30 : FPol := { ann := (sq (sq (sq (.seq (sq (.keep (mk 9 256) (.keep (mk 10 924) (sq (.seq (.keep (mk 10 924) (.seq (sq (.keep (mk 10 924) (.keep (mk 11 1948) (sq (.seq (.keep (mk 11 1948) .nil) .nil))))) .nil)) .nil))))) .nil)))) }
noncomputable def pol31 : FPol := { ann := (sq (sq (sq (sq (.seq (sq (.keep (mk 9 256) (.keep (mk 26 58720518) (sq (sq (.seq (.keep (mk 26 58720518) .nil) .nil)))))) .nil))))) }
noncomputable def pol32 : FPol := { ann := .nil }
noncomputable def pol33 : FPol := { ann := (sq (sq (sq (.seq (sq (.keep (mk 2 2) (.keep (mk 4 10) (sq (.seq (.keep (mk 4 10) .nil) .nil))))) (.seq (sq (.keep (mk 0 0) (.keep (mk 5 18) (sq (.seq (.keep (mk 5 18) .nil) .nil))))) .nil))))) }
noncomputable def pol34 : FPol := { ann := (sq (sq (.seq (sq (.keep (mk 0 0) (.keep (mk 6 35) (sq (.seq (.keep (mk 6 35) .nil) .nil))))) .nil))) }
noncomputable def pol35 : FPol := { ann := (sq (sq (.seq (sq (.keep (mk 6 32) (.keep (mk 7 102) (sq (.seq (.keep (mk 7 102) .nil) .nil))))) .nil))) }
noncomputable def pol36 : FPol := { ann := .nil }
noncomputable def pol37 : FPol := { ann := (sq (sq (.seq (sq (.keep (mk 0 0) (.keep (mk 4 9) (sq (.seq (.keep (mk 4 9) .nil) .nil))))) .nil))) }
noncomputable def pol38 : FPol := { ann := (sq (sq (sq (.seq (sq (.keep (mk 0 0) (.keep (mk 6 40) (sq (.seq (.keep (mk 6 40) (sq (.keep (mk 6 40) (.keep (mk 7 104) (sq (.seq (.keep (mk 7 104) .nil) .nil)))))) .nil))))) .nil)))) }
noncomputable def pol39 : FPol := { ann := .nil }
noncomputable def pol40 : FPol := { ann := (sq (sq (.seq (sq (.keep (mk 4 12) (.keep (mk 5 30) (sq (.seq (.keep (mk 5 30) .nil) .nil))))) .nil))) }
noncomputable def pol41 : FPol := { ann := .nil }
noncomputable def pol42 : FPol := { ann := (sq (sq (sq (sq (sq (sq (.seq (sq (.keep (mk 15 26656) (.seq (.keep (mk 0 0) (sq (sq (.keep (mk 0 0) (.keep (mk 69 442721857769029296176) (sq (sq (.seq (.keep (mk 69 442721857769029296176) (sq (sq (sq (.keep (mk 69 442721857769029296176) (.keep (mk 69 442721857769029492784) (sq (.seq (.keep (mk 69 442721857769029492784) .nil) .nil)))))))) .nil)))))))) .nil))) (sq (sq (.seq (sq (.keep (mk 19 262144) (.keep (mk 138 304893000761160863263183648258864318277664) (sq (sq (.seq (.keep (mk 138 304893000761160863263183648258864318277664) (sq (.seq (sq (.keep (mk 138 304893000761160863263183648258864320374816) (.keep (mk 148 312515325780189884844763239465335925405149216) (sq (sq (.seq (.keep (mk 148 312515325780189884844763239465335925405149216) .nil) .nil)))))) .nil))) .nil)))))) .nil)))))))))) }
noncomputable def pol43 : FPol := { ann := (sq (.seq (sq (.keep (mk 0 0) (.keep (mk 8 140) (sq (.seq (.keep (mk 8 140) (sq (.keep (mk 8 140) (.keep (mk 9 396) (sq (.seq (.keep (mk 9 396) (sq (.seq (sq (.keep (mk 10 908) (.keep (mk 11 1932) (sq (.seq (.keep (mk 11 1932) .nil) .nil))))) .nil))) .nil)))))) .nil))))) .nil)) }
noncomputable def pol44 : FPol := { ann := (sq (sq (sq (.seq (sq (.keep (mk 7 124) (.keep (mk 8 252) (sq (.seq (.keep (mk 8 252) (sq (.keep (mk 8 252) (.keep (mk 9 508) (sq (.seq (.keep (mk 9 508) .nil) .nil)))))) .nil))))) (.seq (sq (.keep (mk 7 112) (.keep (mk 10 636) (sq (.seq (.keep (mk 10 636) (sq (.keep (mk 10 636) (.keep (mk 11 1660) (sq (.seq (.keep (mk 11 1660) .nil) .nil)))))) .nil))))) .nil))))) }
noncomputable def pol45 : FPol := { ann := (sq (sq (sq (.seq (sq (.keep (mk 9 412) (.keep (mk 10 924) (sq (.seq (.keep (mk 10 924) (sq (sq (.keep (mk 10 924) (.keep (mk 11 1948) (sq (.seq (.keep (mk 11 1948) (sq (sq (.keep (mk 11 1948) (.keep (mk 12 3996) (sq (.seq (.keep (mk 12 3996) .nil) .nil))))))) .nil))))))) .nil))))) (sq (sq (.seq (sq (.keep (mk 13 4096) (.keep (mk 15 29084) (sq (.seq (.keep (mk 15 29084) (sq (.keep (mk 15 29084) (.keep (mk 16 61852) (sq (.seq (.keep (mk 16 61852) .nil) .nil)))))) .nil))))) .nil))))))) }
noncomputable def pol46 : FPol := { ann := .nil }
noncomputable def pol47 : FPol := { ann := .nil }
noncomputable def pol48 : FPol := { ann := .nil, mixed := [9] }
noncomputable def pol49 : FPol := { ann := .nil }
noncomputable def pol50 : FPol := { ann := (sq (sq (.seq (sq (.keep (mk 0 0) (.keep (mk 39 481036337152) (sq (sq (.seq (.keep (mk 39 481036337152) .nil) .nil)))))) .nil))) }
noncomputable def pol51 : FPol := { ann := (sq (sq (.seq (sq (.keep (mk 7 92) (.keep (mk 13 7260) (sq (sq (.seq (.keep (mk 13 7260) .nil) .nil)))))) .nil))), plain := [32] }
noncomputable def pol52 : FPol := { ann := (sq (sq (.seq (sq (.keep (mk 4 8) (.keep (mk 5 25) (sq (.seq (.keep (mk 5 25) .nil) .nil))))) .nil))) }
noncomputable def pol53 : FPol := { ann := (sq (.seq (sq (.keep (mk 0 0) (.keep (mk 8 224) (sq (sq (.seq (.keep (mk 8 224) .nil) .nil)))))) .nil)) }
noncomputable def pol54 : FPol := { ann := (sq (sq (sq (sq (.seq (sq (.keep (mk 8 128) (.keep (mk 38 206158430342) (sq (sq (.seq (.keep (mk 38 206158430342) .nil) .nil)))))) .nil))))) }
noncomputable def pol55 : FPol := { ann := .nil }
noncomputable def pol56 : FPol := { ann := (sq (sq (.seq (sq (.keep (mk 2 2) (.keep (mk 4 10) (sq (.seq (.keep (mk 4 10) .nil) .nil))))) (.seq (sq (.keep (mk 0 0) (.keep (mk 5 18) (sq (.seq (.keep (mk 5 18) .nil) .nil))))) .nil)))) }
noncomputable def pol57 : FPol := { ann := .nil }
noncomputable def pol58 : FPol := { ann := .nil }
noncomputable def pol59 : FPol := { ann := .nil }
noncomputable def pol60 : FPol := { ann := (sq (sq (.seq (sq (.keep (mk 6 51) (.keep (mk 7 115) (sq (.seq (.keep (mk 7 115) .nil) .nil))))) (.seq (sq (.keep (mk 6 51) (.keep (mk 8 179) (sq (.keep (mk 8 179) (sq (sq (.keep (mk 8 179) (.keep (mk 9 435) (sq (.seq (.keep (mk 9 435) .nil) .nil))))))))))) (sq (sq (.seq (sq (.keep (mk 11 1587) (.keep (mk 12 3635) (sq (.seq (.keep (mk 12 3635) .nil) .nil))))) (.seq (sq (.keep (mk 11 1586) (.keep (mk 13 5683) (sq (.seq (.keep (mk 13 5683) .nil) .nil))))) (.seq (sq (.keep (mk 10 528) (.keep (mk 14 9778) (sq (.seq (.keep (mk 14 9778) (sq (.keep (mk 14 9778) (.keep (mk 15 26162) (sq (.seq (.keep (mk 15 26162) (sq (.keep (mk 15 26162) (.keep (mk 16 58930) (sq (.seq (.keep (mk 16 58930) .nil) .nil)))))) .nil)))))) .nil))))) .nil))))))))) }
noncomputable def pol61 : FPol := { ann := .nil }
noncomputable def pol62 : FPol := { ann := (sq (.seq (sq (.keep (mk 0 0) (.keep (mk 6 35) (sq (.seq (.keep (mk 6 35) .nil) .nil))))) .nil)) }
noncomputable def pol63 : FPol := { ann := (sq (.seq (sq (.keep (mk 0 0) (.keep (mk 8 142) (sq (.seq (.keep (mk 8 142) .nil) .nil))))) .nil)) }
noncomputable def pol64 : FPol := { ann := (sq (.seq (sq (.keep (mk 0 0) (.keep (mk 8 142) (sq (.seq (.keep (mk 8 142) .nil) .nil))))) .nil)) }
noncomputable def pol65 : FPol := { ann := .nil }
noncomputable def pol66 : FPol := { ann := (sq (sq (.seq (sq (.keep (mk 7 92) (.keep (mk 13 7260) (sq (sq (.seq (.keep (mk 13 7260) .nil) .nil)))))) .nil))), plain := [27] }
noncomputable def pol67 : FPol := { ann := (sq (sq (sq (sq (.seq (sq (.keep (mk 6 50) (.keep (mk 7 114) (sq (.seq (.keep (mk 7 114) .nil) .nil))))) .nil))))) }
noncomputable def pol68 : FPol := { ann := .nil }
noncomputable def pol69 : FPol := { ann := (sq (.seq (sq (.keep (mk 2 3) (.keep (mk 6 35) (sq (.seq (.keep (mk 6 35) .nil) .nil))))) .nil)) }
noncomputable def pol70 : FPol := { ann := (sq (.seq (sq (.keep (mk 0 0) (.keep (mk 8 142) (sq (.seq (.keep (mk 8 142) .nil) .nil))))) .nil)) }
noncomputable def pol71 : FPol := { ann := (sq (sq (.seq (sq (.keep (mk 0 0) (.keep (mk 34 15032385544) (sq (sq (.seq (.keep (mk 34 15032385544) (sq (sq (.keep (mk 34 15032385544) (.keep (mk 40 977105059976) (sq (sq (.seq (.keep (mk 40 977105059976) .nil) .nil)))))))) .nil)))))) .nil))) }
noncomputable def pol72 : FPol := { ann := (sq (.seq (sq (.keep (mk 0 0) (.keep (mk 12 3586) (sq (sq (.seq (.keep (mk 12 3586) (sq (sq (.keep (mk 12 3586) (.keep (mk 19 396898) (sq (sq (.seq (.keep (mk 19 396898) .nil) .nil)))))))) .nil)))))) .nil)) }
noncomputable def pol73 : FPol := { ann := .nil }
noncomputable def pol74 : FPol := { ann := (sq (sq (.seq (sq (.keep (mk 7 92) (.keep (mk 14 14428) (sq (sq (.seq (.keep (mk 14 14428) (sq (sq (.keep (mk 14 14428) (.keep (mk 20 801116) (sq (sq (.seq (.keep (mk 20 801116) .nil) .nil)))))))) .nil)))))) .nil))) }
noncomputable def pol75 : FPol := { ann := (sq (.seq (sq (.keep (mk 0 0) (.keep (mk 17 115491) (sq (sq (.seq (.keep (mk 17 115491) .nil) .nil)))))) .nil)) }
noncomputable def pol76 : FPol := { ann := .nil }
noncomputable def pol77 : FPol := { ann := .nil }
noncomputable def pol78 : FPol := { ann := .nil }
noncomputable def pol79 : FPol := { ann := (sq (.seq (sq (.keep (mk 0 0) (.keep (mk 10 542) (sq (.seq (.keep (mk 10 542) .nil) .nil))))) .nil)) }
noncomputable def pol80 : FPol := { ann := (sq (.seq (sq (.keep (mk 0 0) (.keep (mk 10 752) (sq (.seq (.keep (mk 10 752) .nil) .nil))))) .nil)) }
noncomputable def pol81 : FPol := { ann := .nil }
noncomputable def pol82 : FPol := { ann := .nil }
noncomputable def pol83 : FPol := { ann := (sq (sq (.seq (sq (.keep (mk 6 32) (.keep (mk 14 14382) (sq (sq (.seq (.keep (mk 14 14382) .nil) .nil)))))) .nil))) }
noncomputable def pol84 : FPol := { ann := (sq (sq (.seq (sq (.keep (mk 6 32) (.keep (mk 12 3618) (sq (sq (.seq (.keep (mk 12 3618) .nil) .nil)))))) .nil))) }
noncomputable def pol85 : FPol := { ann := (sq (sq (sq (sq (.seq (sq (.keep (mk 7 118) (.keep (mk 27 117440630) (sq (sq (.seq (.keep (mk 27 117440630) .nil) .nil)))))) (.seq (sq (.keep (mk 6 54) (.keep (mk 10 630) (sq (.seq (.keep (mk 10 630) (sq (.keep (mk 10 630) (.keep (mk 49 492581209244278) (sq (sq (.seq (.keep (mk 49 492581209244278) .nil) .nil))))))) .nil))))) (sq (.seq (sq (.keep (mk 6 54) (.keep (mk 62 4035225266123964470) (sq (sq (.seq (.keep (mk 62 4035225266123964470) .nil) .nil)))))) (sq (.seq (sq (.keep (mk 6 54) (.keep (mk 98 277298568799925181577403826230) (sq (sq (.seq (.keep (mk 98 277298568799925181577403826230) .nil) .nil)))))) (sq (sq (.seq (sq (.keep (mk 6 52) (.keep (mk 131 2381976568446569244243622252022377480246) (sq (sq (.seq (.keep (mk 131 2381976568446569244243622252022377480246) (sq (sq (.keep (mk 131 2381976568446569244243622252022377480246) (.keep (mk 141 2441525982657733475349712808322936917262390) (sq (sq (.seq (.keep (mk 141 2441525982657733475349712808322936917262390) .nil) .nil)))))))) .nil)))))) .nil))))))))))))), plain := [32, 55, 58, 119, 124, 168], mixed := [110, 158], rload := [81], sload := [79], pbuild := [82] }
noncomputable def pol86 : FPol := { ann := .nil }
noncomputable def pol87 : FPol := { ann := .nil }
noncomputable def pol88 : FPol := { ann := .nil }
noncomputable def pol89 : FPol := { ann := .nil }
noncomputable def pol90 : FPol := { ann := (sq (.seq (sq (.keep (mk 0 0) (.keep (mk 9 387) (sq (sq (.seq (.keep (mk 9 387) .nil) .nil)))))) .nil)) }
noncomputable def pol91 : FPol := { ann := .nil }
noncomputable def pol92 : FPol := { ann := .nil }
noncomputable def pol93 : FPol := { ann := (sq (sq (.seq (sq (.keep (mk 0 0) (.keep (mk 6 44) (sq (.seq (.keep (mk 6 44) .nil) .nil))))) .nil))) }
noncomputable def pol94 : FPol := { ann := (sq (.seq (sq (.keep (mk 0 0) (.keep (mk 6 41) (sq (.seq (.keep (mk 6 41) .nil) .nil))))) .nil)) }
noncomputable def pol95 : FPol := { ann := (sq (sq (sq (.seq (sq (.keep (mk 6 32) (.keep (mk 27 117440558) (sq (sq (.seq (.keep (mk 27 117440558) (sq (sq (sq (.keep (mk 27 117440558) .nil))))) .nil)))))) .nil)))) }
noncomputable def pol96 : FPol := { ann := (sq (sq (sq (.seq (sq (.keep (mk 5 26) (.keep (mk 23 7340058) (sq (sq (.seq (.keep (mk 23 7340058) .nil) .nil)))))) (.seq (sq (.keep (mk 5 16) (.keep (mk 52 3940649673949210) (sq (sq (.seq (.keep (mk 52 3940649673949210) .nil) .nil)))))) .nil))))) }
noncomputable def pol97 : FPol := { ann := .nil }
noncomputable def pol98 : FPol := { ann := (sq (sq (.seq (sq (.keep (mk 4 8) (.keep (mk 9 456) (sq (sq (.seq (.keep (mk 9 456) .nil) .nil)))))) .nil))) }
noncomputable def pol99 : FPol := { ann := .nil }
noncomputable def pol100 : FPol := { ann := .nil }
noncomputable def pol101 : FPol := { ann := .nil }
noncomputable def pol102 : FPol := { ann := (sq (.seq (sq (.keep (mk 2 3) (.keep (mk 12 3587) (sq (sq (.seq (.keep (mk 12 3587) .nil) .nil)))))) .nil)) }
noncomputable def pol103 : FPol := { ann := .nil }
noncomputable def pol104 : FPol := { ann := (sq (sq (.seq (sq (.keep (mk 6 32) (.keep (mk 16 57390) (sq (sq (.seq (.keep (mk 16 57390) (sq (sq (.keep (mk 16 57390) (.keep (mk 26 58777774) (sq (sq (.seq (.keep (mk 26 58777774) .nil) .nil)))))))) .nil)))))) .nil))) }
noncomputable def pol105 : FPol := { ann := (sq (.seq (sq (.keep (mk 0 0) (.keep (mk 9 387) (sq (sq (.seq (.keep (mk 9 387) .nil) .nil)))))) .nil)) }
noncomputable def pol106 : FPol := { ann := (sq (.keep (mk 0 0) (.keep (mk 4 11) (sq (.seq (.keep (mk 4 11) .nil) .nil))))) }
noncomputable def pol107 : FPol := { ann := .nil }
noncomputable def pol108 : FPol := { ann := .nil }
noncomputable def pol109 : FPol := { ann := .nil }
noncomputable def pol110 : FPol := { ann := .nil, mixed := [21] }
noncomputable def pol111 : FPol := { ann := .nil, plain := [13] }
noncomputable def pol112 : FPol := { ann := .nil }
noncomputable def pol113 : FPol := { ann := .nil, plain := [10] }
noncomputable def pol114 : FPol := { ann := (sq (sq (.seq (sq (.keep (mk 1 1) (.keep (mk 4 9) (sq (.seq (.keep (mk 4 9) (sq (.seq (sq (.seq (sq (.keep (mk 4 9) (.keep (mk 6 57) (sq (.seq (.keep (mk 6 57) .nil) .nil))))) .nil)) .nil))) .nil))))) .nil))) }
noncomputable def pol115 : FPol := { ann := .nil, plain := [4, 6] }
noncomputable def pol116 : FPol := { ann := (sq (.seq (sq (.keep (mk 0 0) (.keep (mk 9 387) (sq (sq (.seq (.keep (mk 9 387) .nil) .nil)))))) .nil)) }
noncomputable def pol117 : FPol := { ann := (sq (.seq (sq (.keep (mk 0 0) (.keep (mk 9 387) (sq (sq (.seq (.keep (mk 9 387) .nil) .nil)))))) .nil)) }
noncomputable def pol118 : FPol := { ann := .nil }
noncomputable def pol119 : FPol := { ann := .nil }
noncomputable def pol120 : FPol := { ann := .nil }
noncomputable def pol121 : FPol := { ann := (sq (sq (.keep (mk 0 0) (.keep (mk 12 3103) (.keep (mk 12 3103) .nil))))), plain := [30, 37, 44, 52, 61, 80, 103, 111, 134, 146] }
noncomputable def pol122 : FPol := { ann := .nil }
noncomputable def pol123 : FPol := { ann := (sq (sq (.keep (mk 0 0) (.keep (mk 10 783) (.keep (mk 10 783) .nil))))), plain := [27, 33, 39, 46, 54, 72, 92, 99, 121, 132] }
noncomputable def pol124 : FPol := { ann := .nil, plain := [13] }
noncomputable def pol125 : FPol := { ann := (sq (sq (.seq (sq (.keep (mk 1 1) (.keep (mk 4 9) (sq (.seq (.keep (mk 4 9) (sq (.seq (sq (.seq (sq (.keep (mk 4 9) (.keep (mk 6 57) (sq (.seq (.keep (mk 6 57) .nil) .nil))))) .nil)) .nil))) .nil))))) .nil))) }
noncomputable def pol126 : FPol := { ann := (sq (.keep (mk 0 0) (.keep (mk 9 271) (sq (.seq (.keep (mk 9 271) (sq (.keep (mk 9 271) (.keep (mk 10 783) (sq (.seq (.keep (mk 10 783) .nil) .nil)))))) .nil))))) }
noncomputable def pol127 : FPol := { ann := (sq (sq (sq (.seq (sq (.keep (mk 11 1801) (.keep (mk 12 3849) (sq (.seq (.keep (mk 12 3849) .nil) .nil))))) (sq (.keep (mk 0 0) (.keep (mk 13 4873) (sq (.seq (.keep (mk 13 4873) .nil) .nil))))))))), plain := [29, 59] }
noncomputable def pol128 : FPol := { ann := (sq (sq (.seq (sq (sq (sq (.keep (mk 0 0) (.keep (mk 12 3843) (sq (.seq (.keep (mk 12 3843) .nil) .nil))))))) .nil))), plain := [38] }
noncomputable def pol129 : FPol := { ann := (sq (sq (sq (sq (sq (sq (sq (sq (.keep (mk 10 768) .nil))))))))), plain := [40, 44, 48, 54] }
noncomputable def pol130 : FPol := { ann := (sq (sq (.keep (mk 0 0) (.keep (mk 10 769) (sq (.keep (mk 10 769) .nil)))))) }
noncomputable def pol131 : FPol := { ann := (sq (sq (.seq (sq (.keep (mk 0 0) (.keep (mk 11 1551) (sq (.seq (.keep (mk 11 1551) (.seq (.keep (mk 11 1551) (.keep (mk 11 1551) (sq (.keep (mk 11 1551) .nil)))) (sq (sq (sq (.seq (sq (.seq (sq (.keep (mk 11 1551) (.keep (mk 12 3599) (sq (.seq (.keep (mk 12 3599) .nil) .nil))))) .nil)) (sq (.seq (sq (.keep (mk 11 1551) (.keep (mk 13 5647) (sq (.seq (.keep (mk 13 5647) .nil) .nil))))) .nil)))))))) .nil))))) .nil))) }
noncomputable def pol132 : FPol := { ann := (sq (sq (sq (.seq (.keep (mk 12 2048) (.keep (mk 13 6163) (.keep (mk 13 6163) (.seq (.keep (mk 13 6163) (.keep (mk 13 6163) (sq (.keep (mk 13 6163) .nil)))) (.seq (.keep (mk 13 6163) (.keep (mk 13 6163) (sq (.keep (mk 13 6163) .nil)))) .nil))))) .nil)))) }
noncomputable def pol133 : FPol := { ann := (sq (sq (sq (.seq (.keep (mk 14 12307) (.keep (mk 14 12307) (sq (.keep (mk 14 12307) .nil)))) (.seq (.keep (mk 14 12307) (.keep (mk 14 12307) (sq (.keep (mk 14 12307) .nil)))) (sq (sq (sq (sq (.seq (.keep (mk 14 8195) (.keep (mk 14 12307) (.keep (mk 14 12307) (.seq (.keep (mk 14 12307) (.keep (mk 14 12307) (sq (.keep (mk 14 12307) .nil)))) (.seq (.keep (mk 14 12307) (.keep (mk 14 12307) (sq (.keep (mk 14 12307) .nil)))) .nil))))) .nil)))))))))) }
noncomputable def pol134 : FPol := { ann := .nil }
noncomputable def pol135 : FPol := { ann := .nil }
noncomputable def pol136 : FPol := { ann := (sq (.keep (mk 0 0) (.keep (mk 7 71) (sq (.seq (.keep (mk 7 71) (sq (.keep (mk 7 71) (.keep (mk 8 199) (sq (.seq (.keep (mk 8 199) .nil) .nil)))))) .nil))))) }
noncomputable def pol137 : FPol := { ann := (sq (sq (sq (.seq (sq (.keep (mk 9 449) (.keep (mk 10 961) (sq (.seq (.keep (mk 10 961) .nil) .nil))))) (sq (.keep (mk 0 0) (.keep (mk 11 1217) (sq (.seq (.keep (mk 11 1217) .nil) .nil))))))))) }
noncomputable def pol138 : FPol := { ann := (sq (sq (.seq (sq (sq (sq (.keep (mk 0 0) (.keep (mk 10 963) (sq (.seq (.keep (mk 10 963) .nil) .nil))))))) .nil))) }
noncomputable def pol139 : FPol := { ann := (sq (sq (sq (sq (sq (sq (sq (sq (.keep (mk 8 192) .nil))))))))) }
noncomputable def pol140 : FPol := { ann := (sq (sq (.keep (mk 0 0) (.keep (mk 8 193) (sq (.keep (mk 8 193) .nil)))))) }
noncomputable def pol141 : FPol := { ann := (sq (sq (.seq (sq (.keep (mk 0 0) (.keep (mk 9 391) (sq (.seq (.keep (mk 9 391) (.seq (.keep (mk 9 391) (.keep (mk 9 391) (sq (.keep (mk 9 391) .nil)))) (sq (sq (sq (.seq (sq (.seq (sq (.keep (mk 9 391) (.keep (mk 10 903) (sq (.seq (.keep (mk 10 903) .nil) .nil))))) .nil)) (sq (.seq (sq (.keep (mk 9 391) (.keep (mk 11 1415) (sq (.seq (.keep (mk 11 1415) .nil) .nil))))) .nil)))))))) .nil))))) .nil))) }
noncomputable def pol142 : FPol := { ann := .nil }
noncomputable def pol143 : FPol := { ann := (sq (sq (sq (.seq (.keep (mk 10 512) (.keep (mk 11 1539) (.keep (mk 11 1539) (.seq (.keep (mk 11 1539) (.keep (mk 11 1539) (sq (.keep (mk 11 1539) .nil)))) (.seq (.keep (mk 11 1539) (.keep (mk 11 1539) (sq (.keep (mk 11 1539) .nil)))) .nil))))) .nil)))) }
noncomputable def pol144 : FPol := { ann := (sq (sq (sq (.seq (.keep (mk 12 3075) (.keep (mk 12 3075) (sq (.keep (mk 12 3075) .nil)))) (.seq (.keep (mk 12 3075) (.keep (mk 12 3075) (sq (.keep (mk 12 3075) .nil)))) (sq (sq (sq (sq (.seq (.keep (mk 12 2051) (.keep (mk 12 3075) (.keep (mk 12 3075) (.seq (.keep (mk 12 3075) (.keep (mk 12 3075) (sq (.keep (mk 12 3075) .nil)))) (.seq (.keep (mk 12 3075) (.keep (mk 12 3075) (sq (.keep (mk 12 3075) .nil)))) .nil))))) .nil)))))))))) }
noncomputable def pol145 : FPol := { ann := (sq (sq (.keep (mk 0 0) (.keep (mk 12 3103) (.keep (mk 12 3103) .nil))))), plain := [30, 37, 44, 52, 61, 80, 103, 111, 134, 146] }
noncomputable def pol146 : FPol := { ann := (sq (.keep (mk 0 0) (.keep (mk 11 1053) (.keep (mk 11 1053) .nil)))) }
noncomputable def pol147 : FPol := { ann := .nil }
noncomputable def pol148 : FPol := { ann := .nil }
noncomputable def pol149 : FPol := { ann := .nil, plain := [17] }
noncomputable def pol150 : FPol := { ann := .nil, plain := [19, 28, 37] }
noncomputable def pol151 : FPol := { ann := (sq (.keep (mk 0 0) (.keep (mk 9 269) (.keep (mk 9 269) .nil)))) }
noncomputable def pol152 : FPol := { ann := .nil }
noncomputable def pol153 : FPol := { ann := .nil }
noncomputable def pol154 : FPol := { ann := (sq (.keep (mk 0 0) (.keep (mk 9 271) (sq (.seq (.keep (mk 9 271) (sq (.keep (mk 9 271) (.keep (mk 10 783) (sq (.seq (.keep (mk 10 783) .nil) .nil)))))) .nil))))) }
noncomputable def pol155 : FPol := { ann := (sq (sq (sq (.seq (sq (.keep (mk 11 1801) (.keep (mk 12 3849) (sq (.seq (.keep (mk 12 3849) .nil) .nil))))) (sq (.keep (mk 0 0) (.keep (mk 13 4873) (sq (.seq (.keep (mk 13 4873) .nil) .nil))))))))), plain := [29, 59] }
noncomputable def pol156 : FPol := { ann := (sq (sq (.seq (sq (sq (sq (.keep (mk 0 0) (.keep (mk 12 3843) (sq (.seq (.keep (mk 12 3843) .nil) .nil))))))) .nil))), plain := [38] }
noncomputable def pol157 : FPol := { ann := (sq (sq (sq (sq (sq (sq (sq (sq (.keep (mk 10 768) .nil))))))))), plain := [40, 44, 48, 54] }
noncomputable def pol158 : FPol := { ann := (sq (sq (.keep (mk 0 0) (.keep (mk 10 769) (sq (.keep (mk 10 769) .nil)))))) }
noncomputable def pol159 : FPol := { ann := (sq (sq (.seq (sq (.keep (mk 0 0) (.keep (mk 11 1551) (sq (.seq (.keep (mk 11 1551) (.seq (.keep (mk 11 1551) (.keep (mk 11 1551) (sq (.keep (mk 11 1551) .nil)))) (sq (sq (sq (.seq (sq (.seq (sq (.keep (mk 11 1551) (.keep (mk 12 3599) (sq (.seq (.keep (mk 12 3599) .nil) .nil))))) .nil)) (sq (.seq (sq (.keep (mk 11 1551) (.keep (mk 13 5647) (sq (.seq (.keep (mk 13 5647) .nil) .nil))))) .nil)))))))) .nil))))) .nil))) }
noncomputable def pol160 : FPol := { ann := (sq (sq (sq (.seq (.keep (mk 12 2048) (.keep (mk 13 6163) (.keep (mk 13 6163) (.seq (.keep (mk 13 6163) (.keep (mk 13 6163) (sq (.keep (mk 13 6163) .nil)))) (.seq (.keep (mk 13 6163) (.keep (mk 13 6163) (sq (.keep (mk 13 6163) .nil)))) .nil))))) .nil)))) }
noncomputable def pol161 : FPol := { ann := (sq (sq (sq (.seq (.keep (mk 14 12307) (.keep (mk 14 12307) (sq (.keep (mk 14 12307) .nil)))) (.seq (.keep (mk 14 12307) (.keep (mk 14 12307) (sq (.keep (mk 14 12307) .nil)))) (sq (sq (sq (sq (.seq (.keep (mk 14 8195) (.keep (mk 14 12307) (.keep (mk 14 12307) (.seq (.keep (mk 14 12307) (.keep (mk 14 12307) (sq (.keep (mk 14 12307) .nil)))) (.seq (.keep (mk 14 12307) (.keep (mk 14 12307) (sq (.keep (mk 14 12307) .nil)))) .nil))))) .nil)))))))))) }
noncomputable def pol162 : FPol := { ann := .nil }
noncomputable def pol163 : FPol := { ann := .nil }
noncomputable def pol164 : FPol := { ann := (sq (.keep (mk 0 0) (.keep (mk 11 1053) (.keep (mk 11 1053) .nil)))) }
noncomputable def pol165 : FPol := { ann := .nil, plain := [17] }
noncomputable def pol166 : FPol := { ann := .nil, plain := [19, 28, 37] }
noncomputable def pol167 : FPol := { ann := .nil }
noncomputable def pol : FuncId → FPol
  | 3 => pol3
  | 4 => pol4
  | 5 => pol5
  | 6 => pol6
  | 7 => pol7
  | 8 => pol8
  | 9 => pol9
  | 10 => pol10
  | 11 => pol11
  | 12 => pol12
  | 13 => pol13
  | 14 => pol14
  | 15 => pol15
  | 16 => pol16
  | 17 => pol17
  | 18 => pol18
  | 19 => pol19
  | 20 => pol20
  | 21 => pol21
  | 22 => pol22
  | 23 => pol23
  | 24 => pol24
  | 25 => pol25
  | 26 => pol26
  | 27 => pol27
  | 28 => pol28
  | 29 => pol29
  | 30 => pol30
  | 31 => pol31
  | 32 => pol32
  | 33 => pol33
  | 34 => pol34
  | 35 => pol35
  | 36 => pol36
  | 37 => pol37
  | 38 => pol38
  | 39 => pol39
  | 40 => pol40
  | 41 => pol41
  | 42 => pol42
  | 43 => pol43
  | 44 => pol44
  | 45 => pol45
  | 46 => pol46
  | 47 => pol47
  | 48 => pol48
  | 49 => pol49
  | 50 => pol50
  | 51 => pol51
  | 52 => pol52
  | 53 => pol53
  | 54 => pol54
  | 55 => pol55
  | 56 => pol56
  | 57 => pol57
  | 58 => pol58
  | 59 => pol59
  | 60 => pol60
  | 61 => pol61
  | 62 => pol62
  | 63 => pol63
  | 64 => pol64
  | 65 => pol65
  | 66 => pol66
  | 67 => pol67
  | 68 => pol68
  | 69 => pol69
  | 70 => pol70
  | 71 => pol71
  | 72 => pol72
  | 73 => pol73
  | 74 => pol74
  | 75 => pol75
  | 76 => pol76
  | 77 => pol77
  | 78 => pol78
  | 79 => pol79
  | 80 => pol80
  | 81 => pol81
  | 82 => pol82
  | 83 => pol83
  | 84 => pol84
  | 85 => pol85
  | 86 => pol86
  | 87 => pol87
  | 88 => pol88
  | 89 => pol89
  | 90 => pol90
  | 91 => pol91
  | 92 => pol92
  | 93 => pol93
  | 94 => pol94
  | 95 => pol95
  | 96 => pol96
  | 97 => pol97
  | 98 => pol98
  | 99 => pol99
  | 100 => pol100
  | 101 => pol101
  | 102 => pol102
  | 103 => pol103
  | 104 => pol104
  | 105 => pol105
  | 106 => pol106
  | 107 => pol107
  | 108 => pol108
  | 109 => pol109
  | 110 => pol110
  | 111 => pol111
  | 112 => pol112
  | 113 => pol113
  | 114 => pol114
  | 115 => pol115
  | 116 => pol116
  | 117 => pol117
  | 118 => pol118
  | 119 => pol119
  | 120 => pol120
  | 121 => pol121
  | 122 => pol122
  | 123 => pol123
  | 124 => pol124
  | 125 => pol125
  | 126 => pol126
  | 127 => pol127
  | 128 => pol128
  | 129 => pol129
  | 130 => pol130
  | 131 => pol131
  | 132 => pol132
  | 133 => pol133
  | 134 => pol134
  | 135 => pol135
  | 136 => pol136
  | 137 => pol137
  | 138 => pol138
  | 139 => pol139
  | 140 => pol140
  | 141 => pol141
  | 142 => pol142
  | 143 => pol143
  | 144 => pol144
  | 145 => pol145
  | 146 => pol146
  | 147 => pol147
  | 148 => pol148
  | 149 => pol149
  | 150 => pol150
  | 151 => pol151
  | 152 => pol152
  | 153 => pol153
  | 154 => pol154
  | 155 => pol155
  | 156 => pol156
  | 157 => pol157
  | 158 => pol158
  | 159 => pol159
  | 160 => pol160
  | 161 => pol161
  | 162 => pol162
  | 163 => pol163
  | 164 => pol164
  | 165 => pol165
  | 166 => pol166
  | 167 => pol167
  | _ => {}
noncomputable abbrev CC : CallF := callL PP pol
end Go.D
end
/- Typed values of chapter 22, and what operations do with them. -/
section
set_option linter.unusedVariables false
set_option linter.unusedSimpArgs false
namespace Go.D

abbrev pI (n : Int) : PV := .int .i64 n
def eInts (l : List Int) : List PV := l.map pI
def eSl : Option (List Int) → PV
  | none => .nilsl
  | some l => .sl false l.length (eInts l)
structure Edg where
  f : Int
  t : Int
  a : Int
  deriving DecidableEq, Inhabited
def eEdg (e : Edg) : List PV := [pI e.f, pI e.t, pI e.a]
def eEdgs : List Edg → List PV
  | [] => []
  | e :: l => pI e.f :: pI e.t :: pI e.a :: eEdgs l
def eEs : Option (List Edg) → PV
  | none => .nilsl
  | some l => .sl false l.length (eEdgs l)
structure Gr where
  n : Int
  init : Option (List Int)
  edges : Option (List Edg)
def eGr (g : Gr) : List DV := [.p (pI g.n), .p (eSl g.init), .p (eEs g.edges)]
abbrev L {α : Type} (o : Option (List α)) : List α := o.getD []
theorem loosens_ints (l : List Int) : loosens (eInts l) = eInts l := by
  induction l with
  | nil => rfl
  | cons a l ih => simp only [eInts, List.map_cons, loosens, loosen] at *; rw [ih]
theorem loosens_edgs (l : List Edg) : loosens (eEdgs l) = eEdgs l := by
  induction l with
  | nil => rfl
  | cons a l ih => simp only [eEdgs, loosens, loosen, ih]
theorem loosen_sl (o : Option (List Int)) : loosen (eSl o) = eSl o := by
  cases o <;> simp [eSl, loosen, loosens_ints]
theorem loosen_es (o : Option (List Edg)) : loosen (eEs o) = eEs o := by
  cases o <;> simp [eEs, loosen, loosens_edgs]
theorem pureFn_fn (call : CallF) (f : FuncId) (caps args : List DV) (σ : Store) : pureFn call (.fn f caps) args σ = pureV call f (args ++ caps) σ := Eq.trans rfl rfl
theorem obind {α β : Type} (x : α) (f : α → Option β) : (some x).bind f = f x := Eq.trans rfl rfl
theorem omap {α β : Type} (x : α) (f : α → β) : (some x).map f = some (f x) := Eq.trans rfl rfl
theorem pureV_free {call : CallF} {f : FuncId} {args : List DV} {σ : Store} {v v' : DV} {σ' : Store} (h1 : args.map view = args) (h2 : args.all rowFree = true) (h : call 0 f args [] = some (v', σ')) (ht : thawAll 0 σ' v' = some v) : pureV call f args σ = some v := by
  unfold pureV
  rw [h1, if_pos h2, h]
  exact ht
theorem pureV_rows {call : CallF} {f : FuncId} {args : List DV} {σ : Store} {v v' : DV} {σ' : Store} (h1 : args.map view = args) (h2 : args.all rowFree = false) (h : call σ.length f args σ = some (v', σ')) (ht : thawAll σ.length σ' v' = some v) : pureV call f args σ = some v := by
  unfold pureV
  rw [h1, if_neg (by rw [h2]; simp), h]
  exact ht
theorem pureV_any {call : CallF} {f : FuncId} {args : List DV} {σ : Store} {v : DV} (h1 : args.map view = args)
    (h : ∀ lo σ0, (σ0 = [] ∧ lo = 0 ∧ args.all rowFree = true) ∨ (σ0 = σ ∧ lo = σ.length ∧ args.all rowFree = false) → ∃ v' σ', call lo f args σ0 = some (v', σ') ∧ thawAll lo σ' v' = some v) : pureV call f args σ = some v := by
  cases hr : args.all rowFree with
  | true =>
    obtain ⟨v', σ', h2, h3⟩ := h 0 [] (.inl ⟨rfl, rfl, hr⟩)
    exact pureV_free h1 hr h2 h3
  | false =>
    obtain ⟨v', σ', h2, h3⟩ := h _ σ (.inr ⟨rfl, rfl, hr⟩)
    exact pureV_rows h1 hr h2 h3
theorem condK_true {β : Type} (x y : Option β) : condK (.p (.bool true)) x y = x := Eq.trans rfl rfl
theorem condK_false {β : Type} (x y : Option β) : condK (.p (.bool false)) x y = y := Eq.trans rfl rfl
theorem condK_if {β : Type} (b : Bool) (x y : Option β) : condK (.p (.bool b)) x y = if b = true then x else y := by cases b <;> rfl
theorem pickV_true (x y : DV) : pickV (.p (.bool true)) x y = some x := Eq.trans rfl rfl
theorem pickV_false (x y : DV) : pickV (.p (.bool false)) x y = some y := Eq.trans rfl rfl
theorem guard_tt (β : Type) (m : Option (DV × Store)) (σ : Store) (K : DV → Store → Option β) : guardT β (.p (.bool true)) true m σ K = m.bind fun r => K r.1 r.2 := Eq.trans rfl rfl
theorem guard_ff (β : Type) (m : Option (DV × Store)) (σ : Store) (K : DV → Store → Option β) : guardT β (.p (.bool false)) false m σ K = m.bind fun r => K r.1 r.2 := Eq.trans rfl rfl
theorem guard_tf (β : Type) (m : Option (DV × Store)) (σ : Store) (K : DV → Store → Option β) : guardT β (.p (.bool true)) false m σ K = K .skip σ := Eq.trans rfl rfl
theorem guard_ft (β : Type) (m : Option (DV × Store)) (σ : Store) (K : DV → Store → Option β) : guardT β (.p (.bool false)) true m σ K = K .skip σ := Eq.trans rfl rfl
theorem guard_sk (β : Type) (w : Bool) (m : Option (DV × Store)) (σ : Store) (K : DV → Store → Option β) : guardT β (.tuple []) w m σ K = K .skip σ := Eq.trans rfl rfl
theorem not_bool (b : Bool) : unOp .not (.p (.bool b)) = some (.p (.bool !b)) := Eq.trans rfl rfl
theorem gG : (∀ (β : Type) (m : Option (DV × Store)) (σ : Store) (K : DV → Store → Option β), guardT β (.p (.bool true)) true m σ K = m.bind fun r => K r.1 r.2) ∧
    (∀ (β : Type) (m : Option (DV × Store)) (σ : Store) (K : DV → Store → Option β), guardT β (.p (.bool false)) false m σ K = m.bind fun r => K r.1 r.2) ∧
    (∀ (β : Type) (m : Option (DV × Store)) (σ : Store) (K : DV → Store → Option β), guardT β (.p (.bool true)) false m σ K = K .skip σ) ∧
    (∀ (β : Type) (m : Option (DV × Store)) (σ : Store) (K : DV → Store → Option β), guardT β (.p (.bool false)) true m σ K = K .skip σ) ∧
    (∀ (β : Type) (w : Bool) (m : Option (DV × Store)) (σ : Store) (K : DV → Store → Option β), guardT β (.tuple []) w m σ K = K .skip σ) ∧
    (∀ (α β : Type) (x : α) (f : α → Option β), (some x).bind f = f x) ∧ (∀ (α β : Type) (x : α) (f : α → β), (some x).map f = some (f x)) ∧
    (∀ x y : DV, pickV (.p (.bool true)) x y = some x) ∧ (∀ x y : DV, pickV (.p (.bool false)) x y = some y) ∧
    (∀ (β : Type) (x y : Option β), condK (.p (.bool true)) x y = x) ∧ (∀ (β : Type) (x y : Option β), condK (.p (.bool false)) x y = y) ∧
    (∀ h : Decidable True, @decide True h = true) ∧ (∀ h : Decidable False, @decide False h = false) ∧ ((!true) = false) ∧ ((!false) = true) ∧
    (∀ b : Bool, unOp .not (.p (.bool b)) = some (.p (.bool !b))) :=
  ⟨guard_tt, guard_ff, guard_tf, guard_ft, guard_sk, fun _ _ => obind, fun _ _ => omap, pickV_true, pickV_false, fun _ => condK_true, fun _ => condK_false, decide_true, decide_false, Bool.not_true, Bool.not_false, not_bool⟩
section
variable (P : Program) (t : TypeId) (a b : Int)
theorem b_geq : binOp P .geq t (.p (.int .i64 a)) (.p (.int .i64 b)) = some (.p (.bool (decide (a ≥ b)))) := Eq.trans rfl rfl
theorem b_leq : binOp P .leq t (.p (.int .i64 a)) (.p (.int .i64 b)) = some (.p (.bool (decide (a ≤ b)))) := Eq.trans rfl rfl
theorem b_gtr : binOp P .gtr t (.p (.int .i64 a)) (.p (.int .i64 b)) = some (.p (.bool (decide (a > b)))) := Eq.trans rfl rfl
theorem b_lss : binOp P .lss t (.p (.int .i64 a)) (.p (.int .i64 b)) = some (.p (.bool (decide (a < b)))) := Eq.trans rfl rfl
theorem b_eql : binOp P .eql t (.p (.int .i64 a)) (.p (.int .i64 b)) = some (.p (.bool (decide (a = b)))) := by
  show some (DV.p (PV.bool (a == b))) = _
  exact Eq.trans rfl rfl
theorem b_neq : binOp P .neq t (.p (.int .i64 a)) (.p (.int .i64 b)) = some (.p (.bool (!decide (a = b)))) := by
  show some (DV.p (PV.bool (a != b))) = _
  exact Eq.trans rfl rfl
theorem b_add : binOp P .add t (.p (.int .i64 a)) (.p (.int .i64 b)) = some (.p (.int .i64 (IntKind.wrap .i64 (a + b)))) := Eq.trans rfl rfl
theorem b_sub : binOp P .sub t (.p (.int .i64 a)) (.p (.int .i64 b)) = some (.p (.int .i64 (IntKind.wrap .i64 (a - b)))) := Eq.trans rfl rfl
theorem b_mul : binOp P .mul t (.p (.int .i64 a)) (.p (.int .i64 b)) = some (.p (.int .i64 (IntKind.wrap .i64 (a * b)))) := Eq.trans rfl rfl
end
theorem wrap_ok {x : Int} (h0 : -9223372036854775808 ≤ x) (h1 : x ≤ 9223372036854775807) : IntKind.wrap .i64 x = x := i64_ok h0 h1
theorem wrap_succ {i : Nat} (h : i ≤ 1000000) : IntKind.wrap .i64 ((i : Int) + 1) = ((i + 1 : Nat) : Int) := by
  rw [wrap_ok] <;> omega
theorem u22 : PP.underlying 22 = some (.slice 3) := Eq.trans (by kernel_rfl) rfl
theorem u23 : PP.underlying 23 = some (.slice 69) := Eq.trans (by kernel_rfl) rfl
theorem u143 : PP.underlying 143 = some (.slice 34) := Eq.trans (by kernel_rfl) rfl
theorem s3 : size? PP 3 = some 1 := Eq.trans (by kernel_rfl) rfl
theorem s34 : size? PP 34 = some 1 := Eq.trans (by kernel_rfl) rfl
theorem s69 : size? PP 69 = some 3 := Eq.trans (by kernel_rfl) rfl
theorem len22 (o : Option (List Int)) (σ : Store) : len PP 22 (.p (eSl o)) σ = some (.p (.int .i64 ((L o).length : Nat))) := by cases o <;> simp [len, u22, eSl]
theorem len23 (o : Option (List Edg)) (σ : Store) : len PP 23 (.p (eEs o)) σ = some (.p (.int .i64 ((L o).length : Nat))) := by cases o <;> simp [len, u23, eEs]
theorem ints_length (l : List Int) : (eInts l).length = l.length := by simp [eInts]
theorem edgs_length (l : List Edg) : (eEdgs l).length = l.length * 3 := by
  induction l with
  | nil => rfl
  | cons a l ih => simp [eEdgs, ih]; omega
theorem idx22 {o : Option (List Int)} {i : Nat} (h : i < (L o).length) : indexAddr PP 22 (.p (eSl o)) (.p (.int .i64 (i : Nat))) = some (.pptr (eInts (L o)) i) := by
  cases o with
  | none => simp at h
  | some l =>
    have h2 : (0 : Int) ≤ (i : Int) ∧ (i : Int) < (l.length : Nat) := by simp at h; omega
    simp [indexAddr, u22, s3, eSl, h2]
theorem idx23 {o : Option (List Edg)} {i : Nat} (h : i < (L o).length) : indexAddr PP 23 (.p (eEs o)) (.p (.int .i64 (i : Nat))) = some (.pptr (eEdgs (L o)) (i * 3)) := by
  cases o with
  | none => simp at h
  | some l =>
    have h2 : (0 : Int) ≤ (i : Int) ∧ (i : Int) < (l.length : Nat) := by simp at h; omega
    simp [indexAddr, u23, s69, eEs, h2]
def load1 (x : DV) (σ : Store) : Option DV := match loadN σ 1 x with
  | some [v] => some v
  | _ => none
theorem load3 (x : DV) (σ : Store) : load PP 3 x σ = load1 x σ := Eq.trans (by kernel_rfl) rfl
theorem load22 (x : DV) (σ : Store) : load PP 22 x σ = load1 x σ := Eq.trans (by kernel_rfl) rfl
theorem load23 (x : DV) (σ : Store) : load PP 23 x σ = load1 x σ := Eq.trans (by kernel_rfl) rfl
theorem load34 (x : DV) (σ : Store) : load PP 34 x σ = load1 x σ := Eq.trans (by kernel_rfl) rfl
theorem load25 (x : DV) (σ : Store) : load PP 25 x σ = (loadN σ 3 x).map .agg := Eq.trans (by kernel_rfl) rfl
theorem load69 (x : DV) (σ : Store) : load PP 69 x σ = (loadN σ 3 x).map .agg := Eq.trans (by kernel_rfl) rfl
theorem load1_pptr {cs : List PV} {i : Nat} {x : PV} (h : cs[i]? = some x) (σ : Store) : load1 (.pptr cs i) σ = some (.p x) := by
  obtain ⟨h1, h2⟩ := drop_one h
  simp [load1, loadN, h1, h2]
theorem load1_ints {l : List Int} {i : Nat} (h : i < l.length) (σ : Store) : load1 (.pptr (eInts l) i) σ = some (.p (.int .i64 l[i])) :=
  load1_pptr (by simp [eInts, h]) σ
theorem edgs_get : ∀ (l : List Edg) (i : Nat) (h : i < l.length), (eEdgs l)[i * 3]? = some (pI l[i].f) ∧ (eEdgs l)[i * 3 + 1]? = some (pI l[i].t) ∧ (eEdgs l)[i * 3 + 2]? = some (pI l[i].a)
  | e :: l, 0, h => by simp [eEdgs]
  | e :: l, i + 1, h => by
    have := edgs_get l i (by simpa using h)
    have e3 : (i + 1) * 3 = i * 3 + 1 + 1 + 1 := by omega
    rw [e3]
    simpa [eEdgs] using this
theorem load69_edgs {l : List Edg} {i : Nat} (h : i < l.length) (σ : Store) : (loadN σ 3 (.pptr (eEdgs l) (i * 3))).map DV.agg = some (.agg [.p (pI l[i].f), .p (pI l[i].t), .p (pI l[i].a)]) := by
  have hle : i * 3 + 3 ≤ (eEdgs l).length := by rw [edgs_length]; omega
  obtain ⟨h1, h2, h3⟩ := edgs_get l i h
  have hd : ((eEdgs l).drop (i * 3)).take 3 = [pI l[i].f, pI l[i].t, pI l[i].a] := by
    apply List.ext_getElem?
    intro j
    match j with
    | 0 => simpa using h1
    | 1 => simpa using h2
    | 2 => simpa using h3
    | j + 3 => simp; omega
  simp [loadN, hle, hd]
theorem fa25_0 (x : DV) : fieldAddr PP 25 x 0 = shiftPtr x 0 := Eq.trans (by kernel_rfl) rfl
theorem fa25_1 (x : DV) : fieldAddr PP 25 x 1 = shiftPtr x 1 := Eq.trans (by kernel_rfl) rfl
theorem fa25_2 (x : DV) : fieldAddr PP 25 x 2 = shiftPtr x 2 := Eq.trans (by kernel_rfl) rfl
theorem fa69_0 (x : DV) : fieldAddr PP 69 x 0 = shiftPtr x 0 := Eq.trans (by kernel_rfl) rfl
theorem fa69_1 (x : DV) : fieldAddr PP 69 x 1 = shiftPtr x 1 := Eq.trans (by kernel_rfl) rfl
theorem fa69_2 (x : DV) : fieldAddr PP 69 x 2 = shiftPtr x 2 := Eq.trans (by kernel_rfl) rfl
theorem shift_ptr (r off n : Nat) : shiftPtr (.ptr r off) n = some (.ptr r (off + n)) := Eq.trans rfl rfl
theorem shift_pptr (cs : List PV) (off n : Nat) : shiftPtr (.pptr cs off) n = some (.pptr cs (off + n)) := Eq.trans rfl rfl
theorem load1_ptr {σ : Store} {r off : Nat} {cs : List DV} {v : DV} (h : σ[r]? = some (.mix cs)) (hv : cs[off]? = some v) : load1 (.ptr r off) σ = some v := by
  obtain ⟨h1, h2⟩ := List.getElem?_eq_some_iff.1 hv
  have h3 : (cs.drop off).take 1 = [v] := by rw [List.drop_eq_getElem_cons h1, h2]; rfl
  have h4 : off + 1 ≤ cs.length := h1
  simp [load1, loadN, h, h3, h4]
theorem loadN_ptr {σ : Store} {r off n : Nat} {cs vs : List DV} (h : σ[r]? = some (.mix cs)) (hv : (cs.drop off).take n = vs) (hn : off + n ≤ cs.length) : loadN σ n (.ptr r off) = some vs := by
  simp [loadN, h, hn, hv]
theorem zero69 : zeroOf PP 69 = some [.p (pI 0), .p (pI 0), .p (pI 0)] := Eq.trans (by kernel_rfl) rfl
theorem zero3 : zeroOf PP 3 = some [.p (pI 0)] := Eq.trans (by kernel_rfl) rfl
theorem zero25 : zeroOf PP 25 = some [.p (pI 0), .p .nilsl, .p .nilsl] := Eq.trans (by kernel_rfl) rfl
end Go.D
end
/- Equations of functions 88, 61, 73, 120, 99, 36, 116, 86, 117, 89, 62, 98, 119, 92, 69, 53, 87, 91, 34, 16, printed by gen.py. -/
section
set_option linter.unusedVariables false
set_option maxRecDepth 10000
namespace Go.D
open Go.Proofs
noncomputable section
variable (G : GuardT) (lo : Nat) {σ : Store} {r : DV × Store}
open _root_.Go.D.Code (fstC sndC)
open _root_.Go.D.Ann (left right)
def c88_0 : Code := bodyOf Tryz.f88
def a88_0 : Ann := (pol 88).ann
def F88 (x0 x1 x2 : DV) (σ : Store) : RS :=
 codeF G PP (pol 88) CC lo c88_0 a88_0 (x0 :: x1 :: x2 :: zn 12 []) σ (finR PP Tryz.f88.results.toList)
theorem F88_eq (G : GuardT) (lo : Nat) (x0 x1 x2 : DV) (σ : Store) : F88 G lo x0 x1 x2 σ =
 (binOp PP .geq 3 x0 x1).bind fun x9 =>
 G _ x9 true (some (x0, σ)) σ fun x11 σ1 =>
 G _ x9 true (some (x2, σ1)) σ1 fun x12 σ2 =>
 G _ x9 true ((binOp PP .leq 3 x11 x12).bind fun v => some (v, σ2)) σ2 fun x13 σ3 =>
 (pickV x9 x13 (DV.p (PV.bool false))).bind fun x14 =>
 some (x14, σ3) := by kernel_rfl
theorem F88_call {lo : Nat} {x0 x1 x2 : DV} (h : F88 guardT lo x0 x1 x2 σ = some r) : CC lo 88 [x0, x1, x2] σ = some r :=
 callL_run Tryz.func88 (by decide +kernel) rfl (by decide +kernel) h
def c61_0 : Code := bodyOf Tryz.f61
def a61_0 : Ann := (pol 61).ann
def F61 (x0 x1 x2 : DV) (σ : Store) : RS :=
 codeF G PP (pol 61) CC lo c61_0 a61_0 (x0 :: x1 :: x2 :: zn 12 []) σ (finR PP Tryz.f61.results.toList)
theorem F61_eq (G : GuardT) (lo : Nat) (x0 x1 x2 : DV) (σ : Store) : F61 G lo x0 x1 x2 σ =
 (binOp PP .geq 3 x0 x1).bind fun x9 =>
 G _ x9 true (some (x0, σ)) σ fun x11 σ1 =>
 G _ x9 true (some (x2, σ1)) σ1 fun x12 σ2 =>
 G _ x9 true ((binOp PP .leq 3 x11 x12).bind fun v => some (v, σ2)) σ2 fun x13 σ3 =>
 (pickV x9 x13 (DV.p (PV.bool false))).bind fun x14 =>
 some (x14, σ3) := by kernel_rfl
theorem F61_call {lo : Nat} {x0 x1 x2 : DV} (h : F61 guardT lo x0 x1 x2 σ = some r) : CC lo 61 [x0, x1, x2] σ = some r :=
 callL_run Tryz.func61 (by decide +kernel) rfl (by decide +kernel) h
def c73_0 : Code := bodyOf Tryz.f73
def a73_0 : Ann := (pol 73).ann
def F73 (x0 x1 : DV) (σ : Store) : RS :=
 codeF G PP (pol 73) CC lo c73_0 a73_0 (x0 :: x1 :: zn 5 []) σ (finR PP Tryz.f73.results.toList)
theorem F73_eq (G : GuardT) (lo : Nat) (x0 x1 : DV) (σ : Store) : F73 G lo x0 x1 σ =
 condK x0
 (
 some (I0, σ)
 )
 (
 some (x1, σ)
 ) := by kernel_rfl
theorem F73_call {lo : Nat} {x0 x1 : DV} (h : F73 guardT lo x0 x1 σ = some r) : CC lo 73 [x0, x1] σ = some r :=
 callL_run Tryz.func73 (by decide +kernel) rfl (by decide +kernel) h
def c120_0 : Code := bodyOf Tryz.f120
def a120_0 : Ann := (pol 120).ann
def F120 (x0 : DV) (σ : Store) : RS :=
 codeF G PP (pol 120) CC lo c120_0 a120_0 (x0 :: zn 5 []) σ (finR PP Tryz.f120.results.toList)
theorem F120_eq (G : GuardT) (lo : Nat) (x0 : DV) (σ : Store) : F120 G lo x0 σ =
 (binOp PP .neq 3 x0 x0).bind fun x5 =>
 some (x5, σ) := by kernel_rfl
theorem F120_call {lo : Nat} {x0 : DV} (h : F120 guardT lo x0 σ = some r) : CC lo 120 [x0] σ = some r :=
 callL_run Tryz.func120 (by decide +kernel) rfl (by decide +kernel) h
def c99_0 : Code := bodyOf Tryz.f99
def a99_0 : Ann := (pol 99).ann
def F99 (x0 x1 : DV) (σ : Store) : RS :=
 codeF G PP (pol 99) CC lo c99_0 a99_0 (x0 :: x1 :: zn 18 []) σ (finR PP Tryz.f99.results.toList)
theorem F99_eq (G : GuardT) (lo : Nat) (x0 x1 : DV) (σ : Store) : F99 G lo x0 x1 σ =
 (pureFn CC (DV.fn 120 []) [x0] σ).bind fun x8 =>
 (pureFn CC (DV.fn 120 []) [x1] σ).bind fun x10 =>
 condK x8
 (
 condK x10
 (
 some (I0, σ)
 )
 (
 some ((DV.p (PV.int IntKind.i64 (-1))), σ)
 )
 )
 (
 condK x10
 (
 some (I1, σ)
 )
 (
 (binOp PP .lss 3 x0 x1).bind fun x16 =>
 condK x16
 (
 some ((DV.p (PV.int IntKind.i64 (-1))), σ)
 )
 (
 (binOp PP .gtr 3 x0 x1).bind fun x19 =>
 condK x19
 (
 some (I1, σ)
 )
 (
 some (I0, σ)
 )
 )
 )
 ) := by kernel_rfl
theorem F99_call {lo : Nat} {x0 x1 : DV} (h : F99 guardT lo x0 x1 σ = some r) : CC lo 99 [x0, x1] σ = some r :=
 callL_run Tryz.func99 (by decide +kernel) rfl (by decide +kernel) h
def c36_0 : Code := bodyOf Tryz.f36
def a36_0 : Ann := (pol 36).ann
def F36 (x0 : DV) (σ : Store) : RS :=
 codeF G PP (pol 36) CC lo c36_0 a36_0 [x0, Z, Z, Z] σ (finR PP Tryz.f36.results.toList)
theorem F36_eq (G : GuardT) (lo : Nat) (x0 : DV) (σ : Store) : F36 G lo x0 σ =
 condK x0
 (
 some (I1, σ)
 )
 (
 some (I0, σ)
 ) := by kernel_rfl
theorem F36_call {lo : Nat} {x0 : DV} (h : F36 guardT lo x0 σ = some r) : CC lo 36 [x0] σ = some r :=
 callL_run Tryz.func36 (by decide +kernel) rfl (by decide +kernel) h
def c116_0 : Code := bodyOf Tryz.f116
def a116_0 : Ann := (pol 116).ann
def a116_5 : Ann := right (left (right a116_0))
def a116_6 : Ann := left a116_5
def c116_7 : Code := fstC (fstC (sndC (fstC (sndC c116_0))))
def c116_25 : Code := sndC (sndC c116_0)
def a116_25 : Ann := right (right a116_0)
def f116_L0 (x0 x1 x7 x8 : DV) (σ : Store) : RS :=
 codeF G PP (pol 116) CC lo (.loop c116_7) a116_6 (x0 :: x1 :: zn 5 (x7 :: x8 :: zn 10 [])) σ
 (blockC 0 a116_5 (seqC G PP (pol 116) CC lo c116_25 a116_25 (finR PP Tryz.f116.results.toList)))
def F116 (x0 x1 : DV) (σ : Store) : RS :=
 codeF G PP (pol 116) CC lo c116_0 a116_0 (x0 :: x1 :: zn 17 []) σ (finR PP Tryz.f116.results.toList)
theorem f116_L0_eq (G : GuardT) (hG : GuardOk G) (lo : Nat) (x0 x1 x7 x8 : DV) (σ : Store) : f116_L0 G lo x0 x1 x7 x8 σ =
 (binOp PP .lss 3 x8 x7).bind fun x9 =>
 condK x9
 (
 (indexAddr PP 22 x0 x8).bind fun x14 =>
 (load PP 3 x14 σ).bind fun x15 =>
 (pureFn CC x1 [x15] σ).bind fun x16 =>
 condK x16
 (
 some (x8, σ)
 )
 (
 (binOp PP .add 3 x8 I1).bind fun x18 =>
 f116_L0 G lo x0 x1 x7 x18 σ
 )
 )
 (
 some ((DV.p (PV.int IntKind.i64 (-1))), σ)
 ) := (loopF_eq G hG).trans (by kernel_rfl)
theorem F116_eq (G : GuardT) (lo : Nat) (x0 x1 : DV) (σ : Store) : F116 G lo x0 x1 σ =
 (len PP 22 x0 σ).bind fun x7 =>
 f116_L0 G lo x0 x1 x7 I0 σ := by kernel_rfl
theorem F116_call {lo : Nat} {x0 x1 : DV} (h : F116 guardT lo x0 x1 σ = some r) : CC lo 116 [x0, x1] σ = some r :=
 callL_run Tryz.func116 (by decide +kernel) rfl (by decide +kernel) h
def c86_0 : Code := bodyOf Tryz.f86
def a86_0 : Ann := (pol 86).ann
def F86 (x0 x1 : DV) (σ : Store) : RS :=
 codeF G PP (pol 86) CC lo c86_0 a86_0 (x0 :: x1 :: zn 7 []) σ (finR PP Tryz.f86.results.toList)
theorem F86_eq (G : GuardT) (lo : Nat) (x0 x1 : DV) (σ : Store) : F86 G lo x0 x1 σ =
 (pureFn CC (DV.fn 116 []) [x0, x1] σ).bind fun x7 =>
 (binOp PP .geq 3 x7 I0).bind fun x8 =>
 some (x8, σ) := by kernel_rfl
theorem F86_call {lo : Nat} {x0 x1 : DV} (h : F86 guardT lo x0 x1 σ = some r) : CC lo 86 [x0, x1] σ = some r :=
 callL_run Tryz.func86 (by decide +kernel) rfl (by decide +kernel) h
def c98_0 : Code := bodyOf Tryz.f98
def a98_0 : Ann := (pol 98).ann
def a98_7 : Ann := right (left (right (right a98_0)))
def a98_8 : Ann := left a98_7
def c98_9 : Code := fstC (fstC (sndC (fstC (sndC (sndC c98_0)))))
def c98_27 : Code := sndC (sndC (sndC c98_0))
def a98_27 : Ann := right (right (right a98_0))
def f98_L0 (x3 x6 x7 x8 : DV) (σ : Store) : RS :=
 codeF G PP (pol 98) CC lo (.loop c98_9) a98_8 (Z :: Z :: Z :: x3 :: Z :: Z :: x6 :: x7 :: x8 :: zn 9 []) σ
 (blockC 0 a98_7 (seqC G PP (pol 98) CC lo c98_27 a98_27 (finR PP Tryz.f98.results.toList)))
def F98 (x0 : DV) (σ : Store) : RS :=
 codeF G PP (pol 98) CC lo c98_0 a98_0 (x0 :: zn 17 []) σ (finR PP Tryz.f98.results.toList)
theorem f98_L0_eq (G : GuardT) (hG : GuardOk G) (lo : Nat) (x3 x6 x7 x8 : DV) (σ : Store) : f98_L0 G lo x3 x6 x7 x8 σ =
 (binOp PP .lss 3 x8 x7).bind fun x9 =>
 condK x9
 (
 (indexAddr PP 22 x6 x8).bind fun x10 =>
 (load PP 3 x10 σ).bind fun x11 =>
 (binOp PP .neq 3 x11 x3).bind fun x14 =>
 condK x14
 (
 some (x11, σ)
 )
 (
 (binOp PP .add 3 x8 I1).bind fun x16 =>
 f98_L0 G lo x3 x6 x7 x16 σ
 )
 )
 (
 some (x3, σ)
 ) := (loopF_eq G hG).trans (by kernel_rfl)
theorem F98_eq (G : GuardT) (lo : Nat) (x0 : DV) (σ : Store) : F98 G lo x0 σ =
 (len PP 22 x0 σ).bind fun x7 =>
 f98_L0 G lo I0 x0 x7 I0 σ := by kernel_rfl
theorem F98_call {lo : Nat} {x0 : DV} (h : F98 guardT lo x0 σ = some r) : CC lo 98 [x0] σ = some r :=
 callL_run Tryz.func98 (by decide +kernel) rfl (by decide +kernel) h
def c119_0 : Code := bodyOf Tryz.f119
def a119_0 : Ann := (pol 119).ann
def F119 (x0 x1 : DV) (σ : Store) : RS :=
 codeF G PP (pol 119) CC lo c119_0 a119_0 (x0 :: x1 :: zn 20 []) σ (finR PP Tryz.f119.results.toList)
theorem F119_eq (G : GuardT) (lo : Nat) (x0 x1 : DV) (σ : Store) : F119 G lo x0 x1 σ =
 (boxV x0).bind fun z2 =>
 (boxV x1).bind fun z3 =>
 (fieldAddr PP 69 (DV.ptr (List.length σ) 0) 0).bind fun x5 =>
 (load PP 3 x5 ((σ ++ [Row.mix z2]) ++ [Row.mix z3])).bind fun x6 =>
 (fieldAddr PP 69 (DV.ptr (List.length (σ ++ [Row.mix z2])) 0) 0).bind fun x7 =>
 (load PP 3 x7 ((σ ++ [Row.mix z2]) ++ [Row.mix z3])).bind fun x8 =>
 (pureFn CC (DV.fn 99 []) [x6, x8] ((σ ++ [Row.mix z2]) ++ [Row.mix z3])).bind fun x9 =>
 (fieldAddr PP 69 (DV.ptr (List.length σ) 0) 1).bind fun x10 =>
 (load PP 3 x10 ((σ ++ [Row.mix z2]) ++ [Row.mix z3])).bind fun x11 =>
 (fieldAddr PP 69 (DV.ptr (List.length (σ ++ [Row.mix z2])) 0) 1).bind fun x12 =>
 (load PP 3 x12 ((σ ++ [Row.mix z2]) ++ [Row.mix z3])).bind fun x13 =>
 (pureFn CC (DV.fn 99 []) [x11, x13] ((σ ++ [Row.mix z2]) ++ [Row.mix z3])).bind fun x14 =>
 (fieldAddr PP 69 (DV.ptr (List.length σ) 0) 2).bind fun x15 =>
 (load PP 3 x15 ((σ ++ [Row.mix z2]) ++ [Row.mix z3])).bind fun x16 =>
 (fieldAddr PP 69 (DV.ptr (List.length (σ ++ [Row.mix z2])) 0) 2).bind fun x17 =>
 (load PP 3 x17 ((σ ++ [Row.mix z2]) ++ [Row.mix z3])).bind fun x18 =>
 (pureFn CC (DV.fn 99 []) [x16, x18] ((σ ++ [Row.mix z2]) ++ [Row.mix z3])).bind fun x19 =>
 (buildSlice PP none 22 3 [(0, x9), (1, x14), (2, x19)] ((σ ++ [Row.mix z2]) ++ [Row.mix z3])).bind fun r20_1 =>
 (pureFn CC (DV.fn 98 []) [r20_1.1] r20_1.2).bind fun x21 =>
 some (x21, r20_1.2) := by kernel_rfl
theorem F119_call {lo : Nat} {x0 x1 : DV} (h : F119 guardT lo x0 x1 σ = some r) : CC lo 119 [x0, x1] σ = some r :=
 callL_run Tryz.func119 (by decide +kernel) rfl (by decide +kernel) h
def c92_0 : Code := bodyOf Tryz.f92
def a92_0 : Ann := (pol 92).ann
def F92 (x0 : DV) (σ : Store) : RS :=
 codeF G PP (pol 92) CC lo c92_0 a92_0 (x0 :: zn 9 []) σ (finR PP Tryz.f92.results.toList)
theorem F92_eq (G : GuardT) (lo : Nat) (x0 : DV) (σ : Store) : F92 G lo x0 σ =
 (boxV x0).bind fun z1 =>
 (fieldAddr PP 69 (DV.ptr (List.length σ) 0) 0).bind fun x3 =>
 (load PP 3 x3 (σ ++ [Row.mix z1])).bind fun x4 =>
 (fieldAddr PP 69 (DV.ptr (List.length σ) 0) 1).bind fun x5 =>
 (load PP 3 x5 (σ ++ [Row.mix z1])).bind fun x6 =>
 (fieldAddr PP 69 (DV.ptr (List.length σ) 0) 2).bind fun x7 =>
 (load PP 3 x7 (σ ++ [Row.mix z1])).bind fun x8 =>
 (buildSlice PP none 22 3 [(0, x4), (1, x6), (2, x8)] (σ ++ [Row.mix z1])).bind fun r9_1 =>
 some (r9_1.1, r9_1.2) := by kernel_rfl
theorem F92_call {lo : Nat} {x0 : DV} (h : F92 guardT lo x0 σ = some r) : CC lo 92 [x0] σ = some r :=
 callL_run Tryz.func92 (by decide +kernel) rfl (by decide +kernel) h
def c69_0 : Code := bodyOf Tryz.f69
def a69_0 : Ann := (pol 69).ann
def a69_5 : Ann := right (left (right a69_0))
def a69_6 : Ann := left a69_5
def c69_7 : Code := fstC (fstC (sndC (fstC (sndC c69_0))))
def c69_23 : Code := sndC (sndC c69_0)
def a69_23 : Ann := right (right a69_0)
def f69_L0 (x0 x1 x5 : DV) (σ : Store) : RS :=
 codeF G PP (pol 69) CC lo (.loop c69_7) a69_6 (x0 :: x1 :: Z :: Z :: Z :: x5 :: zn 46 []) σ
 (blockC 0 a69_5 (seqC G PP (pol 69) CC lo c69_23 a69_23 (finR PP Tryz.f69.results.toList)))
def F69 (x0 x1 : DV) (σ : Store) : RS :=
 codeF G PP (pol 69) CC lo c69_0 a69_0 (x0 :: x1 :: zn 50 []) σ (finR PP Tryz.f69.results.toList)
theorem f69_L0_eq (G : GuardT) (hG : GuardOk G) (lo : Nat) (x0 x1 x5 : DV) (σ : Store) : f69_L0 G lo x0 x1 x5 σ =
 (len PP 22 x0 σ).bind fun x8 =>
 (binOp PP .lss 3 x5 x8).bind fun x9 =>
 G _ x9 true (some (x5, σ)) σ fun x11 σ1 =>
 G _ x9 true (some (x1, σ1)) σ1 fun x12 σ2 =>
 G _ x9 true ((len PP 22 x12 σ2).bind fun v => some (v, σ2)) σ2 fun x13 σ3 =>
 G _ x9 true ((binOp PP .lss 3 x11 x13).bind fun v => some (v, σ3)) σ3 fun x14 σ4 =>
 (pickV x9 x14 (DV.p (PV.bool false))).bind fun x15 =>
 condK x15
 (
 (indexAddr PP 22 x0 x5).bind fun x20 =>
 (load PP 3 x20 σ4).bind fun x21 =>
 (indexAddr PP 22 x1 x5).bind fun x24 =>
 (load PP 3 x24 σ4).bind fun x25 =>
 (binOp PP .neq 3 x21 x25).bind fun x26 =>
 condK x26
 (
 (indexAddr PP 22 x0 x5).bind fun x29 =>
 (load PP 3 x29 σ4).bind fun x30 =>
 (indexAddr PP 22 x1 x5).bind fun x33 =>
 (load PP 3 x33 σ4).bind fun x34 =>
 (binOp PP .lss 3 x30 x34).bind fun x35 =>
 (pureFn CC (DV.fn 36 []) [x35] σ4).bind fun x36 =>
 (binOp PP .mul 3 (DV.p (PV.int IntKind.i64 (2))) x36).bind fun x37 =>
 (binOp PP .sub 3 I1 x37).bind fun x38 =>
 some (x38, σ4)
 )
 (
 (binOp PP .add 3 x5 I1).bind fun x17 =>
 f69_L0 G lo x0 x1 x17 σ4
 )
 )
 (
 (len PP 22 x0 σ4).bind fun x40 =>
 (len PP 22 x1 σ4).bind fun x42 =>
 (binOp PP .gtr 3 x40 x42).bind fun x43 =>
 (pureFn CC (DV.fn 36 []) [x43] σ4).bind fun x44 =>
 (len PP 22 x0 σ4).bind fun x46 =>
 (len PP 22 x1 σ4).bind fun x48 =>
 (binOp PP .lss 3 x46 x48).bind fun x49 =>
 (pureFn CC (DV.fn 36 []) [x49] σ4).bind fun x50 =>
 (binOp PP .sub 3 x44 x50).bind fun x51 =>
 some (x51, σ4)
 ) := (loopF_eq G hG).trans (by kernel_rfl)
theorem F69_eq (G : GuardT) (lo : Nat) (x0 x1 : DV) (σ : Store) : F69 G lo x0 x1 σ =
 f69_L0 G lo x0 x1 I0 σ := by kernel_rfl
theorem F69_call {lo : Nat} {x0 x1 : DV} (h : F69 guardT lo x0 x1 σ = some r) : CC lo 69 [x0, x1] σ = some r :=
 callL_run Tryz.func69 (by decide +kernel) rfl (by decide +kernel) h
def c53_0 : Code := bodyOf Tryz.f53
def a53_0 : Ann := (pol 53).ann
def a53_5 : Ann := right (left (right a53_0))
def a53_6 : Ann := left a53_5
def c53_7 : Code := fstC (fstC (sndC (fstC (sndC c53_0))))
def c53_25 : Code := sndC (sndC c53_0)
def a53_25 : Ann := right (right a53_0)
def f53_L0 (x5 x6 x7 : DV) (σ : Store) : RS :=
 codeF G PP (pol 53) CC lo (.loop c53_7) a53_6 (zn 5 (x5 :: x6 :: x7 :: zn 7 [])) σ
 (blockC 0 a53_5 (seqC G PP (pol 53) CC lo c53_25 a53_25 (finR PP Tryz.f53.results.toList)))
def F53 (x0 : DV) (σ : Store) : RS :=
 codeF G PP (pol 53) CC lo c53_0 a53_0 (x0 :: zn 14 []) σ (finR PP Tryz.f53.results.toList)
theorem f53_L0_eq (G : GuardT) (hG : GuardOk G) (lo : Nat) (x5 x6 x7 : DV) (σ : Store) : f53_L0 G lo x5 x6 x7 σ =
 (binOp PP .lss 3 x7 x6).bind fun x8 =>
 condK x8
 (
 (indexAddr PP 143 x5 x7).bind fun x9 =>
 (load PP 34 x9 σ).bind fun x10 =>
 (binOp PP .neq 34 x10 I0).bind fun x12 =>
 condK x12
 (
 some (x10, σ)
 )
 (
 (binOp PP .add 3 x7 I1).bind fun x14 =>
 f53_L0 G lo x5 x6 x14 σ
 )
 )
 (
 some (I0, σ)
 ) := (loopF_eq G hG).trans (by kernel_rfl)
theorem F53_eq (G : GuardT) (lo : Nat) (x0 : DV) (σ : Store) : F53 G lo x0 σ =
 (len PP 143 x0 σ).bind fun x6 =>
 f53_L0 G lo x0 x6 I0 σ := by kernel_rfl
theorem F53_call {lo : Nat} {x0 : DV} (h : F53 guardT lo x0 σ = some r) : CC lo 53 [x0] σ = some r :=
 callL_run Tryz.func53 (by decide +kernel) rfl (by decide +kernel) h
def c34_0 : Code := bodyOf Tryz.f34
def a34_0 : Ann := (pol 34).ann
def a34_13 : Ann := right (left (right (right a34_0)))
def a34_14 : Ann := left a34_13
def c34_15 : Code := fstC (fstC (sndC (fstC (sndC (sndC c34_0)))))
def c34_31 : Code := sndC (sndC (sndC c34_0))
def a34_31 : Ann := right (right (right a34_0))
def f34_L0 (x0 x1 x5 : DV) (σ : Store) : RS :=
 codeF G PP (pol 34) CC lo (.loop c34_15) a34_14 (x0 :: x1 :: Z :: Z :: Z :: x5 :: zn 20 []) σ
 (blockC 0 a34_13 (seqC G PP (pol 34) CC lo c34_31 a34_31 (finR PP Tryz.f34.results.toList)))
def F34 (x0 x1 : DV) (σ : Store) : RS :=
 codeF G PP (pol 34) CC lo c34_0 a34_0 (x0 :: x1 :: zn 24 []) σ (finR PP Tryz.f34.results.toList)
theorem f34_L0_eq (G : GuardT) (hG : GuardOk G) (lo : Nat) (x0 x1 x5 : DV) (σ : Store) : f34_L0 G lo x0 x1 x5 σ =
 (len PP 22 x0 σ).bind fun x13 =>
 (binOp PP .lss 3 x5 x13).bind fun x14 =>
 condK x14
 (
 (indexAddr PP 22 x0 x5).bind fun x19 =>
 (load PP 3 x19 σ).bind fun x20 =>
 (indexAddr PP 22 x1 x5).bind fun x23 =>
 (load PP 3 x23 σ).bind fun x24 =>
 (binOp PP .neq 3 x20 x24).bind fun x25 =>
 condK x25
 (
 some ((DV.p (PV.bool false)), σ)
 )
 (
 (binOp PP .add 3 x5 I1).bind fun x16 =>
 f34_L0 G lo x0 x1 x16 σ
 )
 )
 (
 some ((DV.p (PV.bool true)), σ)
 ) := (loopF_eq G hG).trans (by kernel_rfl)
theorem F34_eq (G : GuardT) (lo : Nat) (x0 x1 : DV) (σ : Store) : F34 G lo x0 x1 σ =
 (len PP 22 x0 σ).bind fun x7 =>
 (len PP 22 x1 σ).bind fun x9 =>
 (binOp PP .neq 3 x7 x9).bind fun x10 =>
 condK x10
 (
 some ((DV.p (PV.bool false)), σ)
 )
 (
 f34_L0 G lo x0 x1 I0 σ
 ) := by kernel_rfl
theorem F34_call {lo : Nat} {x0 x1 : DV} (h : F34 guardT lo x0 x1 σ = some r) : CC lo 34 [x0, x1] σ = some r :=
 callL_run Tryz.func34 (by decide +kernel) rfl (by decide +kernel) h
def c16_0 : Code := bodyOf Tryz.f16
def a16_0 : Ann := (pol 16).ann
def F16 (x0 : DV) (σ : Store) : RS :=
 codeF G PP (pol 16) CC lo c16_0 a16_0 (x0 :: zn 5 []) σ (finR PP Tryz.f16.results.toList)
theorem F16_eq (G : GuardT) (lo : Nat) (x0 : DV) (σ : Store) : F16 G lo x0 σ =
 (buildSlice PP none 22 0 [] σ).bind fun r3_1 =>
 (append PP lo false 22 22 r3_1.1 x0 r3_1.2).bind fun r5_2 =>
 some (r5_2.1, r5_2.2) := by kernel_rfl
theorem F16_call {lo : Nat} {x0 : DV} (h : F16 guardT lo x0 σ = some r) : CC lo 16 [x0] σ = some r :=
 callL_run Tryz.func16 (by decide +kernel) rfl (by decide +kernel) h
end
end Go.D
end
/- Equations of functions 90, 100, 118, 96, 56, 13, printed by gen.py. -/
section
set_option linter.unusedVariables false
set_option maxRecDepth 10000
namespace Go.D
open Go.Proofs
noncomputable section
variable (G : GuardT) (lo : Nat) {σ : Store} {r : DV × Store}
open _root_.Go.D.Code (fstC sndC)
open _root_.Go.D.Ann (left right)
def c90_0 : Code := bodyOf Tryz.f90
def a90_0 : Ann := (pol 90).ann
def a90_5 : Ann := right (left (right a90_0))
def a90_6 : Ann := left a90_5
def c90_7 : Code := fstC (fstC (sndC (fstC (sndC c90_0))))
def c90_25 : Code := sndC (sndC c90_0)
def a90_25 : Ann := right (right a90_0)
def f90_L0 (x0 x1 x7 x8 : DV) (σ : Store) : RS :=
 codeF G PP (pol 90) CC lo (.loop c90_7) a90_6 (x0 :: x1 :: zn 5 (x7 :: x8 :: zn 10 [])) σ
 (blockC 0 a90_5 (seqC G PP (pol 90) CC lo c90_25 a90_25 (finR PP Tryz.f90.results.toList)))
def F90 (x0 x1 : DV) (σ : Store) : RS :=
 codeF G PP (pol 90) CC lo c90_0 a90_0 (x0 :: x1 :: zn 17 []) σ (finR PP Tryz.f90.results.toList)
theorem f90_L0_eq (G : GuardT) (hG : GuardOk G) (lo : Nat) (x0 x1 x7 x8 : DV) (σ : Store) : f90_L0 G lo x0 x1 x7 x8 σ =
 (binOp PP .lss 3 x8 x7).bind fun x9 =>
 condK x9
 (
 (indexAddr PP 23 x0 x8).bind fun x14 =>
 (load PP 69 x14 σ).bind fun x15 =>
 (pureFn CC x1 [x15] σ).bind fun x16 =>
 condK x16
 (
 some (x8, σ)
 )
 (
 (binOp PP .add 3 x8 I1).bind fun x18 =>
 f90_L0 G lo x0 x1 x7 x18 σ
 )
 )
 (
 some ((DV.p (PV.int IntKind.i64 (-1))), σ)
 ) := (loopF_eq G hG).trans (by kernel_rfl)
theorem F90_eq (G : GuardT) (lo : Nat) (x0 x1 : DV) (σ : Store) : F90 G lo x0 x1 σ =
 (len PP 23 x0 σ).bind fun x7 =>
 f90_L0 G lo x0 x1 x7 I0 σ := by kernel_rfl
theorem F90_call {lo : Nat} {x0 x1 : DV} (h : F90 guardT lo x0 x1 σ = some r) : CC lo 90 [x0, x1] σ = some r :=
 callL_run Tryz.func90 (by decide +kernel) rfl (by decide +kernel) h
def c100_0 : Code := bodyOf Tryz.f100
def a100_0 : Ann := (pol 100).ann
def F100 (x0 x1 : DV) (σ : Store) : RS :=
 codeF G PP (pol 100) CC lo c100_0 a100_0 (x0 :: x1 :: zn 7 []) σ (finR PP Tryz.f100.results.toList)
theorem F100_eq (G : GuardT) (lo : Nat) (x0 x1 : DV) (σ : Store) : F100 G lo x0 x1 σ =
 (pureFn CC (DV.fn 90 []) [x0, x1] σ).bind fun x7 =>
 (binOp PP .geq 3 x7 I0).bind fun x8 =>
 some (x8, σ) := by kernel_rfl
theorem F100_call {lo : Nat} {x0 x1 : DV} (h : F100 guardT lo x0 x1 σ = some r) : CC lo 100 [x0, x1] σ = some r :=
 callL_run Tryz.func100 (by decide +kernel) rfl (by decide +kernel) h
def c118_0 : Code := bodyOf Tryz.f118
def a118_0 : Ann := (pol 118).ann
def F118 (x0 x1 : DV) (σ : Store) : RS :=
 codeF G PP (pol 118) CC lo c118_0 a118_0 (x0 :: x1 :: zn 7 []) σ (finR PP Tryz.f118.results.toList)
theorem F118_eq (G : GuardT) (lo : Nat) (x0 x1 : DV) (σ : Store) : F118 G lo x0 x1 σ =
 (fieldAddr PP 25 x1 0).bind fun x5 =>
 (load PP 3 x5 σ).bind fun x6 =>
 (binOp PP .sub 3 x6 I1).bind fun x7 =>
 (pureFn CC (DV.fn 88 []) [x0, I0, x7] σ).bind fun x8 =>
 some (x8, σ) := by kernel_rfl
theorem F118_call {lo : Nat} {x0 x1 : DV} (h : F118 guardT lo x0 x1 σ = some r) : CC lo 118 [x0, x1] σ = some r :=
 callL_run Tryz.func118 (by decide +kernel) rfl (by decide +kernel) h
def c96_0 : Code := bodyOf Tryz.f96
def a96_0 : Ann := (pol 96).ann
def a96_9 : Ann := right (left (right (right (right a96_0))))
def a96_10 : Ann := left a96_9
def c96_11 : Code := fstC (fstC (sndC (fstC (sndC (sndC (sndC c96_0))))))
def c96_23 : Code := sndC (sndC (sndC (sndC c96_0)))
def a96_23 : Ann := right (right (right (right a96_0)))
def a96_26 : Ann := right (left a96_23)
def a96_27 : Ann := left a96_26
def c96_28 : Code := fstC (fstC (sndC (fstC c96_23)))
def c96_40 : Code := sndC c96_23
def a96_40 : Ann := right a96_23
def f96_L0 (x1 x3 x4 x20 x21 x22 : DV) (σ : Store) : RS :=
 codeF G PP (pol 96) CC lo (.loop c96_11) a96_10 (Z :: x1 :: Z :: x3 :: x4 :: zn 15 (x20 :: x21 :: x22 :: zn 68 [])) σ
 (blockC 0 a96_9 (seqC G PP (pol 96) CC lo c96_23 a96_23 (finR PP Tryz.f96.results.toList)))
def f96_L1 (x1 x3 x4 x49 x50 x51 : DV) (σ : Store) : RS :=
 codeF G PP (pol 96) CC lo (.loop c96_28) a96_27 (Z :: x1 :: Z :: x3 :: x4 :: zn 44 (x49 :: x50 :: x51 :: zn 39 [])) σ
 (blockC 2 a96_26 (seqC G PP (pol 96) CC lo c96_40 a96_40 (finR PP Tryz.f96.results.toList)))
def F96 (x0 : DV) (σ : Store) : RS :=
 codeF G PP (pol 96) CC lo c96_0 a96_0 (x0 :: zn 90 []) σ (finR PP Tryz.f96.results.toList)
theorem f96_L0_eq (G : GuardT) (hG : GuardOk G) (lo : Nat) (x1 x3 x4 x20 x21 x22 : DV) (σ : Store) : f96_L0 G lo x1 x3 x4 x20 x21 x22 σ =
 (binOp PP .lss 3 x22 x21).bind fun x23 =>
 condK x23
 (
 (indexAddr PP 22 x20 x22).bind fun x25 =>
 (load PP 3 x25 σ).bind fun x26 =>
 G _ x4 true (some (x3, σ)) σ fun x29 σ5 =>
 G _ x4 true (some (x26, σ5)) σ5 fun x30 σ6 =>
 G _ x4 true ((pureFn CC x29 [x30] σ6).bind fun v => some (v, σ6)) σ6 fun x31 σ7 =>
 (pickV x4 x31 (DV.p (PV.bool false))).bind fun x32 =>
 G _ x32 true (some (x22, σ7)) σ7 fun x34 σ8 =>
 G _ x32 true ((binOp PP .eql 3 x34 I0).bind fun v => some (v, σ8)) σ8 fun x35 σ9 =>
 G _ x32 true (some (x35, σ9)) σ9 fun x36 σ10 =>
 G _ x36 false ((fieldAddr PP 25 x1 1).bind fun v => some (v, σ10)) σ10 fun x37 σ11 =>
 G _ x36 false ((load PP 22 x37 σ11).bind fun v => some (v, σ11)) σ11 fun x38 σ12 =>
 G _ x36 false (some (x22, σ12)) σ12 fun x39 σ13 =>
 G _ x36 false ((binOp PP .sub 3 x39 I1).bind fun v => some (v, σ13)) σ13 fun x40 σ14 =>
 G _ x36 false ((indexAddr PP 22 x38 x40).bind fun v => some (v, σ14)) σ14 fun x41 σ15 =>
 G _ x36 false ((load PP 3 x41 σ15).bind fun v => some (v, σ15)) σ15 fun x42 σ16 =>
 G _ x36 false (some (x26, σ16)) σ16 fun x43 σ17 =>
 G _ x36 false ((binOp PP .lss 3 x42 x43).bind fun v => some (v, σ17)) σ17 fun x44 σ18 =>
 G _ x32 true ((pickV x36 (DV.p (PV.bool true)) x44).bind fun v => some (v, σ18)) σ18 fun x45 σ19 =>
 (pickV x32 x45 (DV.p (PV.bool false))).bind fun x46 =>
 (binOp PP .add 3 x22 I1).bind fun x47 =>
 f96_L0 G lo x1 x3 x46 x20 x21 x47 σ19
 )
 (
 (fieldAddr PP 25 x1 2).bind fun x48 =>
 (load PP 23 x48 σ).bind fun x49 =>
 (len PP 23 x49 σ).bind fun x50 =>
 f96_L1 G lo x1 x3 x4 x49 x50 I0 σ
 ) := (loopF_eq G hG).trans (by kernel_rfl)
theorem f96_L1_eq (G : GuardT) (hG : GuardOk G) (lo : Nat) (x1 x3 x4 x49 x50 x51 : DV) (σ : Store) : f96_L1 G lo x1 x3 x4 x49 x50 x51 σ =
 (binOp PP .lss 3 x51 x50).bind fun x52 =>
 condK x52
 (
 (indexAddr PP 23 x49 x51).bind fun x54 =>
 (load PP 69 x54 σ).bind fun x55 =>
 (zeroOf PP 69).bind fun z8 =>
 (store PP lo 69 (DV.ptr (List.length σ) 0) x55 (σ ++ [Row.mix z8])).bind fun σ20 =>
 G _ x4 true (some (x3, σ20)) σ20 fun x58 σ21 =>
 G _ x4 true ((fieldAddr PP 69 (DV.ptr (List.length σ) 0) 0).bind fun v => some (v, σ21)) σ21 fun x59 σ22 =>
 G _ x4 true ((load PP 3 x59 σ22).bind fun v => some (v, σ22)) σ22 fun x60 σ23 =>
 G _ x4 true ((pureFn CC x58 [x60] σ23).bind fun v => some (v, σ23)) σ23 fun x61 σ24 =>
 (pickV x4 x61 (DV.p (PV.bool false))).bind fun x62 =>
 G _ x62 true (some (x3, σ24)) σ24 fun x64 σ25 =>
 G _ x62 true ((fieldAddr PP 69 (DV.ptr (List.length σ) 0) 1).bind fun v => some (v, σ25)) σ25 fun x65 σ26 =>
 G _ x62 true ((load PP 3 x65 σ26).bind fun v => some (v, σ26)) σ26 fun x66 σ27 =>
 G _ x62 true ((pureFn CC x64 [x66] σ27).bind fun v => some (v, σ27)) σ27 fun x67 σ28 =>
 (pickV x62 x67 (DV.p (PV.bool false))).bind fun x68 =>
 G _ x68 true ((fieldAddr PP 69 (DV.ptr (List.length σ) 0) 2).bind fun v => some (v, σ28)) σ28 fun x70 σ29 =>
 G _ x68 true ((load PP 3 x70 σ29).bind fun v => some (v, σ29)) σ29 fun x71 σ30 =>
 G _ x68 true ((pureFn CC (DV.fn 88 []) [x71, I0, (DV.p (PV.int IntKind.i64 (11)))] σ30).bind fun v => some (v, σ30)) σ30 fun x72 σ31 =>
 (pickV x68 x72 (DV.p (PV.bool false))).bind fun x73 =>
 G _ x73 true (some (x51, σ31)) σ31 fun x75 σ32 =>
 G _ x73 true ((binOp PP .eql 3 x75 I0).bind fun v => some (v, σ32)) σ32 fun x76 σ33 =>
 G _ x73 true (some (x76, σ33)) σ33 fun x77 σ34 =>
 G _ x77 false ((fieldAddr PP 25 x1 2).bind fun v => some (v, σ34)) σ34 fun x78 σ35 =>
 G _ x77 false ((load PP 23 x78 σ35).bind fun v => some (v, σ35)) σ35 fun x79 σ36 =>
 G _ x77 false (some (x51, σ36)) σ36 fun x80 σ37 =>
 G _ x77 false ((binOp PP .sub 3 x80 I1).bind fun v => some (v, σ37)) σ37 fun x81 σ38 =>
 G _ x77 false ((indexAddr PP 23 x79 x81).bind fun v => some (v, σ38)) σ38 fun x82 σ39 =>
 G _ x77 false ((load PP 69 x82 σ39).bind fun v => some (v, σ39)) σ39 fun x83 σ40 =>
 G _ x77 false ((load PP 69 (DV.ptr (List.length σ) 0) σ40).bind fun v => some (v, σ40)) σ40 fun x84 σ41 =>
 G _ x77 false ((pureFn CC (DV.fn 119 []) [x83, x84] σ41).bind fun v => some (v, σ41)) σ41 fun x85 σ42 =>
 G _ x77 false ((binOp PP .lss 3 x85 I0).bind fun v => some (v, σ42)) σ42 fun x86 σ43 =>
 G _ x73 true ((pickV x77 (DV.p (PV.bool true)) x86).bind fun v => some (v, σ43)) σ43 fun x87 σ44 =>
 (pickV x73 x87 (DV.p (PV.bool false))).bind fun x88 =>
 (binOp PP .add 3 x51 I1).bind fun x89 =>
 f96_L1 G lo x1 x3 x88 x49 x50 x89 σ44
 )
 (
 some (x4, σ)
 ) := (loopF_eq G hG).trans (by kernel_rfl)
theorem F96_eq (G : GuardT) (lo : Nat) (x0 : DV) (σ : Store) : F96 G lo x0 σ =
 (boxV x0).bind fun z1 =>
 (fieldAddr PP 25 (DV.ptr (List.length σ) 0) 0).bind fun x10 =>
 (load PP 3 x10 (σ ++ [Row.mix z1])).bind fun x11 =>
 (pureFn CC (DV.fn 88 []) [x11, I0, (DV.p (PV.int IntKind.i64 (400)))] (σ ++ [Row.mix z1])).bind fun x12 =>
 G _ x12 true ((fieldAddr PP 25 (DV.ptr (List.length σ) 0) 2).bind fun v => some (v, (σ ++ [Row.mix z1]))) (σ ++ [Row.mix z1]) fun x14 σ1 =>
 G _ x12 true ((load PP 23 x14 σ1).bind fun v => some (v, σ1)) σ1 fun x15 σ2 =>
 G _ x12 true ((len PP 23 x15 σ2).bind fun v => some (v, σ2)) σ2 fun x16 σ3 =>
 G _ x12 true ((binOp PP .leq 3 x16 (DV.p (PV.int IntKind.i64 (2000)))).bind fun v => some (v, σ3)) σ3 fun x17 σ4 =>
 (pickV x12 x17 (DV.p (PV.bool false))).bind fun x18 =>
 (fieldAddr PP 25 (DV.ptr (List.length σ) 0) 1).bind fun x19 =>
 (load PP 22 x19 σ4).bind fun x20 =>
 (len PP 22 x20 σ4).bind fun x21 =>
 f96_L0 G lo (DV.ptr (List.length σ) 0) (DV.fn 118 [(DV.ptr (List.length σ) 0)]) x18 x20 x21 I0 σ4 := by kernel_rfl
theorem F96_call {lo : Nat} {x0 : DV} (h : F96 guardT lo x0 σ = some r) : CC lo 96 [x0] σ = some r :=
 callL_run Tryz.func96 (by decide +kernel) rfl (by decide +kernel) h
def c56_0 : Code := bodyOf Tryz.f56
def a56_0 : Ann := (pol 56).ann
def a56_13 : Ann := right (left (right (right a56_0)))
def a56_14 : Ann := left a56_13
def c56_15 : Code := fstC (fstC (sndC (fstC (sndC (sndC c56_0)))))
def c56_31 : Code := sndC (sndC (sndC c56_0))
def a56_31 : Ann := right (right (right a56_0))
def a56_34 : Ann := right (left a56_31)
def a56_35 : Ann := left a56_34
def c56_36 : Code := fstC (fstC (sndC (fstC c56_31)))
def c56_54 : Code := sndC c56_31
def a56_54 : Ann := right a56_31
def f56_L0 (x1 x3 : DV) (σ : Store) : RS :=
 codeF G PP (pol 56) CC lo (.loop c56_15) a56_14 (Z :: x1 :: Z :: x3 :: zn 106 []) σ
 (blockC 0 a56_13 (seqC G PP (pol 56) CC lo c56_31 a56_31 (finR PP Tryz.f56.results.toList)))
def f56_L1 (x1 x4 : DV) (σ : Store) : RS :=
 codeF G PP (pol 56) CC lo (.loop c56_36) a56_35 (Z :: x1 :: Z :: Z :: x4 :: zn 105 []) σ
 (blockC 2 a56_34 (seqC G PP (pol 56) CC lo c56_54 a56_54 (finR PP Tryz.f56.results.toList)))
def F56 (x0 : DV) (σ : Store) : RS :=
 codeF G PP (pol 56) CC lo c56_0 a56_0 (x0 :: zn 109 []) σ (finR PP Tryz.f56.results.toList)
theorem f56_L0_eq (G : GuardT) (hG : GuardOk G) (lo : Nat) (x1 x3 : DV) (σ : Store) : f56_L0 G lo x1 x3 σ =
 (fieldAddr PP 25 x1 1).bind fun x25 =>
 (load PP 22 x25 σ).bind fun x26 =>
 (len PP 22 x26 σ).bind fun x27 =>
 (binOp PP .lss 3 x3 x27).bind fun x28 =>
 condK x28
 (
 (fieldAddr PP 25 x1 1).bind fun x31 =>
 (load PP 22 x31 σ).bind fun x32 =>
 (indexAddr PP 22 x32 x3).bind fun x34 =>
 (load PP 3 x34 σ).bind fun x35 =>
 (fieldAddr PP 25 x1 0).bind fun x36 =>
 (load PP 3 x36 σ).bind fun x37 =>
 (binOp PP .sub 3 x37 I1).bind fun x38 =>
 (pureFn CC (DV.fn 61 []) [x35, I0, x38] σ).bind fun x39 =>
 (unOp .not x39).bind fun x40 =>
 G _ x40 false (some (x3, σ)) σ fun x42 σ11 =>
 G _ x40 false ((binOp PP .gtr 3 x42 I0).bind fun v => some (v, σ11)) σ11 fun x43 σ12 =>
 G _ x40 false (some (x43, σ12)) σ12 fun x44 σ13 =>
 G _ x44 true ((fieldAddr PP 25 x1 1).bind fun v => some (v, σ13)) σ13 fun x45 σ14 =>
 G _ x44 true ((load PP 22 x45 σ14).bind fun v => some (v, σ14)) σ14 fun x46 σ15 =>
 G _ x44 true (some (x3, σ15)) σ15 fun x47 σ16 =>
 G _ x44 true ((indexAddr PP 22 x46 x47).bind fun v => some (v, σ16)) σ16 fun x48 σ17 =>
 G _ x44 true ((load PP 3 x48 σ17).bind fun v => some (v, σ17)) σ17 fun x49 σ18 =>
 G _ x44 true ((fieldAddr PP 25 x1 1).bind fun v => some (v, σ18)) σ18 fun x50 σ19 =>
 G _ x44 true ((load PP 22 x50 σ19).bind fun v => some (v, σ19)) σ19 fun x51 σ20 =>
 G _ x44 true (some (x3, σ20)) σ20 fun x52 σ21 =>
 G _ x44 true ((binOp PP .sub 3 x52 I1).bind fun v => some (v, σ21)) σ21 fun x53 σ22 =>
 G _ x44 true ((indexAddr PP 22 x51 x53).bind fun v => some (v, σ22)) σ22 fun x54 σ23 =>
 G _ x44 true ((load PP 3 x54 σ23).bind fun v => some (v, σ23)) σ23 fun x55 σ24 =>
 G _ x44 true ((binOp PP .leq 3 x49 x55).bind fun v => some (v, σ24)) σ24 fun x56 σ25 =>
 G _ x40 false ((pickV x44 x56 (DV.p (PV.bool false))).bind fun v => some (v, σ25)) σ25 fun x57 σ26 =>
 (pickV x40 (DV.p (PV.bool true)) x57).bind fun x58 =>
 condK x58
 (
 some ((DV.p (PV.bool false)), σ26)
 )
 (
 (binOp PP .add 3 x3 I1).bind fun x30 =>
 f56_L0 G lo x1 x30 σ26
 )
 )
 (
 f56_L1 G lo x1 I0 σ
 ) := (loopF_eq G hG).trans (by kernel_rfl)
theorem f56_L1_eq (G : GuardT) (hG : GuardOk G) (lo : Nat) (x1 x4 : DV) (σ : Store) : f56_L1 G lo x1 x4 σ =
 (fieldAddr PP 25 x1 2).bind fun x60 =>
 (load PP 23 x60 σ).bind fun x61 =>
 (len PP 23 x61 σ).bind fun x62 =>
 (binOp PP .lss 3 x4 x62).bind fun x63 =>
 condK x63
 (
 (fieldAddr PP 25 x1 2).bind fun x66 =>
 (load PP 23 x66 σ).bind fun x67 =>
 (indexAddr PP 23 x67 x4).bind fun x69 =>
 (load PP 69 x69 σ).bind fun x70 =>
 (zeroOf PP 69).bind fun z5 =>
 (store PP lo 69 (DV.ptr (List.length σ) 0) x70 (σ ++ [Row.mix z5])).bind fun σ27 =>
 (fieldAddr PP 69 (DV.ptr (List.length σ) 0) 0).bind fun x71 =>
 (load PP 3 x71 σ27).bind fun x72 =>
 (fieldAddr PP 25 x1 0).bind fun x73 =>
 (load PP 3 x73 σ27).bind fun x74 =>
 (binOp PP .sub 3 x74 I1).bind fun x75 =>
 (pureFn CC (DV.fn 61 []) [x72, I0, x75] σ27).bind fun x76 =>
 (unOp .not x76).bind fun x77 =>
 G _ x77 false ((fieldAddr PP 69 (DV.ptr (List.length σ) 0) 1).bind fun v => some (v, σ27)) σ27 fun x79 σ28 =>
 G _ x77 false ((load PP 3 x79 σ28).bind fun v => some (v, σ28)) σ28 fun x80 σ29 =>
 G _ x77 false ((fieldAddr PP 25 x1 0).bind fun v => some (v, σ29)) σ29 fun x81 σ30 =>
 G _ x77 false ((load PP 3 x81 σ30).bind fun v => some (v, σ30)) σ30 fun x82 σ31 =>
 G _ x77 false ((binOp PP .sub 3 x82 I1).bind fun v => some (v, σ31)) σ31 fun x83 σ32 =>
 G _ x77 false ((pureFn CC (DV.fn 61 []) [x80, I0, x83] σ32).bind fun v => some (v, σ32)) σ32 fun x84 σ33 =>
 G _ x77 false ((unOp .not x84).bind fun v => some (v, σ33)) σ33 fun x85 σ34 =>
 (pickV x77 (DV.p (PV.bool true)) x85).bind fun x86 =>
 G _ x86 false ((fieldAddr PP 69 (DV.ptr (List.length σ) 0) 2).bind fun v => some (v, σ34)) σ34 fun x88 σ35 =>
 G _ x86 false ((load PP 3 x88 σ35).bind fun v => some (v, σ35)) σ35 fun x89 σ36 =>
 G _ x86 false ((pureFn CC (DV.fn 61 []) [x89, I0, (DV.p (PV.int IntKind.i64 (11)))] σ36).bind fun v => some (v, σ36)) σ36 fun x90 σ37 =>
 G _ x86 false ((unOp .not x90).bind fun v => some (v, σ37)) σ37 fun x91 σ38 =>
 (pickV x86 (DV.p (PV.bool true)) x91).bind fun x92 =>
 G _ x92 false (some (x4, σ38)) σ38 fun x94 σ39 =>
 G _ x92 false ((binOp PP .gtr 3 x94 I0).bind fun v => some (v, σ39)) σ39 fun x95 σ40 =>
 G _ x92 false (some (x95, σ40)) σ40 fun x96 σ41 =>
 G _ x96 true ((fieldAddr PP 25 x1 2).bind fun v => some (v, σ41)) σ41 fun x97 σ42 =>
 G _ x96 true ((load PP 23 x97 σ42).bind fun v => some (v, σ42)) σ42 fun x98 σ43 =>
 G _ x96 true (some (x4, σ43)) σ43 fun x99 σ44 =>
 G _ x96 true ((binOp PP .sub 3 x99 I1).bind fun v => some (v, σ44)) σ44 fun x100 σ45 =>
 G _ x96 true ((indexAddr PP 23 x98 x100).bind fun v => some (v, σ45)) σ45 fun x101 σ46 =>
 G _ x96 true ((load PP 69 x101 σ46).bind fun v => some (v, σ46)) σ46 fun x102 σ47 =>
 G _ x96 true ((pureFn CC (DV.fn 92 []) [x102] σ47).bind fun v => some (v, σ47)) σ47 fun x103 σ48 =>
 G _ x96 true ((load PP 69 (DV.ptr (List.length σ) 0) σ48).bind fun v => some (v, σ48)) σ48 fun x104 σ49 =>
 G _ x96 true ((pureFn CC (DV.fn 92 []) [x104] σ49).bind fun v => some (v, σ49)) σ49 fun x105 σ50 =>
 G _ x96 true ((pureFn CC (DV.fn 69 []) [x103, x105] σ50).bind fun v => some (v, σ50)) σ50 fun x106 σ51 =>
 G _ x96 true ((binOp PP .geq 3 x106 I0).bind fun v => some (v, σ51)) σ51 fun x107 σ52 =>
 G _ x92 false ((pickV x96 x107 (DV.p (PV.bool false))).bind fun v => some (v, σ52)) σ52 fun x108 σ53 =>
 (pickV x92 (DV.p (PV.bool true)) x108).bind fun x109 =>
 condK x109
 (
 some ((DV.p (PV.bool false)), σ53)
 )
 (
 (binOp PP .add 3 x4 I1).bind fun x65 =>
 f56_L1 G lo x1 x65 σ53
 )
 )
 (
 some ((DV.p (PV.bool true)), σ)
 ) := (loopF_eq G hG).trans (by kernel_rfl)
theorem F56_eq (G : GuardT) (lo : Nat) (x0 : DV) (σ : Store) : F56 G lo x0 σ =
 (boxV x0).bind fun z1 =>
 (fieldAddr PP 25 (DV.ptr (List.length σ) 0) 0).bind fun x6 =>
 (load PP 3 x6 (σ ++ [Row.mix z1])).bind fun x7 =>
 (pureFn CC (DV.fn 61 []) [x7, I0, (DV.p (PV.int IntKind.i64 (400)))] (σ ++ [Row.mix z1])).bind fun x8 =>
 (unOp .not x8).bind fun x9 =>
 G _ x9 false ((fieldAddr PP 25 (DV.ptr (List.length σ) 0) 1).bind fun v => some (v, (σ ++ [Row.mix z1]))) (σ ++ [Row.mix z1]) fun x11 σ1 =>
 G _ x9 false ((load PP 22 x11 σ1).bind fun v => some (v, σ1)) σ1 fun x12 σ2 =>
 G _ x9 false ((len PP 22 x12 σ2).bind fun v => some (v, σ2)) σ2 fun x13 σ3 =>
 G _ x9 false ((fieldAddr PP 25 (DV.ptr (List.length σ) 0) 0).bind fun v => some (v, σ3)) σ3 fun x14 σ4 =>
 G _ x9 false ((load PP 3 x14 σ4).bind fun v => some (v, σ4)) σ4 fun x15 σ5 =>
 G _ x9 false ((binOp PP .gtr 3 x13 x15).bind fun v => some (v, σ5)) σ5 fun x16 σ6 =>
 (pickV x9 (DV.p (PV.bool true)) x16).bind fun x17 =>
 G _ x17 false ((fieldAddr PP 25 (DV.ptr (List.length σ) 0) 2).bind fun v => some (v, σ6)) σ6 fun x19 σ7 =>
 G _ x17 false ((load PP 23 x19 σ7).bind fun v => some (v, σ7)) σ7 fun x20 σ8 =>
 G _ x17 false ((len PP 23 x20 σ8).bind fun v => some (v, σ8)) σ8 fun x21 σ9 =>
 G _ x17 false ((binOp PP .gtr 3 x21 (DV.p (PV.int IntKind.i64 (2000)))).bind fun v => some (v, σ9)) σ9 fun x22 σ10 =>
 (pickV x17 (DV.p (PV.bool true)) x22).bind fun x23 =>
 condK x23
 (
 some ((DV.p (PV.bool false)), σ10)
 )
 (
 f56_L0 G lo (DV.ptr (List.length σ) 0) I0 σ10
 ) := by kernel_rfl
theorem F56_call {lo : Nat} {x0 : DV} (h : F56 guardT lo x0 σ = some r) : CC lo 56 [x0] σ = some r :=
 callL_run Tryz.func56 (by decide +kernel) rfl (by decide +kernel) h
def c13_0 : Code := bodyOf Tryz.f13
def a13_0 : Ann := (pol 13).ann
def F13 (x0 : DV) (σ : Store) : RS :=
 codeF G PP (pol 13) CC lo c13_0 a13_0 (x0 :: zn 12 []) σ (finR PP Tryz.f13.results.toList)
theorem F13_eq (G : GuardT) (lo : Nat) (x0 : DV) (σ : Store) : F13 G lo x0 σ =
 (boxV x0).bind fun z1 =>
 (zeroOf PP 25).bind fun z2 =>
 (fieldAddr PP 25 (DV.ptr (List.length σ) 0) 1).bind fun x3 =>
 (load PP 22 x3 ((σ ++ [Row.mix z1]) ++ [Row.mix z2])).bind fun x4 =>
 (pureFn CC (DV.fn 16 []) [x4] ((σ ++ [Row.mix z1]) ++ [Row.mix z2])).bind fun x5 =>
 (buildSlice PP none 23 0 [] ((σ ++ [Row.mix z1]) ++ [Row.mix z2])).bind fun r6_1 =>
 (fieldAddr PP 25 (DV.ptr (List.length σ) 0) 2).bind fun x7 =>
 (load PP 23 x7 r6_1.2).bind fun x8 =>
 (append PP lo false 23 23 r6_1.1 x8 r6_1.2).bind fun r9_2 =>
 (fieldAddr PP 25 (DV.ptr (List.length σ) 0) 1).bind fun x10 =>
 (store PP lo 22 x10 x5 r9_2.2).bind fun σ3 =>
 (fieldAddr PP 25 (DV.ptr (List.length σ) 0) 2).bind fun x11 =>
 (store PP lo 23 x11 r9_2.1 σ3).bind fun σ4 =>
 (load PP 25 (DV.ptr (List.length σ) 0) σ4).bind fun x12 =>
 (store PP lo 25 (DV.ptr (List.length (σ ++ [Row.mix z1])) 0) x12 σ4).bind fun σ5 =>
 (cellV PP 25 (DV.ptr (List.length (σ ++ [Row.mix z1])) 0) σ5).bind fun v0 =>
 some (v0, σ5) := by kernel_rfl
theorem F13_call {lo : Nat} {x0 : DV} (h : F13 guardT lo x0 σ = some r) : CC lo 13 [x0] σ = some r :=
 callL_run Tryz.func13 (by decide +kernel) rfl (by decide +kernel) h
end
end Go.D
end
/- What functions of the library and of the base answer on graphs: turned from the texts of chapter 21. -/
section
set_option linter.unusedVariables false
set_option linter.unusedSimpArgs false
namespace Go.D
def inR (n a b : Int) : Bool := decide (n ≥ a) && decide (n ≤ b)
theorem S88 (n a b : Int) (σ : Store) : pureV CC 88 [.p (pI n), .p (pI a), .p (pI b)] σ = some (.p (.bool (inR n a b))) := by
  refine pureV_free rfl rfl (F88_call (r := (.p (.bool (inR n a b)), [])) ?_) rfl
  rw [F88_eq]
  simp only [b_geq, b_leq, obind, inR]
  by_cases h : n ≥ a <;> simp [h, guard_tt, guard_ft, b_leq, pickV_true, pickV_false]
theorem S61 (n a b : Int) (σ : Store) : pureV CC 61 [.p (pI n), .p (pI a), .p (pI b)] σ = some (.p (.bool (inR n a b))) := by
  refine pureV_free rfl rfl (F61_call (r := (.p (.bool (inR n a b)), [])) ?_) rfl
  rw [F61_eq]
  simp only [b_geq, b_leq, obind, inR]
  by_cases h : n ≥ a <;> simp [h, guard_tt, guard_ft, b_leq, pickV_true, pickV_false]
theorem S73 (b : Bool) (e : Int) (σ : Store) : pureV CC 73 [.p (.bool b), .p (pI e)] σ = some (.p (pI (if b then 0 else e))) := by
  refine pureV_free rfl rfl (F73_call (r := (.p (pI (if b then 0 else e)), [])) ?_) rfl
  rw [F73_eq]
  cases b <;> rfl
theorem S120 (n : Int) (σ : Store) : pureV CC 120 [.p (pI n)] σ = some (.p (.bool false)) := by
  refine pureV_free rfl rfl (F120_call (r := (.p (.bool false), [])) ?_) rfl
  rw [F120_eq]
  simp [b_neq]
def cmpI (a b : Int) : Int := if a < b then -1 else if a > b then 1 else 0
theorem S99 (a b : Int) (σ : Store) : pureV CC 99 [.p (pI a), .p (pI b)] σ = some (.p (pI (cmpI a b))) := by
  refine pureV_free rfl rfl (F99_call (r := (.p (pI (cmpI a b)), [])) ?_) rfl
  rw [F99_eq]
  simp only [pureFn_fn, List.append_nil, S120, obind, condK_false, b_lss, b_gtr, cmpI]
  by_cases h : a < b
  · simp [h, condK_true, condK_if]
  · by_cases h2 : a > b <;> simp [h, h2, condK_true, condK_if]
theorem S36 (b : Bool) (σ : Store) : pureV CC 36 [.p (.bool b)] σ = some (.p (pI (if b then 1 else 0))) := by
  refine pureV_free rfl rfl (F36_call (r := (.p (pI (if b then 1 else 0)), [])) ?_) rfl
  rw [F36_eq]
  cases b <;> rfl
def idxFrom {α : Type} (q : α → Bool) : List α → Nat → Int
  | [], _ => -1
  | a :: l, i => if q a then (i : Int) else idxFrom q l (i + 1)
theorem idxFrom_ge {α : Type} (q : α → Bool) : ∀ (l : List α) (i : Nat), decide (idxFrom q l i ≥ 0) = l.any q
  | [], i => rfl
  | a :: l, i => by
    unfold idxFrom
    cases h : q a with
    | true => simp [h]
    | false => simp only [Bool.false_eq_true, if_false, idxFrom_ge q l, List.any_cons, h, Bool.false_or]
theorem drop_cons {α : Type} {l : List α} {i : Nat} (h : i < l.length) : l.drop i = l[i] :: l.drop (i + 1) := List.drop_eq_getElem_cons h
theorem L116 {o : Option (List Int)} {f : FuncId} {caps : List DV} {σ : Store} {lo : Nat} {q : Int → Bool} (hl : (L o).length ≤ 1000) (hq : ∀ v, pureV CC f (.p (pI v) :: caps) σ = some (.p (.bool (q v)))) :
    ∀ (k i : Nat), (L o).length - i = k → i ≤ (L o).length → f116_L0 guardT lo (.p (eSl o)) (.fn f caps) (.p (pI ((L o).length : Nat))) (.p (pI (i : Nat))) σ = some (.p (pI (idxFrom q ((L o).drop i) i)), σ)
  | 0, i, hk, hi => by
    have : i = (L o).length := by omega
    rw [f116_L0_eq guardT rfl]
    subst this
    simp [b_lss, condK_false, idxFrom]
  | k + 1, i, hk, hi => by
    have h : i < (L o).length := by omega
    have h' : (i : Int) < ((L o).length : Nat) := by omega
    rw [f116_L0_eq guardT rfl]
    simp only [b_lss, obind, h', decide_true, condK_true, idx22 h, load3, load1_ints h, pureFn_fn, List.singleton_append, hq]
    rw [drop_cons h]
    cases hqv : q (L o)[i] with
    | true => simp [condK_true, idxFrom, hqv]
    | false =>
      simp only [condK_false, b_add, obind, wrap_succ (show i ≤ 1000000 by omega), idxFrom, hqv, Bool.false_eq_true, if_false]
      exact L116 hl hq k (i + 1) (by omega) (by omega)
theorem fn_view (f : FuncId) (caps : List DV) : view (.fn f caps) = .fn f caps := rfl
theorem sl_view (o : Option (List Int)) : view (.p (eSl o)) = .p (eSl o) := by simp [view, viewCell, loosen_sl]
theorem es_view (o : Option (List Edg)) : view (.p (eEs o)) = .p (eEs o) := by simp [view, viewCell, loosen_es]
abbrev AtSt (caps : List DV) (σ σ0 : Store) : Prop := (σ0 = [] ∧ caps.all rowFree1 = true) ∨ σ0 = σ
theorem S116 {o : Option (List Int)} {f : FuncId} {caps : List DV} {σ : Store} {q : Int → Bool} (hl : (L o).length ≤ 1000) (hq : ∀ σ0, AtSt caps σ σ0 → ∀ v, pureV CC f (.p (pI v) :: caps) σ0 = some (.p (.bool (q v)))) :
    pureV CC 116 [.p (eSl o), .fn f caps] σ = some (.p (pI (idxFrom q (L o) 0))) := by
  refine pureV_any (by simp [sl_view, fn_view]) fun lo σ0 hs => ⟨_, σ0, F116_call (r := (.p (pI (idxFrom q (L o) 0)), σ0)) ?_, rfl⟩
  have hat : AtSt caps σ σ0 := by
    rcases hs with ⟨h1, _, h3⟩ | ⟨h1, _, _⟩
    · exact .inl ⟨h1, by simpa [rowFree] using (by simpa [rowFree] using h3 : _ ∧ _).2⟩
    · exact .inr h1
  rw [F116_eq]
  simp only [len22, obind]
  have := L116 (lo := lo) hl (hq σ0 hat) _ 0 rfl (Nat.zero_le _)
  simpa using this
theorem S86 {o : Option (List Int)} {f : FuncId} {caps : List DV} {σ : Store} {q : Int → Bool} (hl : (L o).length ≤ 1000) (hq : ∀ σ0, AtSt caps σ σ0 → ∀ v, pureV CC f (.p (pI v) :: caps) σ0 = some (.p (.bool (q v)))) :
    pureV CC 86 [.p (eSl o), .fn f caps] σ = some (.p (.bool ((L o).any q))) := by
  refine pureV_any (by simp [sl_view, fn_view]) fun lo σ0 hs => ⟨_, σ0, F86_call (r := (.p (.bool ((L o).any q)), σ0)) ?_, rfl⟩
  have hat : ∀ σ1, AtSt caps σ0 σ1 → AtSt caps σ σ1 := by
    intro σ1 h
    rcases hs with ⟨h1, _, h3⟩ | ⟨h1, _, _⟩
    · rcases h with h | h
      · exact .inl h
      · exact .inl ⟨h.trans h1, by simpa [rowFree] using (by simpa [rowFree] using h3 : _ ∧ _).2⟩
    · rw [← h1]; exact h
  rw [F86_eq]
  simp only [pureFn_fn, List.append_nil, S116 hl fun σ1 h => hq σ1 (hat σ1 h), obind, b_geq, idxFrom_ge]
theorem load1_getD {l : List Int} {i : Nat} (h : i < l.length) (σ : Store) : load1 (.pptr (eInts l) i) σ = some (.p (pI (l.getD i 0))) := by
  rw [load1_ints h, List.getD_eq_getElem?_getD, List.getElem?_eq_getElem h]; rfl
theorem wrap_pred {i : Nat} (h : 0 < i) (h2 : i ≤ 1000000) : IntKind.wrap .i64 ((i : Int) - 1) = ((i - 1 : Nat) : Int) := by
  rw [wrap_ok] <;> omega
def edgD (e : Edg) : List DV := [.p (pI e.f), .p (pI e.t), .p (pI e.a)]
def orL : List Int → Int
  | [] => 0
  | a :: l => if a = 0 then orL l else a
def ordE (a b : Edg) : Int := orL [cmpI a.f b.f, cmpI a.t b.t, cmpI a.a b.a]
theorem pureV_view {call : CallF} {f : FuncId} {args args' : List DV} {σ : Store} (h : args.map view = args') (h2 : args'.map view = args') : pureV call f args σ = pureV call f args' σ := by
  unfold pureV
  rw [h, h2]
theorem L98 {o : Option (List Int)} {σ : Store} {lo : Nat} (hl : (L o).length ≤ 1000) :
    ∀ (k i : Nat), (L o).length - i = k → i ≤ (L o).length → f98_L0 guardT lo (.p (pI 0)) (.p (eSl o)) (.p (pI ((L o).length : Nat))) (.p (pI (i : Nat))) σ = some (.p (pI (orL ((L o).drop i))), σ)
  | 0, i, hk, hi => by
    have : i = (L o).length := by omega
    rw [f98_L0_eq guardT rfl]
    subst this
    simp [b_lss, condK_false, orL]
  | k + 1, i, hk, hi => by
    have h : i < (L o).length := by omega
    have h' : (i : Int) < ((L o).length : Nat) := by omega
    rw [f98_L0_eq guardT rfl]
    simp only [b_lss, obind, h', decide_true, condK_true, idx22 h, load3, load1_ints h, b_neq]
    rw [drop_cons h]
    by_cases hqv : (L o)[i] = 0
    · simp only [hqv, decide_true, Bool.not_true, condK_false, b_add, obind, wrap_succ (show i ≤ 1000000 by omega), orL, if_true]
      exact L98 hl k (i + 1) (by omega) (by omega)
    · simp [condK_true, orL, hqv]
theorem S98 {o : Option (List Int)} {σ : Store} (hl : (L o).length ≤ 1000) : pureV CC 98 [.p (eSl o)] σ = some (.p (pI (orL (L o)))) := by
  refine pureV_free (by simp [sl_view]) rfl (F98_call (r := (.p (pI (orL (L o))), [])) ?_) rfl
  rw [F98_eq]
  simp only [len22, obind]
  have := L98 (lo := 0) (σ := []) hl _ 0 rfl (Nat.zero_le _)
  simpa using this
theorem box_edg (e : Edg) : boxV (.agg (edgD e)) = some (edgD e) := rfl
theorem bs22_3 (x y z : Int) (σ : Store) : buildSlice PP none 22 3 [(0, .p (pI x)), (1, .p (pI y)), (2, .p (pI z))] σ = some (.p (.sl true 3 (eInts [x, y, z])), σ) := Eq.trans (by kernel_rfl) rfl
theorem sl3_view (x y z : Int) : view (.p (.sl true 3 (eInts [x, y, z]))) = .p (eSl (some [x, y, z])) := rfl
theorem get_snoc {σ : Store} {r : Row} : (σ ++ [r])[σ.length]? = some r := by simp
theorem get_old {σ : Store} {r : Row} {i : Nat} {x : Row} (h : σ[i]? = some x) : (σ ++ [r])[i]? = some x := by
  rw [List.getElem?_append_left (List.getElem?_eq_some_iff.1 h).1]; exact h
theorem S119 (a b : Edg) (σ : Store) : pureV CC 119 [.agg (edgD a), .agg (edgD b)] σ = some (.p (pI (ordE a b))) := by
  refine pureV_free rfl rfl (F119_call (r := (.p (pI (ordE a b)), [.mix (edgD a), .mix (edgD b)])) ?_) rfl
  rw [F119_eq]
  have g0 : ([Row.mix (edgD a), Row.mix (edgD b)] : Store)[0]? = some (.mix (edgD a)) := rfl
  have g1 : ([Row.mix (edgD a), Row.mix (edgD b)] : Store)[1]? = some (.mix (edgD b)) := rfl
  simp only [box_edg, obind, List.length_nil, List.nil_append, List.length_cons, List.cons_append, fa69_0, fa69_1, fa69_2, shift_ptr, load3, Nat.zero_add,
    load1_ptr (off := 0) g0 rfl, load1_ptr (off := 1) g0 rfl, load1_ptr (off := 2) g0 rfl, load1_ptr (off := 0) g1 rfl, load1_ptr (off := 1) g1 rfl, load1_ptr (off := 2) g1 rfl, pureFn_fn, List.append_nil, S99, bs22_3]
  rw [pureV_view (args' := [.p (eSl (some [cmpI a.f b.f, cmpI a.t b.t, cmpI a.a b.a]))]) (by simp [sl3_view]) (by simp [sl_view]), S98 (by simp)]
  rfl
theorem S92 (e : Edg) (σ : Store) : pureV CC 92 [.agg (edgD e)] σ = some (.p (eSl (some [e.f, e.t, e.a]))) := by
  refine pureV_free rfl rfl (F92_call (r := (.p (.sl true 3 (eInts [e.f, e.t, e.a])), [.mix (edgD e)])) ?_) rfl
  rw [F92_eq]
  have g0 : ([Row.mix (edgD e)] : Store)[0]? = some (.mix (edgD e)) := rfl
  simp only [box_edg, obind, List.length_nil, List.nil_append, fa69_0, fa69_1, fa69_2, shift_ptr, load3, Nat.zero_add,
    load1_ptr (off := 0) g0 rfl, load1_ptr (off := 1) g0 rfl, load1_ptr (off := 2) g0 rfl, bs22_3]
def firstI : List Int → List Int → Int
  | a :: xs, b :: ys => if a = b then firstI xs ys else if a < b then -1 else 1
  | xs, ys => (if xs.length > ys.length then 1 else 0) - (if xs.length < ys.length then 1 else 0)
theorem firstI_nil (xs ys : List Int) (h : xs = [] ∨ ys = []) : firstI xs ys = (if xs.length > ys.length then 1 else 0) - (if xs.length < ys.length then 1 else 0) := by
  rcases h with rfl | rfl
  · unfold firstI; rfl
  · cases xs <;> rfl
theorem L69 {a b : Option (List Int)} {σ : Store} {lo : Nat} (ha : (L a).length ≤ 1000) (hb : (L b).length ≤ 1000) :
    ∀ (k i : Nat), (L a).length - i = k → i ≤ (L a).length → i ≤ (L b).length → f69_L0 guardT lo (.p (eSl a)) (.p (eSl b)) (.p (pI (i : Nat))) σ = some (.p (pI (firstI ((L a).drop i) ((L b).drop i))), σ) := by
  have fin : ∀ (i : Nat), i ≤ (L a).length → i ≤ (L b).length → ((L a).length ≤ i ∨ (L b).length ≤ i) → (
      (len PP 22 (.p (eSl a)) σ).bind fun x40 =>
      (len PP 22 (.p (eSl b)) σ).bind fun x42 =>
      (binOp PP .gtr 3 x40 x42).bind fun x43 =>
      (pureFn CC (DV.fn 36 []) [x43] σ).bind fun x44 =>
      (len PP 22 (.p (eSl a)) σ).bind fun x46 =>
      (len PP 22 (.p (eSl b)) σ).bind fun x48 =>
      (binOp PP .lss 3 x46 x48).bind fun x49 =>
      (pureFn CC (DV.fn 36 []) [x49] σ).bind fun x50 =>
      (binOp PP .sub 3 x44 x50).bind fun x51 =>
      some (x51, σ)) = some (.p (pI (firstI ((L a).drop i) ((L b).drop i))), σ) := by
    intro i h1 h2 h
    rw [firstI_nil _ _ (h.imp (fun h => List.drop_eq_nil_of_le h) fun h => List.drop_eq_nil_of_le h)]
    simp only [len22, obind, b_gtr, b_lss, pureFn_fn, List.append_nil, S36, b_sub, List.length_drop, decide_eq_true_eq]
    have e1 : ((((L a).length : Nat) : Int) > ((L b).length : Nat)) ↔ (L a).length - i > (L b).length - i := by omega
    have e2 : ((((L a).length : Nat) : Int) < ((L b).length : Nat)) ↔ (L a).length - i < (L b).length - i := by omega
    simp only [e1, e2]
    rw [wrap_ok]
    · split <;> split <;> simp
    · split <;> split <;> simp
  intro k
  induction k with
  | zero =>
    intro i hk hi hj
    have h' : ¬ (i : Int) < ((L a).length : Nat) := by omega
    rw [f69_L0_eq guardT rfl]
    simp only [len22 a, b_lss, obind, h', decide_false, guard_ft, pickV_false, condK_false]
    have := fin i hi hj (.inl (by omega))
    simpa only [len22 a, b_lss, obind] using this
  | succ k ih =>
    intro i hk hi hj
    have h : i < (L a).length := by omega
    have h' : (i : Int) < ((L a).length : Nat) := by omega
    rw [f69_L0_eq guardT rfl]
    simp only [len22 a, b_lss, obind, h', decide_true, guard_tt, len22 b, pickV_true]
    by_cases hb2 : i < (L b).length
    · have hb' : (i : Int) < ((L b).length : Nat) := by omega
      simp only [hb', decide_true, condK_true, idx22 h, idx22 hb2, load3, load1_ints h, load1_ints hb2, obind, b_neq]
      rw [drop_cons h, drop_cons hb2]
      by_cases e : (L a)[i] = (L b)[i]
      · simp only [e, decide_true, Bool.not_true, condK_false, b_add, obind, wrap_succ (show i ≤ 1000000 by omega), firstI, if_true]
        exact ih (i + 1) (by omega) (by omega) (by omega)
      · simp only [e, decide_false, Bool.not_false, condK_true, pureFn_fn, List.append_nil, b_lss, S36, obind, b_mul, b_sub, firstI, if_false, decide_eq_true_eq]
        by_cases e2 : (L a)[i] < (L b)[i]
        · simp [e2, wrap_ok]
        · simp [e2, wrap_ok]
    · have hb' : ¬ (i : Int) < ((L b).length : Nat) := by omega
      simp only [hb', decide_false, condK_false]
      have := fin i hi hj (.inr (by omega))
      simpa only [len22 a, len22 b, b_lss, obind] using this
theorem S69 {a b : Option (List Int)} {σ : Store} (ha : (L a).length ≤ 1000) (hb : (L b).length ≤ 1000) : pureV CC 69 [.p (eSl a), .p (eSl b)] σ = some (.p (pI (firstI (L a) (L b)))) := by
  refine pureV_free (by simp [sl_view]) rfl (F69_call (r := (.p (pI (firstI (L a) (L b))), [])) ?_) rfl
  rw [F69_eq]
  have := L69 (lo := 0) (σ := []) ha hb _ 0 rfl (Nat.zero_le _) (Nat.zero_le _)
  simpa using this
theorem load69_D {l : List Edg} {i : Nat} (h : i < l.length) (σ : Store) : (loadN σ 3 (.pptr (eEdgs l) (i * 3))).map DV.agg = some (.agg (edgD (l.getD i default))) := by
  rw [load69_edgs h, List.getD_eq_getElem?_getD, List.getElem?_eq_getElem h]; rfl
theorem L90 {o : Option (List Edg)} {f : FuncId} {caps : List DV} {σ : Store} {lo : Nat} {q : Edg → Bool} (hl : (L o).length ≤ 10000) (hq : ∀ e, pureV CC f (.agg (edgD e) :: caps) σ = some (.p (.bool (q e)))) :
    ∀ (k i : Nat), (L o).length - i = k → i ≤ (L o).length → f90_L0 guardT lo (.p (eEs o)) (.fn f caps) (.p (pI ((L o).length : Nat))) (.p (pI (i : Nat))) σ = some (.p (pI (idxFrom q ((L o).drop i) i)), σ)
  | 0, i, hk, hi => by
    have : i = (L o).length := by omega
    rw [f90_L0_eq guardT rfl]
    subst this
    simp [b_lss, condK_false, idxFrom]
  | k + 1, i, hk, hi => by
    have h : i < (L o).length := by omega
    have h' : (i : Int) < ((L o).length : Nat) := by omega
    rw [f90_L0_eq guardT rfl]
    have e0 : (L o).getD i default = (L o)[i] := by rw [List.getD_eq_getElem?_getD, List.getElem?_eq_getElem h]; rfl
    simp only [b_lss, obind, h', decide_true, condK_true, idx23 h, load69, load69_D h, e0, pureFn_fn, List.singleton_append, hq]
    rw [drop_cons h]
    cases hqv : q (L o)[i] with
    | true => simp [condK_true, idxFrom, hqv]
    | false =>
      simp only [condK_false, b_add, obind, wrap_succ (show i ≤ 1000000 by omega), idxFrom, hqv, Bool.false_eq_true, if_false]
      exact L90 hl hq k (i + 1) (by omega) (by omega)
theorem S90 {o : Option (List Edg)} {f : FuncId} {caps : List DV} {σ : Store} {q : Edg → Bool} (hl : (L o).length ≤ 10000) (hq : ∀ σ0, AtSt caps σ σ0 → ∀ e, pureV CC f (.agg (edgD e) :: caps) σ0 = some (.p (.bool (q e)))) :
    pureV CC 90 [.p (eEs o), .fn f caps] σ = some (.p (pI (idxFrom q (L o) 0))) := by
  refine pureV_any (by simp [es_view, fn_view]) fun lo σ0 hs => ⟨_, σ0, F90_call (r := (.p (pI (idxFrom q (L o) 0)), σ0)) ?_, rfl⟩
  have hat : AtSt caps σ σ0 := by
    rcases hs with ⟨h1, _, h3⟩ | ⟨h1, _, _⟩
    · exact .inl ⟨h1, by simpa [rowFree] using (by simpa [rowFree] using h3 : _ ∧ _).2⟩
    · exact .inr h1
  rw [F90_eq]
  simp only [len23, obind]
  have := L90 (lo := lo) hl (hq σ0 hat) _ 0 rfl (Nat.zero_le _)
  simpa using this
theorem S100 {o : Option (List Edg)} {f : FuncId} {caps : List DV} {σ : Store} {q : Edg → Bool} (hl : (L o).length ≤ 10000) (hq : ∀ σ0, AtSt caps σ σ0 → ∀ e, pureV CC f (.agg (edgD e) :: caps) σ0 = some (.p (.bool (q e)))) :
    pureV CC 100 [.p (eEs o), .fn f caps] σ = some (.p (.bool ((L o).any q))) := by
  refine pureV_any (by simp [es_view, fn_view]) fun lo σ0 hs => ⟨_, σ0, F100_call (r := (.p (.bool ((L o).any q)), σ0)) ?_, rfl⟩
  have hat : ∀ σ1, AtSt caps σ0 σ1 → AtSt caps σ σ1 := by
    intro σ1 h
    rcases hs with ⟨h1, _, h3⟩ | ⟨h1, _, _⟩
    · rcases h with h | h
      · exact .inl h
      · exact .inl ⟨h.trans h1, by simpa [rowFree] using (by simpa [rowFree] using h3 : _ ∧ _).2⟩
    · rw [← h1]; exact h
  rw [F100_eq]
  simp only [pureFn_fn, List.append_nil, S90 hl fun σ1 h => hq σ1 (hat σ1 h), obind, b_geq, idxFrom_ge]
abbrev pred (n : Int) : Int := IntKind.wrap .i64 (n - 1)
theorem S118 {σ : Store} {r : Nat} {g : Gr} {v : Int} (h : σ[r]? = some (.mix (eGr g))) : pureV CC 118 [.p (pI v), .ptr r 0] σ = some (.p (.bool (inR v 0 (pred g.n)))) := by
  refine pureV_rows rfl rfl (F118_call (r := (.p (.bool (inR v 0 (pred g.n))), σ)) ?_) rfl
  rw [F118_eq]
  simp only [fa25_0, shift_ptr, obind, load3, load1_ptr (off := 0 + 0) h rfl, b_sub, pureFn_fn, List.append_nil, S88]
def okI (n : Int) (l : List Int) (i : Nat) : Bool := inR (l.getD i 0) 0 (pred n) && (decide (i = 0) || decide (l.getD (i - 1) 0 < l.getD i 0))
def okE (n : Int) (l : List Edg) (i : Nat) : Bool := inR (l.getD i default).f 0 (pred n) && (inR (l.getD i default).t 0 (pred n) && (inR (l.getD i default).a 0 11 && (decide (i = 0) || decide (ordE (l.getD (i - 1) default) (l.getD i default) < 0))))
def allFrom (p : Nat → Bool) : Nat → Nat → Bool
  | _, 0 => true
  | i, k + 1 => p i && allFrom p (i + 1) k
def isG (g : Gr) : Bool := inR g.n 0 400 && decide ((L g.edges).length ≤ 2000) && allFrom (okI g.n (L g.init)) 0 (L g.init).length && allFrom (okE g.n (L g.edges)) 0 (L g.edges).length
theorem L96_0 {g : Gr} {σ : Store} {lo : Nat} (hg : σ[0]? = some (.mix (eGr g))) (hl : (L g.init).length ≤ 1000) :
    ∀ (k i : Nat) (b : Bool), (L g.init).length - i = k → i ≤ (L g.init).length → f96_L0 guardT lo (.ptr 0 0) (.fn 118 [.ptr 0 0]) (.p (.bool b)) (.p (eSl g.init)) (.p (pI ((L g.init).length : Nat))) (.p (pI (i : Nat))) σ =
      f96_L1 guardT lo (.ptr 0 0) (.fn 118 [.ptr 0 0]) (.p (.bool (b && allFrom (okI g.n (L g.init)) i k))) (.p (eEs g.edges)) (.p (pI ((L g.edges).length : Nat))) (.p (pI (0 : Nat))) σ
  | 0, i, b, hk, hi => by
    have : ¬ (i : Int) < ((L g.init).length : Nat) := by omega
    rw [f96_L0_eq guardT rfl]
    simp only [b_lss, obind, this, decide_false, condK_false, fa25_2, shift_ptr, load23, load1_ptr (off := 0 + 2) hg rfl, len23, allFrom, Bool.and_true]
    rfl
  | k + 1, i, b, hk, hi => by
    have h : i < (L g.init).length := by omega
    have h' : (i : Int) < ((L g.init).length : Nat) := by omega
    rw [f96_L0_eq guardT rfl]
    simp only [b_lss, obind, h', decide_true, condK_true, idx22 h, load3, load1_getD h]
    have ih := fun b => L96_0 (lo := lo) hg hl k (i + 1) b (by omega) (by omega)
    cases b with
    | false =>
      simp only [guard_ft, guard_sk, pickV_false, obind, b_add, wrap_succ (show i ≤ 1000000 by omega), Bool.false_and]
      rw [ih]
      simp
    | true =>
      simp only [guard_tt, pureFn_fn, List.singleton_append, S118 hg, obind, pickV_true, allFrom, okI]
      cases hst : inR ((L g.init).getD i 0) 0 (pred g.n) with
      | false =>
        simp only [guard_ft, guard_sk, pickV_false, obind, b_add, wrap_succ (show i ≤ 1000000 by omega), Bool.false_and, Bool.and_false]
        rw [ih]
        simp
      | true =>
        simp only [guard_tt, b_eql, obind]
        by_cases h0 : i = 0
        · have hd : decide ((i : Int) = 0) = true := by simp [h0]
          simp only [hd, guard_tf, guard_sk, obind, pickV_true, b_add, wrap_succ (show i ≤ 1000000 by omega)]
          rw [ih]
          simp [h0]
        · have h0' : ¬ (i : Int) = 0 := by omega
          simp only [h0', decide_false, guard_ff, obind, fa25_1, shift_ptr, load22, load1_ptr (off := 0 + 1) hg rfl, b_sub, wrap_pred (show 0 < i by omega) (show i ≤ 1000000 by omega), idx22 (show i - 1 < (L g.init).length by omega), load3, load1_getD (show i - 1 < (L g.init).length by omega), b_lss, pickV_false, pickV_true, b_add, wrap_succ (show i ≤ 1000000 by omega)]
          rw [ih]
          simp [h0]
theorem store_new69 (σ : Store) (e : Edg) (z : List DV) (hz : z.length = 3) : store PP 0 69 (.ptr σ.length 0) (.agg (edgD e)) (σ ++ [.mix z]) = some (σ ++ [.mix (edgD e)]) := by
  have hone : (edgD e).all DV.one = true := rfl
  have hs : splice z 0 (edgD e) = edgD e := by
    match z, hz with
    | [a, b, c], _ => rfl
  simp [store, s69, DV.cells, storeN, hone, edgD, hz]
  exact ⟨⟨rfl, rfl, rfl⟩, by simpa [edgD] using hs⟩
theorem L96_1 {g : Gr} (hl : (L g.edges).length ≤ 10000) :
    ∀ (k i : Nat) (b : Bool) (σ : Store), σ[0]? = some (.mix (eGr g)) → (L g.edges).length - i = k → i ≤ (L g.edges).length → ∃ σ', f96_L1 guardT 0 (.ptr 0 0) (.fn 118 [.ptr 0 0]) (.p (.bool b)) (.p (eEs g.edges)) (.p (pI ((L g.edges).length : Nat))) (.p (pI (i : Nat))) σ =
      some (.p (.bool (b && allFrom (okE g.n (L g.edges)) i k)), σ')
  | 0, i, b, σ, hg, hk, hi => by
    have : ¬ (i : Int) < ((L g.edges).length : Nat) := by omega
    refine ⟨σ, ?_⟩
    rw [f96_L1_eq guardT rfl]
    simp only [b_lss, obind, this, decide_false, condK_false, allFrom, Bool.and_true]
  | k + 1, i, b, σ, hg, hk, hi => by
    have h : i < (L g.edges).length := by omega
    have h' : (i : Int) < ((L g.edges).length : Nat) := by omega
    rw [f96_L1_eq guardT rfl]
    have hg1 : (σ ++ [Row.mix (edgD ((L g.edges).getD i default))])[0]? = some (.mix (eGr g)) := get_old hg
    have hx : (σ ++ [Row.mix (edgD ((L g.edges).getD i default))])[σ.length]? = some (.mix (edgD ((L g.edges).getD i default))) := get_snoc
    have ih := fun b => L96_1 hl k (i + 1) b _ hg1 (by omega) (by omega)
    simp only [b_lss, obind, h', decide_true, condK_true, idx23 h, load69, load69_D h, zero69, store_new69 σ ((L g.edges).getD i default) [.p (pI 0), .p (pI 0), .p (pI 0)] rfl]
    generalize hρ : σ ++ [Row.mix (edgD ((L g.edges).getD i default))] = ρ at *
    have w : IntKind.wrap .i64 ((i : Int) + 1) = ((i + 1 : Nat) : Int) := wrap_succ (by omega)
    cases b with
    | false =>
      simp only [guard_ft, guard_sk, pickV_false, obind, b_add, w, Bool.false_and]
      obtain ⟨σ', h1⟩ := ih false
      exact ⟨σ', by rw [h1]; simp⟩
    | true =>
      simp only [guard_tt, fa69_0, fa69_1, fa69_2, shift_ptr, obind, load3, load1_ptr (off := 0 + 0) hx rfl, pureFn_fn, List.singleton_append, S118 hg1, pickV_true, allFrom, okE]
      cases h1 : inR ((L g.edges).getD i default).f 0 (pred g.n) with
      | false =>
        simp only [guard_ft, guard_sk, pickV_false, obind, b_add, w, Bool.false_and, Bool.and_false]
        obtain ⟨σ', h1⟩ := ih false
        exact ⟨σ', by rw [h1]; simp⟩
      | true =>
        simp only [guard_tt, obind, load1_ptr (off := 0 + 1) hx rfl, pureFn_fn, List.singleton_append, S118 hg1, pickV_true]
        cases h2 : inR ((L g.edges).getD i default).t 0 (pred g.n) with
        | false =>
          simp only [guard_ft, guard_sk, pickV_false, obind, b_add, w, Bool.false_and, Bool.and_false, Bool.true_and]
          obtain ⟨σ', h1⟩ := ih false
          exact ⟨σ', by rw [h1]; simp⟩
        | true =>
          simp only [guard_tt, obind, load1_ptr (off := 0 + 2) hx rfl, pureFn_fn, List.append_nil, S88, pickV_true]
          cases h3 : inR ((L g.edges).getD i default).a 0 11 with
          | false =>
            simp only [guard_ft, guard_sk, pickV_false, obind, b_add, w, Bool.false_and, Bool.and_false, Bool.true_and]
            obtain ⟨σ', h1⟩ := ih false
            exact ⟨σ', by rw [h1]; simp⟩
          | true =>
            simp only [guard_tt, b_eql, obind]
            by_cases h0 : i = 0
            · have hd : decide ((i : Int) = 0) = true := by simp [h0]
              simp only [hd, guard_tf, guard_sk, obind, pickV_true, b_add, w]
              obtain ⟨σ', h1⟩ := ih true
              exact ⟨σ', by rw [h1]; simp [h0]⟩
            · have h0' : ¬ (i : Int) = 0 := by omega
              have hi1 : i - 1 < (L g.edges).length := by omega
              simp only [h0', decide_false, guard_ff, obind, fa25_2, shift_ptr, load23, load1_ptr (off := 0 + 2) hg1 rfl, b_sub, wrap_pred (show 0 < i by omega) (show i ≤ 1000000 by omega), idx23 hi1, load69_D hi1,
                loadN_ptr (off := 0) (n := 3) (vs := edgD ((L g.edges).getD i default)) hx rfl (by simp [edgD]), omap, pureFn_fn, List.append_nil, S119, b_lss, pickV_false, pickV_true, b_add, w]
              obtain ⟨σ', h1⟩ := ih (decide (ordE ((L g.edges).getD (i - 1) default) ((L g.edges).getD i default) < 0))
              exact ⟨σ', by rw [h1]; simp [h0]⟩
theorem box_gr (g : Gr) : boxV (.agg (eGr g)) = some (eGr g) := rfl
theorem gr_view (g : Gr) : view (.agg (eGr g)) = .agg (eGr g) := by simp [view, viewCell, eGr, loosen_sl, loosen_es, loosen]
theorem S96 {g : Gr} {σ : Store} (hl : (L g.init).length ≤ 1000) (hl2 : (L g.edges).length ≤ 10000) : pureV CC 96 [.agg (eGr g)] σ = some (.p (.bool (isG g))) := by
  have g0 : ([Row.mix (eGr g)] : Store)[0]? = some (.mix (eGr g)) := rfl
  have key : ∀ b, ∃ σ', f96_L0 guardT 0 (.ptr 0 0) (.fn 118 [.ptr 0 0]) (.p (.bool b)) (.p (eSl g.init)) (.p (pI ((L g.init).length : Nat))) (.p (pI (0 : Nat))) [Row.mix (eGr g)] = some (.p (.bool (b && allFrom (okI g.n (L g.init)) 0 (L g.init).length && allFrom (okE g.n (L g.edges)) 0 (L g.edges).length)), σ') := by
    intro b
    rw [L96_0 g0 hl _ 0 b rfl (Nat.zero_le _)]
    exact L96_1 hl2 _ 0 _ _ g0 rfl (Nat.zero_le _)
  refine pureV_any (by simp [gr_view]) fun lo σ0 hs => ?_
  rcases hs with ⟨rfl, rfl, _⟩ | ⟨_, _, h⟩
  case inr => exact absurd h (by simp [rowFree, rowFree1, eGr])
  have hF : ∃ σ', F96 guardT 0 (.agg (eGr g)) [] = some (.p (.bool (isG g)), σ') := by
    rw [F96_eq]
    simp only [box_gr, obind, List.length_nil, List.nil_append, fa25_0, fa25_1, fa25_2, shift_ptr, load3, load22, load23, load1_ptr (off := 0 + 0) g0 rfl, load1_ptr (off := 0 + 1) g0 rfl, load1_ptr (off := 0 + 2) g0 rfl, pureFn_fn, List.append_nil, S88, len22, len23]
    cases h1 : inR g.n 0 400 with
    | false =>
      simp only [guard_ft, guard_sk, pickV_false, obind, load1_ptr (off := 0 + 1) g0 rfl, len22]
      obtain ⟨σ', h⟩ := key false
      exact ⟨σ', by simpa [isG, h1] using h⟩
    | true =>
      simp only [guard_tt, pickV_true, obind, load1_ptr (off := 0 + 2) g0 rfl, len23, b_leq, load1_ptr (off := 0 + 1) g0 rfl, len22]
      obtain ⟨σ', h⟩ := key (decide (((L g.edges).length : Int) ≤ 2000))
      refine ⟨σ', ?_⟩
      have e : decide (((L g.edges).length : Int) ≤ 2000) = decide ((L g.edges).length ≤ 2000) := by
        simp only [decide_eq_decide]; omega
      rw [e] at h ⊢
      simpa [isG, h1, Bool.and_assoc] using h
  obtain ⟨σ', h⟩ := hF
  exact ⟨_, σ', F96_call h, rfl⟩
theorem allFrom_iff {p : Nat → Bool} : ∀ (k i : Nat), allFrom p i k = true ↔ ∀ j, i ≤ j → j < i + k → p j = true
  | 0, i => by simp [allFrom]; omega
  | k + 1, i => by
    simp only [allFrom, Bool.and_eq_true, allFrom_iff k (i + 1)]
    constructor
    · rintro ⟨h1, h2⟩ j hj hk
      rcases Nat.eq_or_lt_of_le hj with e | e
      · rw [← e]; exact h1
      · exact h2 j e (by omega)
    · intro h
      exact ⟨h i (Nat.le_refl _) (by omega), fun j hj hk => h j (by omega) (by omega)⟩
theorem ordE_first (a b : Edg) : decide (firstI [a.f, a.t, a.a] [b.f, b.t, b.a] ≥ 0) = !decide (ordE a b < 0) := by
  simp only [firstI, ordE, orL, cmpI, List.length_nil]
  by_cases h1 : a.f < b.f
  · have : ¬ a.f = b.f := by omega
    simp [h1, this]
  · by_cases h2 : a.f > b.f
    · have : ¬ a.f = b.f := by omega
      simp [h1, h2, this]
    · have e1 : a.f = b.f := by omega
      by_cases h3 : a.t < b.t
      · have : ¬ a.t = b.t := by omega
        simp [h3, this, e1]
      · by_cases h4 : a.t > b.t
        · have : ¬ a.t = b.t := by omega
          simp [h3, h4, this, e1]
        · have e2 : a.t = b.t := by omega
          by_cases h5 : a.a < b.a
          · have : ¬ a.a = b.a := by omega
            simp [h5, this, e1, e2]
          · by_cases h6 : a.a > b.a
            · have : ¬ a.a = b.a := by omega
              simp [h5, h6, this, e1, e2]
            · have e3 : a.a = b.a := by omega
              simp [e1, e2, e3]
theorem L56_1 {g : Gr} (hl : (L g.edges).length ≤ 10000) :
    ∀ (k i : Nat) (σ : Store), σ[0]? = some (.mix (eGr g)) → (L g.edges).length - i = k → i ≤ (L g.edges).length → ∃ σ', f56_L1 guardT 0 (.ptr 0 0) (.p (pI (i : Nat))) σ =
      some (.p (.bool (allFrom (okE g.n (L g.edges)) i k)), σ')
  | 0, i, σ, hg, hk, hi => by
    have : ¬ (i : Int) < ((L g.edges).length : Nat) := by omega
    refine ⟨σ, ?_⟩
    rw [f56_L1_eq guardT rfl]
    simp only [fa25_2, shift_ptr, load23, load1_ptr (off := 0 + 2) hg rfl, len23, b_lss, obind, this, decide_false, condK_false, allFrom]
  | k + 1, i, σ, hg, hk, hi => by
    have h : i < (L g.edges).length := by omega
    have h' : (i : Int) < ((L g.edges).length : Nat) := by omega
    rw [f56_L1_eq guardT rfl]
    have hg1 : (σ ++ [Row.mix (edgD ((L g.edges).getD i default))])[0]? = some (.mix (eGr g)) := get_old hg
    have hx : (σ ++ [Row.mix (edgD ((L g.edges).getD i default))])[σ.length]? = some (.mix (edgD ((L g.edges).getD i default))) := get_snoc
    have ih := L56_1 hl k (i + 1) _ hg1 (by omega) (by omega)
    simp only [fa25_2, shift_ptr, load23, load1_ptr (off := 0 + 2) hg rfl, len23, b_lss, obind, h', decide_true, condK_true, idx23 h, load69, load69_D h, zero69, store_new69 σ ((L g.edges).getD i default) [.p (pI 0), .p (pI 0), .p (pI 0)] rfl]
    generalize hρ : σ ++ [Row.mix (edgD ((L g.edges).getD i default))] = ρ at *
    have w : IntKind.wrap .i64 ((i : Int) + 1) = ((i + 1 : Nat) : Int) := wrap_succ (by omega)
    simp only [fa69_0, fa69_1, fa69_2, fa25_0, shift_ptr, obind, load3, load1_ptr (off := 0 + 0) hx rfl, load1_ptr (off := 0 + 0) hg1 rfl, b_sub, pureFn_fn, List.append_nil, S61, not_bool, allFrom, okE]
    cases h1 : inR ((L g.edges).getD i default).f 0 (pred g.n) with
    | false => exact ⟨ρ, by simp only [Bool.not_false, guard_tf, guard_sk, pickV_true, obind, condK_true, Bool.false_and]⟩
    | true =>
      simp only [Bool.not_true, guard_ff, obind, load1_ptr (off := 0 + 1) hx rfl, load1_ptr (off := 0 + 0) hg1 rfl, b_sub, pureFn_fn, List.append_nil, S61, not_bool, pickV_false, shift_ptr, fa25_0, load3]
      cases h2 : inR ((L g.edges).getD i default).t 0 (pred g.n) with
      | false => exact ⟨ρ, by simp only [Bool.not_false, guard_tf, guard_sk, pickV_true, obind, condK_true, Bool.false_and, Bool.and_false]⟩
      | true =>
        simp only [Bool.not_true, guard_ff, obind, load1_ptr (off := 0 + 2) hx rfl, pureFn_fn, List.append_nil, S61, not_bool, pickV_false, shift_ptr, load3]
        cases h3 : inR ((L g.edges).getD i default).a 0 11 with
        | false => exact ⟨ρ, by simp only [Bool.not_false, guard_tf, guard_sk, pickV_true, obind, condK_true, Bool.false_and, Bool.and_false]⟩
        | true =>
          simp only [Bool.not_true, guard_ff, obind, b_gtr, pickV_false]
          by_cases h0 : i = 0
          · have hd : decide ((i : Int) > 0) = false := by simp [h0]
            simp only [hd, guard_ft, guard_sk, pickV_false, obind, condK_false, b_add, w]
            obtain ⟨σ', h4⟩ := ih
            exact ⟨σ', by rw [h4]; simp [h0]⟩
          · have hd : decide ((i : Int) > 0) = true := by simp; omega
            have hi1 : i - 1 < (L g.edges).length := by omega
            simp only [hd, guard_tt, obind, load1_ptr (off := 0 + 2) hg1 rfl, shift_ptr, load23, b_sub, wrap_pred (show 0 < i by omega) (show i ≤ 1000000 by omega), idx23 hi1, load69_D hi1, pureFn_fn, List.append_nil, S92,
              loadN_ptr (off := 0) (n := 3) (vs := edgD ((L g.edges).getD i default)) hx rfl (by simp [edgD]), omap]
            rw [S69 (by simp) (by simp)]
            simp only [obind, b_geq, pickV_true, Option.getD_some, ordE_first]
            cases h5 : decide (ordE ((L g.edges).getD (i - 1) default) ((L g.edges).getD i default) < 0) with
            | false => exact ⟨ρ, by simp only [Bool.not_false, condK_true]; simp [h0]⟩
            | true =>
              simp only [Bool.not_true, condK_false, b_add, obind, w]
              obtain ⟨σ', h4⟩ := ih
              exact ⟨σ', by rw [h4]; simp [h0]⟩
theorem L56_0 {g : Gr} {σ : Store} (hg : σ[0]? = some (.mix (eGr g))) (hl : (L g.init).length ≤ 1000) :
    ∀ (k i : Nat), (L g.init).length - i = k → i ≤ (L g.init).length → f56_L0 guardT 0 (.ptr 0 0) (.p (pI (i : Nat))) σ =
      bif allFrom (okI g.n (L g.init)) i k then f56_L1 guardT 0 (.ptr 0 0) (.p (pI (0 : Nat))) σ else some (.p (.bool false), σ)
  | 0, i, hk, hi => by
    have : ¬ (i : Int) < ((L g.init).length : Nat) := by omega
    rw [f56_L0_eq guardT rfl]
    simp only [fa25_1, shift_ptr, load22, load1_ptr (off := 0 + 1) hg rfl, len22, b_lss, obind, this, decide_false, condK_false, allFrom, cond_true]
    rfl
  | k + 1, i, hk, hi => by
    have h : i < (L g.init).length := by omega
    have h' : (i : Int) < ((L g.init).length : Nat) := by omega
    have ih := L56_0 hg hl k (i + 1) (by omega) (by omega)
    rw [f56_L0_eq guardT rfl]
    simp only [fa25_0, fa25_1, shift_ptr, load22, load1_ptr (off := 0 + 1) hg rfl, len22, b_lss, obind, h', decide_true, condK_true, idx22 h, load3, load1_getD h, load1_ptr (off := 0 + 0) hg rfl, b_sub, pureFn_fn, List.append_nil, S61, not_bool, allFrom, okI]
    cases hst : inR ((L g.init).getD i 0) 0 (pred g.n) with
    | false => simp only [Bool.not_false, guard_tf, guard_sk, pickV_true, obind, condK_true, Bool.false_and, cond_false]
    | true =>
      simp only [Bool.not_true, guard_ff, obind, b_gtr]
      by_cases h0 : i = 0
      · have hd : decide ((i : Int) > 0) = false := by simp [h0]
        simp only [hd, guard_ft, guard_sk, obind, pickV_false, condK_false, b_add, wrap_succ (show i ≤ 1000000 by omega)]
        rw [ih]
        simp [h0]
      · have hd : decide ((i : Int) > 0) = true := by simp; omega
        have hi1 : i - 1 < (L g.init).length := by omega
        simp only [hd, guard_tt, obind, fa25_1, shift_ptr, load22, load1_ptr (off := 0 + 1) hg rfl, idx22 h, load3, load1_getD h, b_sub, wrap_pred (show 0 < i by omega) (show i ≤ 1000000 by omega), idx22 hi1, load1_getD hi1, b_leq, pickV_false, pickV_true]
        by_cases hlt : (L g.init).getD (i - 1) 0 < (L g.init).getD i 0
        · have hle : ¬ (L g.init).getD i 0 ≤ (L g.init).getD (i - 1) 0 := by omega
          simp only [hle, hlt, decide_false, decide_true, condK_false, b_add, obind, wrap_succ (show i ≤ 1000000 by omega), Bool.or_true, Bool.true_and]
          exact ih
        · have hle : (L g.init).getD i 0 ≤ (L g.init).getD (i - 1) 0 := by omega
          simp only [hle, hlt, decide_false, decide_true, condK_true, Bool.or_false, h0, Bool.true_and, Bool.false_and, cond_false]
theorem init_le {g : Gr} (hn : inR g.n 0 400 = true) (h : allFrom (okI g.n (L g.init)) 0 (L g.init).length = true) : ((L g.init).length : Int) ≤ g.n := by
  have h1 := (allFrom_iff _ _).1 h
  have hn' : 0 ≤ g.n ∧ g.n ≤ 400 := by simpa [inR] using hn
  have hp : pred g.n = g.n - 1 := wrap_ok (by omega) (by omega)
  have key : ∀ i, i < (L g.init).length → (i : Int) ≤ (L g.init).getD i 0 ∧ (L g.init).getD i 0 ≤ g.n - 1 := by
    intro i
    induction i with
    | zero =>
      intro hi
      have := h1 0 (Nat.le_refl _) (by omega)
      simp only [okI, hp, inR, Bool.and_eq_true, decide_eq_true_eq] at this
      omega
    | succ i ih =>
      intro hi
      have h2 := h1 (i + 1) (by omega) (by omega)
      have h3 := ih (by omega)
      simp only [okI, hp, inR, Bool.and_eq_true, Bool.or_eq_true, decide_eq_true_eq, Nat.add_sub_cancel] at h2
      omega
  rcases Nat.eq_zero_or_pos (L g.init).length with e | e
  · omega
  · have := key ((L g.init).length - 1) (by omega)
    omega
theorem S56 {g : Gr} {σ : Store} (hl : (L g.init).length ≤ 1000) (hl2 : (L g.edges).length ≤ 10000) : pureV CC 56 [.agg (eGr g)] σ = some (.p (.bool (isG g))) := by
  have g0 : ([Row.mix (eGr g)] : Store)[0]? = some (.mix (eGr g)) := rfl
  refine pureV_any (by simp [gr_view]) fun lo σ0 hs => ?_
  rcases hs with ⟨rfl, rfl, _⟩ | ⟨_, _, h⟩
  case inr => exact absurd h (by simp [rowFree, rowFree1, eGr])
  have hF : ∃ σ', F56 guardT 0 (.agg (eGr g)) [] = some (.p (.bool (isG g)), σ') := by
    rw [F56_eq]
    simp only [box_gr, obind, List.length_nil, List.nil_append, fa25_0, fa25_1, fa25_2, shift_ptr, load3, load22, load23, load1_ptr (off := 0 + 0) g0 rfl, pureFn_fn, List.append_nil, S61, not_bool]
    cases h1 : inR g.n 0 400 with
    | false => exact ⟨[Row.mix (eGr g)], by simp only [Bool.not_false, guard_tf, guard_sk, pickV_true, obind, condK_true, isG, h1, Bool.false_and]⟩
    | true =>
      simp only [Bool.not_true, guard_ff, obind, load1_ptr (off := 0 + 1) g0 rfl, load1_ptr (off := 0 + 0) g0 rfl, len22, b_gtr, pickV_false]
      by_cases h2 : ((L g.init).length : Int) > g.n
      · have hf : isG g = false := by
          cases hx : isG g with
          | false => rfl
          | true =>
            simp only [isG, Bool.and_eq_true] at hx
            have := init_le hx.1.1.1 hx.1.2
            omega
        exact ⟨[Row.mix (eGr g)], by simp only [h2, decide_true, guard_tf, guard_sk, pickV_true, obind, condK_true, hf]⟩
      · simp only [h2, decide_false, guard_ff, obind, load1_ptr (off := 0 + 2) g0 rfl, len23, b_gtr, pickV_false]
        by_cases h3 : (L g.edges).length ≤ 2000
        · have h3' : ¬ ((L g.edges).length : Int) > 2000 := by omega
          simp only [h3', decide_false, condK_false]
          obtain ⟨σ', h4⟩ := L56_1 hl2 _ 0 _ g0 rfl (Nat.zero_le _)
          have h5 : f56_L0 guardT 0 (.ptr 0 0) (.p (pI 0)) [Row.mix (eGr g)] = bif allFrom (okI g.n (L g.init)) 0 (L g.init).length then f56_L1 guardT 0 (.ptr 0 0) (.p (pI (0 : Nat))) [Row.mix (eGr g)] else some (.p (.bool false), [Row.mix (eGr g)]) := L56_0 g0 hl _ 0 rfl (Nat.zero_le _)
          rw [h5]
          cases h6 : allFrom (okI g.n (L g.init)) 0 (L g.init).length with
          | false => exact ⟨[Row.mix (eGr g)], by simp [isG, h6]⟩
          | true =>
            rw [cond_true, h4]
            exact ⟨σ', by simp [isG, h1, h3, h6]⟩
        · have h3' : ((L g.edges).length : Int) > 2000 := by omega
          exact ⟨[Row.mix (eGr g)], by simp only [h3', decide_true, condK_true]; simp [isG, h3]⟩
  obtain ⟨σ', h⟩ := hF
  exact ⟨_, σ', F56_call h, rfl⟩
theorem len143 (o : Option (List Int)) (σ : Store) : len PP 143 (.p (eSl o)) σ = some (.p (.int .i64 ((L o).length : Nat))) := by cases o <;> simp [len, u143, eSl]
theorem idx143 {o : Option (List Int)} {i : Nat} (h : i < (L o).length) : indexAddr PP 143 (.p (eSl o)) (.p (.int .i64 (i : Nat))) = some (.pptr (eInts (L o)) i) := by
  cases o with
  | none => simp at h
  | some l =>
    have h2 : (0 : Int) ≤ (i : Int) ∧ (i : Int) < (l.length : Nat) := by simp at h; omega
    simp [indexAddr, u143, s34, eSl, h2]
theorem L53 {o : Option (List Int)} {σ : Store} {lo : Nat} (hl : (L o).length ≤ 1000) :
    ∀ (k i : Nat), (L o).length - i = k → i ≤ (L o).length → f53_L0 guardT lo (.p (eSl o)) (.p (pI ((L o).length : Nat))) (.p (pI (i : Nat))) σ = some (.p (pI (orL ((L o).drop i))), σ)
  | 0, i, hk, hi => by
    have : i = (L o).length := by omega
    rw [f53_L0_eq guardT rfl]
    subst this
    simp [b_lss, condK_false, orL]
  | k + 1, i, hk, hi => by
    have h : i < (L o).length := by omega
    have h' : (i : Int) < ((L o).length : Nat) := by omega
    rw [f53_L0_eq guardT rfl]
    simp only [b_lss, obind, h', decide_true, condK_true, idx143 h, load34, load1_ints h, b_neq]
    rw [drop_cons h]
    by_cases hqv : (L o)[i] = 0
    · simp only [hqv, decide_true, Bool.not_true, condK_false, b_add, obind, wrap_succ (show i ≤ 1000000 by omega), orL, if_true]
      exact L53 hl k (i + 1) (by omega) (by omega)
    · simp [condK_true, orL, hqv]
theorem S53 {o : Option (List Int)} {σ : Store} (hl : (L o).length ≤ 1000) : pureV CC 53 [.p (eSl o)] σ = some (.p (pI (orL (L o)))) := by
  refine pureV_free (by simp [sl_view]) rfl (F53_call (r := (.p (pI (orL (L o))), [])) ?_) rfl
  rw [F53_eq]
  simp only [len143, obind]
  have := L53 (lo := 0) (σ := []) hl _ 0 rfl (Nat.zero_le _)
  simpa using this
theorem bs143_3 (x y z : Int) (σ : Store) : buildSlice PP none 143 3 [(0, .p (pI x)), (1, .p (pI y)), (2, .p (pI z))] σ = some (.p (.sl true 3 (eInts [x, y, z])), σ) := Eq.trans (by kernel_rfl) rfl
theorem S53t {l : List Int} {n : Nat} {σ : Store} (hn : n = l.length) (hl : l.length ≤ 1000) : pureV CC 53 [.p (.sl true n (eInts l))] σ = some (.p (pI (orL l))) := by
  rw [pureV_view (args' := [.p (eSl (some l))]) (by subst hn; simp [view, viewCell, loosen, loosens_ints, eSl]) (by simp [sl_view])]
  exact S53 (o := some l) hl
theorem get_set_ne {σ : Store} {i j : Nat} {r x : Row} (h : σ[i]? = some x) (hne : i ≠ j) : (σ.set j r)[i]? = some x := by
  rw [List.getElem?_set_ne (Ne.symm hne)]; exact h
theorem get_lt {σ : Store} {i : Nat} {x : Row} (h : σ[i]? = some x) : i < σ.length := (List.getElem?_eq_some_iff.1 h).1
theorem L34 {a b : Option (List Int)} {σ : Store} {lo : Nat} (h0 : L a = L b) (hl : (L a).length ≤ 1000) :
    ∀ (k i : Nat), (L a).length - i = k → i ≤ (L a).length → f34_L0 guardT lo (.p (eSl a)) (.p (eSl b)) (.p (pI (i : Nat))) σ = some (.p (.bool true), σ)
  | 0, i, hk, hi => by
    have : ¬ (i : Int) < ((L a).length : Nat) := by omega
    rw [f34_L0_eq guardT rfl]
    simp only [len22, b_lss, obind, this, decide_false, condK_false]
  | k + 1, i, hk, hi => by
    have h : i < (L a).length := by omega
    have hb : i < (L b).length := by rw [← h0]; exact h
    have h' : (i : Int) < ((L a).length : Nat) := by omega
    rw [f34_L0_eq guardT rfl]
    have e : (L a).getD i 0 = (L b).getD i 0 := by rw [h0]
    simp only [len22, b_lss, obind, h', decide_true, condK_true, idx22 h, idx22 hb, load3, load1_getD h, load1_getD hb, b_neq, e, Bool.not_true, condK_false, b_add, wrap_succ (show i ≤ 1000000 by omega)]
    exact L34 h0 hl k (i + 1) (by omega) (by omega)
theorem S34 {a b : Option (List Int)} {σ : Store} (h0 : L a = L b) (hl : (L a).length ≤ 1000) : pureV CC 34 [.p (eSl a), .p (eSl b)] σ = some (.p (.bool true)) := by
  refine pureV_free (by simp [sl_view]) rfl (F34_call (r := (.p (.bool true), [])) ?_) rfl
  rw [F34_eq]
  have := L34 (lo := 0) (σ := []) h0 hl _ 0 rfl (Nat.zero_le _)
  simp only [len22, obind, b_neq, h0, decide_true, Bool.not_true, condK_false]
  exact this
theorem bytes3 : bytes? PP 3 = some 8 := Eq.trans (by kernel_rfl) rfl
theorem bytes69 : bytes? PP 69 = some 24 := Eq.trans (by kernel_rfl) rfl
theorem src22 : srcType PP 22 = true := Eq.trans (by kernel_rfl) rfl
theorem src23 : srcType PP 23 = true := Eq.trans (by kernel_rfl) rfl
theorem bs22_0 (σ : Store) : buildSlice PP none 22 0 [] σ = some (.p (.sl true 0 []), σ) := Eq.trans (by kernel_rfl) rfl
theorem bs23_0 (σ : Store) : buildSlice PP none 23 0 [] σ = some (.p (.sl true 0 []), σ) := Eq.trans (by kernel_rfl) rfl
theorem pures_map (cs : List PV) : pures (cs.map DV.p) = some cs := by
  induction cs with
  | nil => rfl
  | cons a l ih => simp [pures, DV.pure?, ih]
theorem app22 {o : Option (List Int)} {lo : Nat} (hl : (L o).length ≤ 1000) (σ : Store) : append PP lo false 22 22 (.p (.sl true 0 [])) (.p (eSl o)) σ = some (if (L o).length = 0 then (.p (.sl true 0 []), σ) else (.osl σ.length 0 1 (L o).length (eInts (L o)), σ ++ [.tok 0])) := by
  have hsrc : source σ 1 (.p (eSl o)) = some ((L o).length, (eInts (L o)).map DV.p) := by
    cases o <;> simp [source, eSl, ints_length, eInts]
  have h1 : (L o).length * 8 ≤ 140737488355328 := by omega
  have h2 : (L o).length ≤ 140737488355328 := by omega
  simp only [append, src22, u22, s3, bytes3, zero3, hsrc, appLit]
  simp [h1, h2, pures_map]
  split <;> rfl
theorem app23 {o : Option (List Edg)} {lo : Nat} (hl : (L o).length ≤ 10000) (σ : Store) : append PP lo false 23 23 (.p (.sl true 0 [])) (.p (eEs o)) σ = some (if (L o).length = 0 then (.p (.sl true 0 []), σ) else (.osl σ.length 0 3 (L o).length (eEdgs (L o)), σ ++ [.tok 0])) := by
  have hsrc : source σ 3 (.p (eEs o)) = some ((L o).length, (eEdgs (L o)).map DV.p) := by
    cases o <;> simp [source, eEs, edgs_length, eEdgs]
  have h1 : (L o).length * 24 ≤ 140737488355328 := by omega
  have h2 : (L o).length ≤ 140737488355328 := by omega
  simp only [append, src23, u23, s69, bytes69, zero69, hsrc, appLit]
  simp [h1, h2, pures_map]
  split <;> rfl
theorem S16 {o : Option (List Int)} {σ : Store} (hl : (L o).length ≤ 1000) : pureV CC 16 [.p (eSl o)] σ = some (.p (eSl (some (L o)))) := by
  refine pureV_any (by simp [sl_view]) fun lo σ0 hs => ?_
  by_cases h : (L o).length = 0
  · refine ⟨.p (.sl true 0 []), σ0, F16_call ?_, ?_⟩
    · rw [F16_eq]
      simp only [bs22_0, obind, app22 hl, h, if_true]
    · have : L o = [] := List.length_eq_zero_iff.1 h
      rw [this]; rfl
  · refine ⟨.osl σ0.length 0 1 (L o).length (eInts (L o)), σ0 ++ [.tok 0], F16_call ?_, ?_⟩
    · rw [F16_eq]
      simp only [bs22_0, obind, app22 hl, h, if_false]
    · simp [thawAll, thawPart, thaw, thaw1, thawP, loosens_ints, eSl]
def ownG (g : Gr) : Gr := ⟨g.n, some (L g.init), some (L g.edges)⟩
theorem st22_1 (a b c d : DV) (v : PV) (rest : Store) : store PP 0 22 (.ptr 0 1) (.p v) (.mix [a, b, c] :: rest) = some (.mix [a, .p v, c] :: rest) := Eq.trans (by kernel_rfl) rfl
theorem st23_2p (a b c : DV) (v : PV) (rest : Store) : store PP 0 23 (.ptr 0 2) (.p v) (.mix [a, b, c] :: rest) = some (.mix [a, b, .p v] :: rest) := Eq.trans (by kernel_rfl) rfl
theorem st23_2o (a b c : DV) (r ver sz n : Nat) (cs : List PV) (rest : Store) : store PP 0 23 (.ptr 0 2) (.osl r ver sz n cs) (.mix [a, b, c] :: rest) = some (.mix [a, b, .osl r ver sz n cs] :: rest) := Eq.trans (by kernel_rfl) rfl
theorem st25_p (a b c : DV) (x y z : PV) (m : Row) (rest : Store) : store PP 0 25 (.ptr 1 0) (.agg [.p x, .p y, .p z]) (m :: .mix [a, b, c] :: rest) = some (m :: .mix [.p x, .p y, .p z] :: rest) := Eq.trans (by kernel_rfl) rfl
theorem st25_o (a b c : DV) (x y : PV) (r ver sz n : Nat) (cs : List PV) (m : Row) (rest : Store) : store PP 0 25 (.ptr 1 0) (.agg [.p x, .p y, .osl r ver sz n cs]) (m :: .mix [a, b, c] :: rest) = some (m :: .mix [.p x, .p y, .osl r ver sz n cs] :: rest) := Eq.trans (by kernel_rfl) rfl
theorem ld25_0 (a b c : DV) (rest : Store) : loadN (.mix [a, b, c] :: rest) 3 (.ptr 0 0) = some [a, b, c] := Eq.trans (by kernel_rfl) rfl
theorem cv25 (a b c : DV) (m : Row) (rest : Store) : cellV PP 25 (.ptr 1 0) (m :: .mix [a, b, c] :: rest) = some (.agg [a, b, c]) := Eq.trans (by kernel_rfl) rfl
theorem S13 {g : Gr} {σ : Store} (hi : (L g.init).length ≤ 1000) (he : (L g.edges).length ≤ 10000) : pureV CC 13 [.agg (eGr g)] σ = some (.agg (eGr (ownG g))) := by
  refine pureV_any (by simp [gr_view]) fun lo σ0 hs => ?_
  rcases hs with ⟨rfl, rfl, _⟩ | ⟨_, _, h⟩
  case inr => exact absurd h (by simp [rowFree, rowFree1, eGr])
  have g0 : ∀ r, ([Row.mix (eGr g), r] : Store)[0]? = some (.mix (eGr g)) := fun _ => rfl
  by_cases h : (L g.edges).length = 0
  · refine ⟨.agg [.p (pI g.n), .p (eSl (some (L g.init))), .p (.sl true 0 [])], [.mix [.p (pI g.n), .p (eSl (some (L g.init))), .p (.sl true 0 [])], .mix [.p (pI g.n), .p (eSl (some (L g.init))), .p (.sl true 0 [])]], F13_call ?_, ?_⟩
    · rw [F13_eq]
      simp only [box_gr, zero25, obind, List.length_nil, List.nil_append, List.length_cons, List.cons_append, fa25_1, fa25_2, shift_ptr, Nat.zero_add, load22, load23, load25, load1_ptr (off := 1) (g0 _) rfl, load1_ptr (off := 2) (g0 _) rfl, pureFn_fn, List.append_nil, S16 hi, bs23_0, app23 he, h, if_true]
      simp only [eGr, st22_1 _ _ _ (.p .nilsl), obind, st23_2p, ld25_0, omap, st25_p, cv25]
    · have : L g.edges = [] := List.length_eq_zero_iff.1 h
      simp [thawAll, thawPart, mapO, thaw, thaw1, thawP, loosen, loosens, loosen_sl, eGr, ownG, eEs, this, eEdgs]
  · refine ⟨.agg [.p (pI g.n), .p (eSl (some (L g.init))), .osl 2 0 3 (L g.edges).length (eEdgs (L g.edges))], [.mix [.p (pI g.n), .p (eSl (some (L g.init))), .osl 2 0 3 (L g.edges).length (eEdgs (L g.edges))], .mix [.p (pI g.n), .p (eSl (some (L g.init))), .osl 2 0 3 (L g.edges).length (eEdgs (L g.edges))], .tok 0], F13_call ?_, ?_⟩
    · rw [F13_eq]
      simp only [box_gr, zero25, obind, List.length_nil, List.nil_append, List.length_cons, List.cons_append, fa25_1, fa25_2, shift_ptr, Nat.zero_add, load22, load23, load25, load1_ptr (off := 1) (g0 _) rfl, load1_ptr (off := 2) (g0 _) rfl, pureFn_fn, List.append_nil, S16 hi, bs23_0, app23 he, h, if_false]
      simp only [eGr, st22_1 _ _ _ (.p .nilsl), obind, st23_2o, ld25_0, omap, st25_o, cv25]
    · simp [thawAll, thawPart, mapO, thaw, thaw1, thawP, loosen, loosen_sl, eGr, ownG, eEs, loosens_edgs]
theorem ex0 (a b : DV) : extractV (.tuple [a, b]) 0 = some a := Eq.trans rfl rfl
theorem ex1 (a b : DV) : extractV (.tuple [a, b]) 1 = some b := Eq.trans rfl rfl
theorem len22_nil (σ : Store) : len PP 22 (.p .nilsl) σ = some (.p (.int .i64 0)) := by simp [len, u22]
theorem getD_at {α : Type} {l : List α} {i : Nat} (d : α) (h : i < l.length) : l.getD i d = l[i] := by rw [List.getD_eq_getElem?_getD, List.getElem?_eq_getElem h]; rfl
def Out (σ : Store) (lo sz n : Nat) (cs : List PV) (x : DV) : Prop :=
  cs.length = n * sz ∧ ((n = 0 ∧ x = .p .nilsl) ∨ (n ≠ 0 ∧ ∃ r ver, x = .osl r ver sz n cs ∧ σ[r]? = some (.tok ver) ∧ lo ≤ r))
def Others (σ σ' : Store) (x : DV) : Prop := ∀ i row, σ[i]? = some row → (∀ r ver sz n cs, x = .osl r ver sz n cs → i ≠ r) → σ'[i]? = some row
theorem Out.zero {σ : Store} {lo sz : Nat} : Out σ lo sz 0 [] (.p .nilsl) := ⟨by simp, .inl ⟨rfl, rfl⟩⟩
theorem Others.mix {σ σ' : Store} {lo sz n : Nat} {cs : List PV} {x : DV} (h : Others σ σ' x) (ho : Out σ lo sz n cs x) {i : Nat} {row : Row} (hi : σ[i]? = some row) (hr : ∀ v, row ≠ .tok v) : σ'[i]? = some row := by
  refine h i row hi ?_
  rintro r ver sz' n' cs' rfl rfl
  rcases ho.2 with ⟨_, h2⟩ | ⟨_, r2, ver2, h2, h3, _⟩
  · cases h2
  · injection h2 with e1
    subst e1
    rw [hi] at h3
    injection h3 with h3
    exact hr _ h3
theorem Out.push {σ : Store} {t e lo sz b n : Nat} {z : List DV} {cs vs : List PV} {x : DV} (hs : srcType PP t = true) (hu : PP.underlying t = some (.slice e)) (h1 : size? PP e = some sz) (h2 : bytes? PP e = some b) (h3 : zeroOf PP e = some z)
    (h4 : z.length = sz) (hz : 0 < sz) (hb : 0 < b) (hb2 : b ≤ 1000) (hv : vs.length = sz) (ho : Out σ lo sz n cs x) (hn : n ≤ 1000000) (hlo : lo ≤ σ.length) :
    ∃ x' σ', append PP lo false t t x (.p (.sl true 1 vs)) σ = some (x', σ') ∧ Out σ' lo sz (n + 1) (cs ++ vs) x' ∧ Others σ σ' x ∧ σ.length ≤ σ'.length := by
  have hsrc : source σ sz (.p (.sl true 1 vs)) = some (1, vs.map DV.p) := by simp [source, hv]
  have hz0 : ¬ (z.length ≠ sz ∨ sz = 0) := by omega
  obtain ⟨hc, ho⟩ := ho
  rcases ho with ⟨rfl, rfl⟩ | ⟨hn0, r, ver, rfl, hr, hl⟩
  · refine ⟨.osl σ.length 0 sz 1 vs, σ ++ [.tok 0], ?_, ⟨by simp [hc, hv], .inr ⟨by simp, σ.length, 0, ?_, get_snoc, hlo⟩⟩, ?_, by simp⟩
    · have : b ≤ 140737488355328 := by omega
      simp only [append, hs, hu, h1, h2, h3, hz0, hsrc, appNil]
      simp [this, hb, pures_map, h4, hz, Nat.ne_of_gt hz]
    · have : cs = [] := List.length_eq_zero_iff.1 (by simpa using hc)
      rw [this]; simp
    · intro i row hi _
      exact get_old hi
  · refine ⟨.osl r (ver + 1) sz (n + 1) (cs ++ vs), σ.set r (.tok (ver + 1)), ?_, ⟨by simp [hc, hv, Nat.add_mul], .inr ⟨by simp, r, ver + 1, rfl, ?_, hl⟩⟩, ?_, by simp⟩
    · have e1 : (n + 1) * b ≤ 140737488355328 := Nat.le_trans (Nat.mul_le_mul (show n + 1 ≤ 1000001 by omega) hb2) (by decide)
      have e2 : n + 1 ≤ 140737488355328 := by omega
      simp only [append, hs, hu, h1, h2, h3, hz0, hsrc, appTok]
      simp [e1, e2, hb, hc, hl, hr, pures_map, h4, Nat.ne_of_gt hz]
    · rw [List.getElem?_set_self (get_lt hr)]
    · intro i row hi hne
      rw [List.getElem?_set_ne (fun e => hne _ _ _ _ _ rfl e.symm)]
      exact hi
theorem Out.tw {σ : Store} {lo sz n : Nat} {cs : List PV} {x : DV} (ho : Out σ lo sz n cs x) (m : Nat) : thaw m σ x = some (.p (if n = 0 then .nilsl else .sl false n (loosens cs))) := by
  rcases ho.2 with ⟨rfl, rfl⟩ | ⟨hn, r, ver, rfl, _, _⟩
  · rfl
  · simp [thaw, thaw1, thawP, hn]
theorem Out.twAll {σ : Store} {lo sz n : Nat} {cs : List PV} {x : DV} (ho : Out σ lo sz n cs x) (m : Nat) : thawAll m σ x = some (.p (if n = 0 then .nilsl else .sl false n (loosens cs))) := by
  rcases ho.2 with ⟨rfl, rfl⟩ | ⟨hn, r, ver, rfl, _, _⟩
  · rfl
  · simp [thawAll, thawPart, thaw, thaw1, thawP, hn]
theorem bs22_1 (x : Int) (σ : Store) : buildSlice PP none 22 1 [(0, .p (pI x))] σ = some (.p (.sl true 1 [pI x]), σ) := Eq.trans (by kernel_rfl) rfl
end Go.D
end
/- Equations of functions 109, 108, 82, 57, 97, 67, 54, 55, 101, 68, 31, 33, 22, 63, 70, 35, 32, printed by gen.py. -/
section
set_option linter.unusedVariables false
set_option maxRecDepth 10000
namespace Go.D
open Go.Proofs
noncomputable section
variable (G : GuardT) (lo : Nat) {σ : Store} {r : DV × Store}
open _root_.Go.D.Code (fstC sndC)
open _root_.Go.D.Ann (left right)
def c109_0 : Code := bodyOf Tryz.f109
def a109_0 : Ann := (pol 109).ann
def F109 (x0 : DV) (σ : Store) : RS :=
 codeF G PP (pol 109) CC lo c109_0 a109_0 [x0, Z, Z, Z, Z] σ (finR PP Tryz.f109.results.toList)
theorem F109_eq (G : GuardT) (lo : Nat) (x0 : DV) (σ : Store) : F109 G lo x0 σ =
 (pureFn CC (DV.fn 88 []) [x0, I0, (DV.p (PV.int IntKind.i64 (7)))] σ).bind fun x4 =>
 some (x4, σ) := by kernel_rfl
theorem F109_call {lo : Nat} {x0 : DV} (h : F109 guardT lo x0 σ = some r) : CC lo 109 [x0] σ = some r :=
 callL_run Tryz.func109 (by decide +kernel) rfl (by decide +kernel) h
def c108_0 : Code := bodyOf Tryz.f108
def a108_0 : Ann := (pol 108).ann
def F108 (x0 : DV) (σ : Store) : RS :=
 codeF G PP (pol 108) CC lo c108_0 a108_0 (x0 :: zn 5 []) σ (finR PP Tryz.f108.results.toList)
theorem F108_eq (G : GuardT) (lo : Nat) (x0 : DV) (σ : Store) : F108 G lo x0 σ =
 (pureFn CC (DV.fn 109 []) [x0] σ).bind fun x4 =>
 (unOp .not x4).bind fun x5 =>
 some (x5, σ) := by kernel_rfl
theorem F108_call {lo : Nat} {x0 : DV} (h : F108 guardT lo x0 σ = some r) : CC lo 108 [x0] σ = some r :=
 callL_run Tryz.func108 (by decide +kernel) rfl (by decide +kernel) h
def c82_0 : Code := bodyOf Tryz.f82
def a82_0 : Ann := (pol 82).ann
def F82 (x0 : DV) (σ : Store) : RS :=
 codeF G PP (pol 82) CC lo c82_0 a82_0 (x0 :: zn 5 []) σ (finR PP Tryz.f82.results.toList)
theorem F82_eq (G : GuardT) (lo : Nat) (x0 : DV) (σ : Store) : F82 G lo x0 σ =
 (pureFn CC (DV.fn 86 []) [x0, (DV.fn 108 [])] σ).bind fun x4 =>
 (unOp .not x4).bind fun x5 =>
 some (x5, σ) := by kernel_rfl
theorem F82_call {lo : Nat} {x0 : DV} (h : F82 guardT lo x0 σ = some r) : CC lo 82 [x0] σ = some r :=
 callL_run Tryz.func82 (by decide +kernel) rfl (by decide +kernel) h
def c57_0 : Code := bodyOf Tryz.f57
def a57_0 : Ann := (pol 57).ann
def F57 (x0 : DV) (σ : Store) : RS :=
 codeF G PP (pol 57) CC lo c57_0 a57_0 [x0, Z, Z, Z, Z] σ (finR PP Tryz.f57.results.toList)
theorem F57_eq (G : GuardT) (lo : Nat) (x0 : DV) (σ : Store) : F57 G lo x0 σ =
 (pureFn CC (DV.fn 61 []) [x0, I0, (DV.p (PV.int IntKind.i64 (7)))] σ).bind fun x4 =>
 some (x4, σ) := by kernel_rfl
theorem F57_call {lo : Nat} {x0 : DV} (h : F57 guardT lo x0 σ = some r) : CC lo 57 [x0] σ = some r :=
 callL_run Tryz.func57 (by decide +kernel) rfl (by decide +kernel) h
def c33_0 : Code := bodyOf Tryz.f33
def a33_0 : Ann := (pol 33).ann
def a33_21 : Ann := right (left (right (right (right a33_0))))
def a33_22 : Ann := left a33_21
def c33_23 : Code := fstC (fstC (sndC (fstC (sndC (sndC (sndC c33_0))))))
def c33_39 : Code := sndC (sndC (sndC (sndC c33_0)))
def a33_39 : Ann := right (right (right (right a33_0)))
def a33_42 : Ann := right (left a33_39)
def a33_43 : Ann := left a33_42
def c33_44 : Code := fstC (fstC (sndC (fstC c33_39)))
def c33_60 : Code := sndC c33_39
def a33_60 : Ann := right a33_39
def f33_L0 (x1 x3 : DV) (σ : Store) : RS :=
 codeF G PP (pol 33) CC lo (.loop c33_23) a33_22 (Z :: x1 :: Z :: x3 :: zn 77 []) σ
 (blockC 0 a33_21 (seqC G PP (pol 33) CC lo c33_39 a33_39 (finR PP Tryz.f33.results.toList)))
def f33_L1 (x1 x4 : DV) (σ : Store) : RS :=
 codeF G PP (pol 33) CC lo (.loop c33_44) a33_43 (Z :: x1 :: Z :: Z :: x4 :: zn 76 []) σ
 (blockC 2 a33_42 (seqC G PP (pol 33) CC lo c33_60 a33_60 (finR PP Tryz.f33.results.toList)))
def F33 (x0 : DV) (σ : Store) : RS :=
 codeF G PP (pol 33) CC lo c33_0 a33_0 (x0 :: zn 80 []) σ (finR PP Tryz.f33.results.toList)
theorem f33_L0_eq (G : GuardT) (hG : GuardOk G) (lo : Nat) (x1 x3 : DV) (σ : Store) : f33_L0 G lo x1 x3 σ =
 (fieldAddr PP 33 x1 1).bind fun x26 =>
 (load PP 22 x26 σ).bind fun x27 =>
 (len PP 22 x27 σ).bind fun x28 =>
 (binOp PP .lss 3 x3 x28).bind fun x29 =>
 condK x29
 (
 (fieldAddr PP 33 x1 1).bind fun x32 =>
 (load PP 22 x32 σ).bind fun x33 =>
 (indexAddr PP 22 x33 x3).bind fun x35 =>
 (load PP 3 x35 σ).bind fun x36 =>
 (pureFn CC (DV.fn 61 []) [x36, I0, (DV.p (PV.int IntKind.i64 (399)))] σ).bind fun x37 =>
 (unOp .not x37).bind fun x38 =>
 G _ x38 false ((fieldAddr PP 33 x1 2).bind fun v => some (v, σ)) σ fun x40 σ8 =>
 G _ x38 false ((load PP 22 x40 σ8).bind fun v => some (v, σ8)) σ8 fun x41 σ9 =>
 G _ x38 false (some (x3, σ9)) σ9 fun x42 σ10 =>
 G _ x38 false ((indexAddr PP 22 x41 x42).bind fun v => some (v, σ10)) σ10 fun x43 σ11 =>
 G _ x38 false ((load PP 3 x43 σ11).bind fun v => some (v, σ11)) σ11 fun x44 σ12 =>
 G _ x38 false ((pureFn CC (DV.fn 57 []) [x44] σ12).bind fun v => some (v, σ12)) σ12 fun x45 σ13 =>
 G _ x38 false ((unOp .not x45).bind fun v => some (v, σ13)) σ13 fun x46 σ14 =>
 (pickV x38 (DV.p (PV.bool true)) x46).bind fun x47 =>
 condK x47
 (
 some ((DV.p (PV.int IntKind.i64 (3))), σ14)
 )
 (
 (binOp PP .add 3 x3 I1).bind fun x31 =>
 f33_L0 G lo x1 x31 σ14
 )
 )
 (
 f33_L1 G lo x1 I1 σ
 ) := (loopF_eq G hG).trans (by kernel_rfl)
theorem f33_L1_eq (G : GuardT) (hG : GuardOk G) (lo : Nat) (x1 x4 : DV) (σ : Store) : f33_L1 G lo x1 x4 σ =
 (fieldAddr PP 33 x1 1).bind fun x49 =>
 (load PP 22 x49 σ).bind fun x50 =>
 (len PP 22 x50 σ).bind fun x51 =>
 (binOp PP .lss 3 x4 x51).bind fun x52 =>
 condK x52
 (
 (fieldAddr PP 33 x1 1).bind fun x55 =>
 (load PP 22 x55 σ).bind fun x56 =>
 (binOp PP .sub 3 x4 I1).bind fun x58 =>
 (indexAddr PP 22 x56 x58).bind fun x59 =>
 (load PP 3 x59 σ).bind fun x60 =>
 (fieldAddr PP 33 x1 2).bind fun x61 =>
 (load PP 22 x61 σ).bind fun x62 =>
 (binOp PP .sub 3 x4 I1).bind fun x64 =>
 (indexAddr PP 22 x62 x64).bind fun x65 =>
 (load PP 3 x65 σ).bind fun x66 =>
 (buildSlice PP none 22 2 [(0, x60), (1, x66)] σ).bind fun r67_15 =>
 (fieldAddr PP 33 x1 1).bind fun x68 =>
 (load PP 22 x68 r67_15.2).bind fun x69 =>
 (indexAddr PP 22 x69 x4).bind fun x71 =>
 (load PP 3 x71 r67_15.2).bind fun x72 =>
 (fieldAddr PP 33 x1 2).bind fun x73 =>
 (load PP 22 x73 r67_15.2).bind fun x74 =>
 (indexAddr PP 22 x74 x4).bind fun x76 =>
 (load PP 3 x76 r67_15.2).bind fun x77 =>
 (buildSlice PP none 22 2 [(0, x72), (1, x77)] r67_15.2).bind fun r78_16 =>
 (pureFn CC (DV.fn 69 []) [r67_15.1, r78_16.1] r78_16.2).bind fun x79 =>
 (binOp PP .geq 3 x79 I0).bind fun x80 =>
 condK x80
 (
 some ((DV.p (PV.int IntKind.i64 (13))), r78_16.2)
 )
 (
 (binOp PP .add 3 x4 I1).bind fun x54 =>
 f33_L1 G lo x1 x54 r78_16.2
 )
 )
 (
 some (I0, σ)
 ) := (loopF_eq G hG).trans (by kernel_rfl)
theorem F33_eq (G : GuardT) (lo : Nat) (x0 : DV) (σ : Store) : F33 G lo x0 σ =
 (boxV x0).bind fun z1 =>
 (fieldAddr PP 33 (DV.ptr (List.length σ) 0) 0).bind fun x5 =>
 (load PP 25 x5 (σ ++ [Row.mix z1])).bind fun x6 =>
 (pureFn CC (DV.fn 56 []) [x6] (σ ++ [Row.mix z1])).bind fun x7 =>
 (unOp .not x7).bind fun x8 =>
 condK x8
 (
 some ((DV.p (PV.int IntKind.i64 (5))), (σ ++ [Row.mix z1]))
 )
 (
 (fieldAddr PP 33 (DV.ptr (List.length σ) 0) 1).bind fun x9 =>
 (load PP 22 x9 (σ ++ [Row.mix z1])).bind fun x10 =>
 (len PP 22 x10 (σ ++ [Row.mix z1])).bind fun x11 =>
 (fieldAddr PP 33 (DV.ptr (List.length σ) 0) 0).bind fun x12 =>
 (fieldAddr PP 25 x12 0).bind fun x13 =>
 (load PP 3 x13 (σ ++ [Row.mix z1])).bind fun x14 =>
 (binOp PP .neq 3 x11 x14).bind fun x15 =>
 G _ x15 false ((fieldAddr PP 33 (DV.ptr (List.length σ) 0) 2).bind fun v => some (v, (σ ++ [Row.mix z1]))) (σ ++ [Row.mix z1]) fun x17 σ1 =>
 G _ x15 false ((load PP 22 x17 σ1).bind fun v => some (v, σ1)) σ1 fun x18 σ2 =>
 G _ x15 false ((len PP 22 x18 σ2).bind fun v => some (v, σ2)) σ2 fun x19 σ3 =>
 G _ x15 false ((fieldAddr PP 33 (DV.ptr (List.length σ) 0) 0).bind fun v => some (v, σ3)) σ3 fun x20 σ4 =>
 G _ x15 false ((fieldAddr PP 25 x20 0).bind fun v => some (v, σ4)) σ4 fun x21 σ5 =>
 G _ x15 false ((load PP 3 x21 σ5).bind fun v => some (v, σ5)) σ5 fun x22 σ6 =>
 G _ x15 false ((binOp PP .neq 3 x19 x22).bind fun v => some (v, σ6)) σ6 fun x23 σ7 =>
 (pickV x15 (DV.p (PV.bool true)) x23).bind fun x24 =>
 condK x24
 (
 some ((DV.p (PV.int IntKind.i64 (6))), σ7)
 )
 (
 f33_L0 G lo (DV.ptr (List.length σ) 0) I0 σ7
 )
 ) := by kernel_rfl
theorem F33_call {lo : Nat} {x0 : DV} (h : F33 guardT lo x0 σ = some r) : CC lo 33 [x0] σ = some r :=
 callL_run Tryz.func33 (by decide +kernel) rfl (by decide +kernel) h
end
end Go.D
end
/- Chapter 22: errors of extended graphs, in the program and in the reference. -/
section
set_option linter.unusedVariables false
set_option linter.unusedSimpArgs false
namespace Go.D
abbrev OI := Option (List Int)
def N (n : Nat) : DV := .p (.int .i64 (n : Nat))
theorem ltT {a b : Int} (h : a < b) : decide (a < b) = true := decide_eq_true h
theorem ltF {a b : Int} (h : ¬ a < b) : decide (a < b) = false := decide_eq_false h
theorem eqT {a b : Int} (h : a = b) : decide (a = b) = true := decide_eq_true h
theorem eqF {a b : Int} (h : ¬ a = b) : decide (a = b) = false := decide_eq_false h
theorem add1 {i : Nat} (h : i ≤ 1000000) : binOp PP .add 3 (.p (.int .i64 (i : Nat))) (.p (.int .i64 1)) = some (.p (.int .i64 ((i + 1 : Nat)))) := by rw [b_add, wrap_succ h]
theorem sub1 {i : Nat} (h0 : 0 < i) (h : i ≤ 1000000) : binOp PP .sub 3 (.p (.int .i64 (i : Nat))) (.p (.int .i64 1)) = some (.p (.int .i64 ((i - 1 : Nat)))) := by
  rw [b_sub, wrap_pred h0 h]
theorem idxL {o : OI} {i : Nat} (h : i < (L o).length) : indexAddr PP 22 (.p (eSl o)) (.p (.int .i64 (i : Nat))) = some (.pptr (eInts (L o)) i) := idx22 h
theorem ldL {o : OI} {i : Nat} (h : i < (L o).length) (σ : Store) : load1 (.pptr (eInts (L o)) i) σ = some (.p (.int .i64 ((L o).getD i 0))) := load1_getD h σ
structure Ax where
  g : Gr
  b : OI
  a : OI
def eAx (x : Ax) : List DV := [.p (pI x.g.n), .p (eSl x.g.init), .p (eEs x.g.edges), .p (eSl x.b), .p (eSl x.a)]
theorem box_ax (x : Ax) : boxV (.agg (eAx x)) = some (eAx x) := rfl
theorem ax_view (x : Ax) : view (.agg (eAx x)) = .agg (eAx x) := by simp [view, viewCell, eAx, loosen_sl, loosen_es, loosen]
theorem fa33_0 (x : DV) : fieldAddr PP 33 x 0 = shiftPtr x 0 := Eq.trans (by kernel_rfl) rfl
theorem fa33_1 (x : DV) : fieldAddr PP 33 x 1 = shiftPtr x 3 := Eq.trans (by kernel_rfl) rfl
theorem fa33_2 (x : DV) : fieldAddr PP 33 x 2 = shiftPtr x 4 := Eq.trans (by kernel_rfl) rfl
theorem load33 (x : DV) (σ : Store) : load PP 33 x σ = (loadN σ 5 x).map .agg := Eq.trans (by kernel_rfl) rfl
theorem zero33 : zeroOf PP 33 = some [.p (pI 0), .p .nilsl, .p .nilsl, .p .nilsl, .p .nilsl] := Eq.trans (by kernel_rfl) rfl
theorem s33 : size? PP 33 = some 5 := Eq.trans (by kernel_rfl) rfl
section
variable {σ : Store} {r : Nat} {x : Ax} (h : σ[r]? = some (.mix (eAx x)))
include h
theorem ax_all : load PP 33 (.ptr r 0) σ = some (.agg (eAx x)) := by rw [load33, loadN_ptr (vs := eAx x) h rfl (by simp [eAx])]; rfl
theorem ax_g : load PP 25 (.ptr r 0) σ = some (.agg (eGr x.g)) := by rw [load25, loadN_ptr (vs := eGr x.g) h rfl (by simp [eAx])]; rfl
theorem ax_n : load PP 3 (.ptr r 0) σ = some (.p (.int .i64 x.g.n)) := by rw [load3, load1_ptr h rfl]
theorem ax_e : load PP 23 (.ptr r 2) σ = some (.p (eEs x.g.edges)) := by rw [load23, load1_ptr h rfl]
theorem ax_b : load PP 22 (.ptr r 3) σ = some (.p (eSl x.b)) := by rw [load22, load1_ptr h rfl]
theorem ax_a : load PP 22 (.ptr r 4) σ = some (.p (eSl x.a)) := by rw [load22, load1_ptr h rfl]
end
structure XSm (x : Ax) : Prop where
  i : (L x.g.init).length ≤ 1000
  e : (L x.g.edges).length ≤ 10000
  b : (L x.b).length ≤ 1000
  a : (L x.a).length ≤ 1000
def bB (n : Int) : Bool := !inR n 0 399
def bA (n : Int) : Bool := !inR n 0 7
def ascK (b a : List Int) (i : Nat) : Bool := decide (orL [cmpI (b.getD (i - 1) 0) (b.getD i 0), cmpI (a.getD (i - 1) 0) (a.getD i 0)] < 0)
def ascX (b a : List Int) : Bool := allFrom (ascK b a) 1 (b.length - 1)
def lenX (x : Ax) : Bool := decide (((L x.b).length : Int) = x.g.n) && decide (((L x.a).length : Int) = x.g.n)
def badX (x : Ax) : Bool := (L x.b).any bB || (L x.a).any bA
def extE (x : Ax) : Int := if isG x.g = true then (if lenX x = true then (if badX x = true then 3 else if ascX (L x.b) (L x.a) = true then 0 else 13) else 6) else 5
theorem S109 (n : Int) (σ : Store) : pureV CC 109 [.p (pI n)] σ = some (.p (.bool (inR n 0 7))) := by
  refine pureV_free rfl rfl (F109_call (r := (.p (.bool (inR n 0 7)), [])) ?_) rfl
  rw [F109_eq]
  simp only [pureFn_fn, List.append_nil, S88, obind]
theorem S108 (n : Int) (σ : Store) : pureV CC 108 [.p (pI n)] σ = some (.p (.bool (bA n))) := by
  refine pureV_free rfl rfl (F108_call (r := (.p (.bool (bA n)), [])) ?_) rfl
  rw [F108_eq]
  simp only [pureFn_fn, List.append_nil, S109, obind, not_bool, bA]
theorem S57 (n : Int) (σ : Store) : pureV CC 57 [.p (pI n)] σ = some (.p (.bool (inR n 0 7))) := by
  refine pureV_free rfl rfl (F57_call (r := (.p (.bool (inR n 0 7)), [])) ?_) rfl
  rw [F57_eq]
  simp only [pureFn_fn, List.append_nil, S61, obind]
theorem S82 {o : OI} {σ : Store} (hl : (L o).length ≤ 1000) : pureV CC 82 [.p (eSl o)] σ = some (.p (.bool (!(L o).any bA))) := by
  refine pureV_free (by simp [sl_view]) rfl (F82_call (r := (.p (.bool (!(L o).any bA)), [])) ?_) rfl
  rw [F82_eq]
  simp only [pureFn_fn, List.append_nil, S86 (q := bA) hl fun σ0 _ v => S108 v σ0, obind, not_bool]
theorem bs22_2 (x y : Int) (σ : Store) : buildSlice PP none 22 2 [(0, .p (.int .i64 x)), (1, .p (.int .i64 y))] σ = some (.p (.sl true 2 (eInts [x, y])), σ) := Eq.trans (by kernel_rfl) rfl
theorem sl2_view (x y : Int) : view (.p (.sl true 2 (eInts [x, y]))) = .p (eSl (some [x, y])) := by simp [view, viewCell, loosen, loosens_ints, eSl]
theorem S69t (x y u v : Int) (σ : Store) : pureV CC 69 [.p (.sl true 2 (eInts [x, y])), .p (.sl true 2 (eInts [u, v]))] σ = some (.p (pI (firstI [x, y] [u, v]))) := by
  rw [pureV_view (args' := [.p (eSl (some [x, y])), .p (eSl (some [u, v]))]) (by simp [sl2_view]) (by simp [sl_view])]
  exact S69 (a := some [x, y]) (b := some [u, v]) (by simp) (by simp)
theorem first2 (x y u v : Int) : decide (firstI [x, y] [u, v] ≥ 0) = !decide (orL [cmpI x u, cmpI y v] < 0) := by
  simp only [firstI, orL, cmpI, List.length_nil]
  by_cases h1 : x < u
  · have : ¬ x = u := by omega
    simp [h1, this]
  · by_cases h2 : x > u
    · have : ¬ x = u := by omega
      simp [h1, h2, this]
    · have e1 : x = u := by omega
      by_cases h3 : y < v
      · have : ¬ y = v := by omega
        simp [h3, this, e1]
      · by_cases h4 : y > v
        · have : ¬ y = v := by omega
          simp [h3, h4, this, e1]
        · have e2 : y = v := by omega
          simp [e1, e2]
section
variable {σ : Store} {x : Ax} (h : σ[0]? = some (.mix (eAx x))) (hs : XSm x) (hl : (L x.a).length = (L x.b).length)
include h hs
include hl
end
theorem extE_ok (x : Ax) : (lenX x = true) ↔ ((L x.b).length : Int) = x.g.n ∧ ((L x.a).length : Int) = x.g.n := by
  simp [lenX]
section
variable {σ : Store} {x : Ax} (h : σ[0]? = some (.mix (eAx x))) (hs : XSm x) (hl : (L x.a).length = (L x.b).length)
include h hs hl
theorem L33_1 (lo : Nat) : ∀ (k i : Nat), (L x.b).length - i = k → 1 ≤ i → f33_L1 guardT lo (.ptr 0 0) (N i) σ = some (.p (pI (if allFrom (ascK (L x.b) (L x.a)) i k = true then 0 else 13)), σ)
  | 0, i, hk, hi => by
    have hn : ¬ ((i : Int) < ((L x.b).length : Nat)) := by omega
    rw [f33_L1_eq guardT rfl]
    simp only [N, fa33_1, shift_ptr, shift_pptr, Nat.zero_add, Nat.add_zero, pureFn_fn, List.append_nil, List.singleton_append, List.cons_append, List.nil_append, ax_b h, len22, b_lss, ltF hn, gG, allFrom, if_true]
  | k + 1, i, hk, hi => by
    have hib : i < (L x.b).length := by omega
    have hia : i < (L x.a).length := by omega
    have hib' : (i : Int) < ((L x.b).length : Nat) := by omega
    have h1000 := hs.b
    have ih := L33_1 lo k (i + 1) (by omega) (by omega)
    rw [f33_L1_eq guardT rfl, allFrom]
    simp (disch := omega) only [N, fa33_1, fa33_2, shift_ptr, shift_pptr, Nat.zero_add, Nat.add_zero, pureFn_fn, List.append_nil, List.singleton_append, List.cons_append, List.nil_append, ax_b h, ax_a h, len22, b_lss, ltT hib', gG, sub1, idxL, load3, ldL, bs22_2, S69t, b_geq, first2]
    have e : ascK (L x.b) (L x.a) i = decide (orL [cmpI ((L x.b).getD (i - 1) 0) ((L x.b).getD i 0), cmpI ((L x.a).getD (i - 1) 0) ((L x.a).getD i 0)] < 0) := rfl
    rw [← e]
    cases ascK (L x.b) (L x.a) i with
    | false => simp only [gG, Bool.false_and, Bool.false_eq_true, if_false]
    | true =>
      simp (disch := omega) only [gG, add1, Bool.true_and]
      exact ih
theorem L33_0 (lo : Nat) : ∀ (k i : Nat), (L x.b).length - i = k → i ≤ (L x.b).length → f33_L0 guardT lo (.ptr 0 0) (N i) σ =
    some (.p (pI (if ((L x.b).drop i).any bB = true ∨ ((L x.a).drop i).any bA = true then 3 else if ascX (L x.b) (L x.a) = true then 0 else 13)), σ)
  | 0, i, hk, hi => by
    have hn : ¬ ((i : Int) < ((L x.b).length : Nat)) := by omega
    have hL := L33_1 h hs hl lo ((L x.b).length - 1) 1 rfl (Nat.le_refl _)
    have hL : f33_L1 guardT lo (.ptr 0 0) (.p (.int .i64 1)) σ = _ := hL
    rw [f33_L0_eq guardT rfl, List.drop_of_length_le (by omega), List.drop_of_length_le (by omega)]
    simp only [N, fa33_1, shift_ptr, shift_pptr, Nat.zero_add, Nat.add_zero, pureFn_fn, List.append_nil, List.singleton_append, List.cons_append, List.nil_append, ax_b h, len22, b_lss, ltF hn, gG, hL, ascX, List.any_nil, Bool.false_eq_true, or_self, if_false]
    rfl
  | k + 1, i, hk, hi => by
    have hib : i < (L x.b).length := by omega
    have hia : i < (L x.a).length := by omega
    have hib' : (i : Int) < ((L x.b).length : Nat) := by omega
    have h1000 := hs.b
    have ih := L33_0 lo k (i + 1) (by omega) (by omega)
    have eb : (L x.b).drop i = (L x.b).getD i 0 :: (L x.b).drop (i + 1) := by rw [getD_at 0 hib]; exact List.drop_eq_getElem_cons hib
    have ea : (L x.a).drop i = (L x.a).getD i 0 :: (L x.a).drop (i + 1) := by rw [getD_at 0 hia]; exact List.drop_eq_getElem_cons hia
    rw [f33_L0_eq guardT rfl, eb, ea, List.any_cons, List.any_cons]
    simp (disch := omega) only [N, fa33_1, fa33_2, shift_ptr, shift_pptr, Nat.zero_add, Nat.add_zero, pureFn_fn, List.append_nil, List.singleton_append, List.cons_append, List.nil_append, ax_b h, ax_a h, len22, b_lss, ltT hib', gG, idxL, load3, ldL, S61, not_bool]
    have e1 : bB ((L x.b).getD i 0) = !inR ((L x.b).getD i 0) 0 399 := rfl
    have e2 : bA ((L x.a).getD i 0) = !inR ((L x.a).getD i 0) 0 7 := rfl
    rw [e1, e2]
    cases inR ((L x.b).getD i 0) 0 399 with
    | false => simp only [gG, Bool.true_or, true_or, if_true]
    | true =>
      simp (disch := omega) only [gG, fa33_2, shift_ptr, shift_pptr, Nat.zero_add, Nat.add_zero, pureFn_fn, List.append_nil, List.singleton_append, List.cons_append, List.nil_append, ax_a h, idxL, load3, ldL, S57, not_bool, Bool.false_or]
      cases inR ((L x.a).getD i 0) 0 7 with
      | false => simp only [gG, Bool.true_or, or_true, if_true]
      | true =>
        simp (disch := omega) only [gG, add1, Bool.false_or]
        exact ih
end
theorem S33 {x : Ax} {σ : Store} (hs : XSm x) : pureV CC 33 [.agg (eAx x)] σ = some (.p (pI (extE x))) := by
  have g0 : ([Row.mix (eAx x)] : Store)[0]? = some (.mix (eAx x)) := rfl
  refine pureV_free (by simp [ax_view]) rfl (F33_call (r := (.p (pI (extE x)), [.mix (eAx x)])) ?_) rfl
  rw [F33_eq]
  simp only [box_ax, obind, List.length_nil, List.nil_append]
  generalize ([Row.mix (eAx x)] : Store) = τ at *
  have h56 := fun σ => S56 (g := x.g) (σ := σ) hs.i hs.e
  simp only [fa33_0, fa33_1, fa33_2, fa25_0, shift_ptr, shift_pptr, Nat.zero_add, Nat.add_zero, pureFn_fn, List.append_nil, List.singleton_append, List.cons_append, List.nil_append, ax_g g0, h56, gG]
  cases hg : isG x.g with
  | false =>
    have e : extE x = 5 := by simp [extE, hg]
    rw [e]
    simp only [gG]
  | true =>
    simp only [gG, ax_b g0, ax_n g0, len22, b_neq]
    by_cases h1 : ((L x.b).length : Int) = x.g.n
    · simp only [eqT h1, gG, fa33_0, fa33_2, fa25_0, shift_ptr, shift_pptr, Nat.zero_add, Nat.add_zero, pureFn_fn, List.append_nil, List.singleton_append, List.cons_append, List.nil_append, ax_a g0, ax_n g0, len22, b_neq]
      by_cases h2 : ((L x.a).length : Int) = x.g.n
      · have hl : (L x.a).length = (L x.b).length := by omega
        have hL := L33_0 g0 hs hl 0 _ 0 rfl (Nat.zero_le _)
        simp only [List.drop_zero] at hL
        have e : extE x = if (L x.b).any bB = true ∨ (L x.a).any bA = true then 3 else if ascX (L x.b) (L x.a) = true then 0 else 13 := by
          rw [extE, if_pos hg, if_pos ((extE_ok x).2 ⟨h1, h2⟩), badX]
          simp only [Bool.or_eq_true]
        have hL : f33_L0 guardT 0 (.ptr 0 0) (.p (.int .i64 0)) τ = _ := hL
        rw [e]
        simp only [eqT h2, gG, hL]
      · have e : extE x = 6 := by
          rw [extE, if_pos hg, if_neg (fun h => h2 ((extE_ok x).1 h).2)]
        rw [e]
        simp only [eqF h2, gG]
    · have e : extE x = 6 := by
        rw [extE, if_pos hg, if_neg (fun h => h1 ((extE_ok x).1 h).1)]
      rw [e]
      simp only [eqF h1, gG]
end Go.D
end
/- What a call's arguments are: plain data of any type without pointers, as values of D. For any program. -/
section
set_option linter.unusedVariables false
set_option linter.unusedSimpArgs false
namespace Go.D

mutual
inductive Plain (P : Program) : TypeId → List PV → Prop where
  | bool {t : TypeId} (h : P.underlying t = some .bool) (b : Bool) : Plain P t [.bool b]
  | int {t : TypeId} {k : IntKind} (h : P.underlying t = some (.int k)) (n : Int) (hw : (Lit.int k n).wf = true) : Plain P t [.int k n]
  | str {t : TypeId} (h : P.underlying t = some .string) (s : ByteArray) (hs : s.size ≤ maxLen) : Plain P t [.str s]
  | nilsl {t e : TypeId} (h : P.underlying t = some (.slice e)) : Plain P t [.nilsl]
  | sl {t e : TypeId} (h : P.underlying t = some (.slice e)) (n : Nat) (cs : List PV) (hx : PlainL P (List.replicate n e) cs) : Plain P t [.sl false n cs]
  | struct {t : TypeId} {fs : Array Field} (h : P.underlying t = some (.struct fs)) (cs : List PV) (hx : PlainL P (fs.toList.map (·.type)) cs) : Plain P t cs
  | array {t e : TypeId} {n : Nat} (h : P.underlying t = some (.array n e)) (cs : List PV) (hx : PlainL P (List.replicate n e) cs) : Plain P t cs
inductive PlainL (P : Program) : List TypeId → List PV → Prop where
  | nil : PlainL P [] []
  | cons {t : TypeId} {ts : List TypeId} {a b : List PV} (h : Plain P t a) (hs : PlainL P ts b) : PlainL P (t :: ts) (a ++ b)
end

/-! ### Taking apart -/
section
variable {P : Program} {t e : TypeId} {k : IntKind} {cs : List PV}
theorem Plain.inv_int (hu : P.underlying t = some (.int k)) (h : Plain P t cs) : ∃ n, (Lit.int k n).wf = true ∧ cs = [.int k n] := by
  cases h with
  | int h n hw =>
    rw [hu] at h
    injection h with h
    injection h with h
    exact ⟨n, by rw [h]; exact hw, by rw [h]⟩
  | _ h => rw [hu] at h; injection h with h; exact absurd h (by simp)
theorem Plain.inv_bool (hu : P.underlying t = some .bool) (h : Plain P t cs) : ∃ b, cs = [.bool b] := by
  cases h with
  | bool h b => exact ⟨b, rfl⟩
  | _ h => rw [hu] at h; injection h with h; exact absurd h (by simp)
theorem Plain.inv_str (hu : P.underlying t = some .string) (h : Plain P t cs) : ∃ s, s.size ≤ maxLen ∧ cs = [.str s] := by
  cases h with
  | str h s hs => exact ⟨s, hs, rfl⟩
  | _ h => rw [hu] at h; injection h with h; exact absurd h (by simp)
theorem Plain.inv_slice (hu : P.underlying t = some (.slice e)) (h : Plain P t cs) : cs = [.nilsl] ∨ ∃ n xs, PlainL P (List.replicate n e) xs ∧ cs = [.sl false n xs] := by
  cases h with
  | nilsl h => exact .inl rfl
  | sl h n xs hx =>
    rw [hu] at h
    injection h with h
    injection h with h
    exact .inr ⟨n, xs, by rw [h]; exact hx, rfl⟩
  | _ h => rw [hu] at h; injection h with h; exact absurd h (by simp)
theorem Plain.inv_struct {fs : Array Field} (hu : P.underlying t = some (.struct fs)) (h : Plain P t cs) : PlainL P (fs.toList.map (·.type)) cs := by
  cases h with
  | struct h xs hx =>
    rw [hu] at h
    injection h with h
    injection h with h
    rw [h]; exact hx
  | _ h => rw [hu] at h; injection h with h; exact absurd h (by simp)
theorem Plain.inv_array {n : Nat} (hu : P.underlying t = some (.array n e)) (h : Plain P t cs) : PlainL P (List.replicate n e) cs := by
  cases h with
  | array h xs hx =>
    rw [hu] at h
    injection h with h
    injection h with h1 h2
    rw [h1, h2]; exact hx
  | _ h => rw [hu] at h; injection h with h; exact absurd h (by simp)
theorem PlainL.inv_nil (h : PlainL P [] cs) : cs = [] := by cases h; rfl
theorem PlainL.inv_cons {ts : List TypeId} (h : PlainL P (t :: ts) cs) : ∃ a b, Plain P t a ∧ PlainL P ts b ∧ cs = a ++ b := by
  cases h with
  | cons h hs => exact ⟨_, _, h, hs, rfl⟩
theorem PlainL.inv_rep {α : Type} {f : α → List PV} (hf : ∀ a, Plain P t a → ∃ x, a = f x) : ∀ {n : Nat} {cs : List PV}, PlainL P (List.replicate n t) cs → ∃ xs : List α, xs.length = n ∧ cs = xs.flatMap f
  | 0, cs, h => ⟨[], rfl, h.inv_nil⟩
  | n + 1, cs, h => by
    obtain ⟨a, b, h1, h2, rfl⟩ := PlainL.inv_cons (ts := List.replicate n t) h
    obtain ⟨x, rfl⟩ := hf a h1
    obtain ⟨xs, h3, rfl⟩ := PlainL.inv_rep hf h2
    exact ⟨x :: xs, by simp [h3], by simp⟩
end

/-! ### Types that are read -/
def layOk (P : Program) (ok : TypeId → Bool) (total : Nat) : Nat → List Field → Bool
  | off, [] => off == total
  | off, f :: fs => f.offset == off && ok f.type && layOk P ok total (off + P.cellsOf f.type) fs
def plainTy (P : Program) : Nat → TypeId → Bool
  | 0, _ => false
  | n + 1, t => match P.underlying t with
    | some .bool | some (.int _) | some .string => true
    | some (.slice e) => decide (0 < P.cellsOf e) && plainTy P n e
    | some (.struct fs) => layOk P (plainTy P n) (P.cellsOf t) 0 fs.toList
    | some (.array m e) => m * P.cellsOf e == P.cellsOf t && plainTy P n e
    | _ => false

section
variable {H : Type} {enc : TypeId × Value → H} {W : World} {P : Program} {hd : Bool}
abbrev memR (W : World) : Mem := fun b o => W.cell? ⟨b, o, none⟩

theorem spot_cell {a : Addr} {v : Value} (h : W.cell? a = some v) : a.spot = none := by
  unfold World.cell? at h
  split at h
  · split at h
    · exact absurd h (by simp)
    · rename_i hs
      cases e : a.spot with
      | none => rfl
      | some s => rw [e] at hs; exact absurd rfl hs
  · exact absurd h (by simp)
theorem addr_eq {a : Addr} {n : Nat} (h : a.spot = none) : a.add n = ⟨a.block, a.off + n, none⟩ := by
  cases a with
  | mk b o s => cases h; exact Addr.add_mid b o n

def RelL (M : Mem) (ps : List PV) (vs : List Value) : Prop := ps.length = vs.length ∧ ∀ j (h1 : j < ps.length) (h2 : j < vs.length), PRel M ps[j] vs[j]

theorem RelL.append {M : Mem} {a c : List PV} {b d : List Value} (h : RelL M a b) (h2 : RelL M c d) : RelL M (a ++ c) (b ++ d) := by
  refine ⟨by simp [h.1, h2.1], fun j h3 h4 => ?_⟩
  by_cases hj : j < a.length
  · rw [List.getElem_append_left hj, List.getElem_append_left (by rw [← h.1]; exact hj)]
    exact h.2 j hj _
  · rw [List.getElem_append_right (by omega), List.getElem_append_right (by rw [← h.1]; omega)]
    have e : j - b.length = j - a.length := by rw [h.1]
    simp only [e]
    refine h2.2 _ (by simp at h3; omega) ?_
theorem elems_read {e : TypeId} {sz : Nat} {b : Nat} : ∀ (n o : Nat),
    (∀ i, i < n → ∃ ps vs, Plain P e ps ∧ vs.length = sz ∧ RelL (memR W) ps vs ∧ ∀ j (h : j < vs.length), W.cell? ⟨b, o + i * sz + j, none⟩ = some vs[j]) →
    ∃ cs vs, PlainL P (List.replicate n e) cs ∧ vs.length = n * sz ∧ RelL (memR W) cs vs ∧ ∀ j (h : j < vs.length), W.cell? ⟨b, o + j, none⟩ = some vs[j]
  | 0, o, h => ⟨[], [], .nil, by simp, ⟨rfl, fun j h1 _ => absurd h1 (by simp)⟩, fun j h => absurd h (by simp)⟩
  | n + 1, o, h => by
    obtain ⟨ps, vs, h1, h2, h3, h4⟩ := h 0 (by omega)
    obtain ⟨cs, ws, g1, g2, g3, g4⟩ := elems_read n (o + sz) fun i hi => by
      obtain ⟨ps, vs, k1, k2, k3, k4⟩ := h (i + 1) (by omega)
      refine ⟨ps, vs, k1, k2, k3, fun j hj => ?_⟩
      have : o + sz + i * sz + j = o + (i + 1) * sz + j := by rw [Nat.add_mul]; omega
      rw [this]
      exact k4 j hj
    refine ⟨ps ++ cs, vs ++ ws, .cons h1 g1, by simp [h2, g2, Nat.add_mul]; omega, h3.append g3, fun j hj => ?_⟩
    by_cases hjv : j < vs.length
    · rw [List.getElem_append_left hjv]
      have := h4 j hjv
      simpa using this
    · rw [List.getElem_append_right (by omega)]
      have := g4 (j - vs.length) (by simp at hj; omega)
      have e2 : o + sz + (j - vs.length) = o + j := by omega
      rwa [e2] at this
theorem layOk_le {ok : TypeId → Bool} {total : Nat} : ∀ (fs : List Field) (off : Nat), layOk P ok total off fs = true → off ≤ total
  | [], off, h => by
    have : off = total := by simpa [layOk] using h
    omega
  | f :: fs, off, h => by
    simp only [layOk, Bool.and_eq_true] at h
    have := layOk_le fs _ h.2
    omega
theorem fields_read {ok : TypeId → Bool} {total : Nat} {cs : List Value} (hc : cs.length = total) : ∀ (fs : List Field) (off : Nat), layOk P ok total off fs = true →
    (∀ f ∈ fs, ok f.type = true → ∃ ps, Plain P f.type ps ∧ RelL (memR W) ps ((cs.drop f.offset).take (P.cellsOf f.type))) →
    ∃ ps, PlainL P (fs.map (·.type)) ps ∧ RelL (memR W) ps (cs.drop off)
  | [], off, h, hf => by
    have : off = total := by simpa [layOk] using h
    refine ⟨[], .nil, ?_⟩
    rw [List.drop_eq_nil_of_le (by omega)]
    exact ⟨rfl, fun j h1 _ => absurd h1 (by simp)⟩
  | f :: fs, off, h, hf => by
    simp only [layOk, Bool.and_eq_true, beq_iff_eq] at h
    obtain ⟨⟨h1, h2⟩, h3⟩ := h
    obtain ⟨ps, g1, g2⟩ := hf f (by simp) h2
    obtain ⟨qs, k1, k2⟩ := fields_read hc fs _ h3 fun g hg => hf g (by simp [hg])
    refine ⟨ps ++ qs, .cons g1 k1, ?_⟩
    have e : cs.drop off = (cs.drop off).take (P.cellsOf f.type) ++ cs.drop (off + P.cellsOf f.type) := by
      rw [← List.drop_drop, List.take_append_drop]
    rw [h1] at g2
    rw [e]
    exact g2.append k2
theorem parts_read {e : TypeId} {sz : Nat} {cs : List Value} : ∀ (n off : Nat), cs.length = off + n * sz →
    (∀ i, i < n → ∃ ps, Plain P e ps ∧ RelL (memR W) ps ((cs.drop (off + i * sz)).take sz)) → ∃ ps, PlainL P (List.replicate n e) ps ∧ RelL (memR W) ps (cs.drop off)
  | 0, off, hc, h => by
    refine ⟨[], .nil, ?_⟩
    rw [List.drop_eq_nil_of_le (by omega)]
    exact ⟨rfl, fun j h1 _ => absurd h1 (by simp)⟩
  | n + 1, off, hc, h => by
    obtain ⟨ps, g1, g2⟩ := h 0 (by omega)
    obtain ⟨qs, k1, k2⟩ := parts_read (sz := sz) n (off + sz) (by rw [hc, Nat.add_mul]; omega) fun i hi => by
      obtain ⟨ps, a1, a2⟩ := h (i + 1) (by omega)
      refine ⟨ps, a1, ?_⟩
      have : off + (i + 1) * sz = off + sz + i * sz := by rw [Nat.add_mul]; omega
      rwa [this] at a2
    refine ⟨ps ++ qs, .cons g1 k1, ?_⟩
    have e : cs.drop off = (cs.drop off).take sz ++ cs.drop (off + sz) := by
      rw [← List.drop_drop, List.take_append_drop]
    rw [Nat.zero_mul, Nat.add_zero] at g2
    rw [e]
    exact g2.append k2

theorem read_plain : ∀ (m fuel : Nat) (t : TypeId) (cs : List Value) (x : DataW H × List MemPlace), plainTy P m t = true → DataW.trod enc P W 0 (fun _ => true) hd fuel t cs = some x → ∃ ps, Plain P t ps ∧ RelL (memR W) ps cs
  | 0, _, _, _, _, hp, _ => by simp [plainTy] at hp
  | m + 1, fuel, t, cs, x, hp, h => by
    unfold plainTy at hp
    split at hp
    · rename_i hu
      obtain ⟨b, rfl, _⟩ := DataW.trod_bool hu h
      refine ⟨[.bool b], .bool hu b, rfl, fun j h1 h2 => ?_⟩
      match j, h1 with
      | 0, _ => exact .bool b
    · rename_i k hu
      obtain ⟨n, rfl, _, hw⟩ := DataW.trod_int hu h
      refine ⟨[.int k n], .int hu n hw, rfl, fun j h1 h2 => ?_⟩
      match j, h1 with
      | 0, _ => exact .int k n
    · rename_i hu
      obtain ⟨s, rfl, _, hs⟩ := DataW.trod_string hu h
      refine ⟨[.str s], .str hu s hs, rfl, fun j h1 h2 => ?_⟩
      match j, h1 with
      | 0, _ => exact .str s
    · rename_i e hu
      simp only [Bool.and_eq_true, decide_eq_true_eq] at hp
      obtain ⟨hsz, hpe⟩ := hp
      rcases DataW.trod_slice hu h with ⟨rfl, _⟩ | ⟨a, len, cap, elems, rest, n, _, rfl, _, _, hl, hm, hlen, hel, hrest, _⟩
      · refine ⟨[.nilsl], .nilsl hu, rfl, fun j h1 h2 => ?_⟩
        match j, h1 with
        | 0, _ => exact .nilsl
      · have hrest := hrest rfl
        have hspot : cap ≠ 0 → a.spot = none := by
          intro hc
          have key : ∃ cs, W.cells? 0 (a.add 0) (P.cellsOf e) = some cs := by
            by_cases h0 : 0 < len
            · have h1 := hel 0 h0
              rw [List.getElem?_eq_getElem (by omega)] at h1
              obtain ⟨cs, h2, _⟩ := Option.bind_eq_some_iff.1 h1
              exact ⟨cs, by simpa using h2⟩
            · have h1 := hrest.2 0 (by omega)
              rw [List.getElem?_eq_getElem (by omega)] at h1
              obtain ⟨cs, h2, _⟩ := Option.bind_eq_some_iff.1 h1
              have hl0 : len = 0 := by omega
              exact ⟨cs, by simpa [hl0] using h2⟩
          obtain ⟨cs, h2⟩ := key
          obtain ⟨_, h3, h4⟩ := World.cells?_some h2
          have h5 := h4 0 hsz
          rw [List.getElem?_eq_getElem (by omega)] at h5
          exact spot_cell (a := a) h5
        obtain ⟨ps, vs, g1, g2, g3, g4⟩ := elems_read (P := P) (W := W) (e := e) (sz := P.cellsOf e) (b := a.block) len a.off fun i hi => by
          have h1 := hel i hi
          rw [List.getElem?_eq_getElem (by omega)] at h1
          obtain ⟨vs, h2, h3⟩ := Option.bind_eq_some_iff.1 h1
          obtain ⟨ps, k1, k2⟩ := read_plain m n e vs _ hpe h3
          obtain ⟨_, h5, h4⟩ := World.cells?_some h2
          refine ⟨ps, vs, k1, h5, k2, fun j hj => ?_⟩
          have h6 := h4 j (by omega)
          have hs := hspot (by omega)
          rw [addr_eq hs, addr_eq rfl, List.getElem?_eq_getElem hj] at h6
          exact h6
        refine ⟨[.sl false len ps], .sl hu len ps g1, rfl, fun j h1 h2 => ?_⟩
        match j, h1 with
        | 0, _ =>
          refine .sl (fun j => vs.getD j Go.undef) hspot hl (by simp) (fun j hj => ?_) (fun j hj => ?_)
          · have hj2 : j < vs.length := by rw [← g3.1]; exact hj
            show W.cell? _ = _
            rw [List.getD_eq_getElem?_getD, List.getElem?_eq_getElem hj2]
            exact g4 j hj2
          · have hj2 : j < vs.length := by rw [← g3.1]; exact hj
            rw [List.getD_eq_getElem?_getD, List.getElem?_eq_getElem hj2]
            exact g3.2 j hj hj2
    · rename_i fs hu
      obtain ⟨xs, n, _, _, hl, hlen, hf⟩ := DataW.trod_struct hu h
      obtain ⟨ps, g1, g2⟩ := fields_read (P := P) (W := W) hl fs.toList 0 hp fun f hfm hok => by
        obtain ⟨i, hi, rfl⟩ := List.getElem_of_mem hfm
        have hi2 : i < fs.size := by simpa using hi
        have h1 := hf i fs[i] (by simp [hi2])
        rw [List.getElem?_eq_getElem (by omega)] at h1
        simp only [Array.getElem_toList] at hok ⊢
        obtain ⟨ps, k1, k2⟩ := read_plain m n _ _ _ hok h1
        exact ⟨ps, k1, k2⟩
      exact ⟨ps, .struct hu ps g1, g2⟩
    · rename_i k e hu
      simp only [Bool.and_eq_true, beq_iff_eq] at hp
      obtain ⟨xs, n, _, _, hl, hlen, hf⟩ := DataW.trod_array hu h
      obtain ⟨ps, g1, g2⟩ := parts_read (P := P) (W := W) (e := e) (sz := P.cellsOf e) (cs := cs) k 0 (by rw [hl, ← hp.1]; omega) fun i hi => by
        have h1 := hf i hi
        rw [List.getElem?_eq_getElem (by omega)] at h1
        obtain ⟨ps, k1, k2⟩ := read_plain m n _ _ _ hp.2 h1
        rw [Nat.zero_add]
        exact ⟨ps, k1, k2⟩
      exact ⟨ps, .array hu ps g1, g2⟩
    · exact absurd hp (by simp)

/-! ### Arguments -/
theorem relL_agg {ps : List PV} {vs : Array Value} (h : RelL (memR W) ps vs.toList) : VRel (fun _ _ => none) (memR W) (.agg (ps.map .p)) (.agg vs) := by
  refine .agg (by have := h.1; simp at this; simp [this]) fun j h1 h2 => ?_
  have := h.2 j (by simpa using h1) (by simpa using h2)
  simp only [List.getElem_map]
  exact .p (by simpa using this)
theorem relL_one {p : PV} {v : Value} (h : RelL (memR W) [p] [v]) : VRel (fun _ _ => none) (memR W) (.p p) v := .p (h.2 0 (by simp) (by simp))
variable {r : Reach} {b0 : Nat} {v : Value} {d : DataW H} {ps : List MemPlace} {t : TypeId}
theorem read_struct {fs : Array Field} (m : Nat) (hu : P.underlying t = some (.struct fs)) (hp : plainTy P m t = true) (hok : Value.okWide P W r b0 t v) (h : DataW.Trod enc P W 0 (fun _ => true) hd t v d ps) :
    ∃ cs, Plain P t cs ∧ VRel (fun _ _ => none) (memR W) (.agg (cs.map .p)) v := by
  simp only [Value.okWide, hu] at hok
  obtain ⟨vs, rfl, _⟩ := hok
  obtain ⟨fuel, h⟩ := h
  obtain ⟨cs, h1, h2⟩ := read_plain m fuel t _ _ hp h
  exact ⟨cs, h1, relL_agg h2⟩
theorem read_array {n : Nat} {e : TypeId} (m : Nat) (hu : P.underlying t = some (.array n e)) (hp : plainTy P m t = true) (hok : Value.okWide P W r b0 t v) (h : DataW.Trod enc P W 0 (fun _ => true) hd t v d ps) :
    ∃ cs, Plain P t cs ∧ VRel (fun _ _ => none) (memR W) (.agg (cs.map .p)) v := by
  simp only [Value.okWide, hu] at hok
  obtain ⟨vs, rfl, _⟩ := hok
  obtain ⟨fuel, h⟩ := h
  obtain ⟨cs, h1, h2⟩ := read_plain m fuel t _ _ hp h
  exact ⟨cs, h1, relL_agg h2⟩
theorem read_slice {e : TypeId} (m : Nat) (hu : P.underlying t = some (.slice e)) (hp : plainTy P m t = true) (hok : Value.okWide P W r b0 t v) (h : DataW.Trod enc P W 0 (fun _ => true) hd t v d ps) :
    ∃ c, Plain P t [c] ∧ VRel (fun _ _ => none) (memR W) (.p c) v := by
  obtain ⟨a0, len, cap, rfl⟩ := Go.WideShapes.okWide_slice hu hok
  obtain ⟨fuel, h⟩ := h
  obtain ⟨cs, h1, h2⟩ := read_plain m fuel t _ _ hp h
  rcases h1.inv_slice hu with rfl | ⟨n, xs, _, rfl⟩
  · exact ⟨_, h1, relL_one h2⟩
  · exact ⟨_, h1, relL_one h2⟩
theorem read_intA {k : IntKind} (hu : P.underlying t = some (.int k)) (hok : Value.okWide P W r b0 t v) (h : DataW.Trod enc P W 0 (fun _ => true) hd t v d ps) :
    ∃ n, (Lit.int k n).wf = true ∧ VRel (fun _ _ => none) (memR W) (.p (.int k n)) v := by
  obtain ⟨n, rfl⟩ := Go.WideShapes.okWide_int hu hok
  obtain ⟨fuel, h⟩ := h
  obtain ⟨n', h1, _, h2⟩ := DataW.trod_int hu h
  have : n = n' := by simpa [Value.cells] using h1
  subst this
  exact ⟨n, h2, .p (.int _ _)⟩
theorem read_strA (hu : P.underlying t = some .string) (hok : Value.okWide P W r b0 t v) (h : DataW.Trod enc P W 0 (fun _ => true) hd t v d ps) :
    ∃ s, s.size ≤ maxLen ∧ VRel (fun _ _ => none) (memR W) (.p (.str s)) v := by
  obtain ⟨s, rfl⟩ := Go.WideShapes.okWide_string hu hok
  obtain ⟨fuel, h⟩ := h
  obtain ⟨s', h1, _, h2⟩ := DataW.trod_string hu h
  have : s = s' := by simpa [Value.cells] using h1
  subst this
  exact ⟨s, h2, .p (.str _)⟩
end
end Go.D
end
/- Chapter 22: from what D answers to what the program answers in any world; what a call's arguments are. -/
section
set_option linter.unusedVariables false
set_option linter.unusedSimpArgs false
set_option maxRecDepth 100000
namespace Go.D
open Go.ChangeShapes Go.WideShapes Go.ChangeAt Go.RowKit

def memOf (W : World) : Mem := fun b o => W.cell? ⟨b, o, none⟩
theorem below_of {C : Nat → Nat → Prop} {m : Nat → Prop} {w w' : World} (h : Frm C m w w') (hC : ∀ b o, ¬ C b o) (hm : ∀ b, ¬ m b) : Below w.heap.size w w' := by
  refine ⟨h.os, h.tape, h.output, h.size, fun k hk => ?_⟩
  have := h.obj k hk
  rw [Array.getElem?_eq_getElem hk] at this ⊢
  cases ho : w.heap[k] with
  | cells c e f =>
    rw [ho] at this
    cases hx : w'.heap[k]? with
    | none => rw [hx] at this; simp [ObjKept] at this
    | some o =>
      rw [hx] at this
      cases o with
      | cells c' e' f' =>
        obtain ⟨h1, h2, h3, h4⟩ := this
        subst h1; subst h2
        have : c' = c := Array.ext_getElem? fun i => by rw [h4 i (hC k i)]
        rw [this]
      | _ => simp [ObjKept] at this
  | map es c =>
    rw [ho] at this
    cases hx : w'.heap[k]? with
    | none => rw [hx] at this; simp [ObjKept] at this
    | some o =>
      rw [hx] at this
      cases o with
      | map es' c' =>
        rcases this with h1 | ⟨h1, h2⟩
        · exact absurd h1 (hm k)
        · rw [h1, h2]
      | _ => simp [ObjKept] at this
  | _ =>
    rw [ho] at this
    cases hx : w'.heap[k]? with
    | none => rw [hx] at this; simp [ObjKept] at this
    | some o => rw [hx] at this; cases o <;> simp [ObjKept] at this <;> simp_all
theorem mixed_ok : PP.follows .mixedOrders = true := by kernel_rfl
theorem seqs_ok : ∀ g f kind, (pol g).seq f = some kind → SeqOk PP f kind := by
  intro g f kind h
  have h1 : (pol g).seq = fun _ => none := by
    unfold pol
    split <;> rfl
  rw [h1] at h
  exact absurd h (by simp)
theorem calls_of {f : FuncId} {args : List DV} {σ' : Store} {b : Bool} (h : CC 0 f args [] = some (.p (.bool b), σ')) {W : World} {vs : Array Value} (hv : Vals (fun _ _ => none) (memOf W) args vs) :
    Calls PP f vs W fun e W' => e = .returned (.bool b) ∧ Below W.heap.size W W' := by
  obtain ⟨k, hk⟩ := lim_some h
  have hs : SRel [] (fun _ _ => none) (memOf W) W := srel_bare fun b o v h => h
  obtain ⟨_, hc⟩ := callK_ok mixed_ok seqs_ok k _ _ _ _ _ _ (hk k (Nat.le_refl _)) (Nat.zero_le _) _ _ _ _ hs hv
  have hw := callsIn_wide.1 (hc Fence.wide 0 Free.wide)
  refine hw.mono ?_
  rintro e W' ⟨v', rfl, L', M', hp, hr⟩
  refine ⟨by rw [bool_of hr], below_of hp.frm ?_ ?_⟩
  · rintro b o ⟨r, row, l, _, ⟨h, _⟩, _⟩
    exact absurd h (by simp)
  · rintro b ⟨r, es, l, _, ⟨h, _⟩, _⟩
    exact absurd h (by simp)
theorem own_ok : ownKnob PP.godebug = none := by kernel_rfl
theorem laidOut_ok : laidOutB PP = true := by kernel_rfl
theorem ul4 : PP.underlying 4 = some .bool := by kernel_rfl
def Awake : Prop := ∀ σ, pureV CC 9 [] σ = some (.p (.bool true))
theorem ul3 : PP.underlying 3 = some (.int .i64) := by kernel_rfl
theorem dec3 {a : List PV} (h : Plain PP 3 a) : ∃ n, a = [pI n] := by
  obtain ⟨n, _, rfl⟩ := h.inv_int ul3
  exact ⟨n, rfl⟩
theorem flat1 {α : Type} (f : α → PV) (l : List α) : l.flatMap (fun a => [f a]) = l.map f := by
  induction l with
  | nil => rfl
  | cons a l ih => simp [ih]
theorem dec22 {a : List PV} (h : Plain PP 22 a) : ∃ o, a = [eSl o] := by
  rcases h.inv_slice u22 with rfl | ⟨n, xs, hx, rfl⟩
  · exact ⟨none, rfl⟩
  · obtain ⟨l, rfl, rfl⟩ := hx.inv_rep (f := fun n => [pI n]) fun a ha => dec3 ha
    exact ⟨some l, by rw [flat1]; rfl⟩
theorem dec69 {a : List PV} (h : Plain PP 69 a) : ∃ e : Edg, a = [pI e.f, pI e.t, pI e.a] := by
  have h1 := h.inv_struct Go.Proofs.Tryz.underlying69
  obtain ⟨a1, b1, h2, h3, rfl⟩ := PlainL.inv_cons h1
  obtain ⟨a2, b2, h4, h5, rfl⟩ := PlainL.inv_cons h3
  obtain ⟨a3, b3, h6, h7, rfl⟩ := PlainL.inv_cons h5
  obtain ⟨x, rfl⟩ := dec3 h2
  obtain ⟨y, rfl⟩ := dec3 h4
  obtain ⟨z, rfl⟩ := dec3 h6
  obtain rfl := PlainL.inv_nil h7
  exact ⟨⟨x, y, z⟩, rfl⟩
theorem flat69 (l : List Edg) : l.flatMap (fun e => [pI e.f, pI e.t, pI e.a]) = eEdgs l := by
  induction l with
  | nil => rfl
  | cons a l ih => simp [ih, eEdgs]
theorem dec23 {a : List PV} (h : Plain PP 23 a) : ∃ o, a = [eEs o] := by
  rcases h.inv_slice u23 with rfl | ⟨n, xs, hx, rfl⟩
  · exact ⟨none, rfl⟩
  · obtain ⟨l, rfl, rfl⟩ := hx.inv_rep (f := fun e : Edg => [pI e.f, pI e.t, pI e.a]) fun a ha => dec69 ha
    exact ⟨some l, by rw [flat69]; rfl⟩
theorem dec25 {a : List PV} (h : Plain PP 25 a) : ∃ g : Gr, a = [pI g.n, eSl g.init, eEs g.edges] := by
  have h1 := h.inv_struct Go.Proofs.Tryz.underlying25
  obtain ⟨a1, b1, h2, h3, rfl⟩ := PlainL.inv_cons h1
  obtain ⟨a2, b2, h4, h5, rfl⟩ := PlainL.inv_cons h3
  obtain ⟨a3, b3, h6, h7, rfl⟩ := PlainL.inv_cons h5
  obtain ⟨x, rfl⟩ := dec3 h2
  obtain ⟨y, rfl⟩ := dec22 h4
  obtain ⟨z, rfl⟩ := dec23 h6
  obtain rfl := PlainL.inv_nil h7
  exact ⟨⟨x, y, z⟩, rfl⟩
section
variable {H : Type} {enc : TypeId × Value → H} {W : World} {hd : Bool} {r : Reach} {b0 : Nat} {v : Value} {d : DataW H} {ps : List MemPlace}
end
end Go.D
end
