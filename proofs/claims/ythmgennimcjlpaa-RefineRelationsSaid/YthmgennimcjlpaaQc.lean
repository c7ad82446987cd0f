/- D without fuel: what D answers in the limit, in continuation style. -/
import Derived.Test.YthmgennimcjlpaaQb
import Derived.KernelRfl
import Derived.Test.YthmgennimcjlpaaProg
section
set_option linter.unusedVariables false
set_option linter.unusedSimpArgs false
namespace Go.D

open Classical in
noncomputable def lim {α : Type} (m : Nat → Option α) : Option α :=
  if h : ∃ r k0, ∀ k, k0 ≤ k → m k = some r then some h.choose else none

theorem lim_some {α : Type} {m : Nat → Option α} {r : α} (h : lim m = some r) : ∃ k0, ∀ k, k0 ≤ k → m k = some r := by
  unfold lim at h
  split at h
  · rename_i hx
    injection h with h; subst h
    exact hx.choose_spec
  · exact absurd h (by simp)

theorem lim_eq {α : Type} {m : Nat → Option α} {r : α} (h : ∃ k0, ∀ k, k0 ≤ k → m k = some r) : lim m = some r := by
  have hx : ∃ r k0, ∀ k, k0 ≤ k → m k = some r := ⟨r, h⟩
  unfold lim
  rw [dif_pos hx]
  obtain ⟨k0, h0⟩ := h
  obtain ⟨k1, h1⟩ := hx.choose_spec
  have e0 := h0 (max k0 k1) (Nat.le_max_left _ _)
  have e1 := h1 (max k0 k1) (Nat.le_max_right _ _)
  rw [← e0, ← e1]

theorem lim_const {α : Type} (o : Option α) : lim (fun _ => o) = o := by
  cases o with
  | some r => exact lim_eq ⟨0, fun _ _ => rfl⟩
  | none =>
    cases h : lim (fun _ : Nat => (none : Option α)) with
    | none => rfl
    | some r => obtain ⟨k0, h0⟩ := lim_some h; exact absurd (h0 k0 (Nat.le_refl _)) (by simp)

theorem lim_succ {α : Type} (m : Nat → Option α) : lim (fun k => m (k + 1)) = lim m := by
  cases h : lim m with
  | some r =>
    obtain ⟨k0, h0⟩ := lim_some h
    exact lim_eq ⟨k0, fun k hk => h0 _ (by omega)⟩
  | none =>
    cases h1 : lim (fun k => m (k + 1)) with
    | none => rfl
    | some r =>
      obtain ⟨k0, h0⟩ := lim_some h1
      have : lim m = some r := lim_eq ⟨k0 + 1, fun k hk => by have := h0 (k - 1) (by omega); rwa [Nat.sub_add_cancel (by omega)] at this⟩
      rw [h] at this
      exact this.symm

noncomputable def callL (P : Program) (pol : FuncId → FPol) : CallF := fun lo f args σ => lim fun k => callK P pol k lo f args σ

noncomputable def iterL (body : Frame → Store → Option St) (a : Frame) (σ : Store) : Option St := lim fun k => iter body k a σ

theorem iterL_eq (body : Frame → Store → Option St) (a : Frame) (σ : Store) : iterL body a σ = match body a σ with
    | some (.normal, a', σ') => iterL body a' σ'
    | r => r := by
  unfold iterL
  rw [← lim_succ]
  simp only [iter]
  cases body a σ with
  | none => exact lim_const none
  | some r =>
    obtain ⟨ex, a', σ'⟩ := r
    cases ex with
    | normal => rfl
    | exit i => exact lim_const _
    | ret => exact lim_const _

/-! ### Continuation style -/
def pickV (c x y : DV) : Option DV := match c with
  | .p (.bool b) => some (if b then x else y)
  | _ => none
def boxV (v : DV) : Option (List DV) := if v.cells.all DV.one then some v.cells else none
def nilCheckV : DV → Option DV
  | .ptr r off => some (.ptr r off)
  | .pptr cs off => some (.pptr cs off)
  | _ => none
def extractV (x : DV) (i : Nat) : Option DV := match x with
  | .tuple vs => vs[i]?
  | _ => none
def pureV (call : CallF) (f : FuncId) (args : List DV) (σ : Store) : Option DV :=
  if (args.map view).all rowFree then
    match call 0 f (args.map view) [] with
    | some (v, σ') => thawAll 0 σ' v
    | none => none
  else
    match call σ.length f (args.map view) σ with
    | some (v, σ') => thawAll σ.length σ' v
    | none => none
def pureFn (call : CallF) (g : DV) (args : List DV) (σ : Store) : Option DV := match g with
  | .fn f caps => pureV call f (args ++ caps) σ
  | _ => none
def plainFn (call : CallF) (lo : Nat) (g : DV) (args : List DV) (σ : Store) : Option (DV × Store) := match g with
  | .fn f caps => call lo f (args ++ caps) σ
  | _ => none

theorem pureCall_eq (call : CallF) (f : FuncId) (args : List DV) (σ : Store) : pureCall call f args σ = (pureV call f args σ).map (·, σ) := by
  unfold pureCall pureV
  split
  · cases call 0 f (args.map view) [] <;> rfl
  · cases call σ.length f (args.map view) σ <;> rfl

section
variable {β : Type}

def opK (P : Program) (pl : FPol) (call : CallF) (lo : Nat) (a : Frame) (o : Oper) (σ : Store) (K : DV → Store → Option β) : Option β :=
  match o.op with
  | .move x | .assign x => K (ev a x) σ
  | .pick c x y => (pickV (ev a c) (ev a x) (ev a y)).bind fun v => K v σ
  | .alloc t => (zeroOf P t).bind fun z => K (.ptr σ.length 0) (σ ++ [.mix z])
  | .box _ x => (boxV (ev a x)).bind fun cs => K (.ptr σ.length 0) (σ ++ [.mix cs])
  | .build t ps => (build P t (ps.toList.map fun q => (q.1, ev a q.2))).bind fun v => K v σ
  | .buildSlice t n ps => (buildSlice P (pl.asRow o.dst) t n (ps.toList.map fun q => (q.1, ev a q.2)) σ).bind fun r => K r.1 r.2
  | .load t x => (loadP P pl o.dst t (ev a x) σ).bind fun v => K v σ
  | .store t x y => (store P lo t (ev a x) (ev a y) σ).bind fun σ' => K .undef σ'
  | .nilCheck x => (nilCheckV (ev a x)).bind fun v => K v σ
  | .binOp op t x y _ => (binOp P op t (ev a x) (ev a y)).bind fun v => K v σ
  | .unOp op _ x => (unOp op (ev a x)).bind fun v => K v σ
  | .convert s d x => (convert P s d (ev a x)).bind fun v => K v σ
  | .makeFunc (.func f) first caps => if first.size = 0 then K (.fn f (caps.toList.map (ev a))) σ else none
  | .makeMap _ none => K (.map σ.length) (σ ++ [.map []])
  | .makeSlice t l c => (makeSlice P (pl.isMixed o.dst) t (ev a l) (ev a c) σ).bind fun r => K r.1 r.2
  | .slice t x l h m => (sliceOp P t (ev a x) (l.map (ev a)) (h.map (ev a)) (m.map (ev a))).bind fun v => K v σ
  | .fieldAddr t x i => (fieldAddr P t (ev a x) i).bind fun v => K v σ
  | .field t x i => (field P t (ev a x) i).bind fun v => K v σ
  | .indexAddr t x i => (indexAddr P t (ev a x) (ev a i)).bind fun v => K v σ
  | .index t x i => (index P t (ev a x) (ev a i)).bind fun v => K v σ
  | .lookup t x i ok => (lookup P t (ev a x) (ev a i) ok σ).bind fun v => K v σ
  | .mapUpdate t m k v => (mapUpdate P lo t (ev a m) (ev a k) (ev a v) σ).bind fun σ' => K .undef σ'
  | .extract x i => (extractV (ev a x) i).bind fun v => K v σ
  | .call c =>
    match c.callee with
    | .builtin .len => if c.args.size = 1 ∧ c.argTypes.size = 1 then (len P (c.argTypes.getD 0 0) (ev a (c.args.getD 0 (.const undef))) σ).bind fun v => K v σ else none
    | .builtin .append => if c.args.size = 2 ∧ c.argTypes.size = 2 then (append P lo (pl.isMixed o.dst) (c.argTypes.getD 0 0) (c.argTypes.getD 1 0) (ev a (c.args.getD 0 (.const undef))) (ev a (c.args.getD 1 (.const undef))) σ).bind fun r => K r.1 r.2 else none
    | .builtin .max => (maxMin true (c.args.toList.map (ev a))).bind fun v => K v σ
    | .builtin .min => (maxMin false (c.args.toList.map (ev a))).bind fun v => K v σ
    | .builtin _ => none
    | .value g => if pl.isPlain o.dst then (plainFn call lo (ev a g) (c.args.toList.map (ev a)) σ).bind fun r => K r.1 r.2
      else (pureFn call (ev a g) (c.args.toList.map (ev a)) σ).bind fun v => K v σ
    | .invoke _ _ => none
  | _ => none

theorem bind_map' {α γ : Type} (m : Option α) (f : α → γ) (K : γ → Option β) : (m.map f).bind K = m.bind fun v => K (f v) := by cases m <;> rfl

theorem opK_eq (P : Program) (pl : FPol) (call : CallF) (lo : Nat) (a : Frame) (o : Oper) (σ : Store) (K : DV → Store → Option β) : opK P pl call lo a o σ K = (op P pl call lo a o σ).bind fun r => K r.1 r.2 := by
  cases ho : o.op <;> simp only [opK, op, ho, bind_map', Option.bind_some, Option.bind_none]
  case pick c x y =>
    unfold pickV
    generalize ev a c = g
    cases g with
    | p v => cases v <;> rfl
    | _ => rfl
  case box => unfold boxV; split <;> rfl
  case nilCheck x =>
    unfold nilCheckV
    generalize ev a x = g
    cases g <;> rfl
  case extract x i =>
    unfold extractV
    generalize ev a x = g
    cases g <;> simp only [bind_map', Option.bind_none]
  case makeFunc f first caps => cases f <;> first | rfl | (simp only []; split <;> rfl)
  case makeMap t n => cases n <;> rfl
  case call c =>
    cases hc : c.callee <;> try rfl
    case builtin b =>
      cases b <;> try rfl
      all_goals first | exact bind_map' _ _ _ | (by_cases h : c.args.size = 1 ∧ c.argTypes.size = 1 <;> simp only [h, and_self, if_true, if_false, bind_map', Option.bind_none]; done) | (by_cases h : c.args.size = 2 ∧ c.argTypes.size = 2 <;> simp only [h, and_self, if_true, if_false, bind_map', Option.bind_none]; done)
    case value g =>
      show (if pl.isPlain o.dst then _ else _) = Option.bind (match ev a g with
        | DV.fn f caps => if pl.isPlain o.dst = true then call lo f (List.map (ev a) c.args.toList ++ caps) σ else pureCall call f (List.map (ev a) c.args.toList ++ caps) σ
        | _ => none) _
      unfold plainFn pureFn
      cases pl.isPlain o.dst <;> cases ev a g <;> first | rfl | (simp only [pureCall_eq, bind_map', Bool.false_eq_true, if_false, if_true]; done) | (simp only [pureCall_eq, bind_map', Bool.false_eq_true, if_false, if_true]; rfl)

def guardVal (all : Array Oper) (a : Frame) (j : Nat) : DV := match (all[j]?).bind (·.dst) with
  | some t => a.getD t .undef
  | none => .undef
def guardK (g : DV) (want : Bool) (m : Option (DV × Store)) (σ : Store) (K : DV → Store → Option β) : Option β := match g with
  | .p (.bool b) => if (b == want) = true then m.bind (fun r => K r.1 r.2) else K .skip σ
  | .tuple [] => K .skip σ
  | _ => none

def opsK (P : Program) (pl : FPol) (call : CallF) (all : Array Oper) (lows : Bool → Store → Nat) : List Oper → List Bool → Frame → Store → (Frame → Store → Option β) → Option β
  | [], _, a, σ, K => K a σ
  | o :: os, cs, a, σ, K => match o.guard with
    | none => opK P pl call (lows (cs.headD true) σ) a o σ fun v σ' => opsK P pl call all lows os cs.tail (put a o.dst v) σ' K
    | some (j, want) => guardK (guardVal all a j) want (opK P pl call (lows (cs.headD true) σ) a o σ fun v σ' => some (v, σ')) σ fun v σ' => opsK P pl call all lows os cs.tail (put a o.dst v) σ' K

theorem wantedD_guard {all : Array Oper} {a : Frame} {o : Oper} {j : Nat} {want : Bool} (h : o.guard = some (j, want)) :
    wantedD all a o = match guardVal all a j with | .p (.bool b) => some (b == want) | .tuple [] => some false | _ => none := by
  unfold wantedD guardVal
  rw [h]
  simp only []
  cases (all[j]?).bind (·.dst) <;> rfl

theorem opsK_eq (P : Program) (pl : FPol) (call : CallF) (all : Array Oper) (lows : Bool → Store → Nat) : ∀ (os : List Oper) (cs : List Bool) (a : Frame) (σ : Store) (K : Frame → Store → Option β),
    opsK P pl call all lows os cs a σ K = (opsD P pl call all lows os cs a σ).bind fun r => K r.1 r.2
  | [], cs, a, σ, K => rfl
  | o :: os, cs, a, σ, K => by
    simp only [opsK, opsD]
    cases hg : o.guard with
    | none =>
      have hw : wantedD all a o = some true := by unfold wantedD; rw [hg]
      rw [hw]
      simp only [opK_eq]
      cases op P pl call (lows (cs.headD true) σ) a o σ with
      | none => rfl
      | some r => exact opsK_eq P pl call all lows os cs.tail _ _ K
    | some g =>
      obtain ⟨j, want⟩ := g
      rw [wantedD_guard hg]
      simp only [opK_eq]
      generalize guardVal all a j = g
      cases g with
      | p v =>
        cases v with
        | bool b =>
          simp only [guardK]
          by_cases hb : (b == want) = true
          · rw [if_pos hb, hb]
            cases op P pl call (lows (cs.headD true) σ) a o σ with
            | none => rfl
            | some r => exact opsK_eq P pl call all lows os cs.tail _ _ K
          · rw [if_neg hb]
            have hb : (b == want) = false := by simpa using hb
            rw [hb]
            exact opsK_eq P pl call all lows os cs.tail _ _ K
        | _ => rfl
      | tuple vs =>
        cases vs with
        | nil => exact opsK_eq P pl call all lows os cs.tail _ _ K
        | cons v vs => rfl
      | _ => rfl

def condK (c : DV) (x y : Option β) : Option β := match c with
  | .p (.bool true) => x
  | .p (.bool false) => y
  | _ => none

def roundsK (run : List DV → Store → (Ex → Store → Option β) → Option β) : List (List DV) → Store → (Ex → Store → Option β) → Option β
  | [], σ, K => K .normal σ
  | xs :: rest, σ, K => run xs σ fun ex σ' => match ex with
    | .normal => roundsK run rest σ' K
    | ex => K ex σ'
end

noncomputable def loopWith {β : Type} (body : Frame → Store → Option St) (a : Frame) (σ : Store) (K : Ex → Frame → Store → Option β) : Option β :=
  (iterL body a σ).bind fun r => K r.1 r.2.1 r.2.2

noncomputable def codeK (P : Program) (pl : FPol) (call : CallF) (lo : Nat) : Code → {β : Type} → Ann → Frame → Store → (Ex → Frame → Store → Option β) → Option β
  | .skip, _, _, a, σ, K => K .normal a σ
  | .region _ ops draw, _, _, a, σ, K => if draw then (if pl.rload.isEmpty then opsK P pl call ops (lowOf lo) ops.toList (flags pl ops) a σ (K .normal) else none) else opsK P pl call ops (fun _ _ => lo) ops.toList [] a σ (K .normal)
  | .seq x y, _, an, a, σ, K => codeK P pl call lo x an.left a σ fun ex a' σ' => match ex with
    | .normal => codeK P pl call lo y an.right a' σ' K
    | ex => K ex a' σ'
  | .cond c x y, _, an, a, σ, K => condK (ev a c) (codeK P pl call lo x an.left a σ K) (codeK P pl call lo y an.right a σ K)
  | .block id x, _, an, a, σ, K => codeK P pl call lo x an.left a σ fun ex a' σ' => match ex with
    | .normal => K .normal (an.cut a') σ'
    | .exit i => if i = id then K .normal (an.cut a') σ' else K (.exit i) a' σ'
    | .ret => K .ret a' σ'
  | .loop x, _, an, a, σ, K => loopWith (fun a σ => codeK P pl call lo x an.left (an.cut a) σ fun ex a σ => some (ex, a, σ)) (an.cut a) σ K
  | .exit id, _, _, a, σ, K => K (.exit id) a σ
  | .ret, _, _, a, σ, K => K .ret a σ
  | .rangeFunc g ps x y, _, an, a, σ, K => match ev a g with
    | .fn f caps => match (pl.seq f).bind fun kind => seqList kind caps with
      | some xss =>
        if xss.all (·.length == ps.size) && !hasRange x && !hasRange y then
          roundsK (fun xs σ K' => codeK P pl call lo x .nil (putAll ps.toList xs a) σ fun ex a1 σ1 => match ex with
            | .normal => codeK P pl call lo y an.left a1 σ1 fun ex _ σ2 => K' ex σ2
            | _ => none) xss σ fun ex σ' => K ex a σ'
        else none
      | none => none
    | _ => none
  | _, _, _, _, _, _ => none

end Go.D
end
/- D without fuel is sound: what the continuation style answers, the evaluator answers with enough fuel. -/
section
set_option linter.unusedVariables false
set_option linter.unusedSimpArgs false
namespace Go.D

variable {P : Program} {pol : FuncId → FPol}

/-- From some fuel on. -/
def Evt {α : Type} (m : Nat → Option α) (r : α) : Prop := ∃ k0, ∀ k, k0 ≤ k → m k = some r

theorem pureV_evt {f : FuncId} {args : List DV} {σ : Store} {v : DV} (h : pureV (callL P pol) f args σ = some v) : Evt (fun k => pureV (callK P pol k) f args σ) v := by
  unfold pureV at h
  split at h
  · rename_i hc
    split at h
    · rename_i v1 σ1 h1
      obtain ⟨k0, h0⟩ := lim_some h1
      refine ⟨k0, fun k hk => ?_⟩
      show pureV _ _ _ _ = _
      unfold pureV
      rw [if_pos hc, h0 k hk]
      exact h
    · exact absurd h (by simp)
  · rename_i hc
    split at h
    · rename_i v1 σ1 h1
      obtain ⟨k0, h0⟩ := lim_some h1
      refine ⟨k0, fun k hk => ?_⟩
      show pureV _ _ _ _ = _
      unfold pureV
      rw [if_neg hc, h0 k hk]
      exact h
    · exact absurd h (by simp)

theorem op_evt {pl : FPol} {lo : Nat} {a : Frame} {o : Oper} {σ : Store} {r : DV × Store} (h : op P pl (callL P pol) lo a o σ = some r) : Evt (fun k => op P pl (callK P pol k) lo a o σ) r := by
  unfold op at h
  cases ho : o.op with
  | call c =>
    simp only [ho] at h
    cases hc : c.callee with
    | value g =>
      simp only [hc] at h
      cases hg : ev a g with
      | fn f caps =>
        simp only [hg] at h
        by_cases hp : pl.isPlain o.dst = true
        · rw [if_pos hp] at h
          obtain ⟨k0, h0⟩ := lim_some h
          refine ⟨k0, fun k hk => ?_⟩
          simp only [op, ho, hc, hg, if_pos hp]
          exact h0 k hk
        · rw [if_neg hp, pureCall_eq] at h
          obtain ⟨v, hv, rfl⟩ := Option.map_eq_some_iff.1 h
          obtain ⟨k0, h0⟩ := pureV_evt hv
          refine ⟨k0, fun k hk => ?_⟩
          simp only [op, ho, hc, hg, if_neg hp, pureCall_eq]
          have := h0 k hk
          simp only [this, Option.map_some]
      | _ => simp [hg] at h
    | builtin b => cases b <;> exact ⟨0, fun k _ => by unfold op; simp only [ho, hc]; simpa only [hc] using h⟩
    | invoke r m => exact ⟨0, fun k _ => by unfold op; simp only [ho, hc]; simpa only [hc] using h⟩
  | makeFunc f first caps => cases f <;> exact ⟨0, fun k _ => by unfold op; simpa only [ho] using h⟩
  | makeMap t n => cases n <;> exact ⟨0, fun k _ => by unfold op; simpa only [ho] using h⟩
  | _ => exact ⟨0, fun k _ => by unfold op; simpa only [ho] using h⟩

theorem opsD_evt {pl : FPol} {all : Array Oper} {lows : Bool → Store → Nat} : ∀ {os : List Oper} {cs : List Bool} {a : Frame} {σ : Store} {r : Frame × Store}, opsD P pl (callL P pol) all lows os cs a σ = some r → Evt (fun k => opsD P pl (callK P pol k) all lows os cs a σ) r
  | [], cs, a, σ, r, h => ⟨0, fun _ _ => h⟩
  | o :: os, cs, a, σ, r, h => by
    simp only [opsD] at h
    split at h
    · rename_i hw
      split at h
      · rename_i v σ1 h1
        obtain ⟨k0, h0⟩ := op_evt h1
        obtain ⟨k1, h2⟩ := opsD_evt h
        refine ⟨max k0 k1, fun k hk => ?_⟩
        simp only [opsD, hw, h0 k (by omega), h2 k (by omega)]
      · exact absurd h (by simp)
    · rename_i hw
      obtain ⟨k1, h2⟩ := opsD_evt h
      exact ⟨k1, fun k hk => by simp only [opsD, hw, h2 k hk]⟩
    · exact absurd h (by simp)

theorem bind_some' {α γ : Type} {m : Option α} {K : α → Option γ} {r : γ} (h : m.bind K = some r) : ∃ x, m = some x ∧ K x = some r := Option.bind_eq_some_iff.1 h

theorem region_evt {β : Type} {pl : FPol} {lo id : Nat} {ops : Array Oper} {draw : Bool} {an : Ann} {a : Frame} {σ : Store} {K : Ex → Frame → Store → Option β} {r : β} (h : codeK P pl (callL P pol) lo (.region id ops draw) an a σ K = some r) :
    ∃ a' σ', K .normal a' σ' = some r ∧ Evt (fun k => region P pl (callK P pol k) lo ops draw a σ) (a', σ') := by
  unfold codeK at h
  cases draw with
  | true =>
    simp only [if_true, opsK_eq] at h
    split at h
    · rename_i he
      obtain ⟨⟨a', σ'⟩, h1, h2⟩ := bind_some' h
      obtain ⟨k0, h0⟩ := opsD_evt h1
      exact ⟨a', σ', h2, k0, fun k hk => by simp only [region, if_true, he, Bool.true_or]; exact h0 k hk⟩
    · exact absurd h (by simp)
  | false =>
    simp only [Bool.false_eq_true, if_false, opsK_eq] at h
    obtain ⟨⟨a', σ'⟩, h1, h2⟩ := bind_some' h
    obtain ⟨k0, h0⟩ := opsD_evt h1
    exact ⟨a', σ', h2, k0, fun k hk => by simp only [region, Bool.false_eq_true, if_false]; exact h0 k hk⟩

theorem mask_mask : ∀ (m : List Bool) (a : Frame), mask m (mask m a) = mask m a
  | _, [] => by simp [mask]
  | [], v :: a => by simp [mask, mask_mask [] a]
  | b :: m, v :: a => by cases b <;> simp [mask, mask_mask m a]

theorem cut_cut (an : Ann) (a : Frame) : an.cut (an.cut a) = an.cut a := by
  cases an with
  | keep m an => exact mask_mask m a
  | _ => rfl

theorem codeK_evt {pl : FPol} {lo : Nat} : ∀ (c : Code) {β : Type} {an : Ann} {a : Frame} {σ : Store} {K : Ex → Frame → Store → Option β} {r : β}, codeK P pl (callL P pol) lo c an a σ K = some r →
    ∃ ex a' σ', K ex a' σ' = some r ∧ Evt (fun k => code P pl (callK P pol k) k lo c an a σ) (ex, a', σ') := by
  intro c
  induction c with
  | skip =>
    intro β an a σ K r h
    exact ⟨_, a, σ, h, 0, fun _ _ => rfl⟩
  | region id ops draw =>
    intro β an a σ K r h
    obtain ⟨a', σ', h1, k0, h2⟩ := region_evt h
    exact ⟨.normal, a', σ', h1, k0, fun k hk => by simp only [code, h2 k hk, Option.map_some]⟩
  | seq x y ihx ihy =>
    intro β an a σ K r h
    unfold codeK at h
    obtain ⟨ex, a1, σ1, h1, k0, h0⟩ := ihx h
    cases ex with
    | normal =>
      obtain ⟨ex2, a2, σ2, h2, k1, h3⟩ := ihy h1
      exact ⟨ex2, a2, σ2, h2, max k0 k1, fun k hk => by simp only [code, h0 k (by omega), h3 k (by omega)]⟩
    | exit i => exact ⟨_, a1, σ1, h1, k0, fun k hk => by simp only [code, h0 k hk]⟩
    | ret => exact ⟨_, a1, σ1, h1, k0, fun k hk => by simp only [code, h0 k hk]⟩
  | cond c x y ihx ihy =>
    intro β an a σ K r h
    unfold codeK condK at h
    split at h
    · rename_i hc
      obtain ⟨ex, a1, σ1, h1, k0, h0⟩ := ihx h
      exact ⟨ex, a1, σ1, h1, k0, fun k hk => by simp only [code, hc]; exact h0 k hk⟩
    · rename_i hc
      obtain ⟨ex, a1, σ1, h1, k0, h0⟩ := ihy h
      exact ⟨ex, a1, σ1, h1, k0, fun k hk => by simp only [code, hc]; exact h0 k hk⟩
    · exact absurd h (by simp)
  | block id x ih =>
    intro β an a σ K r h
    unfold codeK at h
    obtain ⟨ex, a1, σ1, h1, k0, h0⟩ := ih h
    cases ex with
    | normal => exact ⟨_, _, σ1, h1, k0, fun k hk => by simp only [code, h0 k hk]⟩
    | exit i =>
      simp only [] at h1
      by_cases hi : i = id
      · rw [if_pos hi] at h1
        exact ⟨_, _, σ1, h1, k0, fun k hk => by simp only [code, h0 k hk, if_pos hi]⟩
      · rw [if_neg hi] at h1
        exact ⟨_, _, σ1, h1, k0, fun k hk => by simp only [code, h0 k hk, if_neg hi]⟩
    | ret => exact ⟨_, a1, σ1, h1, k0, fun k hk => by simp only [code, h0 k hk]⟩
  | loop x ih =>
    intro β an a σ K r h
    unfold codeK loopWith at h
    obtain ⟨⟨ex, a', σ'⟩, h1, h2⟩ := bind_some' h
    obtain ⟨j, hj⟩ := lim_some h1
    have hj := hj j (Nat.le_refl _)
    have key : ∀ (j : Nat) (a : Frame) (σ : Store), iter (fun a σ => codeK P pl (callL P pol) lo x an.left (an.cut a) σ fun ex a σ => some (ex, a, σ)) j a σ = some (ex, a', σ') →
        ∃ k0, ∀ k n, k0 ≤ k → k0 ≤ n → iter (fun a σ => code P pl (callK P pol k) k lo x an.left (an.cut a) σ) n a σ = some (ex, a', σ') := by
      intro j
      induction j with
      | zero => intro a σ h; exact absurd h (by simp [iter])
      | succ j ihj =>
        intro a σ h
        simp only [iter] at h
        split at h
        · rename_i a1 σ1 hb
          obtain ⟨ex2, a2, σ2, e, k0, h0⟩ := ih hb
          injection e with e; injection e with e1 e2; injection e2 with e2 e3; subst e1; subst e2; subst e3
          obtain ⟨k1, h3⟩ := ihj a2 σ2 h
          refine ⟨max k0 k1 + 1, fun k n hk hn => ?_⟩
          match n, hn with
          | n + 1, hn => simp only [iter, h0 k (by omega), h3 k n (by omega) (by omega)]
        · rename_i hne
          obtain ⟨ex2, a2, σ2, e, k0, h0⟩ := ih h
          injection e with e; injection e with e1 e2; injection e2 with e2 e3; subst e1; subst e2; subst e3
          refine ⟨k0 + 1, fun k n hk hn => ?_⟩
          match n, hn with
          | n + 1, hn =>
            simp only [iter, h0 k (by omega)]
            cases ex2 with
            | normal => exact absurd h (hne a2 σ2)
            | exit i => rfl
            | ret => rfl
    obtain ⟨k0, h0⟩ := key j _ σ hj
    refine ⟨ex, a', σ', h2, k0 + 1, fun k hk => ?_⟩
    simp only [code]
    have := h0 k k (by omega) (by omega)
    match k, hk with
    | k + 1, hk =>
      simp only [iter, cut_cut] at this ⊢
      exact this
  | exit id =>
    intro β an a σ K r h
    exact ⟨_, a, σ, h, 0, fun _ _ => rfl⟩
  | ret =>
    intro β an a σ K r h
    exact ⟨_, a, σ, h, 0, fun _ _ => rfl⟩
  | rangeFunc g ps x y ihx ihy =>
    intro β an a σ K r h
    unfold codeK at h
    split at h
    · rename_i f caps hg
      split at h
      · rename_i xss hx
        split at h
        · rename_i hc
          have key : ∀ (xss : List (List DV)) (σ : Store), roundsK (fun xs σ K' => codeK P pl (callL P pol) lo x .nil (putAll ps.toList xs a) σ fun ex a1 σ1 => match ex with
              | .normal => codeK P pl (callL P pol) lo y an.left a1 σ1 fun ex _ σ2 => K' ex σ2
              | _ => none) xss σ (fun ex σ' => K ex a σ') = some r →
              ∃ ex σ', K ex a σ' = some r ∧ Evt (fun k => roundsD (roundWith (fun a σ => code P pl (callK P pol k) k lo x .nil a σ) (fun a σ => code P pl (callK P pol k) k lo y an.left a σ) ps.toList a) xss σ) (ex, σ') := by
            intro xss
            induction xss with
            | nil => intro σ h; exact ⟨.normal, σ, h, 0, fun _ _ => rfl⟩
            | cons xs xss ihr =>
              intro σ h
              simp only [roundsK] at h
              obtain ⟨ex1, a1, σ1, h1, k0, h0⟩ := ihx h
              cases ex1 with
              | normal =>
                obtain ⟨ex2, a2, σ2, h2, k1, h3⟩ := ihy h1
                have hrw : ∀ k, max k0 k1 ≤ k → roundWith (fun a σ => code P pl (callK P pol k) k lo x .nil a σ) (fun a σ => code P pl (callK P pol k) k lo y an.left a σ) ps.toList a xs σ = some (ex2, σ2) := fun k hk => by
                  simp only [roundWith, h0 k (by omega), h3 k (by omega)]
                cases ex2 with
                | normal =>
                  obtain ⟨ex3, σ3, h4, k2, h5⟩ := ihr σ2 h2
                  refine ⟨ex3, σ3, h4, max (max k0 k1) k2, fun k hk => ?_⟩
                  simp only [roundsD, hrw k (by omega), h5 k (by omega)]
                | exit i => exact ⟨_, σ2, h2, max k0 k1, fun k hk => by simp only [roundsD, hrw k (by omega)]⟩
                | ret => exact ⟨_, σ2, h2, max k0 k1, fun k hk => by simp only [roundsD, hrw k (by omega)]⟩
              | exit i => exact absurd h1 (by simp)
              | ret => exact absurd h1 (by simp)
          obtain ⟨ex, σ', h1, k0, h0⟩ := key xss σ h
          refine ⟨ex, a, σ', h1, k0, fun k hk => ?_⟩
          simp only [code, hg, hx, if_pos hc]
          have := h0 k hk
          simp only at this
          rw [this]
          rfl
        · exact absurd h (by simp)
      · exact absurd h (by simp)
    · exact absurd h (by simp)
  | _ =>
    intro β an a σ K r h
    unfold codeK at h
    exact absurd h (by simp)

/-- What stands behind a function's code. -/
def finK (P : Program) (rs : List ResultVar) : Ex → Frame → Store → Option (DV × Store)
  | .normal, a, σ | .ret, a, σ => (resultsOf P a σ rs).bind fun vs => some (wrap vs, σ)
  | _, _, _ => none

theorem callL_of {f lo : Nat} {fn : Func} {c : Code} {args : List DV} {σ : Store} {r : DV × Store} (hf : P.funcs[f]? = some fn) (hname : (fn.name == "runtime.NumGoroutine") = false) (hb : fn.body = some c) (hd : drawsOk c = true)
    (h : codeK P (pol f) (callL P pol) lo c (pol f).ann (args ++ List.replicate (fn.ntmps - args.length) .undef) σ (finK P fn.results.toList) = some r) : callL P pol lo f args σ = some r := by
  obtain ⟨ex, a', σ', h1, k0, h0⟩ := codeK_evt c h
  refine lim_eq ⟨k0 + 1, fun k hk => ?_⟩
  match k, hk with
  | k + 1, hk =>
    have h0 := h0 k (by omega)
    simp only at h0
    simp only [callK, hf, hname, hb, hd, Bool.true_eq_false, if_false, h0]
    cases ex with
    | normal => obtain ⟨vs, hv, he⟩ := bind_some' h1; simp only [hv, Option.map_some]; exact he
    | ret => obtain ⟨vs, hv, he⟩ := bind_some' h1; simp only [hv, Option.map_some]; exact he
    | exit i => exact absurd h1 (by simp [finK])

/-! ### Loops, round by round -/
theorem codeK_bind {pl : FPol} {call : CallF} {lo : Nat} : ∀ (c : Code) {β γ : Type} {an : Ann} {a : Frame} {σ : Store} {K : Ex → Frame → Store → Option β} {J : β → Option γ},
    (codeK P pl call lo c an a σ K).bind J = codeK P pl call lo c an a σ fun ex a σ => (K ex a σ).bind J := by
  have hroundsK : ∀ {β γ : Type} {run : {β : Type} → List DV → Store → (Ex → Store → Option β) → Option β} (hr : ∀ {β γ : Type} xs σ (K : Ex → Store → Option β) (J : β → Option γ), (run xs σ K).bind J = run xs σ fun ex σ => (K ex σ).bind J) (J : β → Option γ) (K : Ex → Store → Option β) (xss : List (List DV)) (σ : Store),
      (roundsK run xss σ K).bind J = roundsK run xss σ fun ex σ => (K ex σ).bind J := by
    intro β γ run hr J K xss
    induction xss with
    | nil => intro σ; rfl
    | cons xs xss ih =>
      intro σ
      simp only [roundsK, hr]
      congr 1
      funext ex σ'
      cases ex with
      | normal => exact ih σ'
      | exit i => rfl
      | ret => rfl
  intro c
  induction c with
  | skip => intros; rfl
  | region id ops draw =>
    intro β γ an a σ K J
    cases draw with
    | false => simp only [codeK, opsK_eq, Option.bind_assoc, Bool.false_eq_true, if_false]
    | true =>
      simp only [codeK, opsK_eq, if_true]
      split
      · simp only [Option.bind_assoc]
      · rfl
  | seq x y ihx ihy =>
    intro β γ an a σ K J
    simp only [codeK, ihx]
    congr 1
    funext ex a' σ'
    cases ex with
    | normal => exact ihy
    | exit i => rfl
    | ret => rfl
  | cond c x y ihx ihy =>
    intro β γ an a σ K J
    simp only [codeK, ← ihx, ← ihy]
    unfold condK
    split <;> rfl
  | block id x ih =>
    intro β γ an a σ K J
    simp only [codeK, ih]
    congr 1
    funext ex a' σ'
    cases ex with
    | normal => rfl
    | exit i => simp only []; split <;> rfl
    | ret => rfl
  | loop x ih =>
    intro β γ an a σ K J
    simp only [codeK, loopWith, Option.bind_assoc]
  | exit id => intros; rfl
  | ret => intros; rfl
  | rangeFunc g ps x y ihx ihy =>
    intro β γ an a σ K J
    simp only [codeK]
    split
    · split
      · split
        · refine hroundsK (run := fun {β} xs σ K' => codeK P pl call lo x .nil (putAll ps.toList xs a) σ fun ex a1 σ1 => match ex with
              | .normal => codeK P pl call lo y an.left a1 σ1 fun ex _ σ2 => K' ex σ2
              | _ => none) (fun xs σ K J => ?_) J _ _ _
          rw [ihx]
          congr 1
          funext ex a1 σ1
          cases ex with
          | normal => exact ihy
          | exit i => rfl
          | ret => rfl
        · rfl
      · rfl
    · rfl
  | _ => intros; rfl

theorem loop_eq {β : Type} {pl : FPol} {call : CallF} {lo : Nat} {x : Code} {an : Ann} {a : Frame} {σ : Store} {K : Ex → Frame → Store → Option β} :
    codeK P pl call lo (.loop x) an a σ K = codeK P pl call lo x an.left (an.cut a) σ fun ex a' σ' => match ex with
      | .normal => codeK P pl call lo (.loop x) an a' σ' K
      | ex => K ex a' σ' := by
  have hcut : ∀ a σ, iterL (fun a σ => codeK P pl call lo x an.left (an.cut a) σ fun ex a σ => some (ex, a, σ)) (an.cut a) σ = iterL (fun a σ => codeK P pl call lo x an.left (an.cut a) σ fun ex a σ => some (ex, a, σ)) a σ := by
    intro a σ
    rw [iterL_eq, iterL_eq _ a]
    simp only [cut_cut]
  have h1 : codeK P pl call lo (.loop x) an a σ K = (iterL (fun a σ => codeK P pl call lo x an.left (an.cut a) σ fun ex a σ => some (ex, a, σ)) a σ).bind fun r => K r.1 r.2.1 r.2.2 := by
    simp only [codeK, loopWith, hcut]
  rw [h1, iterL_eq]
  have h2 : ∀ (J : St → Option β), (codeK P pl call lo x an.left (an.cut a) σ fun ex a σ => some (ex, a, σ)).bind J = codeK P pl call lo x an.left (an.cut a) σ fun ex a σ => J (ex, a, σ) := by
    intro J
    rw [codeK_bind]
    rfl
  refine Eq.trans ?_ (h2 fun r => match r.1 with
    | .normal => codeK P pl call lo (.loop x) an r.2.1 r.2.2 K
    | ex => K ex r.2.1 r.2.2)
  generalize (codeK P pl call lo x an.left (an.cut a) σ fun ex a σ => some (ex, a, σ)) = o
  cases o with
  | none => rfl
  | some r =>
    obtain ⟨ex, a', σ'⟩ := r
    cases ex with
    | normal => simp only [Option.bind_some, codeK, loopWith, hcut]
    | exit i => rfl
    | ret => rfl

end Go.D
end
/- More fuel answers the same. -/
section
set_option linter.unusedVariables false
set_option linter.unusedSimpArgs false
namespace Go.D

variable {P : Program}

def CallLe (c c' : CallF) : Prop := ∀ lo f args σ r, c lo f args σ = some r → c' lo f args σ = some r

theorem pureCall_le {c c' : CallF} (h : CallLe c c') {f : FuncId} {args : List DV} {σ : Store} {r : DV × Store} (hr : pureCall c f args σ = some r) : pureCall c' f args σ = some r := by
  unfold pureCall at hr ⊢
  split at hr
  · rename_i hc
    rw [if_pos hc]
    split at hr
    · rename_i v1 σ1 h1
      rw [h _ _ _ _ _ h1]; exact hr
    · exact absurd hr (by simp)
  · rename_i hc
    rw [if_neg hc]
    split at hr
    · rename_i v1 σ1 h1
      rw [h _ _ _ _ _ h1]; exact hr
    · exact absurd hr (by simp)

theorem op_le {c c' : CallF} (h : CallLe c c') {pl : FPol} {lo : Nat} {a : Frame} {o : Oper} {σ : Store} {r : DV × Store} (hr : op P pl c lo a o σ = some r) : op P pl c' lo a o σ = some r := by
  unfold op at hr
  cases ho : o.op with
  | call q =>
    simp only [ho] at hr
    cases hc : q.callee with
    | value g =>
      simp only [hc] at hr
      cases hg : ev a g with
      | fn f caps =>
        simp only [hg] at hr
        simp only [op, ho, hc, hg]
        by_cases hp : pl.isPlain o.dst = true
        · rw [if_pos hp] at hr ⊢
          exact h _ _ _ _ _ hr
        · rw [if_neg hp] at hr ⊢
          exact pureCall_le h hr
      | _ => simp [hg] at hr
    | builtin b => cases b <;> (unfold op; simp only [ho, hc]; simpa only [hc] using hr)
    | invoke r m => unfold op; simp only [ho, hc]; simpa only [hc] using hr
  | makeFunc f first caps => cases f <;> (unfold op; simpa only [ho] using hr)
  | makeMap t n => cases n <;> (unfold op; simpa only [ho] using hr)
  | _ => unfold op; simpa only [ho] using hr

theorem opsD_le {c c' : CallF} (h : CallLe c c') {pl : FPol} {all : Array Oper} {lows : Bool → Store → Nat} : ∀ {os : List Oper} {cs : List Bool} {a : Frame} {σ : Store} {r : Frame × Store}, opsD P pl c all lows os cs a σ = some r → opsD P pl c' all lows os cs a σ = some r
  | [], cs, a, σ, r, hr => hr
  | o :: os, cs, a, σ, r, hr => by
    simp only [opsD] at hr ⊢
    split at hr
    · rename_i hw
      split at hr
      · rename_i v σ1 h1
        simp only [hw, op_le h h1]
        exact opsD_le h hr
      · exact absurd hr (by simp)
    · rename_i hw
      try simp only [hw]
      exact opsD_le h hr
    · exact absurd hr (by simp)

theorem traceD_le {c c' : CallF} (h : CallLe c c') {pl : FPol} {all : Array Oper} {lows : Bool → Store → Nat} : ∀ {os : List Oper} {cs : List Bool} {a : Frame} {σ : Store} {r : Frame × Store}, opsD P pl c all lows os cs a σ = some r → traceD P pl c all lows os cs a σ = traceD P pl c' all lows os cs a σ
  | [], cs, a, σ, r, hr => rfl
  | o :: os, cs, a, σ, r, hr => by
    simp only [opsD] at hr
    simp only [traceD]
    split at hr
    · rename_i hw
      split at hr
      · rename_i v σ1 h1
        simp only [hw, h1, op_le h h1, traceD_le h hr]
      · exact absurd hr (by simp)
    · rename_i hw
      simp only [hw, traceD_le h hr]
    · exact absurd hr (by simp)

theorem iter_le {b b' : Frame → Store → Option St} (h : ∀ a σ r, b a σ = some r → b' a σ = some r) : ∀ (k k' : Nat) (a : Frame) (σ : Store) (r : St), k ≤ k' → iter b k a σ = some r → iter b' k' a σ = some r
  | 0, k', a, σ, r, hk, hr => absurd hr (by simp [iter])
  | k + 1, 0, a, σ, r, hk, hr => absurd hk (by omega)
  | k + 1, k' + 1, a, σ, r, hk, hr => by
    simp only [iter] at hr ⊢
    split at hr
    · rename_i a1 σ1 h1
      rw [h _ _ _ h1]
      exact iter_le h k k' a1 σ1 r (by omega) hr
    · rename_i hne
      have h2 := h _ _ _ hr
      rw [h2]
      obtain ⟨ex, a1, σ1⟩ := r
      cases ex with
      | normal => exact absurd hr (hne a1 σ1)
      | exit i => rfl
      | ret => rfl

theorem roundsD_le {b b' : List DV → Store → Option (Ex × Store)} (h : ∀ xs σ r, b xs σ = some r → b' xs σ = some r) : ∀ (xss : List (List DV)) (σ : Store) (r : Ex × Store), roundsD b xss σ = some r → roundsD b' xss σ = some r
  | [], σ, r, hr => hr
  | xs :: xss, σ, r, hr => by
    simp only [roundsD] at hr ⊢
    split at hr
    · rename_i σ1 h1
      rw [h _ _ _ h1]
      exact roundsD_le h xss σ1 r hr
    · rename_i hne
      have h2 := h _ _ _ hr
      rw [h2]
      obtain ⟨ex, σ1⟩ := r
      cases ex with
      | normal => exact absurd hr (hne σ1)
      | exit i => rfl
      | ret => rfl

theorem code_le {c c' : CallF} (h : CallLe c c') {pl : FPol} {k k' lo : Nat} (hk : k ≤ k') : ∀ (x : Code) (an : Ann) (a : Frame) (σ : Store) (r : St), code P pl c k lo x an a σ = some r → code P pl c' k' lo x an a σ = some r := by
  intro x
  induction x with
  | region id ops draw =>
    intro an a σ r hr
    simp only [code] at hr ⊢
    obtain ⟨⟨a1, σ1⟩, h1, rfl⟩ := Option.map_eq_some_iff.1 hr
    have : region P pl c' lo ops draw a σ = some (a1, σ1) := by
      unfold region at h1 ⊢
      cases draw with
      | true =>
        simp only [if_true] at h1 ⊢
        split at h1
        · rename_i hst
          have hst2 : (pl.rload.isEmpty || stableB P pl ops.toList (traceD P pl c' ops (lowOf lo) ops.toList (flags pl ops) a σ)) = true := by
            rw [← traceD_le h h1]; exact hst
          rw [if_pos hst2]
          exact opsD_le h h1
        · exact absurd h1 (by simp)
      | false => simp only [Bool.false_eq_true, if_false] at h1 ⊢; exact opsD_le h h1
    rw [this]; rfl
  | seq x y ihx ihy =>
    intro an a σ r hr
    simp only [code] at hr ⊢
    split at hr
    · rename_i a1 σ1 h1
      rw [ihx _ _ _ _ h1]
      exact ihy _ _ _ _ hr
    · rename_i hne
      have h2 := ihx _ _ _ _ hr
      rw [h2]
      obtain ⟨ex, a1, σ1⟩ := r
      cases ex with
      | normal => exact absurd hr (hne a1 σ1)
      | exit i => rfl
      | ret => rfl
  | cond q x y ihx ihy =>
    intro an a σ r hr
    simp only [code] at hr ⊢
    split at hr
    · rename_i hc; (try simp only [hc]); exact ihx _ _ _ _ hr
    · rename_i hc; (try simp only [hc]); exact ihy _ _ _ _ hr
    · exact absurd hr (by simp)
  | block id x ih =>
    intro an a σ r hr
    simp only [code] at hr ⊢
    split at hr
    · rename_i h1; rw [ih _ _ _ _ h1]; exact hr
    · rename_i h1; rw [ih _ _ _ _ h1]; exact hr
    · rename_i h1; rw [ih _ _ _ _ h1]; exact hr
    · exact absurd hr (by simp)
  | loop x ih =>
    intro an a σ r hr
    simp only [code] at hr ⊢
    exact iter_le (fun a σ r hr => ih _ _ _ _ hr) _ _ _ _ _ hk hr
  | rangeFunc g ps x y ihx ihy =>
    intro an a σ r hr
    simp only [code] at hr ⊢
    split at hr
    · rename_i f caps hg
      try simp only [hg]
      split at hr
      · rename_i xss hx
        try simp only [hx]
        split at hr
        · rename_i hc
          rw [if_pos hc]
          obtain ⟨⟨ex, σ1⟩, h1, rfl⟩ := Option.map_eq_some_iff.1 hr
          rw [roundsD_le (fun xs σ r hr => ?_) _ _ _ h1]
          · rfl
          · obtain ⟨ex, σ2⟩ := r
            obtain ⟨a1, σ1, a2, h2, h3⟩ := roundWith_some hr
            simp only [roundWith, ihx _ _ _ _ h2, ihy _ _ _ _ h3]
        · exact absurd hr (by simp)
      · exact absurd hr (by simp)
    · exact absurd hr (by simp)
  | _ =>
    intro an a σ r hr
    simp only [code] at hr ⊢
    exact hr

theorem callK_le {pol : FuncId → FPol} : ∀ k, CallLe (callK P pol k) (callK P pol (k + 1))
  | 0 => fun lo f args σ r h => absurd h (by simp [callK])
  | k + 1 => by
    intro lo f args σ r h
    rw [callK] at h ⊢
    split at h
    · rename_i fn hf
      split at h
      · rename_i c hname hb
        try simp only [hf, hname, hb]
        split at h
        · exact absurd h (by simp)
        rename_i hd
        rw [if_neg hd]
        split at h
        · rename_i a1 σ1 h1
          rw [code_le (callK_le k) (Nat.le_succ k) _ _ _ _ _ h1]
          exact h
        · rename_i a1 σ1 h1
          rw [code_le (callK_le k) (Nat.le_succ k) _ _ _ _ _ h1]
          exact h
        · exact absurd h (by simp)
      · exact absurd h (by simp)
    · exact absurd h (by simp)

theorem callL_at {pol : FuncId → FPol} {k lo : Nat} {f : FuncId} {args : List DV} {σ : Store} {r : DV × Store} (h : callK P pol k lo f args σ = some r) : callL P pol lo f args σ = some r := by
  refine lim_eq ⟨k, fun m hm => ?_⟩
  obtain ⟨d, rfl⟩ := Nat.exists_eq_add_of_le hm
  clear hm
  induction d with
  | zero => exact h
  | succ d ih => exact callK_le (k + d) _ _ _ _ _ ih

end Go.D
end
/- The continuation style once more, so that a kernel works out frames as it goes. -/
section
set_option linter.unusedVariables false
set_option linter.unusedSimpArgs false
namespace Go.D

section
variable {β : Type}
/-- Definitions that name 'high' are taller than guardK: a kernel opens them first. -/
def tall : Unit := (fun (_ : DV → Bool → Option (DV × Store) → Store → (DV → Store → Option Unit) → Option Unit) => ()) guardK
def high (x : β) : β := match tall with | () => x
theorem high_eq (x : β) : high x = x := rfl

def getK : List DV → Nat → (DV → β) → β
  | [], _, K => K .undef
  | x :: _, 0, K => high (K x)
  | _ :: xs, n + 1, K => getK xs n K
theorem getK_eq : ∀ (a : List DV) (n : Nat) (K : DV → β), getK a n K = K (a.getD n .undef)
  | [], n, K => by simp [getK]
  | x :: _, 0, K => rfl
  | _ :: xs, n + 1, K => by simpa [getK] using getK_eq xs n K
def evK (a : Frame) (x : Operand) (K : DV → β) : β := match x with
  | .tmp t => getK a t K
  | .const v => K (cst v)
  | .global _ => K .undef
  | .func f => K (.fn f [])
theorem evK_eq (a : Frame) (x : Operand) (K : DV → β) : evK a x K = K (ev a x) := by
  cases x <;> first | rfl | exact getK_eq _ _ _
def evsK (a : Frame) : List Operand → (List DV → β) → β
  | [], K => K []
  | x :: xs, K => evK a x fun v => evsK a xs fun vs => K (v :: vs)
theorem evsK_eq (a : Frame) : ∀ (xs : List Operand) (K : List DV → β), evsK a xs K = K (xs.map (ev a))
  | [], K => rfl
  | x :: xs, K => by simp only [evsK, evK_eq, evsK_eq a xs, List.map_cons]
def partsK (a : Frame) : List (Nat × Operand) → (List (Nat × DV) → β) → β
  | [], K => K []
  | q :: xs, K => evK a q.2 fun v => partsK a xs fun vs => K ((q.1, v) :: vs)
theorem partsK_eq (a : Frame) : ∀ (xs : List (Nat × Operand)) (K : List (Nat × DV) → β), partsK a xs K = K (xs.map fun q => (q.1, ev a q.2))
  | [], K => rfl
  | q :: xs, K => by simp only [partsK, evK_eq, partsK_eq a xs, List.map_cons]
def optK (a : Frame) (x : Option Operand) (K : Option DV → β) : β := match x with
  | none => K none
  | some x => evK a x fun v => K (some v)
theorem optK_eq (a : Frame) (x : Option Operand) (K : Option DV → β) : optK a x K = K (x.map (ev a)) := by
  cases x <;> simp [optK, evK_eq]
def setK : List DV → Nat → DV → (List DV → β) → β
  | [], _, _, K => K []
  | x :: xs, 0, v, K => high (K (v :: xs))
  | x :: xs, n + 1, v, K => setK xs n v fun xs' => K (x :: xs')
theorem setK_eq : ∀ (a : List DV) (n : Nat) (v : DV) (K : List DV → β), setK a n v K = K (a.set n v)
  | [], n, v, K => by simp [setK]
  | x :: xs, 0, v, K => by simp [setK, high_eq]
  | x :: xs, n + 1, v, K => by simp [setK, setK_eq xs n v]
def putK (a : Frame) (d : Option Tmp) (v : DV) (K : Frame → β) : β := match d with
  | some d => setK a d v K
  | none => K a
theorem putK_eq (a : Frame) (d : Option Tmp) (v : DV) (K : Frame → β) : putK a d v K = K (put a d v) := by
  cases d <;> first | rfl | exact setK_eq _ _ _ _
def maskK : List Bool → Frame → (Frame → β) → β
  | _, [], K => K []
  | [], v :: a, K => maskK [] a fun r => K (.undef :: r)
  | true :: bs, v :: a, K => maskK bs a fun r => K (v :: r)
  | false :: bs, v :: a, K => maskK bs a fun r => K (.undef :: r)
theorem maskK_eq : ∀ (m : List Bool) (a : Frame) (K : Frame → β), maskK m a K = K (mask m a)
  | m, [], K => by cases m <;> simp [maskK, mask]
  | [], v :: a, K => by simp [maskK, mask, maskK_eq [] a]
  | b :: bs, v :: a, K => by cases b <;> simp [maskK, mask, maskK_eq bs a]
def cutK (an : Ann) (a : Frame) (K : Frame → β) : β := match an with
  | .keep m _ => maskK m a K
  | _ => K a
theorem cutK_eq (an : Ann) (a : Frame) (K : Frame → β) : cutK an a K = K (an.cut a) := by
  cases an <;> first | rfl | exact maskK_eq _ _ _

def opF (P : Program) (pl : FPol) (call : CallF) (lo : Nat) (a : Frame) (o : Oper) (σ : Store) (K : DV → Store → Option β) : Option β :=
  match o.op with
  | .move x | .assign x => evK a x fun x => K x σ
  | .pick c x y => evK a c fun c => evK a x fun x => evK a y fun y => (pickV c x y).bind fun v => K v σ
  | .alloc t => (zeroOf P t).bind fun z => K (.ptr σ.length 0) (σ ++ [.mix z])
  | .box _ x => evK a x fun x => (boxV x).bind fun cs => K (.ptr σ.length 0) (σ ++ [.mix cs])
  | .build t ps => partsK a ps.toList fun ps => (build P t ps).bind fun v => K v σ
  | .buildSlice t n ps => partsK a ps.toList fun ps => (buildSlice P (pl.asRow o.dst) t n ps σ).bind fun r => K r.1 r.2
  | .load t x => evK a x fun x => (loadP P pl o.dst t x σ).bind fun v => K v σ
  | .store t x y => evK a x fun x => evK a y fun y => (store P lo t x y σ).bind fun σ' => K .undef σ'
  | .nilCheck x => evK a x fun x => (nilCheckV x).bind fun v => K v σ
  | .binOp op t x y _ => evK a x fun x => evK a y fun y => (binOp P op t x y).bind fun v => K v σ
  | .unOp op _ x => evK a x fun x => (unOp op x).bind fun v => K v σ
  | .convert s d x => evK a x fun x => (convert P s d x).bind fun v => K v σ
  | .makeFunc (.func f) first caps => if first.size = 0 then evsK a caps.toList fun cs => K (.fn f cs) σ else none
  | .makeMap _ none => K (.map σ.length) (σ ++ [.map []])
  | .makeSlice t l c => evK a l fun l => evK a c fun c => (makeSlice P (pl.isMixed o.dst) t l c σ).bind fun r => K r.1 r.2
  | .slice t x l h m => evK a x fun x => optK a l fun l => optK a h fun h => optK a m fun m => (sliceOp P t x l h m).bind fun v => K v σ
  | .fieldAddr t x i => evK a x fun x => (fieldAddr P t x i).bind fun v => K v σ
  | .field t x i => evK a x fun x => (field P t x i).bind fun v => K v σ
  | .indexAddr t x i => evK a x fun x => evK a i fun i => (indexAddr P t x i).bind fun v => K v σ
  | .index t x i => evK a x fun x => evK a i fun i => (index P t x i).bind fun v => K v σ
  | .lookup t x i ok => evK a x fun x => evK a i fun i => (lookup P t x i ok σ).bind fun v => K v σ
  | .mapUpdate t m k v => evK a m fun m => evK a k fun k => evK a v fun v => (mapUpdate P lo t m k v σ).bind fun σ' => K .undef σ'
  | .extract x i => evK a x fun x => (extractV x i).bind fun v => K v σ
  | .call c =>
    match c.callee with
    | .builtin .len => if c.args.size = 1 ∧ c.argTypes.size = 1 then evK a (c.args.getD 0 (.const undef)) fun x => (len P (c.argTypes.getD 0 0) x σ).bind fun v => K v σ else none
    | .builtin .append => if c.args.size = 2 ∧ c.argTypes.size = 2 then evK a (c.args.getD 0 (.const undef)) fun x => evK a (c.args.getD 1 (.const undef)) fun y => (append P lo (pl.isMixed o.dst) (c.argTypes.getD 0 0) (c.argTypes.getD 1 0) x y σ).bind fun r => K r.1 r.2 else none
    | .builtin .max => evsK a c.args.toList fun xs => (maxMin true xs).bind fun v => K v σ
    | .builtin .min => evsK a c.args.toList fun xs => (maxMin false xs).bind fun v => K v σ
    | .builtin _ => none
    | .value g => evK a g fun g => evsK a c.args.toList fun xs => if pl.isPlain o.dst then (plainFn call lo g xs σ).bind fun r => K r.1 r.2
      else (pureFn call g xs σ).bind fun v => K v σ
    | .invoke _ _ => none
  | _ => none

theorem opF_eq (P : Program) (pl : FPol) (call : CallF) (lo : Nat) (a : Frame) (o : Oper) (σ : Store) (K : DV → Store → Option β) : opF P pl call lo a o σ K = opK P pl call lo a o σ K := by
  cases ho : o.op
  case makeFunc f first caps => first | (simp only [opF, opK, ho, evK_eq, evsK_eq, partsK_eq, optK_eq]; done) | (cases f <;> simp only [opF, opK, ho, evsK_eq])
  case makeMap t n => first | (simp only [opF, opK, ho, evK_eq, evsK_eq, partsK_eq, optK_eq]; done) | (cases n <;> simp only [opF, opK, ho])
  case call c =>
    first
    | (simp only [opF, opK, ho, evK_eq, evsK_eq, partsK_eq, optK_eq]; done)
    | (simp only [opF, opK, ho]
       cases hc : c.callee with
       | builtin b => cases b <;> simp only [evK_eq, evsK_eq]
       | value g => simp only [evK_eq, evsK_eq]
       | invoke r m => rfl)
  all_goals simp only [opF, opK, ho, evK_eq, evsK_eq, partsK_eq, optK_eq]

def guardF (all : Array Oper) (a : Frame) (j : Nat) (K : DV → β) : β := match (all.toList[j]?).bind (·.dst) with
  | some t => getK a t K
  | none => K .undef
theorem guardF_eq (all : Array Oper) (a : Frame) (j : Nat) (K : DV → β) : guardF all a j K = K (guardVal all a j) := by
  unfold guardF guardVal
  rw [Array.getElem?_toList]
  cases (all[j]?).bind (·.dst) <;> first | rfl | exact getK_eq _ _ _

/-- guardK is handed in, so that no kernel opens it while it compares. -/
abbrev GuardT := (β : Type) → DV → Bool → Option (DV × Store) → Store → (DV → Store → Option β) → Option β
def guardT : GuardT := fun _ => guardK

def opsF (G : GuardT) (P : Program) (pl : FPol) (call : CallF) (all : Array Oper) (lows : Bool → Store → Nat) : List Oper → List Bool → Frame → Store → (Frame → Store → Option β) → Option β
  | [], _, a, σ, K => K a σ
  | o :: os, cs, a, σ, K => match o.guard with
    | none => opF P pl call (lows (cs.headD true) σ) a o σ fun v σ' => putK a o.dst v fun a => opsF G P pl call all lows os cs.tail a σ' K
    | some (j, want) => guardF all a j fun g => G β g want (opF P pl call (lows (cs.headD true) σ) a o σ fun v σ' => some (v, σ')) σ fun v σ' => putK a o.dst v fun a => opsF G P pl call all lows os cs.tail a σ' K

theorem opsF_eq (P : Program) (pl : FPol) (call : CallF) (all : Array Oper) (lows : Bool → Store → Nat) : ∀ (os : List Oper) (cs : List Bool) (a : Frame) (σ : Store) (K : Frame → Store → Option β),
    opsF guardT P pl call all lows os cs a σ K = opsK P pl call all lows os cs a σ K
  | [], cs, a, σ, K => rfl
  | o :: os, cs, a, σ, K => by
    cases hg : o.guard with
    | none => simp only [opsF, opsK, hg, opF_eq, putK_eq, opsF_eq P pl call all lows os]
    | some g =>
      simp only [opsF, opsK, hg, opF_eq, putK_eq, guardF_eq, opsF_eq P pl call all lows os]
      rfl
end

noncomputable def codeF (G : GuardT) (P : Program) (pl : FPol) (call : CallF) (lo : Nat) : Code → {β : Type} → Ann → Frame → Store → (Ex → Frame → Store → Option β) → Option β
  | .skip, _, _, a, σ, K => K .normal a σ
  | .region _ ops draw, _, _, a, σ, K => if draw then (if pl.rload.isEmpty then opsF G P pl call ops (lowOf lo) ops.toList (flags pl ops) a σ (K .normal) else none) else opsF G P pl call ops (fun _ _ => lo) ops.toList [] a σ (K .normal)
  | .seq x y, _, an, a, σ, K => codeF G P pl call lo x an.left a σ fun ex a' σ' => match ex with
    | .normal => codeF G P pl call lo y an.right a' σ' K
    | ex => K ex a' σ'
  | .cond c x y, _, an, a, σ, K => evK a c fun c => condK c (codeF G P pl call lo x an.left a σ K) (codeF G P pl call lo y an.right a σ K)
  | .block id x, _, an, a, σ, K => codeF G P pl call lo x an.left a σ fun ex a' σ' => match ex with
    | .normal => cutK an a' fun a2 => K .normal a2 σ'
    | .exit i => if i = id then cutK an a' fun a2 => K .normal a2 σ' else K (.exit i) a' σ'
    | .ret => K .ret a' σ'
  | .loop x, _, an, a, σ, K => cutK an a fun a2 => loopWith (fun a σ => codeF G P pl call lo x an.left (an.cut a) σ fun ex a σ => some (ex, a, σ)) a2 σ K
  | .exit id, _, _, a, σ, K => K (.exit id) a σ
  | .ret, _, _, a, σ, K => K .ret a σ
  | .rangeFunc g ps x y, _, an, a, σ, K => evK a g fun g => match g with
    | .fn f caps => match (pl.seq f).bind fun kind => seqList kind caps with
      | some xss =>
        if xss.all (·.length == ps.size) && !hasRange x && !hasRange y then
          roundsK (fun xs σ K' => codeF G P pl call lo x .nil (putAll ps.toList xs a) σ fun ex a1 σ1 => match ex with
            | .normal => codeF G P pl call lo y an.left a1 σ1 fun ex _ σ2 => K' ex σ2
            | _ => none) xss σ fun ex σ' => K ex a σ'
        else none
      | none => none
    | _ => none
  | _, _, _, _, _, _ => none

theorem codeF_eq {P : Program} {pl : FPol} {call : CallF} {lo : Nat} : ∀ (c : Code) {β : Type} {an : Ann} {a : Frame} {σ : Store} {K : Ex → Frame → Store → Option β}, codeF guardT P pl call lo c an a σ K = codeK P pl call lo c an a σ K := by
  intro c
  induction c with
  | region id ops draw => intros; simp only [codeF, codeK, opsF_eq]
  | seq x y ihx ihy =>
    intro β an a σ K
    simp only [codeF, codeK, ihx]
    congr 1
    funext ex a' σ'
    cases ex with
    | normal => exact ihy
    | exit i => rfl
    | ret => rfl
  | cond c x y ihx ihy => intros; simp only [codeF, codeK, evK_eq, ihx, ihy]
  | block id x ih =>
    intro β an a σ K
    first
    | (simp only [codeF, codeK, ih, cutK_eq]; done)
    | (simp only [codeF, codeK, ih, cutK_eq]; congr 1)
  | loop x ih => intros; simp only [codeF, codeK, ih, cutK_eq]
  | rangeFunc g ps x y ihx ihy =>
    intro β an a σ K
    first
    | (simp only [codeF, codeK, evK_eq, ihx, ihy]; done)
    | (simp only [codeF, codeK, evK_eq, ihx, ihy]; cases ev a g <;> try rfl)
  | _ => intros; rfl

theorem loopF_cut {G : GuardT} {P : Program} {pl : FPol} {call : CallF} {lo : Nat} {x : Code} {an : Ann} (a : Frame) (σ : Store) :
    iterL (fun a σ => codeF G P pl call lo x an.left (an.cut a) σ fun ex a σ => some (ex, a, σ)) (an.cut a) σ = iterL (fun a σ => codeF G P pl call lo x an.left (an.cut a) σ fun ex a σ => some (ex, a, σ)) a σ := by
  rw [iterL_eq, iterL_eq _ a]
  simp only [cut_cut]

/-- What loops need of the guards: they go along with what stands behind. -/
def GuardOk (G : GuardT) : Prop := G = guardT

theorem loopF_eq {P : Program} {β : Type} {pl : FPol} {call : CallF} {lo : Nat} {x : Code} {an : Ann} {a : Frame} {σ : Store} {K : Ex → Frame → Store → Option β} (G : GuardT) (hG : GuardOk G) :
    codeF G P pl call lo (.loop x) an a σ K = cutK an a fun a => codeF G P pl call lo x an.left a σ fun ex a' σ' => match ex with
      | .normal => codeF G P pl call lo (.loop x) an a' σ' K
      | ex => K ex a' σ' := by
  cases hG
  simp only [codeF_eq, cutK_eq]
  exact loop_eq

end Go.D
end
/- What the generated texts need: contexts as functions, results in continuation style. -/
section
set_option linter.unusedVariables false
set_option linter.unusedSimpArgs false
namespace Go.D
/-- Short names for printed texts. -/
abbrev ud : DV := .undef
abbrev tt : Bool := true
abbrev ff : Bool := false

def cellV (P : Program) (t : TypeId) (x : DV) (σ : Store) : Option DV := match x with
  | .ptr r off => load P t (.ptr r off) σ
  | _ => none

def resK {β : Type} (P : Program) (a : Frame) (σ : Store) : List ResultVar → (List DV → Option β) → Option β
  | [], K => K []
  | .tmp t :: rs, K => resK P a σ rs fun vs => K (a.getD t .undef :: vs)
  | .cell x t :: rs, K => (cellV P t (a.getD x .undef) σ).bind fun v => resK P a σ rs fun vs => K (v :: vs)

theorem resK_eq {β : Type} (P : Program) (a : Frame) (σ : Store) : ∀ (rs : List ResultVar) (K : List DV → Option β), resK P a σ rs K = (resultsOf P a σ rs).bind K
  | [], K => rfl
  | .tmp t :: rs, K => by
    simp only [resK, resultsOf, resultOf, resK_eq P a σ rs]
    cases resultsOf P a σ rs <;> rfl
  | .cell x t :: rs, K => by
    simp only [resK, resultsOf, resultOf, resK_eq P a σ rs]
    unfold cellV
    generalize a.getD x .undef = g
    cases g <;> try rfl
    rename_i r off
    simp only []
    cases load P t (.ptr r off) σ <;> first | rfl | (cases resultsOf P a σ rs <;> rfl)

def finR (P : Program) (rs : List ResultVar) : Ex → Frame → Store → Option (DV × Store)
  | .normal, a, σ => resK P a σ rs fun vs => some (wrap vs, σ)
  | .ret, a, σ => resK P a σ rs fun vs => some (wrap vs, σ)
  | _, _, _ => none

theorem finR_eq (P : Program) (rs : List ResultVar) : finR P rs = finK P rs := by
  funext ex a σ
  cases ex <;> first | rfl | exact resK_eq P a σ rs _

def bodyOf (f : Func) : Code := f.body.getD .skip

theorem callL_run {P : Program} {pol : FuncId → FPol} {f lo : Nat} {fn : Func} {args : List DV} {σ : Store} {r : DV × Store} (hf : P.funcs[f]? = some fn) (hname : (fn.name == "runtime.NumGoroutine") = false) (hb : fn.body.isSome = true) (hd : drawsOk (bodyOf fn) = true)
    (h : codeF guardT P (pol f) (callL P pol) lo (bodyOf fn) (pol f).ann (args ++ List.replicate (fn.ntmps - args.length) .undef) σ (finR P fn.results.toList) = some r) : callL P pol lo f args σ = some r := by
  obtain ⟨c, hc⟩ := Option.isSome_iff_exists.1 hb
  have e : bodyOf fn = c := by unfold bodyOf; rw [hc]; rfl
  rw [e] at hd h
  rw [finR_eq, codeF_eq] at h
  exact callL_of hf hname hc hd h

def Code.fstC : Code → Code
  | .seq x _ => x | .cond _ x _ => x | .block _ x => x | .loop x => x | .rangeFunc _ _ x _ => x | c => c
def Code.sndC : Code → Code
  | .seq _ y => y | .cond _ _ y => y | .rangeFunc _ _ _ y => y | c => c

def splitC {β : Type} (N : Frame → Store → Option β) (E : Ex → Frame → Store → Option β) : Ex → Frame → Store → Option β := fun ex a σ => match ex with
  | .normal => N a σ
  | ex => E ex a σ
theorem splitC_eta {β : Type} (K : Ex → Frame → Store → Option β) : splitC (K .normal) K = K := by
  funext ex a σ
  cases ex <;> rfl

section
variable {β : Type} (G : GuardT) (P : Program) (pl : FPol) (call : CallF) (lo : Nat)
noncomputable def seqC (y : Code) (an : Ann) (K : Ex → Frame → Store → Option β) : Ex → Frame → Store → Option β := fun ex a σ => match ex with
  | .normal => codeF G P pl call lo y an a σ K
  | ex => K ex a σ
def blockC (id : Nat) (an : Ann) (K : Ex → Frame → Store → Option β) : Ex → Frame → Store → Option β := fun ex a σ => match ex with
  | .normal => cutK an a fun a2 => K .normal a2 σ
  | .exit i => if i = id then cutK an a fun a2 => K .normal a2 σ else K (.exit i) a σ
  | .ret => K .ret a σ
noncomputable def loopC (x : Code) (an : Ann) (K : Ex → Frame → Store → Option β) : Ex → Frame → Store → Option β := fun ex a σ => match ex with
  | .normal => codeF G P pl call lo (.loop x) an a σ K
  | ex => K ex a σ
def endC (K : Ex → Store → Option β) : Ex → Frame → Store → Option β := fun ex _ σ => K ex σ
noncomputable def midC (y : Code) (an : Ann) (K : Ex → Store → Option β) : Ex → Frame → Store → Option β := fun ex a σ => match ex with
  | .normal => codeF G P pl call lo y an a σ fun ex _ σ => K ex σ
  | _ => none
noncomputable def roundC (x y : Code) (an : Ann) (ps : List Tmp) (a : Frame) (xs : List DV) (σ : Store) (K : Ex → Store → Option β) : Option β :=
  codeF G P pl call lo x .nil (putAll ps xs a) σ fun ex a1 σ1 => match ex with
    | .normal => codeF G P pl call lo y an a1 σ1 fun ex _ σ2 => K ex σ2
    | _ => none
noncomputable def rangeK (g : DV) (n : Nat) (ok1 ok2 : Bool) (run : List DV → Store → (Ex → Store → Option β) → Option β) (σ : Store) (K : Ex → Store → Option β) : Option β := match g with
  | .fn f caps => match (pl.seq f).bind fun kind => seqList kind caps with
    | some xss => if (xss.all (·.length == n) && ok1) && ok2 then roundsK run xss σ K else none
    | none => none
  | _ => none
end
end Go.D
end
/- Policies of the functions: what is kept of temporaries, which calls are plain, which slices are rows. -/
section
namespace Go.D
noncomputable abbrev PP : Program := Go.Proofs.Try.prog
def pol3 : FPol := { ann := .nil }
def pol4 : FPol := { ann := (.seq .nil (.seq .nil (.seq .nil (.seq .nil (.seq .nil (.seq .nil (.seq .nil (.seq .nil (.seq (.seq .nil (.keep [ff, tt, ff, tt, ff, tt, ff, tt, tt, tt, tt] (.keep [ff, tt, ff, tt, ff, tt, ff, tt, tt, tt, tt, tt] (.seq .nil (.seq (.keep [ff, tt, ff, tt, ff, tt, ff, tt, tt, tt, tt, tt] .nil) .nil))))) (.seq .nil (.seq .nil (.seq (.seq .nil (.keep [ff, tt, ff, tt, ff, tt, ff, tt, tt] (.keep [ff, tt, ff, tt, ff, tt, ff, tt, tt, ff, ff, ff, tt] (.seq .nil (.seq (.keep [ff, tt, ff, tt, ff, tt, ff, tt, tt, ff, ff, ff, tt] .nil) .nil))))) .nil)))))))))))) }
def pol5 : FPol := { ann := .nil }
def pol6 : FPol := { ann := .nil }
def pol7 : FPol := { ann := .nil }
def pol8 : FPol := { ann := .nil }
def pol9 : FPol := { ann := (.seq .nil (.seq .nil (.seq .nil (.seq .nil (.seq .nil (.seq .nil (.seq .nil (.seq .nil (.seq .nil (.seq (.seq .nil (.keep [] (.keep [ff, ff, ff, tt, ff, tt, ff, ff, ff, ff, ff, tt] (.seq .nil (.seq (.keep [ff, ff, ff, tt, ff, tt, ff, ff, ff, ff, ff, tt] (.seq .nil (.keep [ff, ff, ff, tt, ff, tt, ff, ff, ff, ff, ff, tt] (.keep [ff, ff, ff, tt, ff, tt, ff, ff, ff, ff, ff, tt, tt] (.seq .nil (.seq (.keep [ff, ff, ff, tt, ff, tt, ff, ff, ff, ff, ff, tt, tt] .nil) .nil)))))) .nil))))) .nil)))))))))) }
def pol10 : FPol := { ann := .nil }
def pol11 : FPol := { ann := .nil }
def pol12 : FPol := { ann := (.seq .nil (.seq .nil (.seq .nil (.seq .nil (.seq .nil (.seq (.seq .nil (.keep [ff, ff, tt, tt, ff, ff, ff, ff, tt, tt] (.seq (.keep [] (.seq .nil (.seq .nil (.keep [] (.keep [ff, ff, tt, tt, ff, ff, ff, ff, tt, tt, tt, tt, ff, ff, ff, ff, ff, ff, ff, ff, ff, ff, ff, ff, ff, ff, ff, ff, ff, ff, ff, ff, ff, ff, ff, ff, ff, ff, ff, ff, ff, ff, ff, ff, ff, ff, ff, ff, ff, ff, ff, ff, ff, tt, tt] (.seq .nil (.seq .nil (.seq (.keep [ff, ff, tt, tt, ff, ff, ff, ff, tt, tt, tt, tt, ff, ff, ff, ff, ff, ff, ff, ff, ff, ff, ff, ff, ff, ff, ff, ff, ff, ff, ff, ff, ff, ff, ff, ff, ff, ff, ff, ff, ff, ff, ff, ff, ff, ff, ff, ff, ff, ff, ff, ff, ff, tt, tt] (.seq .nil (.seq .nil (.seq (.seq .nil (.keep [ff, ff, tt, tt, ff, ff, ff, ff, tt, tt, tt, tt, tt, tt, ff, ff, ff, ff, ff, ff, ff, ff, ff, ff, ff, ff, ff, ff, ff, ff, ff, ff, ff, ff, ff, ff, ff, ff, ff, ff, ff, ff, ff, ff, ff, ff, ff, ff, ff, ff, ff, ff, ff, tt, tt] (.keep [ff, ff, tt, tt, ff, ff, ff, ff, tt, tt, tt, tt, tt, tt, tt, ff, ff, ff, ff, ff, ff, ff, ff, ff, ff, ff, ff, ff, ff, ff, ff, ff, ff, ff, ff, ff, ff, ff, ff, ff, ff, ff, ff, ff, ff, ff, ff, ff, ff, ff, ff, ff, ff, tt, tt] (.seq .nil (.seq (.keep [ff, ff, tt, tt, ff, ff, ff, ff, tt, tt, tt, tt, tt, tt, tt, ff, ff, ff, ff, ff, ff, ff, ff, ff, ff, ff, ff, ff, ff, ff, ff, ff, ff, ff, ff, ff, ff, ff, ff, ff, ff, ff, ff, ff, ff, ff, ff, ff, ff, ff, ff, ff, ff, tt, tt] .nil) .nil))))) .nil)))) .nil)))))))) .nil))) (.seq .nil (.seq (.seq .nil (.keep [ff, ff, ff, ff, ff, ff, ff, ff, ff, ff, ff, ff, ff, ff, ff, tt] (.keep [ff, ff, tt, ff, ff, ff, ff, ff, tt, tt, ff, ff, ff, ff, ff, tt, ff, ff, ff, ff, ff, ff, ff, ff, ff, ff, ff, ff, ff, ff, ff, ff, ff, ff, ff, ff, ff, ff, ff, ff, ff, ff, ff, ff, ff, ff, ff, ff, ff, ff, ff, ff, ff, ff, ff, ff, ff, ff, ff, ff, ff, ff, ff, ff, ff, ff, ff, ff, ff, ff, ff, ff, ff, ff, ff, ff, ff, ff, ff, ff, ff, ff, ff, ff, ff, ff, ff, ff, ff, ff, ff, ff, ff, ff, ff, ff, ff, ff, ff, ff, ff, ff, ff, ff, ff, ff, ff, ff, ff, tt, tt] (.seq .nil (.seq .nil (.seq (.keep [ff, ff, tt, ff, ff, ff, ff, ff, tt, tt, ff, ff, ff, ff, ff, tt, ff, ff, ff, ff, ff, ff, ff, ff, ff, ff, ff, ff, ff, ff, ff, ff, ff, ff, ff, ff, ff, ff, ff, ff, ff, ff, ff, ff, ff, ff, ff, ff, ff, ff, ff, ff, ff, ff, ff, ff, ff, ff, ff, ff, ff, ff, ff, ff, ff, ff, ff, ff, ff, ff, ff, ff, ff, ff, ff, ff, ff, ff, ff, ff, ff, ff, ff, ff, ff, ff, ff, ff, ff, ff, ff, ff, ff, ff, ff, ff, ff, ff, ff, ff, ff, ff, ff, ff, ff, ff, ff, ff, ff, tt, tt] (.seq .nil (.seq .nil (.seq (.seq .nil (.keep [ff, ff, tt, ff, ff, ff, ff, ff, tt, tt, ff, ff, ff, ff, ff, tt, ff, tt, ff, ff, ff, ff, ff, ff, ff, ff, ff, ff, ff, ff, ff, ff, ff, ff, ff, ff, ff, ff, ff, ff, ff, ff, ff, ff, ff, ff, ff, ff, ff, ff, ff, ff, ff, ff, ff, ff, ff, ff, ff, ff, ff, ff, ff, ff, ff, ff, ff, ff, ff, ff, ff, ff, ff, ff, ff, ff, ff, ff, ff, ff, ff, ff, ff, ff, ff, ff, ff, ff, ff, ff, ff, ff, ff, ff, ff, ff, ff, ff, ff, ff, ff, ff, ff, ff, ff, ff, ff, ff, ff, tt, tt] (.keep [ff, ff, tt, ff, ff, ff, ff, ff, tt, tt, ff, ff, ff, ff, ff, tt, tt, tt, ff, ff, ff, ff, ff, ff, ff, ff, ff, ff, ff, ff, ff, ff, ff, ff, ff, ff, ff, ff, ff, ff, ff, ff, ff, ff, ff, ff, ff, ff, ff, ff, ff, ff, ff, ff, ff, ff, ff, ff, ff, ff, ff, ff, ff, ff, ff, ff, ff, ff, ff, ff, ff, ff, ff, ff, ff, ff, ff, ff, ff, ff, ff, ff, ff, ff, ff, ff, ff, ff, ff, ff, ff, ff, ff, ff, ff, ff, ff, ff, ff, ff, ff, ff, ff, ff, ff, ff, ff, ff, ff, tt, tt, ff, ff, ff, ff, ff, tt, tt, tt] (.seq .nil (.seq .nil (.seq (.keep [ff, ff, tt, ff, ff, ff, ff, ff, tt, tt, ff, ff, ff, ff, ff, tt, tt, tt, ff, ff, ff, ff, ff, ff, ff, ff, ff, ff, ff, ff, ff, ff, ff, ff, ff, ff, ff, ff, ff, ff, ff, ff, ff, ff, ff, ff, ff, ff, ff, ff, ff, ff, ff, ff, ff, ff, ff, ff, ff, ff, ff, ff, ff, ff, ff, ff, ff, ff, ff, ff, ff, ff, ff, ff, ff, ff, ff, ff, ff, ff, ff, ff, ff, ff, ff, ff, ff, ff, ff, ff, ff, ff, ff, ff, ff, ff, ff, ff, ff, ff, ff, ff, ff, ff, ff, ff, ff, ff, ff, tt, tt, ff, ff, ff, ff, ff, tt, tt, tt] .nil) .nil)))))) .nil)))) .nil)))))) .nil)))))))), mixed := [37], seq := fun f => if f = 80 then some (.backward false 1) else none }
def pol13 : FPol := { ann := .nil }
def pol14 : FPol := { ann := .nil }
def pol15 : FPol := { ann := (.seq .nil (.seq .nil (.seq .nil (.seq .nil (.seq (.seq .nil (.keep [ff, tt] (.keep [ff, tt, ff, tt] (.seq .nil (.seq (.keep [ff, tt, ff, tt] .nil) .nil))))) (.seq (.seq .nil (.keep [] (.keep [ff, tt, ff, ff, tt] (.seq .nil (.seq (.keep [ff, tt, ff, ff, tt] .nil) .nil))))) .nil)))))) }
def pol16 : FPol := { ann := (.seq .nil (.seq .nil (.seq .nil (.seq (.seq .nil (.keep [ff, tt, tt] (.keep [ff, tt, tt, ff, ff, tt] (.seq .nil (.seq (.keep [ff, tt, tt, ff, ff, tt] .nil) .nil))))) (.seq .nil (.seq (.seq .nil (.keep [] (.keep [ff, tt, tt, ff, ff, ff, tt] (.seq .nil (.seq (.keep [ff, tt, tt, ff, ff, ff, tt] .nil) .nil))))) .nil)))))) }
def pol17 : FPol := { ann := (.seq .nil (.seq .nil (.seq (.seq .nil (.keep [ff, tt, tt, ff, ff, ff, tt] (.keep [ff, tt, tt, ff, ff, ff, tt, tt] (.seq .nil (.seq (.keep [ff, tt, tt, ff, ff, ff, tt, tt] (.seq .nil (.seq .nil (.keep [ff, tt, tt, ff, ff, ff, tt, tt] (.keep [ff, tt, tt, ff, ff, ff, tt, tt, tt] (.seq .nil (.seq (.keep [ff, tt, tt, ff, ff, ff, tt, tt, tt] (.seq .nil (.seq (.seq .nil (.keep [ff, tt, tt, ff, ff, ff, tt, tt, tt, tt] (.keep [ff, tt, tt, ff, ff, ff, tt, tt, tt, tt, tt] (.seq .nil (.seq (.keep [ff, tt, tt, ff, ff, ff, tt, tt, tt, tt, tt] .nil) .nil))))) .nil))) .nil))))))) .nil))))) (.seq .nil (.seq (.seq .nil (.keep [ff, ff, ff, ff, ff, ff, ff, ff, ff, ff, ff, tt] (.keep [ff, tt, tt, ff, ff, ff, tt, ff, ff, ff, ff, tt, tt] (.seq .nil (.seq (.keep [ff, tt, tt, ff, ff, ff, tt, ff, ff, ff, ff, tt, tt] (.seq .nil (.seq (.seq .nil (.keep [ff, tt, tt, ff, ff, ff, tt, ff, ff, ff, ff, tt, tt, tt] (.keep [ff, tt, tt, ff, ff, ff, tt, ff, ff, ff, ff, tt, tt, tt, tt] (.seq .nil (.seq (.keep [ff, tt, tt, ff, ff, ff, tt, ff, ff, ff, ff, tt, tt, tt, tt] .nil) .nil))))) .nil))) .nil))))) .nil))))), mixed := [17] }
def pol18 : FPol := { ann := (.seq .nil (.seq .nil (.seq (.seq .nil (.keep [] (.keep [tt, tt, ff, ff, ff, tt] (.seq .nil (.seq (.keep [tt, tt, ff, ff, ff, tt] .nil) .nil))))) .nil))) }
def pol19 : FPol := { ann := .nil }
def pol20 : FPol := { ann := (.seq .nil (.seq .nil (.seq .nil (.seq .nil (.seq (.seq .nil (.keep [ff, ff, ff, ff, ff, ff, ff, ff, ff, ff, tt] (.keep [ff, ff, tt, ff, ff, ff, ff, ff, ff, ff, tt, ff, ff, ff, ff, ff, ff, ff, ff, ff, ff, ff, ff, ff, ff, ff, ff, ff, ff, ff, ff, ff, ff, tt, tt, tt] (.seq .nil (.seq .nil (.seq (.keep [ff, ff, tt, ff, ff, ff, ff, ff, ff, ff, tt, ff, ff, ff, ff, ff, ff, ff, ff, ff, ff, ff, ff, ff, ff, ff, ff, ff, ff, ff, ff, ff, ff, tt, tt, tt] .nil) .nil)))))) .nil))))) }
def pol21 : FPol := { ann := (.seq .nil (.seq .nil (.seq (.seq .nil (.keep [] (.keep [ff, tt, tt, ff, ff, tt] (.seq .nil (.seq (.keep [ff, tt, tt, ff, ff, tt] .nil) .nil))))) .nil))) }
def pol22 : FPol := { ann := .nil }
def pol23 : FPol := { ann := (.seq .nil (.seq .nil (.seq .nil (.seq .nil (.seq (.seq .nil (.keep [ff, tt, tt, ff, tt, ff, ff, tt, tt] (.keep [ff, tt, tt, ff, tt, ff, ff, tt, tt, ff, ff, ff, ff, ff, ff, ff, ff, ff, ff, ff, ff, ff, ff, ff, ff, ff, tt, tt, tt] (.seq .nil (.seq .nil (.seq (.keep [ff, tt, tt, ff, tt, ff, ff, tt, tt, ff, ff, ff, ff, ff, ff, ff, ff, ff, ff, ff, ff, ff, ff, ff, ff, ff, tt, tt, tt] .nil) .nil)))))) (.seq (.seq .nil (.keep [ff, tt, tt, ff, tt, ff, ff, tt, tt] (.keep [ff, tt, tt, ff, tt, ff, ff, tt, tt, ff, ff, ff, ff, ff, ff, ff, ff, ff, ff, ff, ff, ff, ff, ff, ff, ff, ff, ff, ff, ff, ff, ff, ff, ff, ff, ff, ff, ff, ff, ff, ff, ff, ff, ff, ff, ff, ff, ff, ff, ff, ff, ff, ff, ff, ff, ff, ff, tt, tt, tt] (.seq .nil (.seq .nil (.seq (.keep [ff, tt, tt, ff, tt, ff, ff, tt, tt, ff, ff, ff, ff, ff, ff, ff, ff, ff, ff, ff, ff, ff, ff, ff, ff, ff, ff, ff, ff, ff, ff, ff, ff, ff, ff, ff, ff, ff, ff, ff, ff, ff, ff, ff, ff, ff, ff, ff, ff, ff, ff, ff, ff, ff, ff, ff, ff, tt, tt, tt] .nil) .nil)))))) (.seq (.seq .nil (.keep [ff, ff, ff, ff, tt] (.keep [ff, tt, ff, ff, tt, ff, ff, tt, tt, ff, ff, ff, ff, ff, ff, ff, ff, ff, ff, ff, ff, ff, ff, ff, ff, ff, ff, ff, ff, ff, ff, ff, ff, ff, ff, ff, ff, ff, ff, ff, ff, ff, ff, ff, ff, ff, ff, ff, ff, ff, ff, ff, ff, ff, ff, ff, ff, ff, ff, ff, ff, ff, ff, ff, ff, ff, ff, ff, ff, ff, ff, ff, ff, ff, ff, ff, ff, ff, ff, ff, ff, tt, tt, tt] (.seq .nil (.seq .nil (.seq (.keep [ff, tt, ff, ff, tt, ff, ff, tt, tt, ff, ff, ff, ff, ff, ff, ff, ff, ff, ff, ff, ff, ff, ff, ff, ff, ff, ff, ff, ff, ff, ff, ff, ff, ff, ff, ff, ff, ff, ff, ff, ff, ff, ff, ff, ff, ff, ff, ff, ff, ff, ff, ff, ff, ff, ff, ff, ff, ff, ff, ff, ff, ff, ff, ff, ff, ff, ff, ff, ff, ff, ff, ff, ff, ff, ff, ff, ff, ff, ff, ff, ff, tt, tt, tt] .nil) .nil)))))) .nil))))))) }
def pol24 : FPol := { ann := (.seq .nil (.seq .nil (.seq .nil (.seq (.seq .nil (.keep [ff, ff, ff, ff, ff, tt] (.keep [ff, ff, ff, ff, ff, tt, ff, ff, ff, ff, ff, ff, ff, ff, ff, ff, ff, tt, tt, tt] (.seq .nil (.seq .nil (.seq (.keep [ff, ff, ff, ff, ff, tt, ff, ff, ff, ff, ff, ff, ff, ff, ff, ff, ff, tt, tt, tt] (.seq .nil (.seq .nil (.keep [ff, ff, ff, ff, ff, tt, ff, ff, ff, ff, ff, ff, ff, ff, ff, ff, ff, tt, tt, tt] (.keep [ff, ff, ff, ff, ff, tt, tt, ff, ff, ff, ff, ff, ff, ff, ff, ff, ff, tt, tt, tt, ff, ff, ff, ff, tt, tt, tt] (.seq .nil (.seq .nil (.seq (.keep [ff, ff, ff, ff, ff, tt, tt, ff, ff, ff, ff, ff, ff, ff, ff, ff, ff, tt, tt, tt, ff, ff, ff, ff, tt, tt, tt] .nil) .nil)))))))) .nil)))))) .nil)))) }
def pol25 : FPol := { ann := (.seq .nil (.seq .nil (.seq .nil (.seq (.seq .nil (.keep [] (.keep [ff, tt, ff, ff, ff, ff, tt, ff, ff, ff, ff, ff, ff, ff, ff, ff, ff, ff, ff, tt, tt, tt] (.seq .nil (.seq .nil (.seq (.keep [ff, tt, ff, ff, ff, ff, tt, ff, ff, ff, ff, ff, ff, ff, ff, ff, ff, ff, ff, tt, tt, tt] .nil) .nil)))))) .nil)))) }
def pol26 : FPol := { ann := (.seq .nil (.seq .nil (.seq (.seq .nil (.keep [] (.keep [ff, tt, ff, ff, tt, tt] (.seq .nil (.seq (.keep [ff, tt, ff, ff, tt, tt] (.seq .nil (.seq (.seq .nil (.keep [ff, tt, ff, ff, tt, tt, tt] (.keep [ff, tt, ff, ff, tt, tt, tt, tt] (.seq .nil (.seq (.keep [ff, tt, ff, ff, tt, tt, tt, tt] .nil) .nil))))) .nil))) .nil))))) .nil))) }
def pol27 : FPol := { ann := (.seq .nil (.seq .nil (.seq (.seq .nil (.keep [] (.keep [tt, tt, ff, ff, ff, tt] (.seq .nil (.seq (.keep [tt, tt, ff, ff, ff, tt] .nil) .nil))))) .nil))) }
def pol28 : FPol := { ann := (.seq .nil (.seq .nil (.keep [ff, ff, tt] (.keep [ff, tt, ff, tt] (.keep [ff, tt, ff, tt] (.seq .nil (.seq (.seq .nil (.keep [ff, tt, ff, tt, tt] (.keep [ff, tt, ff, tt, tt, tt] (.seq .nil (.seq (.keep [ff, tt, ff, tt, tt, tt] .nil) .nil))))) .nil))))))) }
def pol29 : FPol := { ann := (.seq .nil (.seq .nil (.seq .nil (.seq .nil (.seq .nil (.seq (.seq .nil (.keep [ff, ff, ff, ff, ff, ff, ff, tt] (.keep [ff, tt, ff, ff, ff, tt, tt, tt, ff, ff, ff, ff, ff, ff, ff, ff, ff, ff, ff, ff, ff, ff, ff, tt, tt, tt] (.seq .nil (.seq .nil (.seq (.keep [ff, tt, ff, ff, ff, tt, tt, tt, ff, ff, ff, ff, ff, ff, ff, ff, ff, ff, ff, ff, ff, ff, ff, tt, tt, tt] (.seq .nil (.seq .nil (.keep [ff, tt, ff, ff, ff, tt, tt, tt, ff, ff, ff, ff, ff, ff, ff, ff, ff, ff, ff, ff, ff, ff, ff, tt, tt, tt] (.keep [ff, tt, ff, ff, ff, tt, tt, tt, tt, ff, ff, ff, ff, ff, ff, ff, ff, ff, ff, ff, ff, ff, ff, tt, tt, tt, ff, ff, ff, ff, tt, tt, tt] (.seq .nil (.seq .nil (.seq (.keep [ff, tt, ff, ff, ff, tt, tt, tt, tt, ff, ff, ff, ff, ff, ff, ff, ff, ff, ff, ff, ff, ff, ff, tt, tt, tt, ff, ff, ff, ff, tt, tt, tt] .nil) .nil)))))))) .nil)))))) .nil)))))) }
def pol30 : FPol := { ann := (.seq .nil (.seq .nil (.seq .nil (.seq (.seq .nil (.keep [ff, tt, tt, ff, ff, ff, ff, tt] (.keep [ff, tt, tt, ff, ff, ff, ff, tt, ff, ff, ff, ff, ff, ff, ff, ff, ff, ff, ff, ff, ff, ff, tt, tt, tt] (.seq .nil (.seq .nil (.seq (.keep [ff, tt, tt, ff, ff, ff, ff, tt, ff, ff, ff, ff, ff, ff, ff, ff, ff, ff, ff, ff, ff, ff, tt, tt, tt] .nil) .nil)))))) (.seq .nil (.seq (.seq .nil (.keep [] (.keep [ff, ff, tt, ff, ff, ff, ff, tt, ff, ff, ff, tt, ff, ff, ff, ff, ff, ff, ff, ff, ff, ff, ff, ff, ff, ff, ff, ff, ff, ff, ff, ff, ff, ff, ff, ff, ff, ff, ff, ff, ff, ff, ff, ff, ff, ff, ff, ff, ff, ff, ff, ff, ff, ff, ff, ff, ff, ff, ff, ff, ff, ff, ff, ff, ff, ff, ff, ff, ff, ff, ff, ff, ff, ff, ff, ff, ff, ff, ff, ff, ff, ff, ff, ff, ff, ff, ff, ff, ff, ff, ff, ff, ff, ff, tt, tt, tt] (.seq .nil (.seq .nil (.seq (.keep [ff, ff, tt, ff, ff, ff, ff, tt, ff, ff, ff, tt, ff, ff, ff, ff, ff, ff, ff, ff, ff, ff, ff, ff, ff, ff, ff, ff, ff, ff, ff, ff, ff, ff, ff, ff, ff, ff, ff, ff, ff, ff, ff, ff, ff, ff, ff, ff, ff, ff, ff, ff, ff, ff, ff, ff, ff, ff, ff, ff, ff, ff, ff, ff, ff, ff, ff, ff, ff, ff, ff, ff, ff, ff, ff, ff, ff, ff, ff, ff, ff, ff, ff, ff, ff, ff, ff, ff, ff, ff, ff, ff, ff, ff, tt, tt, tt] .nil) .nil)))))) .nil)))))) }
def pol31 : FPol := { ann := (.seq .nil (.seq (.seq .nil (.keep [ff, tt, tt] (.keep [ff, tt, tt, ff, ff, ff, tt] (.seq .nil (.seq (.keep [ff, tt, tt, ff, ff, ff, tt] .nil) .nil))))) (.seq (.seq .nil (.keep [] (.keep [ff, tt, tt, ff, ff, ff, ff, ff, tt] (.seq .nil (.seq (.keep [ff, tt, tt, ff, ff, ff, ff, ff, tt] .nil) .nil))))) .nil))) }
def pol32 : FPol := { ann := (.seq .nil (.seq .nil (.seq (.seq .nil (.keep [] (.keep [tt, tt, ff, ff, ff, tt] (.seq .nil (.seq (.keep [tt, tt, ff, ff, ff, tt] .nil) .nil))))) .nil))) }
def pol33 : FPol := { ann := (.seq .nil (.seq .nil (.seq .nil (.seq (.seq .nil (.keep [ff, tt, ff, ff, tt] (.keep [ff, tt, ff, tt, tt, tt] (.seq .nil (.seq (.keep [ff, tt, ff, tt, tt, tt] (.seq .nil (.seq .nil (.seq (.seq .nil (.keep [ff, tt, ff, ff, tt, tt, tt, tt] (.keep [ff, tt, ff, tt, tt, tt, tt, tt, tt] (.seq .nil (.seq (.keep [ff, tt, ff, tt, tt, tt, tt, tt, tt] (.seq .nil (.seq .nil (.seq (.seq .nil (.keep [ff, tt, ff, tt, tt, tt, tt, tt, tt, tt, tt, tt] (.keep [ff, tt, ff, tt, tt, tt, tt, tt, tt, tt, tt, tt, tt] (.seq .nil (.seq (.keep [ff, tt, ff, tt, tt, tt, tt, tt, tt, tt, tt, tt, tt] .nil) .nil))))) .nil)))) .nil))))) .nil)))) .nil))))) (.seq .nil (.seq .nil (.seq (.seq .nil (.keep [ff, ff, ff, ff, ff, ff, ff, ff, ff, ff, ff, ff, ff, ff, tt] (.keep [ff, ff, ff, ff, tt, ff, ff, ff, ff, ff, ff, ff, ff, ff, tt, tt, tt] (.seq .nil (.seq (.keep [ff, ff, ff, ff, tt, ff, ff, ff, ff, ff, ff, ff, ff, ff, tt, tt, tt] (.seq .nil (.keep [ff, ff, ff, ff, tt, ff, ff, ff, ff, ff, ff, ff, ff, ff, tt, tt, tt] (.keep [ff, ff, ff, ff, tt, ff, ff, ff, ff, ff, ff, ff, ff, ff, tt, tt, tt, tt] (.seq .nil (.seq (.keep [ff, ff, ff, ff, tt, ff, ff, ff, ff, ff, ff, ff, ff, ff, tt, tt, tt, tt] .nil) .nil)))))) .nil))))) .nil))))))) }
def pol34 : FPol := { ann := (.seq .nil (.seq .nil (.seq (.seq .nil (.keep [] (.keep [tt, ff, ff, tt] (.seq .nil (.seq (.keep [tt, ff, ff, tt] .nil) .nil))))) .nil))) }
def pol35 : FPol := { ann := (.seq .nil (.seq .nil (.seq .nil (.seq (.seq .nil (.keep [ff, tt, tt, ff, ff, ff, ff, tt] (.keep [ff, tt, tt, ff, ff, ff, ff, tt, ff, ff, ff, ff, ff, ff, ff, ff, ff, ff, ff, ff, ff, ff, ff, ff, tt, tt, tt] (.seq .nil (.seq .nil (.seq (.keep [ff, tt, tt, ff, ff, ff, ff, tt, ff, ff, ff, ff, ff, ff, ff, ff, ff, ff, ff, ff, ff, ff, ff, ff, tt, tt, tt] .nil) .nil)))))) (.seq .nil (.seq .nil (.seq (.seq .nil (.keep [] (.keep [ff, ff, tt, ff, ff, ff, ff, ff, ff, ff, ff, tt, tt, ff, ff, ff, ff, ff, ff, ff, ff, ff, ff, ff, ff, ff, ff, ff, ff, ff, ff, ff, ff, ff, ff, ff, ff, ff, ff, ff, ff, ff, ff, ff, ff, ff, ff, ff, ff, ff, ff, ff, ff, ff, ff, ff, ff, ff, ff, ff, ff, ff, ff, ff, ff, ff, ff, ff, ff, ff, ff, ff, ff, ff, ff, ff, ff, ff, ff, ff, ff, ff, ff, ff, ff, tt, tt, tt] (.seq .nil (.seq .nil (.seq (.keep [ff, ff, tt, ff, ff, ff, ff, ff, ff, ff, ff, tt, tt, ff, ff, ff, ff, ff, ff, ff, ff, ff, ff, ff, ff, ff, ff, ff, ff, ff, ff, ff, ff, ff, ff, ff, ff, ff, ff, ff, ff, ff, ff, ff, ff, ff, ff, ff, ff, ff, ff, ff, ff, ff, ff, ff, ff, ff, ff, ff, ff, ff, ff, ff, ff, ff, ff, ff, ff, ff, ff, ff, ff, ff, ff, ff, ff, ff, ff, ff, ff, ff, ff, ff, ff, tt, tt, tt] (.seq .nil (.seq .nil (.seq (.seq .nil (.keep [ff, ff, tt, ff, ff, ff, ff, ff, ff, ff, ff, tt, tt, tt, ff, tt, ff, ff, ff, ff, ff, ff, ff, ff, ff, ff, ff, ff, ff, ff, ff, ff, ff, ff, ff, ff, ff, ff, ff, ff, ff, ff, ff, ff, ff, ff, ff, ff, ff, ff, ff, ff, ff, ff, ff, ff, ff, ff, ff, ff, ff, ff, ff, ff, ff, ff, ff, ff, ff, ff, ff, ff, ff, ff, ff, ff, ff, ff, ff, ff, ff, ff, ff, ff, ff, tt, tt, tt] (.keep [ff, ff, tt, ff, ff, ff, ff, ff, ff, ff, ff, tt, tt, tt, tt, tt, ff, ff, ff, ff, ff, ff, ff, ff, ff, ff, ff, ff, ff, ff, ff, ff, ff, ff, ff, ff, ff, ff, ff, ff, ff, ff, ff, ff, ff, ff, ff, ff, ff, ff, ff, ff, ff, ff, ff, ff, ff, ff, ff, ff, ff, ff, ff, ff, ff, ff, ff, ff, ff, ff, ff, ff, ff, ff, ff, ff, ff, ff, ff, ff, ff, ff, ff, ff, ff, tt, tt, tt, ff, ff, ff, ff, ff, ff, ff, ff, ff, ff, ff, ff, ff, ff, ff, ff, ff, ff, ff, ff, ff, tt, tt, tt] (.seq .nil (.seq .nil (.seq (.keep [ff, ff, tt, ff, ff, ff, ff, ff, ff, ff, ff, tt, tt, tt, tt, tt, ff, ff, ff, ff, ff, ff, ff, ff, ff, ff, ff, ff, ff, ff, ff, ff, ff, ff, ff, ff, ff, ff, ff, ff, ff, ff, ff, ff, ff, ff, ff, ff, ff, ff, ff, ff, ff, ff, ff, ff, ff, ff, ff, ff, ff, ff, ff, ff, ff, ff, ff, ff, ff, ff, ff, ff, ff, ff, ff, ff, ff, ff, ff, ff, ff, ff, ff, ff, ff, tt, tt, tt, ff, ff, ff, ff, ff, ff, ff, ff, ff, ff, ff, ff, ff, ff, ff, ff, ff, ff, ff, ff, ff, tt, tt, tt] .nil) .nil)))))) .nil)))) .nil)))))) .nil))))))) }
def pol36 : FPol := { ann := (.seq .nil (.seq .nil (.seq (.seq .nil (.keep [ff, ff, ff, tt] (.keep [tt, ff, ff, tt, tt] (.seq .nil (.seq (.keep [tt, ff, ff, tt, tt] .nil) .nil))))) .nil))) }
def pol37 : FPol := { ann := (.seq .nil (.seq (.seq .nil (.keep [ff, tt, tt] (.keep [ff, tt, tt, ff, ff, ff, tt] (.seq .nil (.seq (.keep [ff, tt, tt, ff, ff, ff, tt] .nil) .nil))))) (.seq (.seq .nil (.keep [] (.keep [ff, tt, tt, ff, ff, ff, ff, tt] (.seq .nil (.seq (.keep [ff, tt, tt, ff, ff, ff, ff, tt] .nil) .nil))))) .nil))) }
def pol38 : FPol := { ann := .nil }
def pol39 : FPol := { ann := .nil, plain := [2] }
def pol40 : FPol := { ann := .nil }
def pol41 : FPol := { ann := .nil }
def pol42 : FPol := { ann := (.seq .nil (.seq .nil (.seq .nil (.seq .nil (.seq (.seq .nil (.keep [ff, ff, ff, ff, ff, ff, ff, tt] (.keep [ff, tt, tt, ff, ff, ff, ff, tt, ff, ff, ff, ff, ff, ff, ff, ff, ff, ff, ff, ff, ff, ff, ff, ff, ff, ff, ff, ff, ff, ff, ff, ff, ff, ff, ff, ff, ff, ff, tt, tt] (.seq .nil (.seq .nil (.seq (.keep [ff, tt, tt, ff, ff, ff, ff, tt, ff, ff, ff, ff, ff, ff, ff, ff, ff, ff, ff, ff, ff, ff, ff, ff, ff, ff, ff, ff, ff, ff, ff, ff, ff, ff, ff, ff, ff, ff, tt, tt] .nil) .nil)))))) .nil))))), pload := [45, 50] }
def pol43 : FPol := { ann := (.seq .nil (.seq .nil (.seq (.seq .nil (.keep [ff, tt, ff, tt] (.keep [ff, tt, ff, tt, ff, ff, ff, ff, ff, ff, ff, tt, tt] (.seq .nil (.seq .nil (.seq (.keep [ff, tt, ff, tt, ff, ff, ff, ff, ff, ff, ff, tt, tt] .nil) .nil)))))) (.seq (.seq .nil (.keep [ff, ff, ff, tt] (.keep [ff, ff, ff, tt, ff, ff, ff, ff, ff, ff, ff, ff, ff, ff, ff, ff, ff, ff, ff, ff, ff, ff, ff, ff, ff, ff, ff, ff, ff, ff, tt, tt, tt] (.seq .nil (.seq .nil (.seq (.keep [ff, ff, ff, tt, ff, ff, ff, ff, ff, ff, ff, ff, ff, ff, ff, ff, ff, ff, ff, ff, ff, ff, ff, ff, ff, ff, ff, ff, ff, ff, tt, tt, tt] .nil) .nil)))))) .nil)))), mixed := [23, 24] }
def pol44 : FPol := { ann := .nil }
def pol45 : FPol := { ann := .nil }
def pol46 : FPol := { ann := .nil }
def pol47 : FPol := { ann := .nil }
def pol48 : FPol := { ann := (.seq .nil (.seq .nil (.seq (.seq .nil (.keep [ff, tt] (.keep [ff, tt, ff, tt] (.seq .nil (.seq (.keep [ff, tt, ff, tt] .nil) .nil))))) (.seq (.seq .nil (.keep [] (.keep [ff, tt, ff, ff, tt] (.seq .nil (.seq (.keep [ff, tt, ff, ff, tt] .nil) .nil))))) .nil)))) }
def pol49 : FPol := { ann := (.seq .nil (.seq (.seq .nil (.keep [] (.keep [tt, tt, ff, ff, ff, tt] (.seq .nil (.seq (.keep [tt, tt, ff, ff, ff, tt] .nil) .nil))))) .nil)) }
def pol50 : FPol := { ann := (.seq .nil (.seq .nil (.seq (.seq .nil (.keep [] (.keep [ff, tt, tt, tt, ff, ff, ff, tt] (.seq .nil (.seq (.keep [ff, tt, tt, tt, ff, ff, ff, tt] .nil) .nil))))) .nil))) }
def pol51 : FPol := { ann := .nil }
def pol52 : FPol := { ann := .nil }
def pol53 : FPol := { ann := .nil }
def pol54 : FPol := { ann := (.seq .nil (.seq (.seq .nil (.keep [] (.keep [ff, ff, ff, ff, ff, tt, tt, tt] (.seq .nil (.seq .nil (.seq (.keep [ff, ff, ff, ff, ff, tt, tt, tt] .nil) .nil)))))) .nil)) }
def pol55 : FPol := { ann := .nil }
def pol56 : FPol := { ann := .nil }
def pol57 : FPol := { ann := (.seq .nil (.seq .nil (.seq .nil (.seq (.seq .nil (.keep [tt, ff, ff, tt, tt] (.keep [tt, ff, ff, tt, tt, ff, ff, ff, ff, ff, ff, ff, ff, ff, ff, ff, ff, ff, ff, ff, ff, ff, tt, tt, tt] (.seq .nil (.seq .nil (.seq (.keep [tt, ff, ff, tt, tt, ff, ff, ff, ff, ff, ff, ff, ff, ff, ff, ff, ff, ff, ff, ff, ff, ff, tt, tt, tt] .nil) .nil)))))) (.seq (.keep [ff, ff, ff, tt] (.keep [tt, ff, ff, tt, tt] (.seq .nil (.keep [tt, ff, ff, tt, tt] (.seq .nil (.seq .nil (.seq .nil (.keep [tt, ff, ff, tt, tt] (.keep [tt, ff, ff, tt, tt, ff, ff, tt, ff, ff, ff, ff, ff, ff, ff, ff, ff, ff, ff, ff, ff, ff, ff, ff, ff, ff, ff, ff, ff, ff, ff, ff, ff, ff, ff, ff, ff, ff, ff, ff, ff, ff, ff, ff, ff, ff, ff, ff, ff, ff, ff, tt, tt, tt] (.seq .nil (.seq .nil (.seq (.keep [tt, ff, ff, tt, tt, ff, ff, tt, ff, ff, ff, ff, ff, ff, ff, ff, ff, ff, ff, ff, ff, ff, ff, ff, ff, ff, ff, ff, ff, ff, ff, ff, ff, ff, ff, ff, ff, ff, ff, ff, ff, ff, ff, ff, ff, ff, ff, ff, ff, ff, ff, tt, tt, tt] .nil) .nil)))))))))))) .nil))))), plain := [76], mixed := [16, 36, 86], rload := [71] }
def pol58 : FPol := { ann := (.seq .nil (.seq .nil (.seq (.seq .nil (.keep [tt, ff, ff, tt] (.keep [tt, ff, ff, tt, ff, ff, ff, ff, ff, ff, ff, ff, ff, ff, ff, ff, ff, ff, tt, tt] (.seq .nil (.seq .nil (.seq (.keep [tt, ff, ff, tt, ff, ff, ff, ff, ff, ff, ff, ff, ff, ff, ff, ff, ff, ff, tt, tt] (.seq .nil (.seq .nil (.seq (.seq .nil (.keep [tt, ff, ff, tt, ff, tt, ff, ff, ff, ff, ff, ff, ff, ff, ff, ff, ff, ff, tt, tt] (.keep [tt, ff, ff, tt, tt, tt, ff, ff, ff, ff, ff, ff, ff, ff, ff, ff, ff, ff, tt, tt, ff, ff, ff, ff, ff, ff, ff, ff, ff, ff, tt, tt] (.seq .nil (.seq .nil (.seq (.keep [tt, ff, ff, tt, tt, tt, ff, ff, ff, ff, ff, ff, ff, ff, ff, ff, ff, ff, tt, tt, ff, ff, ff, ff, ff, ff, ff, ff, ff, ff, tt, tt] .nil) .nil)))))) .nil)))) .nil)))))) (.seq (.seq .nil (.keep [ff, ff, ff, tt] (.keep [tt, ff, ff, tt, ff, ff, ff, tt, tt] (.seq .nil (.seq (.keep [tt, ff, ff, tt, ff, ff, ff, tt, tt] (.seq .nil (.seq .nil (.seq .nil (.keep [tt, ff, ff, tt, ff, ff, ff, tt, tt] (.keep [tt, ff, ff, tt, ff, ff, ff, tt, tt, tt, ff, ff, ff, ff, ff, ff, ff, ff, ff, ff, ff, ff, ff, ff, ff, ff, ff, ff, ff, ff, ff, ff, ff, ff, ff, ff, ff, ff, ff, ff, ff, ff, ff, ff, ff, ff, ff, ff, ff, ff, ff, ff, ff, ff, ff, ff, ff, ff, ff, ff, ff, ff, ff, ff, ff, ff, ff, ff, ff, ff, ff, ff, tt, tt, tt] (.seq .nil (.seq .nil (.seq (.keep [tt, ff, ff, tt, ff, ff, ff, tt, tt, tt, ff, ff, ff, ff, ff, ff, ff, ff, ff, ff, ff, ff, ff, ff, ff, ff, ff, ff, ff, ff, ff, ff, ff, ff, ff, ff, ff, ff, ff, ff, ff, ff, ff, ff, ff, ff, ff, ff, ff, ff, ff, ff, ff, ff, ff, ff, ff, ff, ff, ff, ff, ff, ff, ff, ff, ff, ff, ff, ff, ff, ff, ff, tt, tt, tt] (.seq .nil (.seq .nil (.keep [tt, ff, ff, tt, ff, ff, ff, tt, tt, tt, ff, ff, ff, ff, ff, ff, ff, ff, ff, ff, ff, ff, ff, ff, ff, ff, ff, ff, ff, ff, ff, ff, ff, ff, ff, ff, ff, ff, ff, ff, ff, ff, ff, ff, ff, ff, ff, ff, ff, ff, ff, ff, ff, ff, ff, ff, ff, ff, ff, ff, ff, ff, ff, ff, ff, ff, ff, ff, ff, ff, ff, ff, tt, tt, tt] (.keep [tt, ff, ff, tt, ff, ff, ff, tt, tt, tt, ff, tt, ff, ff, ff, ff, ff, ff, ff, ff, ff, ff, ff, ff, ff, ff, ff, ff, ff, ff, ff, ff, ff, ff, ff, ff, ff, ff, ff, ff, ff, ff, ff, ff, ff, ff, ff, ff, ff, ff, ff, ff, ff, ff, ff, ff, ff, ff, ff, ff, ff, ff, ff, ff, ff, ff, ff, ff, ff, ff, ff, ff, tt, tt, tt, ff, ff, ff, ff, ff, ff, ff, ff, tt, tt] (.seq .nil (.seq .nil (.seq (.keep [tt, ff, ff, tt, ff, ff, ff, tt, tt, tt, ff, tt, ff, ff, ff, ff, ff, ff, ff, ff, ff, ff, ff, ff, ff, ff, ff, ff, ff, ff, ff, ff, ff, ff, ff, ff, ff, ff, ff, ff, ff, ff, ff, ff, ff, ff, ff, ff, ff, ff, ff, ff, ff, ff, ff, ff, ff, ff, ff, ff, ff, ff, ff, ff, ff, ff, ff, ff, ff, ff, ff, ff, tt, tt, tt, ff, ff, ff, ff, ff, ff, ff, ff, tt, tt] .nil) .nil)))))))) .nil))))))))) .nil))))) .nil)))), mixed := [60, 61] }
def pol59 : FPol := { ann := .nil }
def pol60 : FPol := { ann := (.seq .nil (.seq (.seq .nil (.keep [] (.keep [tt, tt, tt, ff, ff, ff, ff, tt] (.seq .nil (.seq (.keep [tt, tt, tt, ff, ff, ff, ff, tt] .nil) .nil))))) .nil)) }
def pol61 : FPol := { ann := (.seq .nil (.seq .nil (.seq (.seq .nil (.keep [ff, ff, ff, tt] (.keep [ff, tt, ff, tt, tt] (.seq .nil (.seq (.keep [ff, tt, ff, tt, tt] (.seq .nil (.keep [ff, tt, ff, tt, tt] (.keep [ff, tt, ff, tt, tt, tt] (.seq .nil (.seq (.keep [ff, tt, ff, tt, tt, tt] .nil) .nil)))))) .nil))))) .nil))) }
def pol62 : FPol := { ann := (.seq .nil (.seq .nil (.seq (.seq .nil (.keep [] (.keep [ff, tt, tt, tt, tt, ff, ff, ff, ff, tt] (.seq .nil (.seq (.keep [ff, tt, tt, tt, tt, ff, ff, ff, ff, tt] .nil) .nil))))) .nil))) }
def pol63 : FPol := { ann := .nil }
def pol64 : FPol := { ann := (.seq .nil (.seq (.seq .nil (.keep [] (.keep [tt, tt, ff, ff, ff, ff, ff, tt, tt] (.seq .nil (.seq .nil (.seq (.keep [tt, tt, ff, ff, ff, ff, ff, tt, tt] .nil) .nil)))))) .nil)) }
def pol65 : FPol := { ann := .nil }
def pol66 : FPol := { ann := (.seq .nil (.seq (.seq .nil (.keep [] (.keep [tt, tt, tt, tt, ff, ff, ff, ff, ff, ff, ff, ff, ff, ff, ff, tt, tt] (.seq .nil (.seq .nil (.seq (.keep [tt, tt, tt, tt, ff, ff, ff, ff, ff, ff, ff, ff, ff, ff, ff, tt, tt] .nil) .nil)))))) .nil)) }
def pol67 : FPol := { ann := (.seq .nil (.seq .nil (.seq (.seq .nil (.keep [ff, ff, ff, tt] (.keep [ff, ff, ff, tt, ff, ff, tt, tt, tt] (.seq .nil (.seq .nil (.seq (.keep [ff, ff, ff, tt, ff, ff, tt, tt, tt] .nil) .nil)))))) .nil))) }
def pol68 : FPol := { ann := .nil }
def pol69 : FPol := { ann := .nil }
def pol70 : FPol := { ann := (.seq .nil (.seq (.seq .nil (.keep [tt, tt] (.keep [tt, tt, ff, ff, ff, tt] (.seq .nil (.seq (.keep [tt, tt, ff, ff, ff, tt] .nil) .nil))))) .nil)) }
def pol71 : FPol := { ann := (.seq .nil (.seq .nil (.seq .nil (.seq (.seq .nil (.keep [] (.keep [ff, tt, ff, tt, ff, tt, ff, tt] (.seq .nil (.seq (.keep [ff, tt, ff, tt, ff, tt, ff, tt] .nil) .nil))))) .nil)))) }
def pol72 : FPol := { ann := (.seq .nil (.seq (.seq .nil (.keep [] (.keep [ff, tt, tt, tt, tt, ff, ff, ff, ff, tt] (.seq .nil (.seq (.keep [ff, tt, tt, tt, tt, ff, ff, ff, ff, tt] .nil) .nil))))) .nil)) }
def pol73 : FPol := { ann := (.seq .nil (.seq (.seq .nil (.keep [tt, tt] (.keep [tt, tt, ff, ff, ff, ff, ff, ff, ff, tt, tt, tt] (.seq .nil (.seq .nil (.seq (.keep [tt, tt, ff, ff, ff, ff, ff, ff, ff, tt, tt, tt] .nil) .nil)))))) .nil)) }
def pol74 : FPol := { ann := .nil }
def pol75 : FPol := { ann := .nil }
def pol76 : FPol := { ann := (.seq .nil (.seq .nil (.seq .nil (.seq (.seq .nil (.keep [ff, tt, ff, tt, tt] (.keep [ff, tt, ff, tt, tt, ff, ff, ff, ff, ff, ff, ff, ff, ff, ff, ff, ff, ff, ff, ff, tt, tt, tt] (.seq .nil (.seq .nil (.seq (.keep [ff, tt, ff, tt, tt, ff, ff, ff, ff, ff, ff, ff, ff, ff, ff, ff, ff, ff, ff, ff, tt, tt, tt] .nil) .nil)))))) (.seq (.seq .nil (.keep [ff, ff, ff, ff, tt] (.keep [ff, tt, ff, tt, tt, ff, ff, ff, ff, ff, ff, ff, ff, ff, ff, ff, ff, ff, ff, ff, ff, ff, ff, ff, ff, ff, ff, ff, ff, ff, ff, ff, ff, ff, ff, ff, ff, ff, ff, ff, ff, ff, ff, ff, ff, ff, ff, ff, ff, tt, tt, tt] (.seq .nil (.seq .nil (.seq (.keep [ff, tt, ff, tt, tt, ff, ff, ff, ff, ff, ff, ff, ff, ff, ff, ff, ff, ff, ff, ff, ff, ff, ff, ff, ff, ff, ff, ff, ff, ff, ff, ff, ff, ff, ff, ff, ff, ff, ff, ff, ff, ff, ff, ff, ff, ff, ff, ff, ff, tt, tt, tt] .nil) .nil)))))) .nil))))) }
def pol77 : FPol := { ann := .nil }
def pol78 : FPol := { ann := .nil }
def pol79 : FPol := { ann := .nil }
def pol80 : FPol := { ann := (.seq .nil (.keep [] (.keep [tt, tt, ff, tt] (.seq .nil (.seq (.keep [tt, tt, ff, tt] .nil) .nil))))) }
def pol81 : FPol := { ann := (.seq .nil (.seq (.seq .nil (.keep [] (.keep [tt, tt, ff, ff, ff, ff, ff, tt, tt] (.seq .nil (.seq .nil (.seq (.keep [tt, tt, ff, ff, ff, ff, ff, tt, tt] .nil) .nil)))))) .nil)) }
def pol82 : FPol := { ann := .nil }
def pol83 : FPol := { ann := (.seq .nil (.seq (.seq .nil (.keep [] (.keep [tt, tt, ff, ff, ff, ff, ff, tt, tt] (.seq .nil (.seq .nil (.seq (.keep [tt, tt, ff, ff, ff, ff, ff, tt, tt] .nil) .nil)))))) .nil)) }
def pol84 : FPol := { ann := .nil }
def pol85 : FPol := { ann := .nil }
def pol86 : FPol := { ann := .nil }
def pol87 : FPol := { ann := .nil }
def pol88 : FPol := { ann := .nil }
def pol89 : FPol := { ann := (.seq .nil (.seq (.seq .nil (.keep [] (.keep [tt, tt, tt, tt, ff, ff, ff, ff, ff, tt] (.seq .nil (.seq (.keep [tt, tt, tt, tt, ff, ff, ff, ff, ff, tt] .nil) .nil))))) .nil)) }
def pol90 : FPol := { ann := .nil }
def pol91 : FPol := { ann := .nil }
def pol92 : FPol := { ann := .nil }
def pol : FuncId → FPol
  | 3 => pol3
  | 4 => pol4
  | 5 => pol5
  | 6 => pol6
  | 7 => pol7
  | 8 => pol8
  | 9 => pol9
  | 10 => pol10
  | 11 => pol11
  | 12 => pol12
  | 13 => pol13
  | 14 => pol14
  | 15 => pol15
  | 16 => pol16
  | 17 => pol17
  | 18 => pol18
  | 19 => pol19
  | 20 => pol20
  | 21 => pol21
  | 22 => pol22
  | 23 => pol23
  | 24 => pol24
  | 25 => pol25
  | 26 => pol26
  | 27 => pol27
  | 28 => pol28
  | 29 => pol29
  | 30 => pol30
  | 31 => pol31
  | 32 => pol32
  | 33 => pol33
  | 34 => pol34
  | 35 => pol35
  | 36 => pol36
  | 37 => pol37
  | 38 => pol38
  | 39 => pol39
  | 40 => pol40
  | 41 => pol41
  | 42 => pol42
  | 43 => pol43
  | 44 => pol44
  | 45 => pol45
  | 46 => pol46
  | 47 => pol47
  | 48 => pol48
  | 49 => pol49
  | 50 => pol50
  | 51 => pol51
  | 52 => pol52
  | 53 => pol53
  | 54 => pol54
  | 55 => pol55
  | 56 => pol56
  | 57 => pol57
  | 58 => pol58
  | 59 => pol59
  | 60 => pol60
  | 61 => pol61
  | 62 => pol62
  | 63 => pol63
  | 64 => pol64
  | 65 => pol65
  | 66 => pol66
  | 67 => pol67
  | 68 => pol68
  | 69 => pol69
  | 70 => pol70
  | 71 => pol71
  | 72 => pol72
  | 73 => pol73
  | 74 => pol74
  | 75 => pol75
  | 76 => pol76
  | 77 => pol77
  | 78 => pol78
  | 79 => pol79
  | 80 => pol80
  | 81 => pol81
  | 82 => pol82
  | 83 => pol83
  | 84 => pol84
  | 85 => pol85
  | 86 => pol86
  | 87 => pol87
  | 88 => pol88
  | 89 => pol89
  | 90 => pol90
  | 91 => pol91
  | 92 => pol92
  | _ => {}
noncomputable abbrev CC : CallF := callL PP pol
end Go.D
end
/- Typed values of chapter 21, and what operations do with them. -/
section
set_option linter.unusedVariables false
set_option linter.unusedSimpArgs false
namespace Go.D

abbrev pI (n : Int) : PV := .int .i64 n
def eInts (l : List Int) : List PV := l.map pI
def eBools (l : List Bool) : List PV := l.map .bool
def eSl : Option (List Int) → PV
  | none => .nilsl
  | some l => .sl false l.length (eInts l)
structure Edg where
  f : Int
  t : Int
  a : Int
  deriving DecidableEq, Inhabited
def eEdg (e : Edg) : List PV := [pI e.f, pI e.t, pI e.a]
def eEdgs : List Edg → List PV
  | [] => []
  | e :: l => pI e.f :: pI e.t :: pI e.a :: eEdgs l
def eEs : Option (List Edg) → PV
  | none => .nilsl
  | some l => .sl false l.length (eEdgs l)
structure Gr where
  n : Int
  init : Option (List Int)
  edges : Option (List Edg)
structure Pair where
  lo : Gr
  up : Gr
  ll : Option (List Int)
  ul : Option (List Int)
def eGr (g : Gr) : List DV := [.p (pI g.n), .p (eSl g.init), .p (eEs g.edges)]
def ePair (p : Pair) : List DV := [.p (pI p.lo.n), .p (eSl p.lo.init), .p (eEs p.lo.edges), .p (pI p.up.n), .p (eSl p.up.init), .p (eEs p.up.edges), .p (eSl p.ll), .p (eSl p.ul)]
abbrev L {α : Type} (o : Option (List α)) : List α := o.getD []

/-! ### Canonical values -/
theorem loosens_ints (l : List Int) : loosens (eInts l) = eInts l := by
  induction l with
  | nil => rfl
  | cons a l ih => simp only [eInts, List.map_cons, loosens, loosen] at *; rw [ih]
theorem loosens_bools (l : List Bool) : loosens (eBools l) = eBools l := by
  induction l with
  | nil => rfl
  | cons a l ih => simp only [eBools, List.map_cons, loosens, loosen] at *; rw [ih]
theorem loosens_edgs (l : List Edg) : loosens (eEdgs l) = eEdgs l := by
  induction l with
  | nil => rfl
  | cons a l ih => simp only [eEdgs, loosens, loosen, ih]
theorem loosen_sl (o : Option (List Int)) : loosen (eSl o) = eSl o := by
  cases o <;> simp [eSl, loosen, loosens_ints]
theorem loosen_es (o : Option (List Edg)) : loosen (eEs o) = eEs o := by
  cases o <;> simp [eEs, loosen, loosens_edgs]

/-! ### Calls -/
theorem pureFn_fn (call : CallF) (f : FuncId) (caps args : List DV) (σ : Store) : pureFn call (.fn f caps) args σ = pureV call f (args ++ caps) σ := Eq.trans rfl rfl
/-- Steps that a kernel need not compute again: no proof by rfl alone. -/
theorem obind {α β : Type} (x : α) (f : α → Option β) : (some x).bind f = f x := Eq.trans rfl rfl
theorem omap {α β : Type} (x : α) (f : α → β) : (some x).map f = some (f x) := Eq.trans rfl rfl

/-- A call on values that name no row, at the empty store. -/
theorem pureV_free {call : CallF} {f : FuncId} {args : List DV} {σ : Store} {v v' : DV} {σ' : Store} (h1 : args.map view = args) (h2 : args.all rowFree = true) (h : call 0 f args [] = some (v', σ')) (ht : thawAll 0 σ' v' = some v) : pureV call f args σ = some v := by
  unfold pureV
  rw [h1, if_pos h2, h]
  exact ht

theorem pureV_rows {call : CallF} {f : FuncId} {args : List DV} {σ : Store} {v v' : DV} {σ' : Store} (h1 : args.map view = args) (h2 : args.all rowFree = false) (h : call σ.length f args σ = some (v', σ')) (ht : thawAll σ.length σ' v' = some v) : pureV call f args σ = some v := by
  unfold pureV
  rw [h1, if_neg (by rw [h2]; simp), h]
  exact ht

theorem pureV_any {call : CallF} {f : FuncId} {args : List DV} {σ : Store} {v : DV} (h1 : args.map view = args)
    (h : ∀ lo σ0, (σ0 = [] ∧ lo = 0 ∧ args.all rowFree = true) ∨ (σ0 = σ ∧ lo = σ.length ∧ args.all rowFree = false) → ∃ v' σ', call lo f args σ0 = some (v', σ') ∧ thawAll lo σ' v' = some v) : pureV call f args σ = some v := by
  cases hr : args.all rowFree with
  | true =>
    obtain ⟨v', σ', h2, h3⟩ := h 0 [] (.inl ⟨rfl, rfl, hr⟩)
    exact pureV_free h1 hr h2 h3
  | false =>
    obtain ⟨v', σ', h2, h3⟩ := h _ σ (.inr ⟨rfl, rfl, hr⟩)
    exact pureV_rows h1 hr h2 h3

/-- Either way: what holds at every store that goes on from this one, or at the empty one. -/
theorem thaw_int (n : Nat) (σ : Store) (x : Int) : thawAll n σ (.p (.int .i64 x)) = some (.p (.int .i64 x)) := rfl
theorem thaw_bool (n : Nat) (σ : Store) (x : Bool) : thawAll n σ (.p (.bool x)) = some (.p (.bool x)) := rfl

/-! ### Steps -/
theorem condK_true {β : Type} (x y : Option β) : condK (.p (.bool true)) x y = x := Eq.trans rfl rfl
theorem condK_false {β : Type} (x y : Option β) : condK (.p (.bool false)) x y = y := Eq.trans rfl rfl
theorem condK_if {β : Type} (b : Bool) (x y : Option β) : condK (.p (.bool b)) x y = if b = true then x else y := by cases b <;> rfl
theorem pickV_true (x y : DV) : pickV (.p (.bool true)) x y = some x := Eq.trans rfl rfl
theorem pickV_false (x y : DV) : pickV (.p (.bool false)) x y = some y := Eq.trans rfl rfl
theorem guard_tt (β : Type) (m : Option (DV × Store)) (σ : Store) (K : DV → Store → Option β) : guardT β (.p (.bool true)) true m σ K = m.bind fun r => K r.1 r.2 := Eq.trans rfl rfl
theorem guard_ff (β : Type) (m : Option (DV × Store)) (σ : Store) (K : DV → Store → Option β) : guardT β (.p (.bool false)) false m σ K = m.bind fun r => K r.1 r.2 := Eq.trans rfl rfl
theorem guard_tf (β : Type) (m : Option (DV × Store)) (σ : Store) (K : DV → Store → Option β) : guardT β (.p (.bool true)) false m σ K = K .skip σ := Eq.trans rfl rfl
theorem guard_ft (β : Type) (m : Option (DV × Store)) (σ : Store) (K : DV → Store → Option β) : guardT β (.p (.bool false)) true m σ K = K .skip σ := Eq.trans rfl rfl
theorem guard_sk (β : Type) (w : Bool) (m : Option (DV × Store)) (σ : Store) (K : DV → Store → Option β) : guardT β (.tuple []) w m σ K = K .skip σ := Eq.trans rfl rfl
theorem not_bool (b : Bool) : unOp .not (.p (.bool b)) = some (.p (.bool !b)) := Eq.trans rfl rfl
section
variable (P : Program) (t : TypeId) (a b : Int)
theorem b_geq : binOp P .geq t (.p (.int .i64 a)) (.p (.int .i64 b)) = some (.p (.bool (decide (a ≥ b)))) := Eq.trans rfl rfl
theorem b_leq : binOp P .leq t (.p (.int .i64 a)) (.p (.int .i64 b)) = some (.p (.bool (decide (a ≤ b)))) := Eq.trans rfl rfl
theorem b_gtr : binOp P .gtr t (.p (.int .i64 a)) (.p (.int .i64 b)) = some (.p (.bool (decide (a > b)))) := Eq.trans rfl rfl
theorem b_lss : binOp P .lss t (.p (.int .i64 a)) (.p (.int .i64 b)) = some (.p (.bool (decide (a < b)))) := Eq.trans rfl rfl
theorem b_eql : binOp P .eql t (.p (.int .i64 a)) (.p (.int .i64 b)) = some (.p (.bool (decide (a = b)))) := by
  show some (DV.p (PV.bool (a == b))) = _
  exact Eq.trans rfl rfl
theorem b_neq : binOp P .neq t (.p (.int .i64 a)) (.p (.int .i64 b)) = some (.p (.bool (!decide (a = b)))) := by
  show some (DV.p (PV.bool (a != b))) = _
  exact Eq.trans rfl rfl
theorem b_add : binOp P .add t (.p (.int .i64 a)) (.p (.int .i64 b)) = some (.p (.int .i64 (IntKind.wrap .i64 (a + b)))) := Eq.trans rfl rfl
theorem b_sub : binOp P .sub t (.p (.int .i64 a)) (.p (.int .i64 b)) = some (.p (.int .i64 (IntKind.wrap .i64 (a - b)))) := Eq.trans rfl rfl
theorem b_mul : binOp P .mul t (.p (.int .i64 a)) (.p (.int .i64 b)) = some (.p (.int .i64 (IntKind.wrap .i64 (a * b)))) := Eq.trans rfl rfl
end
theorem wrap_ok {x : Int} (h0 : -9223372036854775808 ≤ x) (h1 : x ≤ 9223372036854775807) : IntKind.wrap .i64 x = x := i64_ok h0 h1
theorem wrap_succ {i : Nat} (h : i ≤ 1000000) : IntKind.wrap .i64 ((i : Int) + 1) = ((i + 1 : Nat) : Int) := by
  rw [wrap_ok] <;> omega

/-! ### The types of this program -/
theorem u22 : PP.underlying 22 = some (.slice 3) := Eq.trans (by kernel_rfl) rfl
theorem u23 : PP.underlying 23 = some (.slice 100) := Eq.trans (by kernel_rfl) rfl
theorem u84 : PP.underlying 84 = some (.slice 88) := Eq.trans (by kernel_rfl) rfl
theorem u88 : PP.underlying 88 = some (.slice 4) := Eq.trans (by kernel_rfl) rfl
theorem u122 : PP.underlying 122 = some (.slice 30) := Eq.trans (by kernel_rfl) rfl
theorem s3 : size? PP 3 = some 1 := Eq.trans (by kernel_rfl) rfl
theorem s4 : size? PP 4 = some 1 := Eq.trans (by kernel_rfl) rfl
theorem s30 : size? PP 30 = some 1 := Eq.trans (by kernel_rfl) rfl
theorem s88 : size? PP 88 = some 1 := Eq.trans (by kernel_rfl) rfl
theorem s100 : size? PP 100 = some 3 := Eq.trans (by kernel_rfl) rfl
theorem len22 (o : Option (List Int)) (σ : Store) : len PP 22 (.p (eSl o)) σ = some (.p (.int .i64 ((L o).length : Nat))) := by cases o <;> simp [len, u22, eSl]
theorem len23 (o : Option (List Edg)) (σ : Store) : len PP 23 (.p (eEs o)) σ = some (.p (.int .i64 ((L o).length : Nat))) := by cases o <;> simp [len, u23, eEs]
theorem ints_length (l : List Int) : (eInts l).length = l.length := by simp [eInts]
theorem bools_length (l : List Bool) : (eBools l).length = l.length := by simp [eBools]
theorem edgs_length (l : List Edg) : (eEdgs l).length = l.length * 3 := by
  induction l with
  | nil => rfl
  | cons a l ih => simp [eEdgs, ih]; omega
theorem idx22 {o : Option (List Int)} {i : Nat} (h : i < (L o).length) : indexAddr PP 22 (.p (eSl o)) (.p (.int .i64 (i : Nat))) = some (.pptr (eInts (L o)) i) := by
  cases o with
  | none => simp at h
  | some l =>
    have h2 : (0 : Int) ≤ (i : Int) ∧ (i : Int) < (l.length : Nat) := by simp at h; omega
    simp [indexAddr, u22, s3, eSl, h2]
theorem idx23 {o : Option (List Edg)} {i : Nat} (h : i < (L o).length) : indexAddr PP 23 (.p (eEs o)) (.p (.int .i64 (i : Nat))) = some (.pptr (eEdgs (L o)) (i * 3)) := by
  cases o with
  | none => simp at h
  | some l =>
    have h2 : (0 : Int) ≤ (i : Int) ∧ (i : Int) < (l.length : Nat) := by simp at h; omega
    simp [indexAddr, u23, s100, eEs, h2]
/-- Loads of one cell. -/
def load1 (x : DV) (σ : Store) : Option DV := match loadN σ 1 x with
  | some [v] => some v
  | _ => none
theorem load3 (x : DV) (σ : Store) : load PP 3 x σ = load1 x σ := Eq.trans (by kernel_rfl) rfl
theorem load4 (x : DV) (σ : Store) : load PP 4 x σ = load1 x σ := Eq.trans (by kernel_rfl) rfl
theorem load22 (x : DV) (σ : Store) : load PP 22 x σ = load1 x σ := Eq.trans (by kernel_rfl) rfl
theorem load23 (x : DV) (σ : Store) : load PP 23 x σ = load1 x σ := Eq.trans (by kernel_rfl) rfl
theorem load30 (x : DV) (σ : Store) : load PP 30 x σ = load1 x σ := Eq.trans (by kernel_rfl) rfl
theorem load82 (x : DV) (σ : Store) : load PP 82 x σ = load1 x σ := Eq.trans (by kernel_rfl) rfl
theorem load84 (x : DV) (σ : Store) : load PP 84 x σ = load1 x σ := Eq.trans (by kernel_rfl) rfl
theorem load88 (x : DV) (σ : Store) : load PP 88 x σ = load1 x σ := Eq.trans (by kernel_rfl) rfl
theorem load25 (x : DV) (σ : Store) : load PP 25 x σ = (loadN σ 3 x).map .agg := Eq.trans (by kernel_rfl) rfl
theorem load100 (x : DV) (σ : Store) : load PP 100 x σ = (loadN σ 3 x).map .agg := Eq.trans (by kernel_rfl) rfl
theorem load27 (x : DV) (σ : Store) : load PP 27 x σ = (loadN σ 8 x).map .agg := Eq.trans (by kernel_rfl) rfl
theorem load1_pptr {cs : List PV} {i : Nat} {x : PV} (h : cs[i]? = some x) (σ : Store) : load1 (.pptr cs i) σ = some (.p x) := by
  obtain ⟨h1, h2⟩ := drop_one h
  simp [load1, loadN, h1, h2]
theorem load1_ints {l : List Int} {i : Nat} (h : i < l.length) (σ : Store) : load1 (.pptr (eInts l) i) σ = some (.p (.int .i64 l[i])) :=
  load1_pptr (by simp [eInts, h]) σ
theorem load1_bools {l : List Bool} {i : Nat} (h : i < l.length) (σ : Store) : load1 (.pptr (eBools l) i) σ = some (.p (.bool l[i])) :=
  load1_pptr (by simp [eBools, h]) σ
theorem edgs_get : ∀ (l : List Edg) (i : Nat) (h : i < l.length), (eEdgs l)[i * 3]? = some (pI l[i].f) ∧ (eEdgs l)[i * 3 + 1]? = some (pI l[i].t) ∧ (eEdgs l)[i * 3 + 2]? = some (pI l[i].a)
  | e :: l, 0, h => by simp [eEdgs]
  | e :: l, i + 1, h => by
    have := edgs_get l i (by simpa using h)
    have e3 : (i + 1) * 3 = i * 3 + 1 + 1 + 1 := by omega
    rw [e3]
    simpa [eEdgs] using this
theorem load100_edgs {l : List Edg} {i : Nat} (h : i < l.length) (σ : Store) : (loadN σ 3 (.pptr (eEdgs l) (i * 3))).map DV.agg = some (.agg [.p (pI l[i].f), .p (pI l[i].t), .p (pI l[i].a)]) := by
  have hle : i * 3 + 3 ≤ (eEdgs l).length := by rw [edgs_length]; omega
  obtain ⟨h1, h2, h3⟩ := edgs_get l i h
  have hd : ((eEdgs l).drop (i * 3)).take 3 = [pI l[i].f, pI l[i].t, pI l[i].a] := by
    apply List.ext_getElem?
    intro j
    match j with
    | 0 => simpa using h1
    | 1 => simpa using h2
    | 2 => simpa using h3
    | j + 3 => simp; omega
  simp [loadN, hle, hd]
theorem fa25_0 (x : DV) : fieldAddr PP 25 x 0 = shiftPtr x 0 := Eq.trans (by kernel_rfl) rfl
theorem fa25_1 (x : DV) : fieldAddr PP 25 x 1 = shiftPtr x 1 := Eq.trans (by kernel_rfl) rfl
theorem fa25_2 (x : DV) : fieldAddr PP 25 x 2 = shiftPtr x 2 := Eq.trans (by kernel_rfl) rfl
theorem fa27_0 (x : DV) : fieldAddr PP 27 x 0 = shiftPtr x 0 := Eq.trans (by kernel_rfl) rfl
theorem fa27_1 (x : DV) : fieldAddr PP 27 x 1 = shiftPtr x 3 := Eq.trans (by kernel_rfl) rfl
theorem fa27_2 (x : DV) : fieldAddr PP 27 x 2 = shiftPtr x 6 := Eq.trans (by kernel_rfl) rfl
theorem fa27_3 (x : DV) : fieldAddr PP 27 x 3 = shiftPtr x 7 := Eq.trans (by kernel_rfl) rfl
theorem fa100_0 (x : DV) : fieldAddr PP 100 x 0 = shiftPtr x 0 := Eq.trans (by kernel_rfl) rfl
theorem fa100_1 (x : DV) : fieldAddr PP 100 x 1 = shiftPtr x 1 := Eq.trans (by kernel_rfl) rfl
theorem fa100_2 (x : DV) : fieldAddr PP 100 x 2 = shiftPtr x 2 := Eq.trans (by kernel_rfl) rfl
theorem fa118_0 (x : DV) : fieldAddr PP 118 x 0 = shiftPtr x 0 := Eq.trans (by kernel_rfl) rfl
theorem fa118_1 (x : DV) : fieldAddr PP 118 x 1 = shiftPtr x 8 := Eq.trans (by kernel_rfl) rfl
theorem shift_ptr (r off n : Nat) : shiftPtr (.ptr r off) n = some (.ptr r (off + n)) := Eq.trans rfl rfl
theorem shift_pptr (cs : List PV) (off n : Nat) : shiftPtr (.pptr cs off) n = some (.pptr cs (off + n)) := Eq.trans rfl rfl
theorem nil_ptr (r off : Nat) : nilCheckV (.ptr r off) = some (.ptr r off) := Eq.trans rfl rfl
theorem nil_pptr (cs : List PV) (off : Nat) : nilCheckV (.pptr cs off) = some (.pptr cs off) := Eq.trans rfl rfl
theorem load1_ptr {σ : Store} {r off : Nat} {cs : List DV} {v : DV} (h : σ[r]? = some (.mix cs)) (hv : cs[off]? = some v) : load1 (.ptr r off) σ = some v := by
  obtain ⟨h1, h2⟩ := List.getElem?_eq_some_iff.1 hv
  have h3 : (cs.drop off).take 1 = [v] := by rw [List.drop_eq_getElem_cons h1, h2]; rfl
  have h4 : off + 1 ≤ cs.length := h1
  simp [load1, loadN, h, h3, h4]
theorem loadN_ptr {σ : Store} {r off n : Nat} {cs vs : List DV} (h : σ[r]? = some (.mix cs)) (hv : (cs.drop off).take n = vs) (hn : off + n ≤ cs.length) : loadN σ n (.ptr r off) = some vs := by
  simp [loadN, h, hn, hv]
theorem zero100 : zeroOf PP 100 = some [.p (pI 0), .p (pI 0), .p (pI 0)] := Eq.trans (by kernel_rfl) rfl
theorem zero3 : zeroOf PP 3 = some [.p (pI 0)] := Eq.trans (by kernel_rfl) rfl
theorem zero25 : zeroOf PP 25 = some [.p (pI 0), .p .nilsl, .p .nilsl] := Eq.trans (by kernel_rfl) rfl
theorem zero27 : zeroOf PP 27 = some [.p (pI 0), .p .nilsl, .p .nilsl, .p (pI 0), .p .nilsl, .p .nilsl, .p .nilsl, .p .nilsl] := Eq.trans (by kernel_rfl) rfl
theorem zero82 : zeroOf PP 82 = some [.p .nilptr] := Eq.trans (by kernel_rfl) rfl
theorem zero84 : zeroOf PP 84 = some [.p .nilsl] := Eq.trans (by kernel_rfl) rfl

end Go.D
end
/- Closed calls, worked out by the kernel one by one. -/
section
set_option linter.unusedVariables false
set_option maxRecDepth 100000
namespace Go.D

mutual
def eqPV : PV → PV → Bool
  | .bool a, .bool b => a == b
  | .int k n, .int k' m => k == k' && n == m
  | .nilsl, .nilsl => true
  | .sl a n cs, .sl b m ds => a == b && n == m && eqPVs cs ds
  | _, _ => false
def eqPVs : List PV → List PV → Bool
  | [], [] => true
  | a :: as', b :: bs => eqPV a b && eqPVs as' bs
  | _, _ => false
end
mutual
theorem eqPV_eq : ∀ (a b : PV), eqPV a b = true → a = b
  | .bool a, .bool b, h => by simp [eqPV] at h; rw [h]
  | .int k n, .int k' m, h => by
    simp [eqPV] at h
    rw [h.1, h.2]
  | .nilsl, .nilsl, h => rfl
  | .sl a n cs, .sl b m ds, h => by
    simp [eqPV] at h
    rw [h.1.1, h.1.2, eqPVs_eq cs ds h.2]
  | .bool _, .int .., h | .bool _, .str _, h | .bool _, .nilptr, h | .bool _, .nilsl, h | .bool _, .nilmap, h | .bool _, .nilfn, h | .bool _, .niliface, h | .bool _, .sl .., h => by simp [eqPV] at h
  | .int .., .bool _, h | .int .., .str _, h | .int .., .nilptr, h | .int .., .nilsl, h | .int .., .nilmap, h | .int .., .nilfn, h | .int .., .niliface, h | .int .., .sl .., h => by simp [eqPV] at h
  | .nilsl, .bool _, h | .nilsl, .int .., h | .nilsl, .str _, h | .nilsl, .nilptr, h | .nilsl, .nilmap, h | .nilsl, .nilfn, h | .nilsl, .niliface, h | .nilsl, .sl .., h => by simp [eqPV] at h
  | .sl .., .bool _, h | .sl .., .int .., h | .sl .., .str _, h | .sl .., .nilptr, h | .sl .., .nilsl, h | .sl .., .nilmap, h | .sl .., .nilfn, h | .sl .., .niliface, h => by simp [eqPV] at h
  | .str _, b, h | .nilptr, b, h | .nilmap, b, h | .nilfn, b, h | .niliface, b, h => by cases b <;> simp [eqPV] at h
theorem eqPVs_eq : ∀ (a b : List PV), eqPVs a b = true → a = b
  | [], [], h => rfl
  | a :: as', b :: bs, h => by
    simp [eqPVs] at h
    rw [eqPV_eq a b h.1, eqPVs_eq as' bs h.2]
  | [], _ :: _, h | _ :: _, [], h => by simp [eqPVs] at h
end

/-- Values that are compared: numbers, slices, structs of these, tuples of these. -/
def flatD : DV → Option (List (Nat × PV))
  | .p v => some [(0, v)]
  | .agg cs => some (cs.filterMap fun c => match c with | .p v => some (1, v) | _ => none)
  | _ => none

def eqD1 : DV → DV → Bool
  | .p v, .p w => eqPV v w
  | _, _ => false
def eqD1s : List DV → List DV → Bool
  | [], [] => true
  | a :: as', b :: bs => eqD1 a b && eqD1s as' bs
  | _, _ => false
def eqD2 : DV → DV → Bool
  | .agg cs, .agg ds => eqD1s cs ds
  | a, b => eqD1 a b
def eqD2s : List DV → List DV → Bool
  | [], [] => true
  | a :: as', b :: bs => eqD2 a b && eqD2s as' bs
  | _, _ => false
def eqD : DV → DV → Bool
  | .tuple cs, .tuple ds => eqD2s cs ds
  | a, b => eqD2 a b

theorem eqD1_eq {a b : DV} (h : eqD1 a b = true) : a = b := by
  unfold eqD1 at h
  split at h
  · rw [eqPV_eq _ _ h]
  · exact absurd h (by simp)
theorem eqD1s_eq : ∀ {a b : List DV}, eqD1s a b = true → a = b
  | [], [], h => rfl
  | a :: as', b :: bs, h => by
    simp only [eqD1s, Bool.and_eq_true] at h
    rw [eqD1_eq h.1, eqD1s_eq h.2]
  | [], _ :: _, h => absurd h (by simp [eqD1s])
  | _ :: _, [], h => absurd h (by simp [eqD1s])
theorem eqD2_eq {a b : DV} (h : eqD2 a b = true) : a = b := by
  unfold eqD2 at h
  split at h
  · rw [eqD1s_eq h]
  · exact eqD1_eq h
theorem eqD2s_eq : ∀ {a b : List DV}, eqD2s a b = true → a = b
  | [], [], h => rfl
  | a :: as', b :: bs, h => by
    simp only [eqD2s, Bool.and_eq_true] at h
    rw [eqD2_eq h.1, eqD2s_eq h.2]
  | [], _ :: _, h => absurd h (by simp [eqD2s])
  | _ :: _, [], h => absurd h (by simp [eqD2s])
theorem eqD_eq {a b : DV} (h : eqD a b = true) : a = b := by
  unfold eqD at h
  split at h
  · rw [eqD2s_eq h]
  · exact eqD2_eq h

def runIs (P : Program) (pol : FuncId → FPol) (k : Nat) (f : FuncId) (args : List DV) (r : DV) : Bool :=
  match callK P pol k 0 f args [] with
  | some (v, σ) => match thawAll 0 σ v with
    | some v' => eqD v' r
    | none => false
  | none => false

theorem pureV_run {k : Nat} {f : FuncId} {args : List DV} {r : DV} {σ : Store} (h : runIs PP pol k f args r = true) (h1 : args.map view = args) (h2 : args.all rowFree = true) : pureV CC f args σ = some r := by
  unfold runIs at h
  split at h
  · rename_i v σ' hc
    split at h
    · rename_i v' ht
      exact pureV_free h1 h2 (callL_at hc) (ht.trans (by rw [eqD_eq h]))
    · exact absurd h (by simp)
  · exact absurd h (by simp)

end Go.D
end
/- Equations of functions 53, 56, 75, 87, 68, 67, 91, 88, 82, 70, 83, 51, 64, 78, 81, 46, 49, 90, 76, 48, 41, 15, 22, 54, printed by gen.py. -/
section
set_option linter.unusedVariables false
set_option maxRecDepth 10000
namespace Go.D
noncomputable def c53_0 : Code := bodyOf Go.Proofs.Try.f53
noncomputable def a53_0 : Ann := (pol 53).ann
noncomputable def c53_1 : Code := Code.fstC c53_0
noncomputable def a53_1 : Ann := Ann.left a53_0
noncomputable def c53_2 : Code := Code.sndC c53_0
noncomputable def a53_2 : Ann := Ann.right a53_0
noncomputable def c53_3 : Code := Code.fstC c53_2
noncomputable def a53_3 : Ann := Ann.left a53_2
noncomputable def c53_4 : Code := Code.sndC c53_2
noncomputable def a53_4 : Ann := Ann.right a53_2
noncomputable def F53 (G : GuardT) (lo : Nat) (x0 x1 x2 : DV) (σ : Store) : Option (DV × Store) :=
  codeF G PP (pol 53) CC lo c53_0 a53_0 [x0, x1, x2, ud, ud, ud, ud, ud, ud, ud, ud, ud, ud, ud, ud] σ (finR PP Go.Proofs.Try.f53.results.toList)
theorem F53_eq (G : GuardT) (lo : Nat) (x0 x1 x2 : DV) (σ : Store) : F53 G lo x0 x1 x2 σ =
    (binOp PP .geq 3 x0 x1).bind fun x9 =>
    G _ x9 true (some (x0, σ)) σ fun x11 σ1 =>
    G _ x9 true (some (x2, σ1)) σ1 fun x12 σ2 =>
    G _ x9 true ((binOp PP .leq 3 x11 x12).bind fun v => some (v, σ2)) σ2 fun x13 σ3 =>
    (pickV x9 x13 (DV.p (PV.bool false))).bind fun x14 =>
    some (x14, σ3) := by kernel_rfl
theorem F53_call {lo : Nat} {x0 x1 x2 : DV} {σ : Store} {r : DV × Store} (h : F53 guardT lo x0 x1 x2 σ = some r) : CC lo 53 [x0, x1, x2] σ = some r :=
  callL_run Go.Proofs.Try.func53 (by decide +kernel) rfl (by decide +kernel) h
noncomputable def c56_0 : Code := bodyOf Go.Proofs.Try.f56
noncomputable def a56_0 : Ann := (pol 56).ann
noncomputable def c56_1 : Code := Code.fstC c56_0
noncomputable def a56_1 : Ann := Ann.left a56_0
noncomputable def c56_2 : Code := Code.sndC c56_0
noncomputable def a56_2 : Ann := Ann.right a56_0
noncomputable def c56_3 : Code := Code.fstC c56_2
noncomputable def a56_3 : Ann := Ann.left a56_2
noncomputable def c56_10 : Code := Code.sndC c56_2
noncomputable def a56_10 : Ann := Ann.right a56_2
noncomputable def c56_4 : Code := Code.fstC c56_3
noncomputable def a56_4 : Ann := Ann.left a56_3
noncomputable def c56_5 : Code := Code.sndC c56_3
noncomputable def a56_5 : Ann := Ann.right a56_3
noncomputable def c56_6 : Code := Code.fstC c56_5
noncomputable def a56_6 : Ann := Ann.left a56_5
noncomputable def c56_9 : Code := Code.sndC c56_5
noncomputable def a56_9 : Ann := Ann.right a56_5
noncomputable def c56_7 : Code := Code.fstC c56_6
noncomputable def a56_7 : Ann := Ann.left a56_6
noncomputable def c56_8 : Code := Code.sndC c56_6
noncomputable def a56_8 : Ann := Ann.right a56_6
noncomputable def c56_11 : Code := Code.fstC c56_10
noncomputable def a56_11 : Ann := Ann.left a56_10
noncomputable def c56_12 : Code := Code.sndC c56_10
noncomputable def a56_12 : Ann := Ann.right a56_10
noncomputable def F56 (G : GuardT) (lo : Nat) (x0 x1 : DV) (σ : Store) : Option (DV × Store) :=
  codeF G PP (pol 56) CC lo c56_0 a56_0 [x0, x1, ud, ud, ud, ud, ud] σ (finR PP Go.Proofs.Try.f56.results.toList)
theorem F56_eq (G : GuardT) (lo : Nat) (x0 x1 : DV) (σ : Store) : F56 G lo x0 x1 σ =
    condK x0
     (
      some ((DV.p (PV.int IntKind.i64 (0))), σ)
     )
     (
      some (x1, σ)
     ) := by kernel_rfl
theorem F56_call {lo : Nat} {x0 x1 : DV} {σ : Store} {r : DV × Store} (h : F56 guardT lo x0 x1 σ = some r) : CC lo 56 [x0, x1] σ = some r :=
  callL_run Go.Proofs.Try.func56 (by decide +kernel) rfl (by decide +kernel) h
noncomputable def c75_0 : Code := bodyOf Go.Proofs.Try.f75
noncomputable def a75_0 : Ann := (pol 75).ann
noncomputable def c75_1 : Code := Code.fstC c75_0
noncomputable def a75_1 : Ann := Ann.left a75_0
noncomputable def c75_2 : Code := Code.sndC c75_0
noncomputable def a75_2 : Ann := Ann.right a75_0
noncomputable def c75_3 : Code := Code.fstC c75_2
noncomputable def a75_3 : Ann := Ann.left a75_2
noncomputable def c75_4 : Code := Code.sndC c75_2
noncomputable def a75_4 : Ann := Ann.right a75_2
noncomputable def F75 (G : GuardT) (lo : Nat) (x0 : DV) (σ : Store) : Option (DV × Store) :=
  codeF G PP (pol 75) CC lo c75_0 a75_0 [x0, ud, ud, ud, ud, ud] σ (finR PP Go.Proofs.Try.f75.results.toList)
theorem F75_eq (G : GuardT) (lo : Nat) (x0 : DV) (σ : Store) : F75 G lo x0 σ =
    (pureFn CC (DV.fn 53 []) [x0, (DV.p (PV.int IntKind.i64 (0))), (DV.p (PV.int IntKind.i64 (10000)))] σ).bind fun x4 =>
    (unOp .not x4).bind fun x5 =>
    some (x5, σ) := by kernel_rfl
theorem F75_call {lo : Nat} {x0 : DV} {σ : Store} {r : DV × Store} (h : F75 guardT lo x0 σ = some r) : CC lo 75 [x0] σ = some r :=
  callL_run Go.Proofs.Try.func75 (by decide +kernel) rfl (by decide +kernel) h
noncomputable def c87_0 : Code := bodyOf Go.Proofs.Try.f87
noncomputable def a87_0 : Ann := (pol 87).ann
noncomputable def c87_1 : Code := Code.fstC c87_0
noncomputable def a87_1 : Ann := Ann.left a87_0
noncomputable def c87_2 : Code := Code.sndC c87_0
noncomputable def a87_2 : Ann := Ann.right a87_0
noncomputable def c87_3 : Code := Code.fstC c87_2
noncomputable def a87_3 : Ann := Ann.left a87_2
noncomputable def c87_4 : Code := Code.sndC c87_2
noncomputable def a87_4 : Ann := Ann.right a87_2
noncomputable def F87 (G : GuardT) (lo : Nat) (x0 : DV) (σ : Store) : Option (DV × Store) :=
  codeF G PP (pol 87) CC lo c87_0 a87_0 [x0, ud, ud, ud, ud, ud] σ (finR PP Go.Proofs.Try.f87.results.toList)
theorem F87_eq (G : GuardT) (lo : Nat) (x0 : DV) (σ : Store) : F87 G lo x0 σ =
    (binOp PP .neq 3 x0 x0).bind fun x5 =>
    some (x5, σ) := by kernel_rfl
theorem F87_call {lo : Nat} {x0 : DV} {σ : Store} {r : DV × Store} (h : F87 guardT lo x0 σ = some r) : CC lo 87 [x0] σ = some r :=
  callL_run Go.Proofs.Try.func87 (by decide +kernel) rfl (by decide +kernel) h
noncomputable def c68_0 : Code := bodyOf Go.Proofs.Try.f68
noncomputable def a68_0 : Ann := (pol 68).ann
noncomputable def c68_1 : Code := Code.fstC c68_0
noncomputable def a68_1 : Ann := Ann.left a68_0
noncomputable def c68_2 : Code := Code.sndC c68_0
noncomputable def a68_2 : Ann := Ann.right a68_0
noncomputable def c68_3 : Code := Code.fstC c68_2
noncomputable def a68_3 : Ann := Ann.left a68_2
noncomputable def c68_4 : Code := Code.sndC c68_2
noncomputable def a68_4 : Ann := Ann.right a68_2
noncomputable def c68_5 : Code := Code.fstC c68_4
noncomputable def a68_5 : Ann := Ann.left a68_4
noncomputable def c68_6 : Code := Code.sndC c68_4
noncomputable def a68_6 : Ann := Ann.right a68_4
noncomputable def c68_7 : Code := Code.fstC c68_6
noncomputable def a68_7 : Ann := Ann.left a68_6
noncomputable def c68_22 : Code := Code.sndC c68_6
noncomputable def a68_22 : Ann := Ann.right a68_6
noncomputable def c68_8 : Code := Code.fstC c68_7
noncomputable def a68_8 : Ann := Ann.left a68_7
noncomputable def c68_9 : Code := Code.sndC c68_7
noncomputable def a68_9 : Ann := Ann.right a68_7
noncomputable def c68_10 : Code := Code.fstC c68_9
noncomputable def a68_10 : Ann := Ann.left a68_9
noncomputable def c68_21 : Code := Code.sndC c68_9
noncomputable def a68_21 : Ann := Ann.right a68_9
noncomputable def c68_11 : Code := Code.fstC c68_10
noncomputable def a68_11 : Ann := Ann.left a68_10
noncomputable def c68_18 : Code := Code.sndC c68_10
noncomputable def a68_18 : Ann := Ann.right a68_10
noncomputable def c68_12 : Code := Code.fstC c68_11
noncomputable def a68_12 : Ann := Ann.left a68_11
noncomputable def c68_13 : Code := Code.sndC c68_11
noncomputable def a68_13 : Ann := Ann.right a68_11
noncomputable def c68_14 : Code := Code.fstC c68_13
noncomputable def a68_14 : Ann := Ann.left a68_13
noncomputable def c68_17 : Code := Code.sndC c68_13
noncomputable def a68_17 : Ann := Ann.right a68_13
noncomputable def c68_15 : Code := Code.fstC c68_14
noncomputable def a68_15 : Ann := Ann.left a68_14
noncomputable def c68_16 : Code := Code.sndC c68_14
noncomputable def a68_16 : Ann := Ann.right a68_14
noncomputable def c68_19 : Code := Code.fstC c68_18
noncomputable def a68_19 : Ann := Ann.left a68_18
noncomputable def c68_20 : Code := Code.sndC c68_18
noncomputable def a68_20 : Ann := Ann.right a68_18
noncomputable def c68_23 : Code := Code.fstC c68_22
noncomputable def a68_23 : Ann := Ann.left a68_22
noncomputable def c68_30 : Code := Code.sndC c68_22
noncomputable def a68_30 : Ann := Ann.right a68_22
noncomputable def c68_24 : Code := Code.fstC c68_23
noncomputable def a68_24 : Ann := Ann.left a68_23
noncomputable def c68_25 : Code := Code.sndC c68_23
noncomputable def a68_25 : Ann := Ann.right a68_23
noncomputable def c68_26 : Code := Code.fstC c68_25
noncomputable def a68_26 : Ann := Ann.left a68_25
noncomputable def c68_29 : Code := Code.sndC c68_25
noncomputable def a68_29 : Ann := Ann.right a68_25
noncomputable def c68_27 : Code := Code.fstC c68_26
noncomputable def a68_27 : Ann := Ann.left a68_26
noncomputable def c68_28 : Code := Code.sndC c68_26
noncomputable def a68_28 : Ann := Ann.right a68_26
noncomputable def c68_31 : Code := Code.fstC c68_30
noncomputable def a68_31 : Ann := Ann.left a68_30
noncomputable def c68_38 : Code := Code.sndC c68_30
noncomputable def a68_38 : Ann := Ann.right a68_30
noncomputable def c68_32 : Code := Code.fstC c68_31
noncomputable def a68_32 : Ann := Ann.left a68_31
noncomputable def c68_33 : Code := Code.sndC c68_31
noncomputable def a68_33 : Ann := Ann.right a68_31
noncomputable def c68_34 : Code := Code.fstC c68_33
noncomputable def a68_34 : Ann := Ann.left a68_33
noncomputable def c68_37 : Code := Code.sndC c68_33
noncomputable def a68_37 : Ann := Ann.right a68_33
noncomputable def c68_35 : Code := Code.fstC c68_34
noncomputable def a68_35 : Ann := Ann.left a68_34
noncomputable def c68_36 : Code := Code.sndC c68_34
noncomputable def a68_36 : Ann := Ann.right a68_34
noncomputable def c68_39 : Code := Code.fstC c68_38
noncomputable def a68_39 : Ann := Ann.left a68_38
noncomputable def c68_46 : Code := Code.sndC c68_38
noncomputable def a68_46 : Ann := Ann.right a68_38
noncomputable def c68_40 : Code := Code.fstC c68_39
noncomputable def a68_40 : Ann := Ann.left a68_39
noncomputable def c68_41 : Code := Code.sndC c68_39
noncomputable def a68_41 : Ann := Ann.right a68_39
noncomputable def c68_42 : Code := Code.fstC c68_41
noncomputable def a68_42 : Ann := Ann.left a68_41
noncomputable def c68_45 : Code := Code.sndC c68_41
noncomputable def a68_45 : Ann := Ann.right a68_41
noncomputable def c68_43 : Code := Code.fstC c68_42
noncomputable def a68_43 : Ann := Ann.left a68_42
noncomputable def c68_44 : Code := Code.sndC c68_42
noncomputable def a68_44 : Ann := Ann.right a68_42
noncomputable def c68_47 : Code := Code.fstC c68_46
noncomputable def a68_47 : Ann := Ann.left a68_46
noncomputable def c68_48 : Code := Code.sndC c68_46
noncomputable def a68_48 : Ann := Ann.right a68_46
noncomputable def F68 (G : GuardT) (lo : Nat) (x0 x1 : DV) (σ : Store) : Option (DV × Store) :=
  codeF G PP (pol 68) CC lo c68_0 a68_0 [x0, x1, ud, ud, ud, ud, ud, ud, ud, ud, ud, ud, ud, ud, ud, ud, ud, ud, ud, ud] σ (finR PP Go.Proofs.Try.f68.results.toList)
theorem F68_eq (G : GuardT) (lo : Nat) (x0 x1 : DV) (σ : Store) : F68 G lo x0 x1 σ =
    (pureFn CC (DV.fn 87 []) [x0] σ).bind fun x8 =>
    (pureFn CC (DV.fn 87 []) [x1] σ).bind fun x10 =>
    condK x8
     (
      condK x10
       (
        some ((DV.p (PV.int IntKind.i64 (0))), σ)
       )
       (
        some ((DV.p (PV.int IntKind.i64 (-1))), σ)
       )
     )
     (
      condK x10
       (
        some ((DV.p (PV.int IntKind.i64 (1))), σ)
       )
       (
        (binOp PP .lss 3 x0 x1).bind fun x16 =>
        condK x16
         (
          some ((DV.p (PV.int IntKind.i64 (-1))), σ)
         )
         (
          (binOp PP .gtr 3 x0 x1).bind fun x19 =>
          condK x19
           (
            some ((DV.p (PV.int IntKind.i64 (1))), σ)
           )
           (
            some ((DV.p (PV.int IntKind.i64 (0))), σ)
           )
         )
       )
     ) := by kernel_rfl
theorem F68_call {lo : Nat} {x0 x1 : DV} {σ : Store} {r : DV × Store} (h : F68 guardT lo x0 x1 σ = some r) : CC lo 68 [x0, x1] σ = some r :=
  callL_run Go.Proofs.Try.func68 (by decide +kernel) rfl (by decide +kernel) h
noncomputable def c67_0 : Code := bodyOf Go.Proofs.Try.f67
noncomputable def a67_0 : Ann := (pol 67).ann
noncomputable def c67_1 : Code := Code.fstC c67_0
noncomputable def a67_1 : Ann := Ann.left a67_0
noncomputable def c67_2 : Code := Code.sndC c67_0
noncomputable def a67_2 : Ann := Ann.right a67_0
noncomputable def c67_3 : Code := Code.fstC c67_2
noncomputable def a67_3 : Ann := Ann.left a67_2
noncomputable def c67_4 : Code := Code.sndC c67_2
noncomputable def a67_4 : Ann := Ann.right a67_2
noncomputable def c67_5 : Code := Code.fstC c67_4
noncomputable def a67_5 : Ann := Ann.left a67_4
noncomputable def c67_27 : Code := Code.sndC c67_4
noncomputable def a67_27 : Ann := Ann.right a67_4
noncomputable def c67_6 : Code := Code.fstC c67_5
noncomputable def a67_6 : Ann := Ann.left a67_5
noncomputable def c67_7 : Code := Code.sndC c67_5
noncomputable def a67_7 : Ann := Ann.right a67_5
noncomputable def c67_8 : Code := Code.fstC c67_7
noncomputable def a67_8 : Ann := Ann.left a67_7
noncomputable def c67_9 : Code := Code.fstC c67_8
noncomputable def a67_9 : Ann := Ann.left a67_8
noncomputable def c67_10 : Code := Code.fstC c67_9
noncomputable def a67_10 : Ann := Ann.left a67_9
noncomputable def c67_11 : Code := Code.sndC c67_9
noncomputable def a67_11 : Ann := Ann.right a67_9
noncomputable def c67_12 : Code := Code.fstC c67_11
noncomputable def a67_12 : Ann := Ann.left a67_11
noncomputable def c67_15 : Code := Code.sndC c67_11
noncomputable def a67_15 : Ann := Ann.right a67_11
noncomputable def c67_13 : Code := Code.fstC c67_12
noncomputable def a67_13 : Ann := Ann.left a67_12
noncomputable def c67_14 : Code := Code.sndC c67_12
noncomputable def a67_14 : Ann := Ann.right a67_12
noncomputable def c67_16 : Code := Code.fstC c67_15
noncomputable def a67_16 : Ann := Ann.left a67_15
noncomputable def c67_26 : Code := Code.sndC c67_15
noncomputable def a67_26 : Ann := Ann.right a67_15
noncomputable def c67_17 : Code := Code.fstC c67_16
noncomputable def a67_17 : Ann := Ann.left a67_16
noncomputable def c67_18 : Code := Code.fstC c67_17
noncomputable def a67_18 : Ann := Ann.left a67_17
noncomputable def c67_19 : Code := Code.sndC c67_17
noncomputable def a67_19 : Ann := Ann.right a67_17
noncomputable def c67_20 : Code := Code.fstC c67_19
noncomputable def a67_20 : Ann := Ann.left a67_19
noncomputable def c67_21 : Code := Code.sndC c67_19
noncomputable def a67_21 : Ann := Ann.right a67_19
noncomputable def c67_22 : Code := Code.fstC c67_21
noncomputable def a67_22 : Ann := Ann.left a67_21
noncomputable def c67_25 : Code := Code.sndC c67_21
noncomputable def a67_25 : Ann := Ann.right a67_21
noncomputable def c67_23 : Code := Code.fstC c67_22
noncomputable def a67_23 : Ann := Ann.left a67_22
noncomputable def c67_24 : Code := Code.sndC c67_22
noncomputable def a67_24 : Ann := Ann.right a67_22
noncomputable def c67_28 : Code := Code.fstC c67_27
noncomputable def a67_28 : Ann := Ann.left a67_27
noncomputable def c67_29 : Code := Code.sndC c67_27
noncomputable def a67_29 : Ann := Ann.right a67_27
noncomputable def f67_L0 (G : GuardT) (lo : Nat) (x3 x6 x7 x8 : DV) (σ : Store) : Option (DV × Store) :=
  codeF G PP (pol 67) CC lo (.loop c67_9) a67_8 [ud, ud, ud, x3, ud, ud, x6, x7, x8, ud, ud, ud, ud, ud, ud, ud, ud, ud] σ
   (blockC 0 a67_7 (seqC G PP (pol 67) CC lo c67_27 a67_27 (finR PP Go.Proofs.Try.f67.results.toList)))
noncomputable def F67 (G : GuardT) (lo : Nat) (x0 : DV) (σ : Store) : Option (DV × Store) :=
  codeF G PP (pol 67) CC lo c67_0 a67_0 [x0, ud, ud, ud, ud, ud, ud, ud, ud, ud, ud, ud, ud, ud, ud, ud, ud, ud] σ (finR PP Go.Proofs.Try.f67.results.toList)
theorem f67_L0_eq (G : GuardT) (hG : GuardOk G) (lo : Nat) (x3 x6 x7 x8 : DV) (σ : Store) : f67_L0 G lo x3 x6 x7 x8 σ =
    (binOp PP .lss 3 x8 x7).bind fun x9 =>
    condK x9
     (
      (indexAddr PP 22 x6 x8).bind fun x10 =>
      (load PP 3 x10 σ).bind fun x11 =>
      (binOp PP .neq 3 x11 x3).bind fun x14 =>
      condK x14
       (
        some (x11, σ)
       )
       (
        (binOp PP .add 3 x8 (DV.p (PV.int IntKind.i64 (1)))).bind fun x16 =>
        f67_L0 G lo x3 x6 x7 x16 σ
       )
     )
     (
      some (x3, σ)
     ) := (loopF_eq G hG).trans (by kernel_rfl)
theorem F67_eq (G : GuardT) (lo : Nat) (x0 : DV) (σ : Store) : F67 G lo x0 σ =
    (len PP 22 x0 σ).bind fun x7 =>
    f67_L0 G lo (DV.p (PV.int IntKind.i64 (0))) x0 x7 (DV.p (PV.int IntKind.i64 (0))) σ := by kernel_rfl
theorem F67_call {lo : Nat} {x0 : DV} {σ : Store} {r : DV × Store} (h : F67 guardT lo x0 σ = some r) : CC lo 67 [x0] σ = some r :=
  callL_run Go.Proofs.Try.func67 (by decide +kernel) rfl (by decide +kernel) h
noncomputable def c91_0 : Code := bodyOf Go.Proofs.Try.f91
noncomputable def a91_0 : Ann := (pol 91).ann
noncomputable def c91_1 : Code := Code.fstC c91_0
noncomputable def a91_1 : Ann := Ann.left a91_0
noncomputable def c91_2 : Code := Code.sndC c91_0
noncomputable def a91_2 : Ann := Ann.right a91_0
noncomputable def c91_3 : Code := Code.fstC c91_2
noncomputable def a91_3 : Ann := Ann.left a91_2
noncomputable def c91_4 : Code := Code.sndC c91_2
noncomputable def a91_4 : Ann := Ann.right a91_2
noncomputable def F91 (G : GuardT) (lo : Nat) (x0 x1 : DV) (σ : Store) : Option (DV × Store) :=
  codeF G PP (pol 91) CC lo c91_0 a91_0 [x0, x1, ud, ud, ud, ud, ud, ud, ud, ud, ud, ud, ud, ud, ud, ud, ud, ud, ud, ud, ud, ud] σ (finR PP Go.Proofs.Try.f91.results.toList)
theorem F91_eq (G : GuardT) (lo : Nat) (x0 x1 : DV) (σ : Store) : F91 G lo x0 x1 σ =
    (boxV x0).bind fun z2 =>
    (boxV x1).bind fun z3 =>
    (fieldAddr PP 100 (DV.ptr (List.length σ) 0) 0).bind fun x5 =>
    (load PP 3 x5 ((σ ++ [Row.mix z2]) ++ [Row.mix z3])).bind fun x6 =>
    (fieldAddr PP 100 (DV.ptr (List.length (σ ++ [Row.mix z2])) 0) 0).bind fun x7 =>
    (load PP 3 x7 ((σ ++ [Row.mix z2]) ++ [Row.mix z3])).bind fun x8 =>
    (pureFn CC (DV.fn 68 []) [x6, x8] ((σ ++ [Row.mix z2]) ++ [Row.mix z3])).bind fun x9 =>
    (fieldAddr PP 100 (DV.ptr (List.length σ) 0) 1).bind fun x10 =>
    (load PP 3 x10 ((σ ++ [Row.mix z2]) ++ [Row.mix z3])).bind fun x11 =>
    (fieldAddr PP 100 (DV.ptr (List.length (σ ++ [Row.mix z2])) 0) 1).bind fun x12 =>
    (load PP 3 x12 ((σ ++ [Row.mix z2]) ++ [Row.mix z3])).bind fun x13 =>
    (pureFn CC (DV.fn 68 []) [x11, x13] ((σ ++ [Row.mix z2]) ++ [Row.mix z3])).bind fun x14 =>
    (fieldAddr PP 100 (DV.ptr (List.length σ) 0) 2).bind fun x15 =>
    (load PP 3 x15 ((σ ++ [Row.mix z2]) ++ [Row.mix z3])).bind fun x16 =>
    (fieldAddr PP 100 (DV.ptr (List.length (σ ++ [Row.mix z2])) 0) 2).bind fun x17 =>
    (load PP 3 x17 ((σ ++ [Row.mix z2]) ++ [Row.mix z3])).bind fun x18 =>
    (pureFn CC (DV.fn 68 []) [x16, x18] ((σ ++ [Row.mix z2]) ++ [Row.mix z3])).bind fun x19 =>
    (buildSlice PP none 22 3 [(0, x9), (1, x14), (2, x19)] ((σ ++ [Row.mix z2]) ++ [Row.mix z3])).bind fun r20_1 =>
    (pureFn CC (DV.fn 67 []) [r20_1.1] r20_1.2).bind fun x21 =>
    some (x21, r20_1.2) := by kernel_rfl
theorem F91_call {lo : Nat} {x0 x1 : DV} {σ : Store} {r : DV × Store} (h : F91 guardT lo x0 x1 σ = some r) : CC lo 91 [x0, x1] σ = some r :=
  callL_run Go.Proofs.Try.func91 (by decide +kernel) rfl (by decide +kernel) h
noncomputable def c88_0 : Code := bodyOf Go.Proofs.Try.f88
noncomputable def a88_0 : Ann := (pol 88).ann
noncomputable def c88_1 : Code := Code.fstC c88_0
noncomputable def a88_1 : Ann := Ann.left a88_0
noncomputable def c88_2 : Code := Code.sndC c88_0
noncomputable def a88_2 : Ann := Ann.right a88_0
noncomputable def c88_3 : Code := Code.fstC c88_2
noncomputable def a88_3 : Ann := Ann.left a88_2
noncomputable def c88_10 : Code := Code.sndC c88_2
noncomputable def a88_10 : Ann := Ann.right a88_2
noncomputable def c88_4 : Code := Code.fstC c88_3
noncomputable def a88_4 : Ann := Ann.left a88_3
noncomputable def c88_5 : Code := Code.sndC c88_3
noncomputable def a88_5 : Ann := Ann.right a88_3
noncomputable def c88_6 : Code := Code.fstC c88_5
noncomputable def a88_6 : Ann := Ann.left a88_5
noncomputable def c88_9 : Code := Code.sndC c88_5
noncomputable def a88_9 : Ann := Ann.right a88_5
noncomputable def c88_7 : Code := Code.fstC c88_6
noncomputable def a88_7 : Ann := Ann.left a88_6
noncomputable def c88_8 : Code := Code.sndC c88_6
noncomputable def a88_8 : Ann := Ann.right a88_6
noncomputable def c88_11 : Code := Code.fstC c88_10
noncomputable def a88_11 : Ann := Ann.left a88_10
noncomputable def c88_12 : Code := Code.sndC c88_10
noncomputable def a88_12 : Ann := Ann.right a88_10
noncomputable def F88 (G : GuardT) (lo : Nat) (x0 : DV) (σ : Store) : Option (DV × Store) :=
  codeF G PP (pol 88) CC lo c88_0 a88_0 [x0, ud, ud, ud] σ (finR PP Go.Proofs.Try.f88.results.toList)
theorem F88_eq (G : GuardT) (lo : Nat) (x0 : DV) (σ : Store) : F88 G lo x0 σ =
    condK x0
     (
      some ((DV.p (PV.int IntKind.i64 (1))), σ)
     )
     (
      some ((DV.p (PV.int IntKind.i64 (0))), σ)
     ) := by kernel_rfl
theorem F88_call {lo : Nat} {x0 : DV} {σ : Store} {r : DV × Store} (h : F88 guardT lo x0 σ = some r) : CC lo 88 [x0] σ = some r :=
  callL_run Go.Proofs.Try.func88 (by decide +kernel) rfl (by decide +kernel) h
noncomputable def c82_0 : Code := bodyOf Go.Proofs.Try.f82
noncomputable def a82_0 : Ann := (pol 82).ann
noncomputable def c82_1 : Code := Code.fstC c82_0
noncomputable def a82_1 : Ann := Ann.left a82_0
noncomputable def c82_2 : Code := Code.sndC c82_0
noncomputable def a82_2 : Ann := Ann.right a82_0
noncomputable def c82_3 : Code := Code.fstC c82_2
noncomputable def a82_3 : Ann := Ann.left a82_2
noncomputable def c82_4 : Code := Code.sndC c82_2
noncomputable def a82_4 : Ann := Ann.right a82_2
noncomputable def F82 (G : GuardT) (lo : Nat) (x0 : DV) (σ : Store) : Option (DV × Store) :=
  codeF G PP (pol 82) CC lo c82_0 a82_0 [x0, ud, ud, ud, ud, ud, ud, ud, ud, ud] σ (finR PP Go.Proofs.Try.f82.results.toList)
theorem F82_eq (G : GuardT) (lo : Nat) (x0 : DV) (σ : Store) : F82 G lo x0 σ =
    (boxV x0).bind fun z1 =>
    (fieldAddr PP 100 (DV.ptr (List.length σ) 0) 0).bind fun x3 =>
    (load PP 3 x3 (σ ++ [Row.mix z1])).bind fun x4 =>
    (fieldAddr PP 100 (DV.ptr (List.length σ) 0) 1).bind fun x5 =>
    (load PP 3 x5 (σ ++ [Row.mix z1])).bind fun x6 =>
    (fieldAddr PP 100 (DV.ptr (List.length σ) 0) 2).bind fun x7 =>
    (load PP 3 x7 (σ ++ [Row.mix z1])).bind fun x8 =>
    (buildSlice PP none 22 3 [(0, x4), (1, x6), (2, x8)] (σ ++ [Row.mix z1])).bind fun r9_1 =>
    some (r9_1.1, r9_1.2) := by kernel_rfl
theorem F82_call {lo : Nat} {x0 : DV} {σ : Store} {r : DV × Store} (h : F82 guardT lo x0 σ = some r) : CC lo 82 [x0] σ = some r :=
  callL_run Go.Proofs.Try.func82 (by decide +kernel) rfl (by decide +kernel) h
noncomputable def c70_0 : Code := bodyOf Go.Proofs.Try.f70
noncomputable def a70_0 : Ann := (pol 70).ann
noncomputable def c70_1 : Code := Code.fstC c70_0
noncomputable def a70_1 : Ann := Ann.left a70_0
noncomputable def c70_2 : Code := Code.sndC c70_0
noncomputable def a70_2 : Ann := Ann.right a70_0
noncomputable def c70_3 : Code := Code.fstC c70_2
noncomputable def a70_3 : Ann := Ann.left a70_2
noncomputable def c70_23 : Code := Code.sndC c70_2
noncomputable def a70_23 : Ann := Ann.right a70_2
noncomputable def c70_4 : Code := Code.fstC c70_3
noncomputable def a70_4 : Ann := Ann.left a70_3
noncomputable def c70_5 : Code := Code.sndC c70_3
noncomputable def a70_5 : Ann := Ann.right a70_3
noncomputable def c70_6 : Code := Code.fstC c70_5
noncomputable def a70_6 : Ann := Ann.left a70_5
noncomputable def c70_7 : Code := Code.fstC c70_6
noncomputable def a70_7 : Ann := Ann.left a70_6
noncomputable def c70_8 : Code := Code.fstC c70_7
noncomputable def a70_8 : Ann := Ann.left a70_7
noncomputable def c70_13 : Code := Code.sndC c70_7
noncomputable def a70_13 : Ann := Ann.right a70_7
noncomputable def c70_9 : Code := Code.fstC c70_8
noncomputable def a70_9 : Ann := Ann.left a70_8
noncomputable def c70_10 : Code := Code.sndC c70_8
noncomputable def a70_10 : Ann := Ann.right a70_8
noncomputable def c70_11 : Code := Code.fstC c70_10
noncomputable def a70_11 : Ann := Ann.left a70_10
noncomputable def c70_12 : Code := Code.sndC c70_10
noncomputable def a70_12 : Ann := Ann.right a70_10
noncomputable def c70_14 : Code := Code.fstC c70_13
noncomputable def a70_14 : Ann := Ann.left a70_13
noncomputable def c70_22 : Code := Code.sndC c70_13
noncomputable def a70_22 : Ann := Ann.right a70_13
noncomputable def c70_15 : Code := Code.fstC c70_14
noncomputable def a70_15 : Ann := Ann.left a70_14
noncomputable def c70_16 : Code := Code.fstC c70_15
noncomputable def a70_16 : Ann := Ann.left a70_15
noncomputable def c70_17 : Code := Code.sndC c70_15
noncomputable def a70_17 : Ann := Ann.right a70_15
noncomputable def c70_18 : Code := Code.fstC c70_17
noncomputable def a70_18 : Ann := Ann.left a70_17
noncomputable def c70_21 : Code := Code.sndC c70_17
noncomputable def a70_21 : Ann := Ann.right a70_17
noncomputable def c70_19 : Code := Code.fstC c70_18
noncomputable def a70_19 : Ann := Ann.left a70_18
noncomputable def c70_20 : Code := Code.sndC c70_18
noncomputable def a70_20 : Ann := Ann.right a70_18
noncomputable def c70_24 : Code := Code.fstC c70_23
noncomputable def a70_24 : Ann := Ann.left a70_23
noncomputable def c70_25 : Code := Code.sndC c70_23
noncomputable def a70_25 : Ann := Ann.right a70_23
noncomputable def f70_L0 (G : GuardT) (lo : Nat) (x0 x1 x5 : DV) (σ : Store) : Option (DV × Store) :=
  codeF G PP (pol 70) CC lo (.loop c70_7) a70_6 [x0, x1, ud, ud, ud, x5, ud, ud, ud, ud, ud, ud, ud, ud, ud, ud, ud, ud, ud, ud, ud, ud, ud, ud, ud, ud, ud, ud, ud, ud, ud, ud, ud, ud, ud, ud, ud, ud, ud, ud, ud, ud, ud, ud, ud, ud, ud, ud, ud, ud, ud, ud] σ
   (blockC 0 a70_5 (seqC G PP (pol 70) CC lo c70_23 a70_23 (finR PP Go.Proofs.Try.f70.results.toList)))
noncomputable def F70 (G : GuardT) (lo : Nat) (x0 x1 : DV) (σ : Store) : Option (DV × Store) :=
  codeF G PP (pol 70) CC lo c70_0 a70_0 [x0, x1, ud, ud, ud, ud, ud, ud, ud, ud, ud, ud, ud, ud, ud, ud, ud, ud, ud, ud, ud, ud, ud, ud, ud, ud, ud, ud, ud, ud, ud, ud, ud, ud, ud, ud, ud, ud, ud, ud, ud, ud, ud, ud, ud, ud, ud, ud, ud, ud, ud, ud] σ (finR PP Go.Proofs.Try.f70.results.toList)
theorem f70_L0_eq (G : GuardT) (hG : GuardOk G) (lo : Nat) (x0 x1 x5 : DV) (σ : Store) : f70_L0 G lo x0 x1 x5 σ =
    (len PP 22 x0 σ).bind fun x8 =>
    (binOp PP .lss 3 x5 x8).bind fun x9 =>
    G _ x9 true (some (x5, σ)) σ fun x11 σ1 =>
    G _ x9 true (some (x1, σ1)) σ1 fun x12 σ2 =>
    G _ x9 true ((len PP 22 x12 σ2).bind fun v => some (v, σ2)) σ2 fun x13 σ3 =>
    G _ x9 true ((binOp PP .lss 3 x11 x13).bind fun v => some (v, σ3)) σ3 fun x14 σ4 =>
    (pickV x9 x14 (DV.p (PV.bool false))).bind fun x15 =>
    condK x15
     (
      (indexAddr PP 22 x0 x5).bind fun x20 =>
      (load PP 3 x20 σ4).bind fun x21 =>
      (indexAddr PP 22 x1 x5).bind fun x24 =>
      (load PP 3 x24 σ4).bind fun x25 =>
      (binOp PP .neq 3 x21 x25).bind fun x26 =>
      condK x26
       (
        (indexAddr PP 22 x0 x5).bind fun x29 =>
        (load PP 3 x29 σ4).bind fun x30 =>
        (indexAddr PP 22 x1 x5).bind fun x33 =>
        (load PP 3 x33 σ4).bind fun x34 =>
        (binOp PP .lss 3 x30 x34).bind fun x35 =>
        (pureFn CC (DV.fn 88 []) [x35] σ4).bind fun x36 =>
        (binOp PP .mul 3 (DV.p (PV.int IntKind.i64 (2))) x36).bind fun x37 =>
        (binOp PP .sub 3 (DV.p (PV.int IntKind.i64 (1))) x37).bind fun x38 =>
        some (x38, σ4)
       )
       (
        (binOp PP .add 3 x5 (DV.p (PV.int IntKind.i64 (1)))).bind fun x17 =>
        f70_L0 G lo x0 x1 x17 σ4
       )
     )
     (
      (len PP 22 x0 σ4).bind fun x40 =>
      (len PP 22 x1 σ4).bind fun x42 =>
      (binOp PP .gtr 3 x40 x42).bind fun x43 =>
      (pureFn CC (DV.fn 88 []) [x43] σ4).bind fun x44 =>
      (len PP 22 x0 σ4).bind fun x46 =>
      (len PP 22 x1 σ4).bind fun x48 =>
      (binOp PP .lss 3 x46 x48).bind fun x49 =>
      (pureFn CC (DV.fn 88 []) [x49] σ4).bind fun x50 =>
      (binOp PP .sub 3 x44 x50).bind fun x51 =>
      some (x51, σ4)
     ) := (loopF_eq G hG).trans (by kernel_rfl)
theorem F70_eq (G : GuardT) (lo : Nat) (x0 x1 : DV) (σ : Store) : F70 G lo x0 x1 σ =
    f70_L0 G lo x0 x1 (DV.p (PV.int IntKind.i64 (0))) σ := by kernel_rfl
theorem F70_call {lo : Nat} {x0 x1 : DV} {σ : Store} {r : DV × Store} (h : F70 guardT lo x0 x1 σ = some r) : CC lo 70 [x0, x1] σ = some r :=
  callL_run Go.Proofs.Try.func70 (by decide +kernel) rfl (by decide +kernel) h
noncomputable def c83_0 : Code := bodyOf Go.Proofs.Try.f83
noncomputable def a83_0 : Ann := (pol 83).ann
noncomputable def c83_1 : Code := Code.fstC c83_0
noncomputable def a83_1 : Ann := Ann.left a83_0
noncomputable def c83_2 : Code := Code.sndC c83_0
noncomputable def a83_2 : Ann := Ann.right a83_0
noncomputable def c83_3 : Code := Code.fstC c83_2
noncomputable def a83_3 : Ann := Ann.left a83_2
noncomputable def c83_25 : Code := Code.sndC c83_2
noncomputable def a83_25 : Ann := Ann.right a83_2
noncomputable def c83_4 : Code := Code.fstC c83_3
noncomputable def a83_4 : Ann := Ann.left a83_3
noncomputable def c83_5 : Code := Code.sndC c83_3
noncomputable def a83_5 : Ann := Ann.right a83_3
noncomputable def c83_6 : Code := Code.fstC c83_5
noncomputable def a83_6 : Ann := Ann.left a83_5
noncomputable def c83_7 : Code := Code.fstC c83_6
noncomputable def a83_7 : Ann := Ann.left a83_6
noncomputable def c83_8 : Code := Code.fstC c83_7
noncomputable def a83_8 : Ann := Ann.left a83_7
noncomputable def c83_9 : Code := Code.sndC c83_7
noncomputable def a83_9 : Ann := Ann.right a83_7
noncomputable def c83_10 : Code := Code.fstC c83_9
noncomputable def a83_10 : Ann := Ann.left a83_9
noncomputable def c83_13 : Code := Code.sndC c83_9
noncomputable def a83_13 : Ann := Ann.right a83_9
noncomputable def c83_11 : Code := Code.fstC c83_10
noncomputable def a83_11 : Ann := Ann.left a83_10
noncomputable def c83_12 : Code := Code.sndC c83_10
noncomputable def a83_12 : Ann := Ann.right a83_10
noncomputable def c83_14 : Code := Code.fstC c83_13
noncomputable def a83_14 : Ann := Ann.left a83_13
noncomputable def c83_24 : Code := Code.sndC c83_13
noncomputable def a83_24 : Ann := Ann.right a83_13
noncomputable def c83_15 : Code := Code.fstC c83_14
noncomputable def a83_15 : Ann := Ann.left a83_14
noncomputable def c83_16 : Code := Code.fstC c83_15
noncomputable def a83_16 : Ann := Ann.left a83_15
noncomputable def c83_17 : Code := Code.sndC c83_15
noncomputable def a83_17 : Ann := Ann.right a83_15
noncomputable def c83_18 : Code := Code.fstC c83_17
noncomputable def a83_18 : Ann := Ann.left a83_17
noncomputable def c83_19 : Code := Code.sndC c83_17
noncomputable def a83_19 : Ann := Ann.right a83_17
noncomputable def c83_20 : Code := Code.fstC c83_19
noncomputable def a83_20 : Ann := Ann.left a83_19
noncomputable def c83_23 : Code := Code.sndC c83_19
noncomputable def a83_23 : Ann := Ann.right a83_19
noncomputable def c83_21 : Code := Code.fstC c83_20
noncomputable def a83_21 : Ann := Ann.left a83_20
noncomputable def c83_22 : Code := Code.sndC c83_20
noncomputable def a83_22 : Ann := Ann.right a83_20
noncomputable def c83_26 : Code := Code.fstC c83_25
noncomputable def a83_26 : Ann := Ann.left a83_25
noncomputable def c83_27 : Code := Code.sndC c83_25
noncomputable def a83_27 : Ann := Ann.right a83_25
noncomputable def f83_L0 (G : GuardT) (lo : Nat) (x0 x1 x7 x8 : DV) (σ : Store) : Option (DV × Store) :=
  codeF G PP (pol 83) CC lo (.loop c83_7) a83_6 [x0, x1, ud, ud, ud, ud, ud, x7, x8, ud, ud, ud, ud, ud, ud, ud, ud, ud, ud] σ
   (blockC 0 a83_5 (seqC G PP (pol 83) CC lo c83_25 a83_25 (finR PP Go.Proofs.Try.f83.results.toList)))
noncomputable def F83 (G : GuardT) (lo : Nat) (x0 x1 : DV) (σ : Store) : Option (DV × Store) :=
  codeF G PP (pol 83) CC lo c83_0 a83_0 [x0, x1, ud, ud, ud, ud, ud, ud, ud, ud, ud, ud, ud, ud, ud, ud, ud, ud, ud] σ (finR PP Go.Proofs.Try.f83.results.toList)
theorem f83_L0_eq (G : GuardT) (hG : GuardOk G) (lo : Nat) (x0 x1 x7 x8 : DV) (σ : Store) : f83_L0 G lo x0 x1 x7 x8 σ =
    (binOp PP .lss 3 x8 x7).bind fun x9 =>
    condK x9
     (
      (indexAddr PP 22 x0 x8).bind fun x14 =>
      (load PP 3 x14 σ).bind fun x15 =>
      (pureFn CC x1 [x15] σ).bind fun x16 =>
      condK x16
       (
        some (x8, σ)
       )
       (
        (binOp PP .add 3 x8 (DV.p (PV.int IntKind.i64 (1)))).bind fun x18 =>
        f83_L0 G lo x0 x1 x7 x18 σ
       )
     )
     (
      some ((DV.p (PV.int IntKind.i64 (-1))), σ)
     ) := (loopF_eq G hG).trans (by kernel_rfl)
theorem F83_eq (G : GuardT) (lo : Nat) (x0 x1 : DV) (σ : Store) : F83 G lo x0 x1 σ =
    (len PP 22 x0 σ).bind fun x7 =>
    f83_L0 G lo x0 x1 x7 (DV.p (PV.int IntKind.i64 (0))) σ := by kernel_rfl
theorem F83_call {lo : Nat} {x0 x1 : DV} {σ : Store} {r : DV × Store} (h : F83 guardT lo x0 x1 σ = some r) : CC lo 83 [x0, x1] σ = some r :=
  callL_run Go.Proofs.Try.func83 (by decide +kernel) rfl (by decide +kernel) h
noncomputable def c51_0 : Code := bodyOf Go.Proofs.Try.f51
noncomputable def a51_0 : Ann := (pol 51).ann
noncomputable def c51_1 : Code := Code.fstC c51_0
noncomputable def a51_1 : Ann := Ann.left a51_0
noncomputable def c51_2 : Code := Code.sndC c51_0
noncomputable def a51_2 : Ann := Ann.right a51_0
noncomputable def c51_3 : Code := Code.fstC c51_2
noncomputable def a51_3 : Ann := Ann.left a51_2
noncomputable def c51_4 : Code := Code.sndC c51_2
noncomputable def a51_4 : Ann := Ann.right a51_2
noncomputable def F51 (G : GuardT) (lo : Nat) (x0 x1 : DV) (σ : Store) : Option (DV × Store) :=
  codeF G PP (pol 51) CC lo c51_0 a51_0 [x0, x1, ud, ud, ud, ud, ud, ud, ud] σ (finR PP Go.Proofs.Try.f51.results.toList)
theorem F51_eq (G : GuardT) (lo : Nat) (x0 x1 : DV) (σ : Store) : F51 G lo x0 x1 σ =
    (pureFn CC (DV.fn 83 []) [x0, x1] σ).bind fun x7 =>
    (binOp PP .geq 3 x7 (DV.p (PV.int IntKind.i64 (0)))).bind fun x8 =>
    some (x8, σ) := by kernel_rfl
theorem F51_call {lo : Nat} {x0 x1 : DV} {σ : Store} {r : DV × Store} (h : F51 guardT lo x0 x1 σ = some r) : CC lo 51 [x0, x1] σ = some r :=
  callL_run Go.Proofs.Try.func51 (by decide +kernel) rfl (by decide +kernel) h
noncomputable def c64_0 : Code := bodyOf Go.Proofs.Try.f64
noncomputable def a64_0 : Ann := (pol 64).ann
noncomputable def c64_1 : Code := Code.fstC c64_0
noncomputable def a64_1 : Ann := Ann.left a64_0
noncomputable def c64_2 : Code := Code.sndC c64_0
noncomputable def a64_2 : Ann := Ann.right a64_0
noncomputable def c64_3 : Code := Code.fstC c64_2
noncomputable def a64_3 : Ann := Ann.left a64_2
noncomputable def c64_25 : Code := Code.sndC c64_2
noncomputable def a64_25 : Ann := Ann.right a64_2
noncomputable def c64_4 : Code := Code.fstC c64_3
noncomputable def a64_4 : Ann := Ann.left a64_3
noncomputable def c64_5 : Code := Code.sndC c64_3
noncomputable def a64_5 : Ann := Ann.right a64_3
noncomputable def c64_6 : Code := Code.fstC c64_5
noncomputable def a64_6 : Ann := Ann.left a64_5
noncomputable def c64_7 : Code := Code.fstC c64_6
noncomputable def a64_7 : Ann := Ann.left a64_6
noncomputable def c64_8 : Code := Code.fstC c64_7
noncomputable def a64_8 : Ann := Ann.left a64_7
noncomputable def c64_9 : Code := Code.sndC c64_7
noncomputable def a64_9 : Ann := Ann.right a64_7
noncomputable def c64_10 : Code := Code.fstC c64_9
noncomputable def a64_10 : Ann := Ann.left a64_9
noncomputable def c64_13 : Code := Code.sndC c64_9
noncomputable def a64_13 : Ann := Ann.right a64_9
noncomputable def c64_11 : Code := Code.fstC c64_10
noncomputable def a64_11 : Ann := Ann.left a64_10
noncomputable def c64_12 : Code := Code.sndC c64_10
noncomputable def a64_12 : Ann := Ann.right a64_10
noncomputable def c64_14 : Code := Code.fstC c64_13
noncomputable def a64_14 : Ann := Ann.left a64_13
noncomputable def c64_24 : Code := Code.sndC c64_13
noncomputable def a64_24 : Ann := Ann.right a64_13
noncomputable def c64_15 : Code := Code.fstC c64_14
noncomputable def a64_15 : Ann := Ann.left a64_14
noncomputable def c64_16 : Code := Code.fstC c64_15
noncomputable def a64_16 : Ann := Ann.left a64_15
noncomputable def c64_17 : Code := Code.sndC c64_15
noncomputable def a64_17 : Ann := Ann.right a64_15
noncomputable def c64_18 : Code := Code.fstC c64_17
noncomputable def a64_18 : Ann := Ann.left a64_17
noncomputable def c64_19 : Code := Code.sndC c64_17
noncomputable def a64_19 : Ann := Ann.right a64_17
noncomputable def c64_20 : Code := Code.fstC c64_19
noncomputable def a64_20 : Ann := Ann.left a64_19
noncomputable def c64_23 : Code := Code.sndC c64_19
noncomputable def a64_23 : Ann := Ann.right a64_19
noncomputable def c64_21 : Code := Code.fstC c64_20
noncomputable def a64_21 : Ann := Ann.left a64_20
noncomputable def c64_22 : Code := Code.sndC c64_20
noncomputable def a64_22 : Ann := Ann.right a64_20
noncomputable def c64_26 : Code := Code.fstC c64_25
noncomputable def a64_26 : Ann := Ann.left a64_25
noncomputable def c64_27 : Code := Code.sndC c64_25
noncomputable def a64_27 : Ann := Ann.right a64_25
noncomputable def f64_L0 (G : GuardT) (lo : Nat) (x0 x1 x7 x8 : DV) (σ : Store) : Option (DV × Store) :=
  codeF G PP (pol 64) CC lo (.loop c64_7) a64_6 [x0, x1, ud, ud, ud, ud, ud, x7, x8, ud, ud, ud, ud, ud, ud, ud, ud, ud, ud] σ
   (blockC 0 a64_5 (seqC G PP (pol 64) CC lo c64_25 a64_25 (finR PP Go.Proofs.Try.f64.results.toList)))
noncomputable def F64 (G : GuardT) (lo : Nat) (x0 x1 : DV) (σ : Store) : Option (DV × Store) :=
  codeF G PP (pol 64) CC lo c64_0 a64_0 [x0, x1, ud, ud, ud, ud, ud, ud, ud, ud, ud, ud, ud, ud, ud, ud, ud, ud, ud] σ (finR PP Go.Proofs.Try.f64.results.toList)
theorem f64_L0_eq (G : GuardT) (hG : GuardOk G) (lo : Nat) (x0 x1 x7 x8 : DV) (σ : Store) : f64_L0 G lo x0 x1 x7 x8 σ =
    (binOp PP .lss 3 x8 x7).bind fun x9 =>
    condK x9
     (
      (indexAddr PP 23 x0 x8).bind fun x14 =>
      (load PP 100 x14 σ).bind fun x15 =>
      (pureFn CC x1 [x15] σ).bind fun x16 =>
      condK x16
       (
        some (x8, σ)
       )
       (
        (binOp PP .add 3 x8 (DV.p (PV.int IntKind.i64 (1)))).bind fun x18 =>
        f64_L0 G lo x0 x1 x7 x18 σ
       )
     )
     (
      some ((DV.p (PV.int IntKind.i64 (-1))), σ)
     ) := (loopF_eq G hG).trans (by kernel_rfl)
theorem F64_eq (G : GuardT) (lo : Nat) (x0 x1 : DV) (σ : Store) : F64 G lo x0 x1 σ =
    (len PP 23 x0 σ).bind fun x7 =>
    f64_L0 G lo x0 x1 x7 (DV.p (PV.int IntKind.i64 (0))) σ := by kernel_rfl
theorem F64_call {lo : Nat} {x0 x1 : DV} {σ : Store} {r : DV × Store} (h : F64 guardT lo x0 x1 σ = some r) : CC lo 64 [x0, x1] σ = some r :=
  callL_run Go.Proofs.Try.func64 (by decide +kernel) rfl (by decide +kernel) h
noncomputable def c78_0 : Code := bodyOf Go.Proofs.Try.f78
noncomputable def a78_0 : Ann := (pol 78).ann
noncomputable def c78_1 : Code := Code.fstC c78_0
noncomputable def a78_1 : Ann := Ann.left a78_0
noncomputable def c78_2 : Code := Code.sndC c78_0
noncomputable def a78_2 : Ann := Ann.right a78_0
noncomputable def c78_3 : Code := Code.fstC c78_2
noncomputable def a78_3 : Ann := Ann.left a78_2
noncomputable def c78_4 : Code := Code.sndC c78_2
noncomputable def a78_4 : Ann := Ann.right a78_2
noncomputable def F78 (G : GuardT) (lo : Nat) (x0 x1 : DV) (σ : Store) : Option (DV × Store) :=
  codeF G PP (pol 78) CC lo c78_0 a78_0 [x0, x1, ud, ud, ud, ud, ud, ud, ud] σ (finR PP Go.Proofs.Try.f78.results.toList)
theorem F78_eq (G : GuardT) (lo : Nat) (x0 x1 : DV) (σ : Store) : F78 G lo x0 x1 σ =
    (pureFn CC (DV.fn 64 []) [x0, x1] σ).bind fun x7 =>
    (binOp PP .geq 3 x7 (DV.p (PV.int IntKind.i64 (0)))).bind fun x8 =>
    some (x8, σ) := by kernel_rfl
theorem F78_call {lo : Nat} {x0 x1 : DV} {σ : Store} {r : DV × Store} (h : F78 guardT lo x0 x1 σ = some r) : CC lo 78 [x0, x1] σ = some r :=
  callL_run Go.Proofs.Try.func78 (by decide +kernel) rfl (by decide +kernel) h
noncomputable def c81_0 : Code := bodyOf Go.Proofs.Try.f81
noncomputable def a81_0 : Ann := (pol 81).ann
noncomputable def c81_1 : Code := Code.fstC c81_0
noncomputable def a81_1 : Ann := Ann.left a81_0
noncomputable def c81_2 : Code := Code.sndC c81_0
noncomputable def a81_2 : Ann := Ann.right a81_0
noncomputable def c81_3 : Code := Code.fstC c81_2
noncomputable def a81_3 : Ann := Ann.left a81_2
noncomputable def c81_25 : Code := Code.sndC c81_2
noncomputable def a81_25 : Ann := Ann.right a81_2
noncomputable def c81_4 : Code := Code.fstC c81_3
noncomputable def a81_4 : Ann := Ann.left a81_3
noncomputable def c81_5 : Code := Code.sndC c81_3
noncomputable def a81_5 : Ann := Ann.right a81_3
noncomputable def c81_6 : Code := Code.fstC c81_5
noncomputable def a81_6 : Ann := Ann.left a81_5
noncomputable def c81_7 : Code := Code.fstC c81_6
noncomputable def a81_7 : Ann := Ann.left a81_6
noncomputable def c81_8 : Code := Code.fstC c81_7
noncomputable def a81_8 : Ann := Ann.left a81_7
noncomputable def c81_9 : Code := Code.sndC c81_7
noncomputable def a81_9 : Ann := Ann.right a81_7
noncomputable def c81_10 : Code := Code.fstC c81_9
noncomputable def a81_10 : Ann := Ann.left a81_9
noncomputable def c81_13 : Code := Code.sndC c81_9
noncomputable def a81_13 : Ann := Ann.right a81_9
noncomputable def c81_11 : Code := Code.fstC c81_10
noncomputable def a81_11 : Ann := Ann.left a81_10
noncomputable def c81_12 : Code := Code.sndC c81_10
noncomputable def a81_12 : Ann := Ann.right a81_10
noncomputable def c81_14 : Code := Code.fstC c81_13
noncomputable def a81_14 : Ann := Ann.left a81_13
noncomputable def c81_24 : Code := Code.sndC c81_13
noncomputable def a81_24 : Ann := Ann.right a81_13
noncomputable def c81_15 : Code := Code.fstC c81_14
noncomputable def a81_15 : Ann := Ann.left a81_14
noncomputable def c81_16 : Code := Code.fstC c81_15
noncomputable def a81_16 : Ann := Ann.left a81_15
noncomputable def c81_17 : Code := Code.sndC c81_15
noncomputable def a81_17 : Ann := Ann.right a81_15
noncomputable def c81_18 : Code := Code.fstC c81_17
noncomputable def a81_18 : Ann := Ann.left a81_17
noncomputable def c81_19 : Code := Code.sndC c81_17
noncomputable def a81_19 : Ann := Ann.right a81_17
noncomputable def c81_20 : Code := Code.fstC c81_19
noncomputable def a81_20 : Ann := Ann.left a81_19
noncomputable def c81_23 : Code := Code.sndC c81_19
noncomputable def a81_23 : Ann := Ann.right a81_19
noncomputable def c81_21 : Code := Code.fstC c81_20
noncomputable def a81_21 : Ann := Ann.left a81_20
noncomputable def c81_22 : Code := Code.sndC c81_20
noncomputable def a81_22 : Ann := Ann.right a81_20
noncomputable def c81_26 : Code := Code.fstC c81_25
noncomputable def a81_26 : Ann := Ann.left a81_25
noncomputable def c81_27 : Code := Code.sndC c81_25
noncomputable def a81_27 : Ann := Ann.right a81_25
noncomputable def f81_L0 (G : GuardT) (lo : Nat) (x0 x1 x7 x8 : DV) (σ : Store) : Option (DV × Store) :=
  codeF G PP (pol 81) CC lo (.loop c81_7) a81_6 [x0, x1, ud, ud, ud, ud, ud, x7, x8, ud, ud, ud, ud, ud, ud, ud, ud, ud, ud] σ
   (blockC 0 a81_5 (seqC G PP (pol 81) CC lo c81_25 a81_25 (finR PP Go.Proofs.Try.f81.results.toList)))
noncomputable def F81 (G : GuardT) (lo : Nat) (x0 x1 : DV) (σ : Store) : Option (DV × Store) :=
  codeF G PP (pol 81) CC lo c81_0 a81_0 [x0, x1, ud, ud, ud, ud, ud, ud, ud, ud, ud, ud, ud, ud, ud, ud, ud, ud, ud] σ (finR PP Go.Proofs.Try.f81.results.toList)
theorem f81_L0_eq (G : GuardT) (hG : GuardOk G) (lo : Nat) (x0 x1 x7 x8 : DV) (σ : Store) : f81_L0 G lo x0 x1 x7 x8 σ =
    (binOp PP .lss 3 x8 x7).bind fun x9 =>
    condK x9
     (
      (indexAddr PP 22 x0 x8).bind fun x14 =>
      (load PP 3 x14 σ).bind fun x15 =>
      (binOp PP .eql 3 x1 x15).bind fun x16 =>
      condK x16
       (
        some (x8, σ)
       )
       (
        (binOp PP .add 3 x8 (DV.p (PV.int IntKind.i64 (1)))).bind fun x18 =>
        f81_L0 G lo x0 x1 x7 x18 σ
       )
     )
     (
      some ((DV.p (PV.int IntKind.i64 (-1))), σ)
     ) := (loopF_eq G hG).trans (by kernel_rfl)
theorem F81_eq (G : GuardT) (lo : Nat) (x0 x1 : DV) (σ : Store) : F81 G lo x0 x1 σ =
    (len PP 22 x0 σ).bind fun x7 =>
    f81_L0 G lo x0 x1 x7 (DV.p (PV.int IntKind.i64 (0))) σ := by kernel_rfl
theorem F81_call {lo : Nat} {x0 x1 : DV} {σ : Store} {r : DV × Store} (h : F81 guardT lo x0 x1 σ = some r) : CC lo 81 [x0, x1] σ = some r :=
  callL_run Go.Proofs.Try.func81 (by decide +kernel) rfl (by decide +kernel) h
noncomputable def c46_0 : Code := bodyOf Go.Proofs.Try.f46
noncomputable def a46_0 : Ann := (pol 46).ann
noncomputable def c46_1 : Code := Code.fstC c46_0
noncomputable def a46_1 : Ann := Ann.left a46_0
noncomputable def c46_2 : Code := Code.sndC c46_0
noncomputable def a46_2 : Ann := Ann.right a46_0
noncomputable def c46_3 : Code := Code.fstC c46_2
noncomputable def a46_3 : Ann := Ann.left a46_2
noncomputable def c46_4 : Code := Code.sndC c46_2
noncomputable def a46_4 : Ann := Ann.right a46_2
noncomputable def F46 (G : GuardT) (lo : Nat) (x0 x1 : DV) (σ : Store) : Option (DV × Store) :=
  codeF G PP (pol 46) CC lo c46_0 a46_0 [x0, x1, ud, ud, ud, ud, ud, ud, ud] σ (finR PP Go.Proofs.Try.f46.results.toList)
theorem F46_eq (G : GuardT) (lo : Nat) (x0 x1 : DV) (σ : Store) : F46 G lo x0 x1 σ =
    (pureFn CC (DV.fn 81 []) [x0, x1] σ).bind fun x7 =>
    (binOp PP .geq 3 x7 (DV.p (PV.int IntKind.i64 (0)))).bind fun x8 =>
    some (x8, σ) := by kernel_rfl
theorem F46_call {lo : Nat} {x0 x1 : DV} {σ : Store} {r : DV × Store} (h : F46 guardT lo x0 x1 σ = some r) : CC lo 46 [x0, x1] σ = some r :=
  callL_run Go.Proofs.Try.func46 (by decide +kernel) rfl (by decide +kernel) h
noncomputable def c49_0 : Code := bodyOf Go.Proofs.Try.f49
noncomputable def a49_0 : Ann := (pol 49).ann
noncomputable def c49_1 : Code := Code.fstC c49_0
noncomputable def a49_1 : Ann := Ann.left a49_0
noncomputable def c49_2 : Code := Code.sndC c49_0
noncomputable def a49_2 : Ann := Ann.right a49_0
noncomputable def c49_3 : Code := Code.fstC c49_2
noncomputable def a49_3 : Ann := Ann.left a49_2
noncomputable def c49_23 : Code := Code.sndC c49_2
noncomputable def a49_23 : Ann := Ann.right a49_2
noncomputable def c49_4 : Code := Code.fstC c49_3
noncomputable def a49_4 : Ann := Ann.left a49_3
noncomputable def c49_5 : Code := Code.sndC c49_3
noncomputable def a49_5 : Ann := Ann.right a49_3
noncomputable def c49_6 : Code := Code.fstC c49_5
noncomputable def a49_6 : Ann := Ann.left a49_5
noncomputable def c49_7 : Code := Code.fstC c49_6
noncomputable def a49_7 : Ann := Ann.left a49_6
noncomputable def c49_8 : Code := Code.fstC c49_7
noncomputable def a49_8 : Ann := Ann.left a49_7
noncomputable def c49_13 : Code := Code.sndC c49_7
noncomputable def a49_13 : Ann := Ann.right a49_7
noncomputable def c49_9 : Code := Code.fstC c49_8
noncomputable def a49_9 : Ann := Ann.left a49_8
noncomputable def c49_10 : Code := Code.sndC c49_8
noncomputable def a49_10 : Ann := Ann.right a49_8
noncomputable def c49_11 : Code := Code.fstC c49_10
noncomputable def a49_11 : Ann := Ann.left a49_10
noncomputable def c49_12 : Code := Code.sndC c49_10
noncomputable def a49_12 : Ann := Ann.right a49_10
noncomputable def c49_14 : Code := Code.fstC c49_13
noncomputable def a49_14 : Ann := Ann.left a49_13
noncomputable def c49_22 : Code := Code.sndC c49_13
noncomputable def a49_22 : Ann := Ann.right a49_13
noncomputable def c49_15 : Code := Code.fstC c49_14
noncomputable def a49_15 : Ann := Ann.left a49_14
noncomputable def c49_16 : Code := Code.fstC c49_15
noncomputable def a49_16 : Ann := Ann.left a49_15
noncomputable def c49_17 : Code := Code.sndC c49_15
noncomputable def a49_17 : Ann := Ann.right a49_15
noncomputable def c49_18 : Code := Code.fstC c49_17
noncomputable def a49_18 : Ann := Ann.left a49_17
noncomputable def c49_21 : Code := Code.sndC c49_17
noncomputable def a49_21 : Ann := Ann.right a49_17
noncomputable def c49_19 : Code := Code.fstC c49_18
noncomputable def a49_19 : Ann := Ann.left a49_18
noncomputable def c49_20 : Code := Code.sndC c49_18
noncomputable def a49_20 : Ann := Ann.right a49_18
noncomputable def c49_24 : Code := Code.fstC c49_23
noncomputable def a49_24 : Ann := Ann.left a49_23
noncomputable def c49_25 : Code := Code.sndC c49_23
noncomputable def a49_25 : Ann := Ann.right a49_23
noncomputable def f49_L0 (G : GuardT) (lo : Nat) (x0 x1 x5 : DV) (σ : Store) : Option (DV × Store) :=
  codeF G PP (pol 49) CC lo (.loop c49_7) a49_6 [x0, x1, ud, ud, ud, x5, ud, ud, ud, ud, ud, ud, ud, ud, ud, ud, ud, ud] σ
   (blockC 0 a49_5 (seqC G PP (pol 49) CC lo c49_23 a49_23 (finR PP Go.Proofs.Try.f49.results.toList)))
noncomputable def F49 (G : GuardT) (lo : Nat) (x0 x1 : DV) (σ : Store) : Option (DV × Store) :=
  codeF G PP (pol 49) CC lo c49_0 a49_0 [x0, x1, ud, ud, ud, ud, ud, ud, ud, ud, ud, ud, ud, ud, ud, ud, ud, ud] σ (finR PP Go.Proofs.Try.f49.results.toList)
theorem f49_L0_eq (G : GuardT) (hG : GuardOk G) (lo : Nat) (x0 x1 x5 : DV) (σ : Store) : f49_L0 G lo x0 x1 x5 σ =
    (len PP 22 x0 σ).bind fun x8 =>
    (binOp PP .lss 3 x5 x8).bind fun x9 =>
    condK x9
     (
      (indexAddr PP 22 x0 x5).bind fun x14 =>
      (load PP 3 x14 σ).bind fun x15 =>
      (binOp PP .eql 3 x15 x1).bind fun x17 =>
      condK x17
       (
        some ((DV.p (PV.bool true)), σ)
       )
       (
        (binOp PP .add 3 x5 (DV.p (PV.int IntKind.i64 (1)))).bind fun x11 =>
        f49_L0 G lo x0 x1 x11 σ
       )
     )
     (
      some ((DV.p (PV.bool false)), σ)
     ) := (loopF_eq G hG).trans (by kernel_rfl)
theorem F49_eq (G : GuardT) (lo : Nat) (x0 x1 : DV) (σ : Store) : F49 G lo x0 x1 σ =
    f49_L0 G lo x0 x1 (DV.p (PV.int IntKind.i64 (0))) σ := by kernel_rfl
theorem F49_call {lo : Nat} {x0 x1 : DV} {σ : Store} {r : DV × Store} (h : F49 guardT lo x0 x1 σ = some r) : CC lo 49 [x0, x1] σ = some r :=
  callL_run Go.Proofs.Try.func49 (by decide +kernel) rfl (by decide +kernel) h
noncomputable def c90_0 : Code := bodyOf Go.Proofs.Try.f90
noncomputable def a90_0 : Ann := (pol 90).ann
noncomputable def c90_1 : Code := Code.fstC c90_0
noncomputable def a90_1 : Ann := Ann.left a90_0
noncomputable def c90_2 : Code := Code.sndC c90_0
noncomputable def a90_2 : Ann := Ann.right a90_0
noncomputable def c90_3 : Code := Code.fstC c90_2
noncomputable def a90_3 : Ann := Ann.left a90_2
noncomputable def c90_4 : Code := Code.sndC c90_2
noncomputable def a90_4 : Ann := Ann.right a90_2
noncomputable def F90 (G : GuardT) (lo : Nat) (x0 x1 : DV) (σ : Store) : Option (DV × Store) :=
  codeF G PP (pol 90) CC lo c90_0 a90_0 [x0, x1, ud, ud, ud, ud, ud, ud, ud] σ (finR PP Go.Proofs.Try.f90.results.toList)
theorem F90_eq (G : GuardT) (lo : Nat) (x0 x1 : DV) (σ : Store) : F90 G lo x0 x1 σ =
    (fieldAddr PP 25 x1 0).bind fun x5 =>
    (load PP 3 x5 σ).bind fun x6 =>
    (binOp PP .sub 3 x6 (DV.p (PV.int IntKind.i64 (1)))).bind fun x7 =>
    (pureFn CC (DV.fn 53 []) [x0, (DV.p (PV.int IntKind.i64 (0))), x7] σ).bind fun x8 =>
    some (x8, σ) := by kernel_rfl
theorem F90_call {lo : Nat} {x0 x1 : DV} {σ : Store} {r : DV × Store} (h : F90 guardT lo x0 x1 σ = some r) : CC lo 90 [x0, x1] σ = some r :=
  callL_run Go.Proofs.Try.func90 (by decide +kernel) rfl (by decide +kernel) h
noncomputable def c76_0 : Code := bodyOf Go.Proofs.Try.f76
noncomputable def a76_0 : Ann := (pol 76).ann
noncomputable def c76_1 : Code := Code.fstC c76_0
noncomputable def a76_1 : Ann := Ann.left a76_0
noncomputable def c76_2 : Code := Code.sndC c76_0
noncomputable def a76_2 : Ann := Ann.right a76_0
noncomputable def c76_3 : Code := Code.fstC c76_2
noncomputable def a76_3 : Ann := Ann.left a76_2
noncomputable def c76_4 : Code := Code.sndC c76_2
noncomputable def a76_4 : Ann := Ann.right a76_2
noncomputable def c76_5 : Code := Code.fstC c76_4
noncomputable def a76_5 : Ann := Ann.left a76_4
noncomputable def c76_6 : Code := Code.sndC c76_4
noncomputable def a76_6 : Ann := Ann.right a76_4
noncomputable def c76_7 : Code := Code.fstC c76_6
noncomputable def a76_7 : Ann := Ann.left a76_6
noncomputable def c76_23 : Code := Code.sndC c76_6
noncomputable def a76_23 : Ann := Ann.right a76_6
noncomputable def c76_8 : Code := Code.fstC c76_7
noncomputable def a76_8 : Ann := Ann.left a76_7
noncomputable def c76_9 : Code := Code.sndC c76_7
noncomputable def a76_9 : Ann := Ann.right a76_7
noncomputable def c76_10 : Code := Code.fstC c76_9
noncomputable def a76_10 : Ann := Ann.left a76_9
noncomputable def c76_11 : Code := Code.fstC c76_10
noncomputable def a76_11 : Ann := Ann.left a76_10
noncomputable def c76_12 : Code := Code.fstC c76_11
noncomputable def a76_12 : Ann := Ann.left a76_11
noncomputable def c76_13 : Code := Code.sndC c76_11
noncomputable def a76_13 : Ann := Ann.right a76_11
noncomputable def c76_14 : Code := Code.fstC c76_13
noncomputable def a76_14 : Ann := Ann.left a76_13
noncomputable def c76_17 : Code := Code.sndC c76_13
noncomputable def a76_17 : Ann := Ann.right a76_13
noncomputable def c76_15 : Code := Code.fstC c76_14
noncomputable def a76_15 : Ann := Ann.left a76_14
noncomputable def c76_16 : Code := Code.sndC c76_14
noncomputable def a76_16 : Ann := Ann.right a76_14
noncomputable def c76_18 : Code := Code.fstC c76_17
noncomputable def a76_18 : Ann := Ann.left a76_17
noncomputable def c76_22 : Code := Code.sndC c76_17
noncomputable def a76_22 : Ann := Ann.right a76_17
noncomputable def c76_19 : Code := Code.fstC c76_18
noncomputable def a76_19 : Ann := Ann.left a76_18
noncomputable def c76_20 : Code := Code.fstC c76_19
noncomputable def a76_20 : Ann := Ann.left a76_19
noncomputable def c76_21 : Code := Code.sndC c76_19
noncomputable def a76_21 : Ann := Ann.right a76_19
noncomputable def c76_24 : Code := Code.fstC c76_23
noncomputable def a76_24 : Ann := Ann.left a76_23
noncomputable def c76_40 : Code := Code.sndC c76_23
noncomputable def a76_40 : Ann := Ann.right a76_23
noncomputable def c76_25 : Code := Code.fstC c76_24
noncomputable def a76_25 : Ann := Ann.left a76_24
noncomputable def c76_26 : Code := Code.sndC c76_24
noncomputable def a76_26 : Ann := Ann.right a76_24
noncomputable def c76_27 : Code := Code.fstC c76_26
noncomputable def a76_27 : Ann := Ann.left a76_26
noncomputable def c76_28 : Code := Code.fstC c76_27
noncomputable def a76_28 : Ann := Ann.left a76_27
noncomputable def c76_29 : Code := Code.fstC c76_28
noncomputable def a76_29 : Ann := Ann.left a76_28
noncomputable def c76_30 : Code := Code.sndC c76_28
noncomputable def a76_30 : Ann := Ann.right a76_28
noncomputable def c76_31 : Code := Code.fstC c76_30
noncomputable def a76_31 : Ann := Ann.left a76_30
noncomputable def c76_34 : Code := Code.sndC c76_30
noncomputable def a76_34 : Ann := Ann.right a76_30
noncomputable def c76_32 : Code := Code.fstC c76_31
noncomputable def a76_32 : Ann := Ann.left a76_31
noncomputable def c76_33 : Code := Code.sndC c76_31
noncomputable def a76_33 : Ann := Ann.right a76_31
noncomputable def c76_35 : Code := Code.fstC c76_34
noncomputable def a76_35 : Ann := Ann.left a76_34
noncomputable def c76_39 : Code := Code.sndC c76_34
noncomputable def a76_39 : Ann := Ann.right a76_34
noncomputable def c76_36 : Code := Code.fstC c76_35
noncomputable def a76_36 : Ann := Ann.left a76_35
noncomputable def c76_37 : Code := Code.fstC c76_36
noncomputable def a76_37 : Ann := Ann.left a76_36
noncomputable def c76_38 : Code := Code.sndC c76_36
noncomputable def a76_38 : Ann := Ann.right a76_36
noncomputable def c76_41 : Code := Code.fstC c76_40
noncomputable def a76_41 : Ann := Ann.left a76_40
noncomputable def c76_42 : Code := Code.sndC c76_40
noncomputable def a76_42 : Ann := Ann.right a76_40
noncomputable def f76_L0 (G : GuardT) (lo : Nat) (x1 x3 x4 x20 x21 x22 : DV) (σ : Store) : Option (DV × Store) :=
  codeF G PP (pol 76) CC lo (.loop c76_11) a76_10 [ud, x1, ud, x3, x4, ud, ud, ud, ud, ud, ud, ud, ud, ud, ud, ud, ud, ud, ud, ud, x20, x21, x22, ud, ud, ud, ud, ud, ud, ud, ud, ud, ud, ud, ud, ud, ud, ud, ud, ud, ud, ud, ud, ud, ud, ud, ud, ud, ud, ud, ud, ud, ud, ud, ud, ud, ud, ud, ud, ud, ud, ud, ud, ud, ud, ud, ud, ud, ud, ud, ud, ud, ud, ud, ud, ud, ud, ud, ud, ud, ud, ud, ud, ud, ud, ud, ud, ud, ud, ud, ud] σ
   (blockC 0 a76_9 (seqC G PP (pol 76) CC lo c76_23 a76_23 (finR PP Go.Proofs.Try.f76.results.toList)))
noncomputable def f76_L1 (G : GuardT) (lo : Nat) (x1 x3 x4 x49 x50 x51 : DV) (σ : Store) : Option (DV × Store) :=
  codeF G PP (pol 76) CC lo (.loop c76_28) a76_27 [ud, x1, ud, x3, x4, ud, ud, ud, ud, ud, ud, ud, ud, ud, ud, ud, ud, ud, ud, ud, ud, ud, ud, ud, ud, ud, ud, ud, ud, ud, ud, ud, ud, ud, ud, ud, ud, ud, ud, ud, ud, ud, ud, ud, ud, ud, ud, ud, ud, x49, x50, x51, ud, ud, ud, ud, ud, ud, ud, ud, ud, ud, ud, ud, ud, ud, ud, ud, ud, ud, ud, ud, ud, ud, ud, ud, ud, ud, ud, ud, ud, ud, ud, ud, ud, ud, ud, ud, ud, ud, ud] σ
   (blockC 2 a76_26 (seqC G PP (pol 76) CC lo c76_40 a76_40 (finR PP Go.Proofs.Try.f76.results.toList)))
noncomputable def F76 (G : GuardT) (lo : Nat) (x0 : DV) (σ : Store) : Option (DV × Store) :=
  codeF G PP (pol 76) CC lo c76_0 a76_0 [x0, ud, ud, ud, ud, ud, ud, ud, ud, ud, ud, ud, ud, ud, ud, ud, ud, ud, ud, ud, ud, ud, ud, ud, ud, ud, ud, ud, ud, ud, ud, ud, ud, ud, ud, ud, ud, ud, ud, ud, ud, ud, ud, ud, ud, ud, ud, ud, ud, ud, ud, ud, ud, ud, ud, ud, ud, ud, ud, ud, ud, ud, ud, ud, ud, ud, ud, ud, ud, ud, ud, ud, ud, ud, ud, ud, ud, ud, ud, ud, ud, ud, ud, ud, ud, ud, ud, ud, ud, ud, ud] σ (finR PP Go.Proofs.Try.f76.results.toList)
theorem f76_L0_eq (G : GuardT) (hG : GuardOk G) (lo : Nat) (x1 x3 x4 x20 x21 x22 : DV) (σ : Store) : f76_L0 G lo x1 x3 x4 x20 x21 x22 σ =
    (binOp PP .lss 3 x22 x21).bind fun x23 =>
    condK x23
     (
      (indexAddr PP 22 x20 x22).bind fun x25 =>
      (load PP 3 x25 σ).bind fun x26 =>
      G _ x4 true (some (x3, σ)) σ fun x29 σ5 =>
      G _ x4 true (some (x26, σ5)) σ5 fun x30 σ6 =>
      G _ x4 true ((pureFn CC x29 [x30] σ6).bind fun v => some (v, σ6)) σ6 fun x31 σ7 =>
      (pickV x4 x31 (DV.p (PV.bool false))).bind fun x32 =>
      G _ x32 true (some (x22, σ7)) σ7 fun x34 σ8 =>
      G _ x32 true ((binOp PP .eql 3 x34 (DV.p (PV.int IntKind.i64 (0)))).bind fun v => some (v, σ8)) σ8 fun x35 σ9 =>
      G _ x32 true (some (x35, σ9)) σ9 fun x36 σ10 =>
      G _ x36 false ((fieldAddr PP 25 x1 1).bind fun v => some (v, σ10)) σ10 fun x37 σ11 =>
      G _ x36 false ((load PP 22 x37 σ11).bind fun v => some (v, σ11)) σ11 fun x38 σ12 =>
      G _ x36 false (some (x22, σ12)) σ12 fun x39 σ13 =>
      G _ x36 false ((binOp PP .sub 3 x39 (DV.p (PV.int IntKind.i64 (1)))).bind fun v => some (v, σ13)) σ13 fun x40 σ14 =>
      G _ x36 false ((indexAddr PP 22 x38 x40).bind fun v => some (v, σ14)) σ14 fun x41 σ15 =>
      G _ x36 false ((load PP 3 x41 σ15).bind fun v => some (v, σ15)) σ15 fun x42 σ16 =>
      G _ x36 false (some (x26, σ16)) σ16 fun x43 σ17 =>
      G _ x36 false ((binOp PP .lss 3 x42 x43).bind fun v => some (v, σ17)) σ17 fun x44 σ18 =>
      G _ x32 true ((pickV x36 (DV.p (PV.bool true)) x44).bind fun v => some (v, σ18)) σ18 fun x45 σ19 =>
      (pickV x32 x45 (DV.p (PV.bool false))).bind fun x46 =>
      (binOp PP .add 3 x22 (DV.p (PV.int IntKind.i64 (1)))).bind fun x47 =>
      f76_L0 G lo x1 x3 x46 x20 x21 x47 σ19
     )
     (
      (fieldAddr PP 25 x1 2).bind fun x48 =>
      (load PP 23 x48 σ).bind fun x49 =>
      (len PP 23 x49 σ).bind fun x50 =>
      f76_L1 G lo x1 x3 x4 x49 x50 (DV.p (PV.int IntKind.i64 (0))) σ
     ) := (loopF_eq G hG).trans (by kernel_rfl)
theorem f76_L1_eq (G : GuardT) (hG : GuardOk G) (lo : Nat) (x1 x3 x4 x49 x50 x51 : DV) (σ : Store) : f76_L1 G lo x1 x3 x4 x49 x50 x51 σ =
    (binOp PP .lss 3 x51 x50).bind fun x52 =>
    condK x52
     (
      (indexAddr PP 23 x49 x51).bind fun x54 =>
      (load PP 100 x54 σ).bind fun x55 =>
      (zeroOf PP 100).bind fun z8 =>
      (store PP lo 100 (DV.ptr (List.length σ) 0) x55 (σ ++ [Row.mix z8])).bind fun σ20 =>
      G _ x4 true (some (x3, σ20)) σ20 fun x58 σ21 =>
      G _ x4 true ((fieldAddr PP 100 (DV.ptr (List.length σ) 0) 0).bind fun v => some (v, σ21)) σ21 fun x59 σ22 =>
      G _ x4 true ((load PP 3 x59 σ22).bind fun v => some (v, σ22)) σ22 fun x60 σ23 =>
      G _ x4 true ((pureFn CC x58 [x60] σ23).bind fun v => some (v, σ23)) σ23 fun x61 σ24 =>
      (pickV x4 x61 (DV.p (PV.bool false))).bind fun x62 =>
      G _ x62 true (some (x3, σ24)) σ24 fun x64 σ25 =>
      G _ x62 true ((fieldAddr PP 100 (DV.ptr (List.length σ) 0) 1).bind fun v => some (v, σ25)) σ25 fun x65 σ26 =>
      G _ x62 true ((load PP 3 x65 σ26).bind fun v => some (v, σ26)) σ26 fun x66 σ27 =>
      G _ x62 true ((pureFn CC x64 [x66] σ27).bind fun v => some (v, σ27)) σ27 fun x67 σ28 =>
      (pickV x62 x67 (DV.p (PV.bool false))).bind fun x68 =>
      G _ x68 true ((fieldAddr PP 100 (DV.ptr (List.length σ) 0) 2).bind fun v => some (v, σ28)) σ28 fun x70 σ29 =>
      G _ x68 true ((load PP 3 x70 σ29).bind fun v => some (v, σ29)) σ29 fun x71 σ30 =>
      G _ x68 true ((pureFn CC (DV.fn 53 []) [x71, (DV.p (PV.int IntKind.i64 (0))), (DV.p (PV.int IntKind.i64 (11)))] σ30).bind fun v => some (v, σ30)) σ30 fun x72 σ31 =>
      (pickV x68 x72 (DV.p (PV.bool false))).bind fun x73 =>
      G _ x73 true (some (x51, σ31)) σ31 fun x75 σ32 =>
      G _ x73 true ((binOp PP .eql 3 x75 (DV.p (PV.int IntKind.i64 (0)))).bind fun v => some (v, σ32)) σ32 fun x76 σ33 =>
      G _ x73 true (some (x76, σ33)) σ33 fun x77 σ34 =>
      G _ x77 false ((fieldAddr PP 25 x1 2).bind fun v => some (v, σ34)) σ34 fun x78 σ35 =>
      G _ x77 false ((load PP 23 x78 σ35).bind fun v => some (v, σ35)) σ35 fun x79 σ36 =>
      G _ x77 false (some (x51, σ36)) σ36 fun x80 σ37 =>
      G _ x77 false ((binOp PP .sub 3 x80 (DV.p (PV.int IntKind.i64 (1)))).bind fun v => some (v, σ37)) σ37 fun x81 σ38 =>
      G _ x77 false ((indexAddr PP 23 x79 x81).bind fun v => some (v, σ38)) σ38 fun x82 σ39 =>
      G _ x77 false ((load PP 100 x82 σ39).bind fun v => some (v, σ39)) σ39 fun x83 σ40 =>
      G _ x77 false ((load PP 100 (DV.ptr (List.length σ) 0) σ40).bind fun v => some (v, σ40)) σ40 fun x84 σ41 =>
      G _ x77 false ((pureFn CC (DV.fn 91 []) [x83, x84] σ41).bind fun v => some (v, σ41)) σ41 fun x85 σ42 =>
      G _ x77 false ((binOp PP .lss 3 x85 (DV.p (PV.int IntKind.i64 (0)))).bind fun v => some (v, σ42)) σ42 fun x86 σ43 =>
      G _ x73 true ((pickV x77 (DV.p (PV.bool true)) x86).bind fun v => some (v, σ43)) σ43 fun x87 σ44 =>
      (pickV x73 x87 (DV.p (PV.bool false))).bind fun x88 =>
      (binOp PP .add 3 x51 (DV.p (PV.int IntKind.i64 (1)))).bind fun x89 =>
      f76_L1 G lo x1 x3 x88 x49 x50 x89 σ44
     )
     (
      some (x4, σ)
     ) := (loopF_eq G hG).trans (by kernel_rfl)
theorem F76_eq (G : GuardT) (lo : Nat) (x0 : DV) (σ : Store) : F76 G lo x0 σ =
    (boxV x0).bind fun z1 =>
    (fieldAddr PP 25 (DV.ptr (List.length σ) 0) 0).bind fun x10 =>
    (load PP 3 x10 (σ ++ [Row.mix z1])).bind fun x11 =>
    (pureFn CC (DV.fn 53 []) [x11, (DV.p (PV.int IntKind.i64 (0))), (DV.p (PV.int IntKind.i64 (400)))] (σ ++ [Row.mix z1])).bind fun x12 =>
    G _ x12 true ((fieldAddr PP 25 (DV.ptr (List.length σ) 0) 2).bind fun v => some (v, (σ ++ [Row.mix z1]))) (σ ++ [Row.mix z1]) fun x14 σ1 =>
    G _ x12 true ((load PP 23 x14 σ1).bind fun v => some (v, σ1)) σ1 fun x15 σ2 =>
    G _ x12 true ((len PP 23 x15 σ2).bind fun v => some (v, σ2)) σ2 fun x16 σ3 =>
    G _ x12 true ((binOp PP .leq 3 x16 (DV.p (PV.int IntKind.i64 (2000)))).bind fun v => some (v, σ3)) σ3 fun x17 σ4 =>
    (pickV x12 x17 (DV.p (PV.bool false))).bind fun x18 =>
    (fieldAddr PP 25 (DV.ptr (List.length σ) 0) 1).bind fun x19 =>
    (load PP 22 x19 σ4).bind fun x20 =>
    (len PP 22 x20 σ4).bind fun x21 =>
    f76_L0 G lo (DV.ptr (List.length σ) 0) (DV.fn 90 [(DV.ptr (List.length σ) 0)]) x18 x20 x21 (DV.p (PV.int IntKind.i64 (0))) σ4 := by kernel_rfl
theorem F76_call {lo : Nat} {x0 : DV} {σ : Store} {r : DV × Store} (h : F76 guardT lo x0 σ = some r) : CC lo 76 [x0] σ = some r :=
  callL_run Go.Proofs.Try.func76 (by decide +kernel) rfl (by decide +kernel) h
noncomputable def c48_0 : Code := bodyOf Go.Proofs.Try.f48
noncomputable def a48_0 : Ann := (pol 48).ann
noncomputable def c48_1 : Code := Code.fstC c48_0
noncomputable def a48_1 : Ann := Ann.left a48_0
noncomputable def c48_2 : Code := Code.sndC c48_0
noncomputable def a48_2 : Ann := Ann.right a48_0
noncomputable def c48_3 : Code := Code.fstC c48_2
noncomputable def a48_3 : Ann := Ann.left a48_2
noncomputable def c48_10 : Code := Code.sndC c48_2
noncomputable def a48_10 : Ann := Ann.right a48_2
noncomputable def c48_4 : Code := Code.fstC c48_3
noncomputable def a48_4 : Ann := Ann.left a48_3
noncomputable def c48_5 : Code := Code.sndC c48_3
noncomputable def a48_5 : Ann := Ann.right a48_3
noncomputable def c48_6 : Code := Code.fstC c48_5
noncomputable def a48_6 : Ann := Ann.left a48_5
noncomputable def c48_9 : Code := Code.sndC c48_5
noncomputable def a48_9 : Ann := Ann.right a48_5
noncomputable def c48_7 : Code := Code.fstC c48_6
noncomputable def a48_7 : Ann := Ann.left a48_6
noncomputable def c48_8 : Code := Code.sndC c48_6
noncomputable def a48_8 : Ann := Ann.right a48_6
noncomputable def c48_11 : Code := Code.fstC c48_10
noncomputable def a48_11 : Ann := Ann.left a48_10
noncomputable def c48_31 : Code := Code.sndC c48_10
noncomputable def a48_31 : Ann := Ann.right a48_10
noncomputable def c48_12 : Code := Code.fstC c48_11
noncomputable def a48_12 : Ann := Ann.left a48_11
noncomputable def c48_13 : Code := Code.sndC c48_11
noncomputable def a48_13 : Ann := Ann.right a48_11
noncomputable def c48_14 : Code := Code.fstC c48_13
noncomputable def a48_14 : Ann := Ann.left a48_13
noncomputable def c48_15 : Code := Code.fstC c48_14
noncomputable def a48_15 : Ann := Ann.left a48_14
noncomputable def c48_16 : Code := Code.fstC c48_15
noncomputable def a48_16 : Ann := Ann.left a48_15
noncomputable def c48_21 : Code := Code.sndC c48_15
noncomputable def a48_21 : Ann := Ann.right a48_15
noncomputable def c48_17 : Code := Code.fstC c48_16
noncomputable def a48_17 : Ann := Ann.left a48_16
noncomputable def c48_18 : Code := Code.sndC c48_16
noncomputable def a48_18 : Ann := Ann.right a48_16
noncomputable def c48_19 : Code := Code.fstC c48_18
noncomputable def a48_19 : Ann := Ann.left a48_18
noncomputable def c48_20 : Code := Code.sndC c48_18
noncomputable def a48_20 : Ann := Ann.right a48_18
noncomputable def c48_22 : Code := Code.fstC c48_21
noncomputable def a48_22 : Ann := Ann.left a48_21
noncomputable def c48_30 : Code := Code.sndC c48_21
noncomputable def a48_30 : Ann := Ann.right a48_21
noncomputable def c48_23 : Code := Code.fstC c48_22
noncomputable def a48_23 : Ann := Ann.left a48_22
noncomputable def c48_24 : Code := Code.fstC c48_23
noncomputable def a48_24 : Ann := Ann.left a48_23
noncomputable def c48_25 : Code := Code.sndC c48_23
noncomputable def a48_25 : Ann := Ann.right a48_23
noncomputable def c48_26 : Code := Code.fstC c48_25
noncomputable def a48_26 : Ann := Ann.left a48_25
noncomputable def c48_29 : Code := Code.sndC c48_25
noncomputable def a48_29 : Ann := Ann.right a48_25
noncomputable def c48_27 : Code := Code.fstC c48_26
noncomputable def a48_27 : Ann := Ann.left a48_26
noncomputable def c48_28 : Code := Code.sndC c48_26
noncomputable def a48_28 : Ann := Ann.right a48_26
noncomputable def c48_32 : Code := Code.fstC c48_31
noncomputable def a48_32 : Ann := Ann.left a48_31
noncomputable def c48_54 : Code := Code.sndC c48_31
noncomputable def a48_54 : Ann := Ann.right a48_31
noncomputable def c48_33 : Code := Code.fstC c48_32
noncomputable def a48_33 : Ann := Ann.left a48_32
noncomputable def c48_34 : Code := Code.sndC c48_32
noncomputable def a48_34 : Ann := Ann.right a48_32
noncomputable def c48_35 : Code := Code.fstC c48_34
noncomputable def a48_35 : Ann := Ann.left a48_34
noncomputable def c48_36 : Code := Code.fstC c48_35
noncomputable def a48_36 : Ann := Ann.left a48_35
noncomputable def c48_37 : Code := Code.fstC c48_36
noncomputable def a48_37 : Ann := Ann.left a48_36
noncomputable def c48_42 : Code := Code.sndC c48_36
noncomputable def a48_42 : Ann := Ann.right a48_36
noncomputable def c48_38 : Code := Code.fstC c48_37
noncomputable def a48_38 : Ann := Ann.left a48_37
noncomputable def c48_39 : Code := Code.sndC c48_37
noncomputable def a48_39 : Ann := Ann.right a48_37
noncomputable def c48_40 : Code := Code.fstC c48_39
noncomputable def a48_40 : Ann := Ann.left a48_39
noncomputable def c48_41 : Code := Code.sndC c48_39
noncomputable def a48_41 : Ann := Ann.right a48_39
noncomputable def c48_43 : Code := Code.fstC c48_42
noncomputable def a48_43 : Ann := Ann.left a48_42
noncomputable def c48_53 : Code := Code.sndC c48_42
noncomputable def a48_53 : Ann := Ann.right a48_42
noncomputable def c48_44 : Code := Code.fstC c48_43
noncomputable def a48_44 : Ann := Ann.left a48_43
noncomputable def c48_45 : Code := Code.fstC c48_44
noncomputable def a48_45 : Ann := Ann.left a48_44
noncomputable def c48_46 : Code := Code.sndC c48_44
noncomputable def a48_46 : Ann := Ann.right a48_44
noncomputable def c48_47 : Code := Code.fstC c48_46
noncomputable def a48_47 : Ann := Ann.left a48_46
noncomputable def c48_48 : Code := Code.sndC c48_46
noncomputable def a48_48 : Ann := Ann.right a48_46
noncomputable def c48_49 : Code := Code.fstC c48_48
noncomputable def a48_49 : Ann := Ann.left a48_48
noncomputable def c48_52 : Code := Code.sndC c48_48
noncomputable def a48_52 : Ann := Ann.right a48_48
noncomputable def c48_50 : Code := Code.fstC c48_49
noncomputable def a48_50 : Ann := Ann.left a48_49
noncomputable def c48_51 : Code := Code.sndC c48_49
noncomputable def a48_51 : Ann := Ann.right a48_49
noncomputable def c48_55 : Code := Code.fstC c48_54
noncomputable def a48_55 : Ann := Ann.left a48_54
noncomputable def c48_56 : Code := Code.sndC c48_54
noncomputable def a48_56 : Ann := Ann.right a48_54
noncomputable def f48_L0 (G : GuardT) (lo : Nat) (x1 x3 : DV) (σ : Store) : Option (DV × Store) :=
  codeF G PP (pol 48) CC lo (.loop c48_15) a48_14 [ud, x1, ud, x3, ud, ud, ud, ud, ud, ud, ud, ud, ud, ud, ud, ud, ud, ud, ud, ud, ud, ud, ud, ud, ud, ud, ud, ud, ud, ud, ud, ud, ud, ud, ud, ud, ud, ud, ud, ud, ud, ud, ud, ud, ud, ud, ud, ud, ud, ud, ud, ud, ud, ud, ud, ud, ud, ud, ud, ud, ud, ud, ud, ud, ud, ud, ud, ud, ud, ud, ud, ud, ud, ud, ud, ud, ud, ud, ud, ud, ud, ud, ud, ud, ud, ud, ud, ud, ud, ud, ud, ud, ud, ud, ud, ud, ud, ud, ud, ud, ud, ud, ud, ud, ud, ud, ud, ud, ud, ud] σ
   (blockC 0 a48_13 (seqC G PP (pol 48) CC lo c48_31 a48_31 (finR PP Go.Proofs.Try.f48.results.toList)))
noncomputable def f48_L1 (G : GuardT) (lo : Nat) (x1 x4 : DV) (σ : Store) : Option (DV × Store) :=
  codeF G PP (pol 48) CC lo (.loop c48_36) a48_35 [ud, x1, ud, ud, x4, ud, ud, ud, ud, ud, ud, ud, ud, ud, ud, ud, ud, ud, ud, ud, ud, ud, ud, ud, ud, ud, ud, ud, ud, ud, ud, ud, ud, ud, ud, ud, ud, ud, ud, ud, ud, ud, ud, ud, ud, ud, ud, ud, ud, ud, ud, ud, ud, ud, ud, ud, ud, ud, ud, ud, ud, ud, ud, ud, ud, ud, ud, ud, ud, ud, ud, ud, ud, ud, ud, ud, ud, ud, ud, ud, ud, ud, ud, ud, ud, ud, ud, ud, ud, ud, ud, ud, ud, ud, ud, ud, ud, ud, ud, ud, ud, ud, ud, ud, ud, ud, ud, ud, ud, ud] σ
   (blockC 2 a48_34 (seqC G PP (pol 48) CC lo c48_54 a48_54 (finR PP Go.Proofs.Try.f48.results.toList)))
noncomputable def F48 (G : GuardT) (lo : Nat) (x0 : DV) (σ : Store) : Option (DV × Store) :=
  codeF G PP (pol 48) CC lo c48_0 a48_0 [x0, ud, ud, ud, ud, ud, ud, ud, ud, ud, ud, ud, ud, ud, ud, ud, ud, ud, ud, ud, ud, ud, ud, ud, ud, ud, ud, ud, ud, ud, ud, ud, ud, ud, ud, ud, ud, ud, ud, ud, ud, ud, ud, ud, ud, ud, ud, ud, ud, ud, ud, ud, ud, ud, ud, ud, ud, ud, ud, ud, ud, ud, ud, ud, ud, ud, ud, ud, ud, ud, ud, ud, ud, ud, ud, ud, ud, ud, ud, ud, ud, ud, ud, ud, ud, ud, ud, ud, ud, ud, ud, ud, ud, ud, ud, ud, ud, ud, ud, ud, ud, ud, ud, ud, ud, ud, ud, ud, ud, ud] σ (finR PP Go.Proofs.Try.f48.results.toList)
theorem f48_L0_eq (G : GuardT) (hG : GuardOk G) (lo : Nat) (x1 x3 : DV) (σ : Store) : f48_L0 G lo x1 x3 σ =
    (fieldAddr PP 25 x1 1).bind fun x25 =>
    (load PP 22 x25 σ).bind fun x26 =>
    (len PP 22 x26 σ).bind fun x27 =>
    (binOp PP .lss 3 x3 x27).bind fun x28 =>
    condK x28
     (
      (fieldAddr PP 25 x1 1).bind fun x31 =>
      (load PP 22 x31 σ).bind fun x32 =>
      (indexAddr PP 22 x32 x3).bind fun x34 =>
      (load PP 3 x34 σ).bind fun x35 =>
      (fieldAddr PP 25 x1 0).bind fun x36 =>
      (load PP 3 x36 σ).bind fun x37 =>
      (binOp PP .sub 3 x37 (DV.p (PV.int IntKind.i64 (1)))).bind fun x38 =>
      (pureFn CC (DV.fn 22 []) [x35, (DV.p (PV.int IntKind.i64 (0))), x38] σ).bind fun x39 =>
      (unOp .not x39).bind fun x40 =>
      G _ x40 false (some (x3, σ)) σ fun x42 σ11 =>
      G _ x40 false ((binOp PP .gtr 3 x42 (DV.p (PV.int IntKind.i64 (0)))).bind fun v => some (v, σ11)) σ11 fun x43 σ12 =>
      G _ x40 false (some (x43, σ12)) σ12 fun x44 σ13 =>
      G _ x44 true ((fieldAddr PP 25 x1 1).bind fun v => some (v, σ13)) σ13 fun x45 σ14 =>
      G _ x44 true ((load PP 22 x45 σ14).bind fun v => some (v, σ14)) σ14 fun x46 σ15 =>
      G _ x44 true (some (x3, σ15)) σ15 fun x47 σ16 =>
      G _ x44 true ((indexAddr PP 22 x46 x47).bind fun v => some (v, σ16)) σ16 fun x48 σ17 =>
      G _ x44 true ((load PP 3 x48 σ17).bind fun v => some (v, σ17)) σ17 fun x49 σ18 =>
      G _ x44 true ((fieldAddr PP 25 x1 1).bind fun v => some (v, σ18)) σ18 fun x50 σ19 =>
      G _ x44 true ((load PP 22 x50 σ19).bind fun v => some (v, σ19)) σ19 fun x51 σ20 =>
      G _ x44 true (some (x3, σ20)) σ20 fun x52 σ21 =>
      G _ x44 true ((binOp PP .sub 3 x52 (DV.p (PV.int IntKind.i64 (1)))).bind fun v => some (v, σ21)) σ21 fun x53 σ22 =>
      G _ x44 true ((indexAddr PP 22 x51 x53).bind fun v => some (v, σ22)) σ22 fun x54 σ23 =>
      G _ x44 true ((load PP 3 x54 σ23).bind fun v => some (v, σ23)) σ23 fun x55 σ24 =>
      G _ x44 true ((binOp PP .leq 3 x49 x55).bind fun v => some (v, σ24)) σ24 fun x56 σ25 =>
      G _ x40 false ((pickV x44 x56 (DV.p (PV.bool false))).bind fun v => some (v, σ25)) σ25 fun x57 σ26 =>
      (pickV x40 (DV.p (PV.bool true)) x57).bind fun x58 =>
      condK x58
       (
        some ((DV.p (PV.bool false)), σ26)
       )
       (
        (binOp PP .add 3 x3 (DV.p (PV.int IntKind.i64 (1)))).bind fun x30 =>
        f48_L0 G lo x1 x30 σ26
       )
     )
     (
      f48_L1 G lo x1 (DV.p (PV.int IntKind.i64 (0))) σ
     ) := (loopF_eq G hG).trans (by kernel_rfl)
theorem f48_L1_eq (G : GuardT) (hG : GuardOk G) (lo : Nat) (x1 x4 : DV) (σ : Store) : f48_L1 G lo x1 x4 σ =
    (fieldAddr PP 25 x1 2).bind fun x60 =>
    (load PP 23 x60 σ).bind fun x61 =>
    (len PP 23 x61 σ).bind fun x62 =>
    (binOp PP .lss 3 x4 x62).bind fun x63 =>
    condK x63
     (
      (fieldAddr PP 25 x1 2).bind fun x66 =>
      (load PP 23 x66 σ).bind fun x67 =>
      (indexAddr PP 23 x67 x4).bind fun x69 =>
      (load PP 100 x69 σ).bind fun x70 =>
      (zeroOf PP 100).bind fun z5 =>
      (store PP lo 100 (DV.ptr (List.length σ) 0) x70 (σ ++ [Row.mix z5])).bind fun σ27 =>
      (fieldAddr PP 100 (DV.ptr (List.length σ) 0) 0).bind fun x71 =>
      (load PP 3 x71 σ27).bind fun x72 =>
      (fieldAddr PP 25 x1 0).bind fun x73 =>
      (load PP 3 x73 σ27).bind fun x74 =>
      (binOp PP .sub 3 x74 (DV.p (PV.int IntKind.i64 (1)))).bind fun x75 =>
      (pureFn CC (DV.fn 22 []) [x72, (DV.p (PV.int IntKind.i64 (0))), x75] σ27).bind fun x76 =>
      (unOp .not x76).bind fun x77 =>
      G _ x77 false ((fieldAddr PP 100 (DV.ptr (List.length σ) 0) 1).bind fun v => some (v, σ27)) σ27 fun x79 σ28 =>
      G _ x77 false ((load PP 3 x79 σ28).bind fun v => some (v, σ28)) σ28 fun x80 σ29 =>
      G _ x77 false ((fieldAddr PP 25 x1 0).bind fun v => some (v, σ29)) σ29 fun x81 σ30 =>
      G _ x77 false ((load PP 3 x81 σ30).bind fun v => some (v, σ30)) σ30 fun x82 σ31 =>
      G _ x77 false ((binOp PP .sub 3 x82 (DV.p (PV.int IntKind.i64 (1)))).bind fun v => some (v, σ31)) σ31 fun x83 σ32 =>
      G _ x77 false ((pureFn CC (DV.fn 22 []) [x80, (DV.p (PV.int IntKind.i64 (0))), x83] σ32).bind fun v => some (v, σ32)) σ32 fun x84 σ33 =>
      G _ x77 false ((unOp .not x84).bind fun v => some (v, σ33)) σ33 fun x85 σ34 =>
      (pickV x77 (DV.p (PV.bool true)) x85).bind fun x86 =>
      G _ x86 false ((fieldAddr PP 100 (DV.ptr (List.length σ) 0) 2).bind fun v => some (v, σ34)) σ34 fun x88 σ35 =>
      G _ x86 false ((load PP 3 x88 σ35).bind fun v => some (v, σ35)) σ35 fun x89 σ36 =>
      G _ x86 false ((pureFn CC (DV.fn 22 []) [x89, (DV.p (PV.int IntKind.i64 (0))), (DV.p (PV.int IntKind.i64 (11)))] σ36).bind fun v => some (v, σ36)) σ36 fun x90 σ37 =>
      G _ x86 false ((unOp .not x90).bind fun v => some (v, σ37)) σ37 fun x91 σ38 =>
      (pickV x86 (DV.p (PV.bool true)) x91).bind fun x92 =>
      G _ x92 false (some (x4, σ38)) σ38 fun x94 σ39 =>
      G _ x92 false ((binOp PP .gtr 3 x94 (DV.p (PV.int IntKind.i64 (0)))).bind fun v => some (v, σ39)) σ39 fun x95 σ40 =>
      G _ x92 false (some (x95, σ40)) σ40 fun x96 σ41 =>
      G _ x96 true ((fieldAddr PP 25 x1 2).bind fun v => some (v, σ41)) σ41 fun x97 σ42 =>
      G _ x96 true ((load PP 23 x97 σ42).bind fun v => some (v, σ42)) σ42 fun x98 σ43 =>
      G _ x96 true (some (x4, σ43)) σ43 fun x99 σ44 =>
      G _ x96 true ((binOp PP .sub 3 x99 (DV.p (PV.int IntKind.i64 (1)))).bind fun v => some (v, σ44)) σ44 fun x100 σ45 =>
      G _ x96 true ((indexAddr PP 23 x98 x100).bind fun v => some (v, σ45)) σ45 fun x101 σ46 =>
      G _ x96 true ((load PP 100 x101 σ46).bind fun v => some (v, σ46)) σ46 fun x102 σ47 =>
      G _ x96 true ((pureFn CC (DV.fn 82 []) [x102] σ47).bind fun v => some (v, σ47)) σ47 fun x103 σ48 =>
      G _ x96 true ((load PP 100 (DV.ptr (List.length σ) 0) σ48).bind fun v => some (v, σ48)) σ48 fun x104 σ49 =>
      G _ x96 true ((pureFn CC (DV.fn 82 []) [x104] σ49).bind fun v => some (v, σ49)) σ49 fun x105 σ50 =>
      G _ x96 true ((pureFn CC (DV.fn 70 []) [x103, x105] σ50).bind fun v => some (v, σ50)) σ50 fun x106 σ51 =>
      G _ x96 true ((binOp PP .geq 3 x106 (DV.p (PV.int IntKind.i64 (0)))).bind fun v => some (v, σ51)) σ51 fun x107 σ52 =>
      G _ x92 false ((pickV x96 x107 (DV.p (PV.bool false))).bind fun v => some (v, σ52)) σ52 fun x108 σ53 =>
      (pickV x92 (DV.p (PV.bool true)) x108).bind fun x109 =>
      condK x109
       (
        some ((DV.p (PV.bool false)), σ53)
       )
       (
        (binOp PP .add 3 x4 (DV.p (PV.int IntKind.i64 (1)))).bind fun x65 =>
        f48_L1 G lo x1 x65 σ53
       )
     )
     (
      some ((DV.p (PV.bool true)), σ)
     ) := (loopF_eq G hG).trans (by kernel_rfl)
theorem F48_eq (G : GuardT) (lo : Nat) (x0 : DV) (σ : Store) : F48 G lo x0 σ =
    (boxV x0).bind fun z1 =>
    (fieldAddr PP 25 (DV.ptr (List.length σ) 0) 0).bind fun x6 =>
    (load PP 3 x6 (σ ++ [Row.mix z1])).bind fun x7 =>
    (pureFn CC (DV.fn 22 []) [x7, (DV.p (PV.int IntKind.i64 (0))), (DV.p (PV.int IntKind.i64 (400)))] (σ ++ [Row.mix z1])).bind fun x8 =>
    (unOp .not x8).bind fun x9 =>
    G _ x9 false ((fieldAddr PP 25 (DV.ptr (List.length σ) 0) 1).bind fun v => some (v, (σ ++ [Row.mix z1]))) (σ ++ [Row.mix z1]) fun x11 σ1 =>
    G _ x9 false ((load PP 22 x11 σ1).bind fun v => some (v, σ1)) σ1 fun x12 σ2 =>
    G _ x9 false ((len PP 22 x12 σ2).bind fun v => some (v, σ2)) σ2 fun x13 σ3 =>
    G _ x9 false ((fieldAddr PP 25 (DV.ptr (List.length σ) 0) 0).bind fun v => some (v, σ3)) σ3 fun x14 σ4 =>
    G _ x9 false ((load PP 3 x14 σ4).bind fun v => some (v, σ4)) σ4 fun x15 σ5 =>
    G _ x9 false ((binOp PP .gtr 3 x13 x15).bind fun v => some (v, σ5)) σ5 fun x16 σ6 =>
    (pickV x9 (DV.p (PV.bool true)) x16).bind fun x17 =>
    G _ x17 false ((fieldAddr PP 25 (DV.ptr (List.length σ) 0) 2).bind fun v => some (v, σ6)) σ6 fun x19 σ7 =>
    G _ x17 false ((load PP 23 x19 σ7).bind fun v => some (v, σ7)) σ7 fun x20 σ8 =>
    G _ x17 false ((len PP 23 x20 σ8).bind fun v => some (v, σ8)) σ8 fun x21 σ9 =>
    G _ x17 false ((binOp PP .gtr 3 x21 (DV.p (PV.int IntKind.i64 (2000)))).bind fun v => some (v, σ9)) σ9 fun x22 σ10 =>
    (pickV x17 (DV.p (PV.bool true)) x22).bind fun x23 =>
    condK x23
     (
      some ((DV.p (PV.bool false)), σ10)
     )
     (
      f48_L0 G lo (DV.ptr (List.length σ) 0) (DV.p (PV.int IntKind.i64 (0))) σ10
     ) := by kernel_rfl
theorem F48_call {lo : Nat} {x0 : DV} {σ : Store} {r : DV × Store} (h : F48 guardT lo x0 σ = some r) : CC lo 48 [x0] σ = some r :=
  callL_run Go.Proofs.Try.func48 (by decide +kernel) rfl (by decide +kernel) h
noncomputable def c41_0 : Code := bodyOf Go.Proofs.Try.f41
noncomputable def a41_0 : Ann := (pol 41).ann
noncomputable def c41_1 : Code := Code.fstC c41_0
noncomputable def a41_1 : Ann := Ann.left a41_0
noncomputable def c41_2 : Code := Code.sndC c41_0
noncomputable def a41_2 : Ann := Ann.right a41_0
noncomputable def c41_3 : Code := Code.fstC c41_2
noncomputable def a41_3 : Ann := Ann.left a41_2
noncomputable def c41_4 : Code := Code.sndC c41_2
noncomputable def a41_4 : Ann := Ann.right a41_2
noncomputable def c41_5 : Code := Code.fstC c41_4
noncomputable def a41_5 : Ann := Ann.left a41_4
noncomputable def c41_6 : Code := Code.sndC c41_4
noncomputable def a41_6 : Ann := Ann.right a41_4
noncomputable def F41 (G : GuardT) (lo : Nat) (x0 : DV) (σ : Store) : Option (DV × Store) :=
  codeF G PP (pol 41) CC lo c41_0 a41_0 [x0, ud, ud, ud, ud, ud, ud, ud, ud, ud, ud, ud, ud, ud, ud, ud, ud, ud, ud, ud, ud, ud, ud, ud, ud, ud, ud, ud, ud, ud, ud, ud, ud, ud, ud, ud, ud, ud, ud, ud, ud, ud, ud, ud, ud, ud, ud, ud, ud, ud, ud, ud, ud, ud, ud, ud] σ (finR PP Go.Proofs.Try.f41.results.toList)
theorem F41_eq (G : GuardT) (lo : Nat) (x0 : DV) (σ : Store) : F41 G lo x0 σ =
    (boxV x0).bind fun z1 =>
    (fieldAddr PP 27 (DV.ptr (List.length σ) 0) 0).bind fun x4 =>
    (load PP 25 x4 (σ ++ [Row.mix z1])).bind fun x5 =>
    (pureFn CC (DV.fn 76 []) [x5] (σ ++ [Row.mix z1])).bind fun x6 =>
    G _ x6 true ((fieldAddr PP 27 (DV.ptr (List.length σ) 0) 1).bind fun v => some (v, (σ ++ [Row.mix z1]))) (σ ++ [Row.mix z1]) fun x8 σ1 =>
    G _ x6 true ((load PP 25 x8 σ1).bind fun v => some (v, σ1)) σ1 fun x9 σ2 =>
    G _ x6 true ((pureFn CC (DV.fn 76 []) [x9] σ2).bind fun v => some (v, σ2)) σ2 fun x10 σ3 =>
    (pickV x6 x10 (DV.p (PV.bool false))).bind fun x11 =>
    (pureFn CC (DV.fn 56 []) [x11, (DV.p (PV.int IntKind.i64 (5)))] σ3).bind fun x12 =>
    (fieldAddr PP 27 (DV.ptr (List.length σ) 0) 0).bind fun x13 =>
    (fieldAddr PP 25 x13 0).bind fun x14 =>
    (load PP 3 x14 σ3).bind fun x15 =>
    (binOp PP .leq 3 x15 (DV.p (PV.int IntKind.i64 (40)))).bind fun x16 =>
    G _ x16 true ((fieldAddr PP 27 (DV.ptr (List.length σ) 0) 1).bind fun v => some (v, σ3)) σ3 fun x18 σ4 =>
    G _ x16 true ((fieldAddr PP 25 x18 0).bind fun v => some (v, σ4)) σ4 fun x19 σ5 =>
    G _ x16 true ((load PP 3 x19 σ5).bind fun v => some (v, σ5)) σ5 fun x20 σ6 =>
    G _ x16 true ((binOp PP .leq 3 x20 (DV.p (PV.int IntKind.i64 (40)))).bind fun v => some (v, σ6)) σ6 fun x21 σ7 =>
    (pickV x16 x21 (DV.p (PV.bool false))).bind fun x22 =>
    (pureFn CC (DV.fn 56 []) [x22, (DV.p (PV.int IntKind.i64 (2)))] σ7).bind fun x23 =>
    (fieldAddr PP 27 (DV.ptr (List.length σ) 0) 2).bind fun x24 =>
    (load PP 22 x24 σ7).bind fun x25 =>
    (len PP 22 x25 σ7).bind fun x26 =>
    (fieldAddr PP 27 (DV.ptr (List.length σ) 0) 0).bind fun x27 =>
    (fieldAddr PP 25 x27 0).bind fun x28 =>
    (load PP 3 x28 σ7).bind fun x29 =>
    (binOp PP .eql 3 x26 x29).bind fun x30 =>
    G _ x30 true ((fieldAddr PP 27 (DV.ptr (List.length σ) 0) 3).bind fun v => some (v, σ7)) σ7 fun x32 σ8 =>
    G _ x30 true ((load PP 22 x32 σ8).bind fun v => some (v, σ8)) σ8 fun x33 σ9 =>
    G _ x30 true ((len PP 22 x33 σ9).bind fun v => some (v, σ9)) σ9 fun x34 σ10 =>
    G _ x30 true ((fieldAddr PP 27 (DV.ptr (List.length σ) 0) 1).bind fun v => some (v, σ10)) σ10 fun x35 σ11 =>
    G _ x30 true ((fieldAddr PP 25 x35 0).bind fun v => some (v, σ11)) σ11 fun x36 σ12 =>
    G _ x30 true ((load PP 3 x36 σ12).bind fun v => some (v, σ12)) σ12 fun x37 σ13 =>
    G _ x30 true ((binOp PP .eql 3 x34 x37).bind fun v => some (v, σ13)) σ13 fun x38 σ14 =>
    (pickV x30 x38 (DV.p (PV.bool false))).bind fun x39 =>
    (pureFn CC (DV.fn 56 []) [x39, (DV.p (PV.int IntKind.i64 (6)))] σ14).bind fun x40 =>
    (fieldAddr PP 27 (DV.ptr (List.length σ) 0) 2).bind fun x41 =>
    (load PP 22 x41 σ14).bind fun x42 =>
    (pureFn CC (DV.fn 51 []) [x42, (DV.fn 75 [])] σ14).bind fun x44 =>
    (unOp .not x44).bind fun x45 =>
    G _ x45 true ((fieldAddr PP 27 (DV.ptr (List.length σ) 0) 3).bind fun v => some (v, σ14)) σ14 fun x47 σ15 =>
    G _ x45 true ((load PP 22 x47 σ15).bind fun v => some (v, σ15)) σ15 fun x48 σ16 =>
    G _ x45 true (some ((DV.fn 75 []), σ16)) σ16 fun x49 σ17 =>
    G _ x45 true ((pureFn CC (DV.fn 51 []) [x48, x49] σ17).bind fun v => some (v, σ17)) σ17 fun x50 σ18 =>
    G _ x45 true ((unOp .not x50).bind fun v => some (v, σ18)) σ18 fun x51 σ19 =>
    (pickV x45 x51 (DV.p (PV.bool false))).bind fun x52 =>
    (pureFn CC (DV.fn 56 []) [x52, (DV.p (PV.int IntKind.i64 (3)))] σ19).bind fun x53 =>
    (buildSlice PP none 122 4 [(0, x12), (1, x23), (2, x40), (3, x53)] σ19).bind fun r54_20 =>
    (pureFn CC (DV.fn 54 []) [r54_20.1] r54_20.2).bind fun x55 =>
    some (x55, r54_20.2) := by kernel_rfl
theorem F41_call {lo : Nat} {x0 : DV} {σ : Store} {r : DV × Store} (h : F41 guardT lo x0 σ = some r) : CC lo 41 [x0] σ = some r :=
  callL_run Go.Proofs.Try.func41 (by decide +kernel) rfl (by decide +kernel) h
noncomputable def c15_0 : Code := bodyOf Go.Proofs.Try.f15
noncomputable def a15_0 : Ann := (pol 15).ann
noncomputable def c15_1 : Code := Code.fstC c15_0
noncomputable def a15_1 : Ann := Ann.left a15_0
noncomputable def c15_2 : Code := Code.sndC c15_0
noncomputable def a15_2 : Ann := Ann.right a15_0
noncomputable def c15_3 : Code := Code.fstC c15_2
noncomputable def a15_3 : Ann := Ann.left a15_2
noncomputable def c15_10 : Code := Code.sndC c15_2
noncomputable def a15_10 : Ann := Ann.right a15_2
noncomputable def c15_4 : Code := Code.fstC c15_3
noncomputable def a15_4 : Ann := Ann.left a15_3
noncomputable def c15_5 : Code := Code.sndC c15_3
noncomputable def a15_5 : Ann := Ann.right a15_3
noncomputable def c15_6 : Code := Code.fstC c15_5
noncomputable def a15_6 : Ann := Ann.left a15_5
noncomputable def c15_9 : Code := Code.sndC c15_5
noncomputable def a15_9 : Ann := Ann.right a15_5
noncomputable def c15_7 : Code := Code.fstC c15_6
noncomputable def a15_7 : Ann := Ann.left a15_6
noncomputable def c15_8 : Code := Code.sndC c15_6
noncomputable def a15_8 : Ann := Ann.right a15_6
noncomputable def c15_11 : Code := Code.fstC c15_10
noncomputable def a15_11 : Ann := Ann.left a15_10
noncomputable def c15_18 : Code := Code.sndC c15_10
noncomputable def a15_18 : Ann := Ann.right a15_10
noncomputable def c15_12 : Code := Code.fstC c15_11
noncomputable def a15_12 : Ann := Ann.left a15_11
noncomputable def c15_13 : Code := Code.sndC c15_11
noncomputable def a15_13 : Ann := Ann.right a15_11
noncomputable def c15_14 : Code := Code.fstC c15_13
noncomputable def a15_14 : Ann := Ann.left a15_13
noncomputable def c15_17 : Code := Code.sndC c15_13
noncomputable def a15_17 : Ann := Ann.right a15_13
noncomputable def c15_15 : Code := Code.fstC c15_14
noncomputable def a15_15 : Ann := Ann.left a15_14
noncomputable def c15_16 : Code := Code.sndC c15_14
noncomputable def a15_16 : Ann := Ann.right a15_14
noncomputable def c15_19 : Code := Code.fstC c15_18
noncomputable def a15_19 : Ann := Ann.left a15_18
noncomputable def c15_26 : Code := Code.sndC c15_18
noncomputable def a15_26 : Ann := Ann.right a15_18
noncomputable def c15_20 : Code := Code.fstC c15_19
noncomputable def a15_20 : Ann := Ann.left a15_19
noncomputable def c15_21 : Code := Code.sndC c15_19
noncomputable def a15_21 : Ann := Ann.right a15_19
noncomputable def c15_22 : Code := Code.fstC c15_21
noncomputable def a15_22 : Ann := Ann.left a15_21
noncomputable def c15_25 : Code := Code.sndC c15_21
noncomputable def a15_25 : Ann := Ann.right a15_21
noncomputable def c15_23 : Code := Code.fstC c15_22
noncomputable def a15_23 : Ann := Ann.left a15_22
noncomputable def c15_24 : Code := Code.sndC c15_22
noncomputable def a15_24 : Ann := Ann.right a15_22
noncomputable def c15_27 : Code := Code.fstC c15_26
noncomputable def a15_27 : Ann := Ann.left a15_26
noncomputable def c15_47 : Code := Code.sndC c15_26
noncomputable def a15_47 : Ann := Ann.right a15_26
noncomputable def c15_28 : Code := Code.fstC c15_27
noncomputable def a15_28 : Ann := Ann.left a15_27
noncomputable def c15_29 : Code := Code.sndC c15_27
noncomputable def a15_29 : Ann := Ann.right a15_27
noncomputable def c15_30 : Code := Code.fstC c15_29
noncomputable def a15_30 : Ann := Ann.left a15_29
noncomputable def c15_31 : Code := Code.fstC c15_30
noncomputable def a15_31 : Ann := Ann.left a15_30
noncomputable def c15_32 : Code := Code.fstC c15_31
noncomputable def a15_32 : Ann := Ann.left a15_31
noncomputable def c15_37 : Code := Code.sndC c15_31
noncomputable def a15_37 : Ann := Ann.right a15_31
noncomputable def c15_33 : Code := Code.fstC c15_32
noncomputable def a15_33 : Ann := Ann.left a15_32
noncomputable def c15_34 : Code := Code.sndC c15_32
noncomputable def a15_34 : Ann := Ann.right a15_32
noncomputable def c15_35 : Code := Code.fstC c15_34
noncomputable def a15_35 : Ann := Ann.left a15_34
noncomputable def c15_36 : Code := Code.sndC c15_34
noncomputable def a15_36 : Ann := Ann.right a15_34
noncomputable def c15_38 : Code := Code.fstC c15_37
noncomputable def a15_38 : Ann := Ann.left a15_37
noncomputable def c15_46 : Code := Code.sndC c15_37
noncomputable def a15_46 : Ann := Ann.right a15_37
noncomputable def c15_39 : Code := Code.fstC c15_38
noncomputable def a15_39 : Ann := Ann.left a15_38
noncomputable def c15_40 : Code := Code.fstC c15_39
noncomputable def a15_40 : Ann := Ann.left a15_39
noncomputable def c15_41 : Code := Code.sndC c15_39
noncomputable def a15_41 : Ann := Ann.right a15_39
noncomputable def c15_42 : Code := Code.fstC c15_41
noncomputable def a15_42 : Ann := Ann.left a15_41
noncomputable def c15_45 : Code := Code.sndC c15_41
noncomputable def a15_45 : Ann := Ann.right a15_41
noncomputable def c15_43 : Code := Code.fstC c15_42
noncomputable def a15_43 : Ann := Ann.left a15_42
noncomputable def c15_44 : Code := Code.sndC c15_42
noncomputable def a15_44 : Ann := Ann.right a15_42
noncomputable def c15_48 : Code := Code.fstC c15_47
noncomputable def a15_48 : Ann := Ann.left a15_47
noncomputable def c15_68 : Code := Code.sndC c15_47
noncomputable def a15_68 : Ann := Ann.right a15_47
noncomputable def c15_49 : Code := Code.fstC c15_48
noncomputable def a15_49 : Ann := Ann.left a15_48
noncomputable def c15_50 : Code := Code.sndC c15_48
noncomputable def a15_50 : Ann := Ann.right a15_48
noncomputable def c15_51 : Code := Code.fstC c15_50
noncomputable def a15_51 : Ann := Ann.left a15_50
noncomputable def c15_52 : Code := Code.fstC c15_51
noncomputable def a15_52 : Ann := Ann.left a15_51
noncomputable def c15_53 : Code := Code.fstC c15_52
noncomputable def a15_53 : Ann := Ann.left a15_52
noncomputable def c15_58 : Code := Code.sndC c15_52
noncomputable def a15_58 : Ann := Ann.right a15_52
noncomputable def c15_54 : Code := Code.fstC c15_53
noncomputable def a15_54 : Ann := Ann.left a15_53
noncomputable def c15_55 : Code := Code.sndC c15_53
noncomputable def a15_55 : Ann := Ann.right a15_53
noncomputable def c15_56 : Code := Code.fstC c15_55
noncomputable def a15_56 : Ann := Ann.left a15_55
noncomputable def c15_57 : Code := Code.sndC c15_55
noncomputable def a15_57 : Ann := Ann.right a15_55
noncomputable def c15_59 : Code := Code.fstC c15_58
noncomputable def a15_59 : Ann := Ann.left a15_58
noncomputable def c15_67 : Code := Code.sndC c15_58
noncomputable def a15_67 : Ann := Ann.right a15_58
noncomputable def c15_60 : Code := Code.fstC c15_59
noncomputable def a15_60 : Ann := Ann.left a15_59
noncomputable def c15_61 : Code := Code.fstC c15_60
noncomputable def a15_61 : Ann := Ann.left a15_60
noncomputable def c15_62 : Code := Code.sndC c15_60
noncomputable def a15_62 : Ann := Ann.right a15_60
noncomputable def c15_63 : Code := Code.fstC c15_62
noncomputable def a15_63 : Ann := Ann.left a15_62
noncomputable def c15_66 : Code := Code.sndC c15_62
noncomputable def a15_66 : Ann := Ann.right a15_62
noncomputable def c15_64 : Code := Code.fstC c15_63
noncomputable def a15_64 : Ann := Ann.left a15_63
noncomputable def c15_65 : Code := Code.sndC c15_63
noncomputable def a15_65 : Ann := Ann.right a15_63
noncomputable def c15_69 : Code := Code.fstC c15_68
noncomputable def a15_69 : Ann := Ann.left a15_68
noncomputable def c15_70 : Code := Code.sndC c15_68
noncomputable def a15_70 : Ann := Ann.right a15_68
noncomputable def f15_L0 (G : GuardT) (lo : Nat) (x1 x3 : DV) (σ : Store) : Option (DV × Store) :=
  codeF G PP (pol 15) CC lo (.loop c15_31) a15_30 [ud, x1, ud, x3, ud, ud, ud, ud, ud, ud, ud, ud, ud, ud, ud, ud, ud, ud, ud, ud, ud, ud, ud, ud, ud, ud, ud, ud, ud, ud, ud, ud, ud, ud, ud, ud, ud, ud, ud, ud, ud, ud, ud, ud, ud, ud, ud, ud, ud, ud, ud, ud, ud, ud, ud, ud, ud, ud, ud, ud, ud, ud, ud, ud, ud, ud, ud, ud, ud] σ
   (blockC 0 a15_29 (seqC G PP (pol 15) CC lo c15_47 a15_47 (finR PP Go.Proofs.Try.f15.results.toList)))
noncomputable def f15_L1 (G : GuardT) (lo : Nat) (x1 x4 : DV) (σ : Store) : Option (DV × Store) :=
  codeF G PP (pol 15) CC lo (.loop c15_52) a15_51 [ud, x1, ud, ud, x4, ud, ud, ud, ud, ud, ud, ud, ud, ud, ud, ud, ud, ud, ud, ud, ud, ud, ud, ud, ud, ud, ud, ud, ud, ud, ud, ud, ud, ud, ud, ud, ud, ud, ud, ud, ud, ud, ud, ud, ud, ud, ud, ud, ud, ud, ud, ud, ud, ud, ud, ud, ud, ud, ud, ud, ud, ud, ud, ud, ud, ud, ud, ud, ud] σ
   (blockC 2 a15_50 (seqC G PP (pol 15) CC lo c15_68 a15_68 (finR PP Go.Proofs.Try.f15.results.toList)))
noncomputable def F15 (G : GuardT) (lo : Nat) (x0 : DV) (σ : Store) : Option (DV × Store) :=
  codeF G PP (pol 15) CC lo c15_0 a15_0 [x0, ud, ud, ud, ud, ud, ud, ud, ud, ud, ud, ud, ud, ud, ud, ud, ud, ud, ud, ud, ud, ud, ud, ud, ud, ud, ud, ud, ud, ud, ud, ud, ud, ud, ud, ud, ud, ud, ud, ud, ud, ud, ud, ud, ud, ud, ud, ud, ud, ud, ud, ud, ud, ud, ud, ud, ud, ud, ud, ud, ud, ud, ud, ud, ud, ud, ud, ud, ud] σ (finR PP Go.Proofs.Try.f15.results.toList)
theorem f15_L0_eq (G : GuardT) (hG : GuardOk G) (lo : Nat) (x1 x3 : DV) (σ : Store) : f15_L0 G lo x1 x3 σ =
    (fieldAddr PP 27 x1 2).bind fun x42 =>
    (load PP 22 x42 σ).bind fun x43 =>
    (len PP 22 x43 σ).bind fun x44 =>
    (binOp PP .lss 3 x3 x44).bind fun x45 =>
    condK x45
     (
      (fieldAddr PP 27 x1 2).bind fun x48 =>
      (load PP 22 x48 σ).bind fun x49 =>
      (indexAddr PP 22 x49 x3).bind fun x51 =>
      (load PP 3 x51 σ).bind fun x52 =>
      (pureFn CC (DV.fn 22 []) [x52, (DV.p (PV.int IntKind.i64 (0))), (DV.p (PV.int IntKind.i64 (10000)))] σ).bind fun x53 =>
      (unOp .not x53).bind fun x54 =>
      condK x54
       (
        some ((DV.p (PV.int IntKind.i64 (3))), σ)
       )
       (
        (binOp PP .add 3 x3 (DV.p (PV.int IntKind.i64 (1)))).bind fun x47 =>
        f15_L0 G lo x1 x47 σ
       )
     )
     (
      f15_L1 G lo x1 (DV.p (PV.int IntKind.i64 (0))) σ
     ) := (loopF_eq G hG).trans (by kernel_rfl)
theorem f15_L1_eq (G : GuardT) (hG : GuardOk G) (lo : Nat) (x1 x4 : DV) (σ : Store) : f15_L1 G lo x1 x4 σ =
    (fieldAddr PP 27 x1 3).bind fun x56 =>
    (load PP 22 x56 σ).bind fun x57 =>
    (len PP 22 x57 σ).bind fun x58 =>
    (binOp PP .lss 3 x4 x58).bind fun x59 =>
    condK x59
     (
      (fieldAddr PP 27 x1 3).bind fun x62 =>
      (load PP 22 x62 σ).bind fun x63 =>
      (indexAddr PP 22 x63 x4).bind fun x65 =>
      (load PP 3 x65 σ).bind fun x66 =>
      (pureFn CC (DV.fn 22 []) [x66, (DV.p (PV.int IntKind.i64 (0))), (DV.p (PV.int IntKind.i64 (10000)))] σ).bind fun x67 =>
      (unOp .not x67).bind fun x68 =>
      condK x68
       (
        some ((DV.p (PV.int IntKind.i64 (3))), σ)
       )
       (
        (binOp PP .add 3 x4 (DV.p (PV.int IntKind.i64 (1)))).bind fun x61 =>
        f15_L1 G lo x1 x61 σ
       )
     )
     (
      some ((DV.p (PV.int IntKind.i64 (0))), σ)
     ) := (loopF_eq G hG).trans (by kernel_rfl)
theorem F15_eq (G : GuardT) (lo : Nat) (x0 : DV) (σ : Store) : F15 G lo x0 σ =
    (boxV x0).bind fun z1 =>
    (fieldAddr PP 27 (DV.ptr (List.length σ) 0) 0).bind fun x5 =>
    (load PP 25 x5 (σ ++ [Row.mix z1])).bind fun x6 =>
    (pureFn CC (DV.fn 48 []) [x6] (σ ++ [Row.mix z1])).bind fun x7 =>
    (unOp .not x7).bind fun x8 =>
    G _ x8 false ((fieldAddr PP 27 (DV.ptr (List.length σ) 0) 1).bind fun v => some (v, (σ ++ [Row.mix z1]))) (σ ++ [Row.mix z1]) fun x10 σ1 =>
    G _ x8 false ((load PP 25 x10 σ1).bind fun v => some (v, σ1)) σ1 fun x11 σ2 =>
    G _ x8 false ((pureFn CC (DV.fn 48 []) [x11] σ2).bind fun v => some (v, σ2)) σ2 fun x12 σ3 =>
    G _ x8 false ((unOp .not x12).bind fun v => some (v, σ3)) σ3 fun x13 σ4 =>
    (pickV x8 (DV.p (PV.bool true)) x13).bind fun x14 =>
    condK x14
     (
      some ((DV.p (PV.int IntKind.i64 (5))), σ4)
     )
     (
      (fieldAddr PP 27 (DV.ptr (List.length σ) 0) 0).bind fun x15 =>
      (fieldAddr PP 25 x15 0).bind fun x16 =>
      (load PP 3 x16 σ4).bind fun x17 =>
      (binOp PP .gtr 3 x17 (DV.p (PV.int IntKind.i64 (40)))).bind fun x18 =>
      G _ x18 false ((fieldAddr PP 27 (DV.ptr (List.length σ) 0) 1).bind fun v => some (v, σ4)) σ4 fun x20 σ5 =>
      G _ x18 false ((fieldAddr PP 25 x20 0).bind fun v => some (v, σ5)) σ5 fun x21 σ6 =>
      G _ x18 false ((load PP 3 x21 σ6).bind fun v => some (v, σ6)) σ6 fun x22 σ7 =>
      G _ x18 false ((binOp PP .gtr 3 x22 (DV.p (PV.int IntKind.i64 (40)))).bind fun v => some (v, σ7)) σ7 fun x23 σ8 =>
      (pickV x18 (DV.p (PV.bool true)) x23).bind fun x24 =>
      condK x24
       (
        some ((DV.p (PV.int IntKind.i64 (2))), σ8)
       )
       (
        (fieldAddr PP 27 (DV.ptr (List.length σ) 0) 2).bind fun x25 =>
        (load PP 22 x25 σ8).bind fun x26 =>
        (len PP 22 x26 σ8).bind fun x27 =>
        (fieldAddr PP 27 (DV.ptr (List.length σ) 0) 0).bind fun x28 =>
        (fieldAddr PP 25 x28 0).bind fun x29 =>
        (load PP 3 x29 σ8).bind fun x30 =>
        (binOp PP .neq 3 x27 x30).bind fun x31 =>
        G _ x31 false ((fieldAddr PP 27 (DV.ptr (List.length σ) 0) 3).bind fun v => some (v, σ8)) σ8 fun x33 σ9 =>
        G _ x31 false ((load PP 22 x33 σ9).bind fun v => some (v, σ9)) σ9 fun x34 σ10 =>
        G _ x31 false ((len PP 22 x34 σ10).bind fun v => some (v, σ10)) σ10 fun x35 σ11 =>
        G _ x31 false ((fieldAddr PP 27 (DV.ptr (List.length σ) 0) 1).bind fun v => some (v, σ11)) σ11 fun x36 σ12 =>
        G _ x31 false ((fieldAddr PP 25 x36 0).bind fun v => some (v, σ12)) σ12 fun x37 σ13 =>
        G _ x31 false ((load PP 3 x37 σ13).bind fun v => some (v, σ13)) σ13 fun x38 σ14 =>
        G _ x31 false ((binOp PP .neq 3 x35 x38).bind fun v => some (v, σ14)) σ14 fun x39 σ15 =>
        (pickV x31 (DV.p (PV.bool true)) x39).bind fun x40 =>
        condK x40
         (
          some ((DV.p (PV.int IntKind.i64 (6))), σ15)
         )
         (
          f15_L0 G lo (DV.ptr (List.length σ) 0) (DV.p (PV.int IntKind.i64 (0))) σ15
         )
       )
     ) := by kernel_rfl
theorem F15_call {lo : Nat} {x0 : DV} {σ : Store} {r : DV × Store} (h : F15 guardT lo x0 σ = some r) : CC lo 15 [x0] σ = some r :=
  callL_run Go.Proofs.Try.func15 (by decide +kernel) rfl (by decide +kernel) h
noncomputable def c22_0 : Code := bodyOf Go.Proofs.Try.f22
noncomputable def a22_0 : Ann := (pol 22).ann
noncomputable def c22_1 : Code := Code.fstC c22_0
noncomputable def a22_1 : Ann := Ann.left a22_0
noncomputable def c22_2 : Code := Code.sndC c22_0
noncomputable def a22_2 : Ann := Ann.right a22_0
noncomputable def c22_3 : Code := Code.fstC c22_2
noncomputable def a22_3 : Ann := Ann.left a22_2
noncomputable def c22_4 : Code := Code.sndC c22_2
noncomputable def a22_4 : Ann := Ann.right a22_2
noncomputable def F22 (G : GuardT) (lo : Nat) (x0 x1 x2 : DV) (σ : Store) : Option (DV × Store) :=
  codeF G PP (pol 22) CC lo c22_0 a22_0 [x0, x1, x2, ud, ud, ud, ud, ud, ud, ud, ud, ud, ud, ud, ud] σ (finR PP Go.Proofs.Try.f22.results.toList)
theorem F22_eq (G : GuardT) (lo : Nat) (x0 x1 x2 : DV) (σ : Store) : F22 G lo x0 x1 x2 σ =
    (binOp PP .geq 3 x0 x1).bind fun x9 =>
    G _ x9 true (some (x0, σ)) σ fun x11 σ1 =>
    G _ x9 true (some (x2, σ1)) σ1 fun x12 σ2 =>
    G _ x9 true ((binOp PP .leq 3 x11 x12).bind fun v => some (v, σ2)) σ2 fun x13 σ3 =>
    (pickV x9 x13 (DV.p (PV.bool false))).bind fun x14 =>
    some (x14, σ3) := by kernel_rfl
theorem F22_call {lo : Nat} {x0 x1 x2 : DV} {σ : Store} {r : DV × Store} (h : F22 guardT lo x0 x1 x2 σ = some r) : CC lo 22 [x0, x1, x2] σ = some r :=
  callL_run Go.Proofs.Try.func22 (by decide +kernel) rfl (by decide +kernel) h
noncomputable def c54_0 : Code := bodyOf Go.Proofs.Try.f54
noncomputable def a54_0 : Ann := (pol 54).ann
noncomputable def c54_1 : Code := Code.fstC c54_0
noncomputable def a54_1 : Ann := Ann.left a54_0
noncomputable def c54_2 : Code := Code.sndC c54_0
noncomputable def a54_2 : Ann := Ann.right a54_0
noncomputable def c54_3 : Code := Code.fstC c54_2
noncomputable def a54_3 : Ann := Ann.left a54_2
noncomputable def c54_25 : Code := Code.sndC c54_2
noncomputable def a54_25 : Ann := Ann.right a54_2
noncomputable def c54_4 : Code := Code.fstC c54_3
noncomputable def a54_4 : Ann := Ann.left a54_3
noncomputable def c54_5 : Code := Code.sndC c54_3
noncomputable def a54_5 : Ann := Ann.right a54_3
noncomputable def c54_6 : Code := Code.fstC c54_5
noncomputable def a54_6 : Ann := Ann.left a54_5
noncomputable def c54_7 : Code := Code.fstC c54_6
noncomputable def a54_7 : Ann := Ann.left a54_6
noncomputable def c54_8 : Code := Code.fstC c54_7
noncomputable def a54_8 : Ann := Ann.left a54_7
noncomputable def c54_9 : Code := Code.sndC c54_7
noncomputable def a54_9 : Ann := Ann.right a54_7
noncomputable def c54_10 : Code := Code.fstC c54_9
noncomputable def a54_10 : Ann := Ann.left a54_9
noncomputable def c54_13 : Code := Code.sndC c54_9
noncomputable def a54_13 : Ann := Ann.right a54_9
noncomputable def c54_11 : Code := Code.fstC c54_10
noncomputable def a54_11 : Ann := Ann.left a54_10
noncomputable def c54_12 : Code := Code.sndC c54_10
noncomputable def a54_12 : Ann := Ann.right a54_10
noncomputable def c54_14 : Code := Code.fstC c54_13
noncomputable def a54_14 : Ann := Ann.left a54_13
noncomputable def c54_24 : Code := Code.sndC c54_13
noncomputable def a54_24 : Ann := Ann.right a54_13
noncomputable def c54_15 : Code := Code.fstC c54_14
noncomputable def a54_15 : Ann := Ann.left a54_14
noncomputable def c54_16 : Code := Code.fstC c54_15
noncomputable def a54_16 : Ann := Ann.left a54_15
noncomputable def c54_17 : Code := Code.sndC c54_15
noncomputable def a54_17 : Ann := Ann.right a54_15
noncomputable def c54_18 : Code := Code.fstC c54_17
noncomputable def a54_18 : Ann := Ann.left a54_17
noncomputable def c54_19 : Code := Code.sndC c54_17
noncomputable def a54_19 : Ann := Ann.right a54_17
noncomputable def c54_20 : Code := Code.fstC c54_19
noncomputable def a54_20 : Ann := Ann.left a54_19
noncomputable def c54_23 : Code := Code.sndC c54_19
noncomputable def a54_23 : Ann := Ann.right a54_19
noncomputable def c54_21 : Code := Code.fstC c54_20
noncomputable def a54_21 : Ann := Ann.left a54_20
noncomputable def c54_22 : Code := Code.sndC c54_20
noncomputable def a54_22 : Ann := Ann.right a54_20
noncomputable def c54_26 : Code := Code.fstC c54_25
noncomputable def a54_26 : Ann := Ann.left a54_25
noncomputable def c54_27 : Code := Code.sndC c54_25
noncomputable def a54_27 : Ann := Ann.right a54_25
noncomputable def f54_L0 (G : GuardT) (lo : Nat) (x5 x6 x7 : DV) (σ : Store) : Option (DV × Store) :=
  codeF G PP (pol 54) CC lo (.loop c54_7) a54_6 [ud, ud, ud, ud, ud, x5, x6, x7, ud, ud, ud, ud, ud, ud, ud] σ
   (blockC 0 a54_5 (seqC G PP (pol 54) CC lo c54_25 a54_25 (finR PP Go.Proofs.Try.f54.results.toList)))
noncomputable def F54 (G : GuardT) (lo : Nat) (x0 : DV) (σ : Store) : Option (DV × Store) :=
  codeF G PP (pol 54) CC lo c54_0 a54_0 [x0, ud, ud, ud, ud, ud, ud, ud, ud, ud, ud, ud, ud, ud, ud] σ (finR PP Go.Proofs.Try.f54.results.toList)
theorem f54_L0_eq (G : GuardT) (hG : GuardOk G) (lo : Nat) (x5 x6 x7 : DV) (σ : Store) : f54_L0 G lo x5 x6 x7 σ =
    (binOp PP .lss 3 x7 x6).bind fun x8 =>
    condK x8
     (
      (indexAddr PP 122 x5 x7).bind fun x9 =>
      (load PP 30 x9 σ).bind fun x10 =>
      (binOp PP .neq 30 x10 (DV.p (PV.int IntKind.i64 (0)))).bind fun x12 =>
      condK x12
       (
        some (x10, σ)
       )
       (
        (binOp PP .add 3 x7 (DV.p (PV.int IntKind.i64 (1)))).bind fun x14 =>
        f54_L0 G lo x5 x6 x14 σ
       )
     )
     (
      some ((DV.p (PV.int IntKind.i64 (0))), σ)
     ) := (loopF_eq G hG).trans (by kernel_rfl)
theorem F54_eq (G : GuardT) (lo : Nat) (x0 : DV) (σ : Store) : F54 G lo x0 σ =
    (len PP 122 x0 σ).bind fun x6 =>
    f54_L0 G lo x0 x6 (DV.p (PV.int IntKind.i64 (0))) σ := by kernel_rfl
theorem F54_call {lo : Nat} {x0 : DV} {σ : Store} {r : DV × Store} (h : F54 guardT lo x0 σ = some r) : CC lo 54 [x0] σ = some r :=
  callL_run Go.Proofs.Try.func54 (by decide +kernel) rfl (by decide +kernel) h
end Go.D
end
