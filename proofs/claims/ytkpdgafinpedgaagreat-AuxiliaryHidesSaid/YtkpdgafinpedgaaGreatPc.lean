/- D without fuel: what D answers in the limit, in continuation style. -/
import Derived.Test.YtkpdgafinpedgaaGreatPb
import Derived.KernelRfl
import Derived.Test.YtkpdgafinpedgaaGreatProg
section
set_option linter.unusedVariables false
set_option linter.unusedSimpArgs false
namespace Go.D

open Classical in
noncomputable def lim {α : Type} (m : Nat → Option α) : Option α :=
  if h : ∃ r k0, ∀ k, k0 ≤ k → m k = some r then some h.choose else none

theorem lim_some {α : Type} {m : Nat → Option α} {r : α} (h : lim m = some r) : ∃ k0, ∀ k, k0 ≤ k → m k = some r := by
  unfold lim at h
  split at h
  · rename_i hx
    injection h with h; subst h
    exact hx.choose_spec
  · exact absurd h (by simp)

theorem lim_eq {α : Type} {m : Nat → Option α} {r : α} (h : ∃ k0, ∀ k, k0 ≤ k → m k = some r) : lim m = some r := by
  have hx : ∃ r k0, ∀ k, k0 ≤ k → m k = some r := ⟨r, h⟩
  unfold lim
  rw [dif_pos hx]
  obtain ⟨k0, h0⟩ := h
  obtain ⟨k1, h1⟩ := hx.choose_spec
  have e0 := h0 (max k0 k1) (Nat.le_max_left _ _)
  have e1 := h1 (max k0 k1) (Nat.le_max_right _ _)
  rw [← e0, ← e1]

theorem lim_const {α : Type} (o : Option α) : lim (fun _ => o) = o := by
  cases o with
  | some r => exact lim_eq ⟨0, fun _ _ => rfl⟩
  | none =>
    cases h : lim (fun _ : Nat => (none : Option α)) with
    | none => rfl
    | some r => obtain ⟨k0, h0⟩ := lim_some h; exact absurd (h0 k0 (Nat.le_refl _)) (by simp)

theorem lim_succ {α : Type} (m : Nat → Option α) : lim (fun k => m (k + 1)) = lim m := by
  cases h : lim m with
  | some r =>
    obtain ⟨k0, h0⟩ := lim_some h
    exact lim_eq ⟨k0, fun k hk => h0 _ (by omega)⟩
  | none =>
    cases h1 : lim (fun k => m (k + 1)) with
    | none => rfl
    | some r =>
      obtain ⟨k0, h0⟩ := lim_some h1
      have : lim m = some r := lim_eq ⟨k0 + 1, fun k hk => by have := h0 (k - 1) (by omega); rwa [Nat.sub_add_cancel (by omega)] at this⟩
      rw [h] at this
      exact this.symm

noncomputable def callL (P : Program) (pol : FuncId → FPol) : CallF := fun lo f args σ => lim fun k => callK P pol k lo f args σ

noncomputable def iterL (body : Frame → Store → Option St) (a : Frame) (σ : Store) : Option St := lim fun k => iter body k a σ

theorem iterL_eq (body : Frame → Store → Option St) (a : Frame) (σ : Store) : iterL body a σ = match body a σ with
    | some (.normal, a', σ') => iterL body a' σ'
    | r => r := by
  unfold iterL
  rw [← lim_succ]
  simp only [iter]
  cases body a σ with
  | none => exact lim_const none
  | some r =>
    obtain ⟨ex, a', σ'⟩ := r
    cases ex with
    | normal => rfl
    | exit i => exact lim_const _
    | ret => exact lim_const _

/-! ### Continuation style -/
def pickV (c x y : DV) : Option DV := match c with
  | .p (.bool b) => some (if b then x else y)
  | _ => none
def boxV (v : DV) : Option (List DV) := if v.cells.all DV.one then some v.cells else none
def nilCheckV : DV → Option DV
  | .ptr r off => some (.ptr r off)
  | .pptr cs off => some (.pptr cs off)
  | _ => none
def extractV (x : DV) (i : Nat) : Option DV := match x with
  | .tuple vs => vs[i]?
  | _ => none
def pureV (call : CallF) (f : FuncId) (args : List DV) (σ : Store) : Option DV :=
  if (args.map view).all rowFree then
    match call 0 f (args.map view) [] with
    | some (v, σ') => thawAll 0 σ' v
    | none => none
  else
    match call σ.length f (args.map view) σ with
    | some (v, σ') => thawAll σ.length σ' v
    | none => none
def pureFn (call : CallF) (g : DV) (args : List DV) (σ : Store) : Option DV := match g with
  | .fn f caps => pureV call f (args ++ caps) σ
  | _ => none
def plainFn (call : CallF) (lo : Nat) (g : DV) (args : List DV) (σ : Store) : Option (DV × Store) := match g with
  | .fn f caps => call lo f (args ++ caps) σ
  | _ => none

theorem pureCall_eq (call : CallF) (f : FuncId) (args : List DV) (σ : Store) : pureCall call f args σ = (pureV call f args σ).map (·, σ) := by
  unfold pureCall pureV
  split
  · cases call 0 f (args.map view) [] <;> rfl
  · cases call σ.length f (args.map view) σ <;> rfl

section
variable {β : Type}

def opK (P : Program) (pl : FPol) (call : CallF) (lo : Nat) (a : Frame) (o : Oper) (σ : Store) (K : DV → Store → Option β) : Option β :=
  match o.op with
  | .move x | .assign x => K (ev a x) σ
  | .pick c x y => (pickV (ev a c) (ev a x) (ev a y)).bind fun v => K v σ
  | .alloc t => (zeroOf P t).bind fun z => K (.ptr σ.length 0) (σ ++ [.mix z])
  | .box _ x => (boxV (ev a x)).bind fun cs => K (.ptr σ.length 0) (σ ++ [.mix cs])
  | .build t ps => (build P t (ps.toList.map fun q => (q.1, ev a q.2))).bind fun v => K v σ
  | .buildSlice t n ps => (buildSlice P (pl.asRow o.dst) t n (ps.toList.map fun q => (q.1, ev a q.2)) σ).bind fun r => K r.1 r.2
  | .load t x => (loadP P pl o.dst t (ev a x) σ).bind fun v => K v σ
  | .store t x y => (store P lo t (ev a x) (ev a y) σ).bind fun σ' => K .undef σ'
  | .nilCheck x => (nilCheckV (ev a x)).bind fun v => K v σ
  | .binOp op t x y _ => (binOp P op t (ev a x) (ev a y)).bind fun v => K v σ
  | .unOp op _ x => (unOp op (ev a x)).bind fun v => K v σ
  | .convert s d x => (convert P s d (ev a x)).bind fun v => K v σ
  | .makeFunc (.func f) first caps => if first.size = 0 then K (.fn f (caps.toList.map (ev a))) σ else none
  | .makeMap _ none => K (.map σ.length) (σ ++ [.map []])
  | .makeSlice t l c => (makeSlice P (pl.isMixed o.dst) t (ev a l) (ev a c) σ).bind fun r => K r.1 r.2
  | .slice t x l h m => (sliceOp P t (ev a x) (l.map (ev a)) (h.map (ev a)) (m.map (ev a))).bind fun v => K v σ
  | .fieldAddr t x i => (fieldAddr P t (ev a x) i).bind fun v => K v σ
  | .field t x i => (field P t (ev a x) i).bind fun v => K v σ
  | .indexAddr t x i => (indexAddr P t (ev a x) (ev a i)).bind fun v => K v σ
  | .index t x i => (index P t (ev a x) (ev a i)).bind fun v => K v σ
  | .lookup t x i ok => (lookup P t (ev a x) (ev a i) ok σ).bind fun v => K v σ
  | .mapUpdate t m k v => (mapUpdate P lo t (ev a m) (ev a k) (ev a v) σ).bind fun σ' => K .undef σ'
  | .extract x i => (extractV (ev a x) i).bind fun v => K v σ
  | .call c =>
    match c.callee with
    | .builtin .len => if c.args.size = 1 ∧ c.argTypes.size = 1 then (len P (c.argTypes.getD 0 0) (ev a (c.args.getD 0 (.const undef))) σ).bind fun v => K v σ else none
    | .builtin .append => if c.args.size = 2 ∧ c.argTypes.size = 2 then (append P lo (pl.isMixed o.dst) (c.argTypes.getD 0 0) (c.argTypes.getD 1 0) (ev a (c.args.getD 0 (.const undef))) (ev a (c.args.getD 1 (.const undef))) σ).bind fun r => K r.1 r.2 else none
    | .builtin .max => (maxMin true (c.args.toList.map (ev a))).bind fun v => K v σ
    | .builtin .min => (maxMin false (c.args.toList.map (ev a))).bind fun v => K v σ
    | .builtin _ => none
    | .value g => if pl.isPlain o.dst then (plainFn call lo (ev a g) (c.args.toList.map (ev a)) σ).bind fun r => K r.1 r.2
      else (pureFn call (ev a g) (c.args.toList.map (ev a)) σ).bind fun v => K v σ
    | .invoke _ _ => none
  | _ => none

theorem bind_map' {α γ : Type} (m : Option α) (f : α → γ) (K : γ → Option β) : (m.map f).bind K = m.bind fun v => K (f v) := by cases m <;> rfl

theorem opK_eq (P : Program) (pl : FPol) (call : CallF) (lo : Nat) (a : Frame) (o : Oper) (σ : Store) (K : DV → Store → Option β) : opK P pl call lo a o σ K = (op P pl call lo a o σ).bind fun r => K r.1 r.2 := by
  cases ho : o.op <;> simp only [opK, op, ho, bind_map', Option.bind_some, Option.bind_none]
  case pick c x y =>
    unfold pickV
    generalize ev a c = g
    cases g with
    | p v => cases v <;> rfl
    | _ => rfl
  case box => unfold boxV; split <;> rfl
  case nilCheck x =>
    unfold nilCheckV
    generalize ev a x = g
    cases g <;> rfl
  case extract x i =>
    unfold extractV
    generalize ev a x = g
    cases g <;> simp only [bind_map', Option.bind_none]
  case makeFunc f first caps => cases f <;> first | rfl | (simp only []; split <;> rfl)
  case makeMap t n => cases n <;> rfl
  case call c =>
    cases hc : c.callee <;> try rfl
    case builtin b =>
      cases b <;> try rfl
      all_goals first | exact bind_map' _ _ _ | (by_cases h : c.args.size = 1 ∧ c.argTypes.size = 1 <;> simp only [h, and_self, if_true, if_false, bind_map', Option.bind_none]; done) | (by_cases h : c.args.size = 2 ∧ c.argTypes.size = 2 <;> simp only [h, and_self, if_true, if_false, bind_map', Option.bind_none]; done)
    case value g =>
      show (if pl.isPlain o.dst then _ else _) = Option.bind (match ev a g with
        | DV.fn f caps => if pl.isPlain o.dst = true then call lo f (List.map (ev a) c.args.toList ++ caps) σ else pureCall call f (List.map (ev a) c.args.toList ++ caps) σ
        | _ => none) _
      unfold plainFn pureFn
      cases pl.isPlain o.dst <;> cases ev a g <;> first | rfl | (simp only [pureCall_eq, bind_map', Bool.false_eq_true, if_false, if_true]; done) | (simp only [pureCall_eq, bind_map', Bool.false_eq_true, if_false, if_true]; rfl)

def guardVal (all : Array Oper) (a : Frame) (j : Nat) : DV := match (all[j]?).bind (·.dst) with
  | some t => a.getD t .undef
  | none => .undef
def guardK (g : DV) (want : Bool) (m : Option (DV × Store)) (σ : Store) (K : DV → Store → Option β) : Option β := match g with
  | .p (.bool b) => if (b == want) = true then m.bind (fun r => K r.1 r.2) else K .skip σ
  | .tuple [] => K .skip σ
  | _ => none

def opsK (P : Program) (pl : FPol) (call : CallF) (all : Array Oper) (lows : Bool → Store → Nat) : List Oper → List Bool → Frame → Store → (Frame → Store → Option β) → Option β
  | [], _, a, σ, K => K a σ
  | o :: os, cs, a, σ, K => match o.guard with
    | none => opK P pl call (lows (cs.headD true) σ) a o σ fun v σ' => opsK P pl call all lows os cs.tail (put a o.dst v) σ' K
    | some (j, want) => guardK (guardVal all a j) want (opK P pl call (lows (cs.headD true) σ) a o σ fun v σ' => some (v, σ')) σ fun v σ' => opsK P pl call all lows os cs.tail (put a o.dst v) σ' K

theorem wantedD_guard {all : Array Oper} {a : Frame} {o : Oper} {j : Nat} {want : Bool} (h : o.guard = some (j, want)) :
    wantedD all a o = match guardVal all a j with | .p (.bool b) => some (b == want) | .tuple [] => some false | _ => none := by
  unfold wantedD guardVal
  rw [h]
  simp only []
  cases (all[j]?).bind (·.dst) <;> rfl

theorem opsK_eq (P : Program) (pl : FPol) (call : CallF) (all : Array Oper) (lows : Bool → Store → Nat) : ∀ (os : List Oper) (cs : List Bool) (a : Frame) (σ : Store) (K : Frame → Store → Option β),
    opsK P pl call all lows os cs a σ K = (opsD P pl call all lows os cs a σ).bind fun r => K r.1 r.2
  | [], cs, a, σ, K => rfl
  | o :: os, cs, a, σ, K => by
    simp only [opsK, opsD]
    cases hg : o.guard with
    | none =>
      have hw : wantedD all a o = some true := by unfold wantedD; rw [hg]
      rw [hw]
      simp only [opK_eq]
      cases op P pl call (lows (cs.headD true) σ) a o σ with
      | none => rfl
      | some r => exact opsK_eq P pl call all lows os cs.tail _ _ K
    | some g =>
      obtain ⟨j, want⟩ := g
      rw [wantedD_guard hg]
      simp only [opK_eq]
      generalize guardVal all a j = g
      cases g with
      | p v =>
        cases v with
        | bool b =>
          simp only [guardK]
          by_cases hb : (b == want) = true
          · rw [if_pos hb, hb]
            cases op P pl call (lows (cs.headD true) σ) a o σ with
            | none => rfl
            | some r => exact opsK_eq P pl call all lows os cs.tail _ _ K
          · rw [if_neg hb]
            have hb : (b == want) = false := by simpa using hb
            rw [hb]
            exact opsK_eq P pl call all lows os cs.tail _ _ K
        | _ => rfl
      | tuple vs =>
        cases vs with
        | nil => exact opsK_eq P pl call all lows os cs.tail _ _ K
        | cons v vs => rfl
      | _ => rfl

/-- The same with the frames and stores it went through. -/
def opsKT (P : Program) (pl : FPol) (call : CallF) (all : Array Oper) (lows : Bool → Store → Nat) : List Oper → List Bool → Frame → Store → List (Frame × Store) → (Frame → Store → List (Frame × Store) → Option β) → Option β
  | [], _, a, σ, tr, K => K a σ (tr ++ [(a, σ)])
  | o :: os, cs, a, σ, tr, K => match o.guard with
    | none => opK P pl call (lows (cs.headD true) σ) a o σ fun v σ' => opsKT P pl call all lows os cs.tail (put a o.dst v) σ' (tr ++ [(a, σ)]) K
    | some (j, want) => guardK (guardVal all a j) want (opK P pl call (lows (cs.headD true) σ) a o σ fun v σ' => some (v, σ')) σ fun v σ' => opsKT P pl call all lows os cs.tail (put a o.dst v) σ' (tr ++ [(a, σ)]) K

theorem opsKT_eq (P : Program) (pl : FPol) (call : CallF) (all : Array Oper) (lows : Bool → Store → Nat) : ∀ (os : List Oper) (cs : List Bool) (a : Frame) (σ : Store) (tr : List (Frame × Store)) (K : Frame → Store → List (Frame × Store) → Option β),
    opsKT P pl call all lows os cs a σ tr K = (opsD P pl call all lows os cs a σ).bind fun r => K r.1 r.2 (tr ++ traceD P pl call all lows os cs a σ)
  | [], cs, a, σ, tr, K => rfl
  | o :: os, cs, a, σ, tr, K => by
    simp only [opsKT, opsD, traceD]
    cases hg : o.guard with
    | none =>
      have hw : wantedD all a o = some true := by unfold wantedD; rw [hg]
      rw [hw]
      simp only [opK_eq]
      cases op P pl call (lows (cs.headD true) σ) a o σ with
      | none => rfl
      | some r =>
        refine (opsKT_eq P pl call all lows os cs.tail _ _ (tr ++ [(a, σ)]) K).trans ?_
        simp only [List.append_assoc, List.singleton_append]
    | some g =>
      obtain ⟨j, want⟩ := g
      rw [wantedD_guard hg]
      simp only [opK_eq]
      generalize guardVal all a j = g
      cases g with
      | p v =>
        cases v with
        | bool b =>
          simp only [guardK]
          by_cases hb : (b == want) = true
          · rw [if_pos hb, hb]
            cases op P pl call (lows (cs.headD true) σ) a o σ with
            | none => rfl
            | some r =>
              refine (opsKT_eq P pl call all lows os cs.tail _ _ (tr ++ [(a, σ)]) K).trans ?_
              simp only [List.append_assoc, List.singleton_append]
          · rw [if_neg hb]
            have hb : (b == want) = false := by simpa using hb
            rw [hb]
            refine (opsKT_eq P pl call all lows os cs.tail _ _ (tr ++ [(a, σ)]) K).trans ?_
            simp only [List.append_assoc, List.singleton_append]
        | _ => rfl
      | tuple vs =>
        cases vs with
        | nil =>
          refine (opsKT_eq P pl call all lows os cs.tail _ _ (tr ++ [(a, σ)]) K).trans ?_
          simp only [List.append_assoc, List.singleton_append]
        | cons v vs => rfl
      | _ => rfl

def condK (c : DV) (x y : Option β) : Option β := match c with
  | .p (.bool true) => x
  | .p (.bool false) => y
  | _ => none

def roundsK (run : List DV → Store → (Ex → Store → Option β) → Option β) : List (List DV) → Store → (Ex → Store → Option β) → Option β
  | [], σ, K => K .normal σ
  | xs :: rest, σ, K => run xs σ fun ex σ' => match ex with
    | .normal => roundsK run rest σ' K
    | ex => K ex σ'
end

noncomputable def loopWith {β : Type} (body : Frame → Store → Option St) (a : Frame) (σ : Store) (K : Ex → Frame → Store → Option β) : Option β :=
  (iterL body a σ).bind fun r => K r.1 r.2.1 r.2.2

noncomputable def codeK (P : Program) (pl : FPol) (call : CallF) (lo : Nat) : Code → {β : Type} → Ann → Frame → Store → (Ex → Frame → Store → Option β) → Option β
  | .skip, _, _, a, σ, K => K .normal a σ
  | .region _ ops draw, _, _, a, σ, K => if draw then (if pl.rload.isEmpty then opsK P pl call ops (lowOf lo) ops.toList (flags pl ops) a σ (K .normal) else opsKT P pl call ops (lowOf lo) ops.toList (flags pl ops) a σ [] fun a' σ' tr => bif stableB P pl ops.toList tr then K .normal a' σ' else none) else opsK P pl call ops (fun _ _ => lo) ops.toList [] a σ (K .normal)
  | .seq x y, _, an, a, σ, K => codeK P pl call lo x an.left a σ fun ex a' σ' => match ex with
    | .normal => codeK P pl call lo y an.right a' σ' K
    | ex => K ex a' σ'
  | .cond c x y, _, an, a, σ, K => condK (ev a c) (codeK P pl call lo x an.left a σ K) (codeK P pl call lo y an.right a σ K)
  | .block id x, _, an, a, σ, K => codeK P pl call lo x an.left a σ fun ex a' σ' => match ex with
    | .normal => K .normal (an.cut a') σ'
    | .exit i => if i = id then K .normal (an.cut a') σ' else K (.exit i) a' σ'
    | .ret => K .ret a' σ'
  | .loop x, _, an, a, σ, K => loopWith (fun a σ => codeK P pl call lo x an.left (an.cut a) σ fun ex a σ => some (ex, a, σ)) (an.cut a) σ K
  | .exit id, _, _, a, σ, K => K (.exit id) a σ
  | .ret, _, _, a, σ, K => K .ret a σ
  | .rangeFunc g ps x y, _, an, a, σ, K => match ev a g with
    | .fn f caps => match (pl.seq f).bind fun kind => seqList kind caps with
      | some xss =>
        if xss.all (·.length == ps.size) && !hasRange x && !hasRange y then
          roundsK (fun xs σ K' => codeK P pl call lo x .nil (putAll ps.toList xs a) σ fun ex a1 σ1 => match ex with
            | .normal => codeK P pl call lo y an.left a1 σ1 fun ex _ σ2 => K' ex σ2
            | _ => none) xss σ fun ex σ' => K ex a σ'
        else none
      | none => none
    | _ => none
  | _, _, _, _, _, _ => none

end Go.D
end
/- D without fuel is sound: what the continuation style answers, the evaluator answers with enough fuel. -/
section
set_option linter.unusedVariables false
set_option linter.unusedSimpArgs false
namespace Go.D

variable {P : Program} {pol : FuncId → FPol}

/-- From some fuel on. -/
def Evt {α : Type} (m : Nat → Option α) (r : α) : Prop := ∃ k0, ∀ k, k0 ≤ k → m k = some r

theorem pureV_evt {f : FuncId} {args : List DV} {σ : Store} {v : DV} (h : pureV (callL P pol) f args σ = some v) : Evt (fun k => pureV (callK P pol k) f args σ) v := by
  unfold pureV at h
  split at h
  · rename_i hc
    split at h
    · rename_i v1 σ1 h1
      obtain ⟨k0, h0⟩ := lim_some h1
      refine ⟨k0, fun k hk => ?_⟩
      show pureV _ _ _ _ = _
      unfold pureV
      rw [if_pos hc, h0 k hk]
      exact h
    · exact absurd h (by simp)
  · rename_i hc
    split at h
    · rename_i v1 σ1 h1
      obtain ⟨k0, h0⟩ := lim_some h1
      refine ⟨k0, fun k hk => ?_⟩
      show pureV _ _ _ _ = _
      unfold pureV
      rw [if_neg hc, h0 k hk]
      exact h
    · exact absurd h (by simp)

theorem op_evt {pl : FPol} {lo : Nat} {a : Frame} {o : Oper} {σ : Store} {r : DV × Store} (h : op P pl (callL P pol) lo a o σ = some r) : Evt (fun k => op P pl (callK P pol k) lo a o σ) r := by
  unfold op at h
  cases ho : o.op with
  | call c =>
    simp only [ho] at h
    cases hc : c.callee with
    | value g =>
      simp only [hc] at h
      cases hg : ev a g with
      | fn f caps =>
        simp only [hg] at h
        by_cases hp : pl.isPlain o.dst = true
        · rw [if_pos hp] at h
          obtain ⟨k0, h0⟩ := lim_some h
          refine ⟨k0, fun k hk => ?_⟩
          simp only [op, ho, hc, hg, if_pos hp]
          exact h0 k hk
        · rw [if_neg hp, pureCall_eq] at h
          obtain ⟨v, hv, rfl⟩ := Option.map_eq_some_iff.1 h
          obtain ⟨k0, h0⟩ := pureV_evt hv
          refine ⟨k0, fun k hk => ?_⟩
          simp only [op, ho, hc, hg, if_neg hp, pureCall_eq]
          have := h0 k hk
          simp only [this, Option.map_some]
      | _ => simp [hg] at h
    | builtin b => cases b <;> exact ⟨0, fun k _ => by unfold op; simp only [ho, hc]; simpa only [hc] using h⟩
    | invoke r m => exact ⟨0, fun k _ => by unfold op; simp only [ho, hc]; simpa only [hc] using h⟩
  | makeFunc f first caps => cases f <;> exact ⟨0, fun k _ => by unfold op; simpa only [ho] using h⟩
  | makeMap t n => cases n <;> exact ⟨0, fun k _ => by unfold op; simpa only [ho] using h⟩
  | _ => exact ⟨0, fun k _ => by unfold op; simpa only [ho] using h⟩

theorem opsD_evt {pl : FPol} {all : Array Oper} {lows : Bool → Store → Nat} : ∀ {os : List Oper} {cs : List Bool} {a : Frame} {σ : Store} {r : Frame × Store}, opsD P pl (callL P pol) all lows os cs a σ = some r → Evt (fun k => opsD P pl (callK P pol k) all lows os cs a σ) r
  | [], cs, a, σ, r, h => ⟨0, fun _ _ => h⟩
  | o :: os, cs, a, σ, r, h => by
    simp only [opsD] at h
    split at h
    · rename_i hw
      split at h
      · rename_i v σ1 h1
        obtain ⟨k0, h0⟩ := op_evt h1
        obtain ⟨k1, h2⟩ := opsD_evt h
        refine ⟨max k0 k1, fun k hk => ?_⟩
        simp only [opsD, hw, h0 k (by omega), h2 k (by omega)]
      · exact absurd h (by simp)
    · rename_i hw
      obtain ⟨k1, h2⟩ := opsD_evt h
      exact ⟨k1, fun k hk => by simp only [opsD, hw, h2 k hk]⟩
    · exact absurd h (by simp)

theorem traceD_evt {pl : FPol} {all : Array Oper} {lows : Bool → Store → Nat} : ∀ {os : List Oper} {cs : List Bool} {a : Frame} {σ : Store} {r : Frame × Store}, opsD P pl (callL P pol) all lows os cs a σ = some r → ∃ k0, ∀ k, k0 ≤ k → traceD P pl (callK P pol k) all lows os cs a σ = traceD P pl (callL P pol) all lows os cs a σ
  | [], cs, a, σ, r, h => ⟨0, fun _ _ => rfl⟩
  | o :: os, cs, a, σ, r, h => by
    simp only [opsD] at h
    split at h
    · rename_i hw
      split at h
      · rename_i v σ1 h1
        obtain ⟨k0, h0⟩ := op_evt h1
        obtain ⟨k1, h2⟩ := traceD_evt h
        refine ⟨max k0 k1, fun k hk => ?_⟩
        simp only [traceD, hw, h0 k (by omega), h1, h2 k (by omega)]
      · exact absurd h (by simp)
    · rename_i hw
      obtain ⟨k1, h2⟩ := traceD_evt h
      exact ⟨k1, fun k hk => by simp only [traceD, hw, h2 k hk]⟩
    · exact absurd h (by simp)

theorem bind_some' {α γ : Type} {m : Option α} {K : α → Option γ} {r : γ} (h : m.bind K = some r) : ∃ x, m = some x ∧ K x = some r := Option.bind_eq_some_iff.1 h

theorem region_evt {β : Type} {pl : FPol} {lo id : Nat} {ops : Array Oper} {draw : Bool} {an : Ann} {a : Frame} {σ : Store} {K : Ex → Frame → Store → Option β} {r : β} (h : codeK P pl (callL P pol) lo (.region id ops draw) an a σ K = some r) :
    ∃ a' σ', K .normal a' σ' = some r ∧ Evt (fun k => region P pl (callK P pol k) lo ops draw a σ) (a', σ') := by
  unfold codeK at h
  cases draw with
  | true =>
    simp only [if_true, opsK_eq] at h
    split at h
    · rename_i he
      obtain ⟨⟨a', σ'⟩, h1, h2⟩ := bind_some' h
      obtain ⟨k0, h0⟩ := opsD_evt h1
      exact ⟨a', σ', h2, k0, fun k hk => by simp only [region, if_true, he, Bool.true_or]; exact h0 k hk⟩
    · rw [opsKT_eq] at h
      obtain ⟨⟨a', σ'⟩, h1, h2⟩ := bind_some' h
      simp only [List.nil_append] at h2
      obtain ⟨k0, h0⟩ := opsD_evt h1
      obtain ⟨k1, h3⟩ := traceD_evt h1
      cases hs : stableB P pl ops.toList (traceD P pl (callL P pol) ops (lowOf lo) ops.toList (flags pl ops) a σ) with
      | false => rw [hs] at h2; exact absurd h2 (by simp)
      | true =>
        rw [hs] at h2
        refine ⟨a', σ', h2, max k0 k1, fun k hk => ?_⟩
        simp only [region, if_true, h3 k (by omega), hs, Bool.or_true]
        exact h0 k (by omega)
  | false =>
    simp only [Bool.false_eq_true, if_false, opsK_eq] at h
    obtain ⟨⟨a', σ'⟩, h1, h2⟩ := bind_some' h
    obtain ⟨k0, h0⟩ := opsD_evt h1
    exact ⟨a', σ', h2, k0, fun k hk => by simp only [region, Bool.false_eq_true, if_false]; exact h0 k hk⟩

theorem mask_mask : ∀ (m : List Bool) (a : Frame), mask m (mask m a) = mask m a
  | _, [] => by simp [mask]
  | [], v :: a => by simp [mask, mask_mask [] a]
  | b :: m, v :: a => by cases b <;> simp [mask, mask_mask m a]

theorem cut_cut (an : Ann) (a : Frame) : an.cut (an.cut a) = an.cut a := by
  cases an with
  | keep m an => exact mask_mask m a
  | _ => rfl

theorem codeK_evt {pl : FPol} {lo : Nat} : ∀ (c : Code) {β : Type} {an : Ann} {a : Frame} {σ : Store} {K : Ex → Frame → Store → Option β} {r : β}, codeK P pl (callL P pol) lo c an a σ K = some r →
    ∃ ex a' σ', K ex a' σ' = some r ∧ Evt (fun k => code P pl (callK P pol k) k lo c an a σ) (ex, a', σ') := by
  intro c
  induction c with
  | skip =>
    intro β an a σ K r h
    exact ⟨_, a, σ, h, 0, fun _ _ => rfl⟩
  | region id ops draw =>
    intro β an a σ K r h
    obtain ⟨a', σ', h1, k0, h2⟩ := region_evt h
    exact ⟨.normal, a', σ', h1, k0, fun k hk => by simp only [code, h2 k hk, Option.map_some]⟩
  | seq x y ihx ihy =>
    intro β an a σ K r h
    unfold codeK at h
    obtain ⟨ex, a1, σ1, h1, k0, h0⟩ := ihx h
    cases ex with
    | normal =>
      obtain ⟨ex2, a2, σ2, h2, k1, h3⟩ := ihy h1
      exact ⟨ex2, a2, σ2, h2, max k0 k1, fun k hk => by simp only [code, h0 k (by omega), h3 k (by omega)]⟩
    | exit i => exact ⟨_, a1, σ1, h1, k0, fun k hk => by simp only [code, h0 k hk]⟩
    | ret => exact ⟨_, a1, σ1, h1, k0, fun k hk => by simp only [code, h0 k hk]⟩
  | cond c x y ihx ihy =>
    intro β an a σ K r h
    unfold codeK condK at h
    split at h
    · rename_i hc
      obtain ⟨ex, a1, σ1, h1, k0, h0⟩ := ihx h
      exact ⟨ex, a1, σ1, h1, k0, fun k hk => by simp only [code, hc]; exact h0 k hk⟩
    · rename_i hc
      obtain ⟨ex, a1, σ1, h1, k0, h0⟩ := ihy h
      exact ⟨ex, a1, σ1, h1, k0, fun k hk => by simp only [code, hc]; exact h0 k hk⟩
    · exact absurd h (by simp)
  | block id x ih =>
    intro β an a σ K r h
    unfold codeK at h
    obtain ⟨ex, a1, σ1, h1, k0, h0⟩ := ih h
    cases ex with
    | normal => exact ⟨_, _, σ1, h1, k0, fun k hk => by simp only [code, h0 k hk]⟩
    | exit i =>
      simp only [] at h1
      by_cases hi : i = id
      · rw [if_pos hi] at h1
        exact ⟨_, _, σ1, h1, k0, fun k hk => by simp only [code, h0 k hk, if_pos hi]⟩
      · rw [if_neg hi] at h1
        exact ⟨_, _, σ1, h1, k0, fun k hk => by simp only [code, h0 k hk, if_neg hi]⟩
    | ret => exact ⟨_, a1, σ1, h1, k0, fun k hk => by simp only [code, h0 k hk]⟩
  | loop x ih =>
    intro β an a σ K r h
    unfold codeK loopWith at h
    obtain ⟨⟨ex, a', σ'⟩, h1, h2⟩ := bind_some' h
    obtain ⟨j, hj⟩ := lim_some h1
    have hj := hj j (Nat.le_refl _)
    have key : ∀ (j : Nat) (a : Frame) (σ : Store), iter (fun a σ => codeK P pl (callL P pol) lo x an.left (an.cut a) σ fun ex a σ => some (ex, a, σ)) j a σ = some (ex, a', σ') →
        ∃ k0, ∀ k n, k0 ≤ k → k0 ≤ n → iter (fun a σ => code P pl (callK P pol k) k lo x an.left (an.cut a) σ) n a σ = some (ex, a', σ') := by
      intro j
      induction j with
      | zero => intro a σ h; exact absurd h (by simp [iter])
      | succ j ihj =>
        intro a σ h
        simp only [iter] at h
        split at h
        · rename_i a1 σ1 hb
          obtain ⟨ex2, a2, σ2, e, k0, h0⟩ := ih hb
          injection e with e; injection e with e1 e2; injection e2 with e2 e3; subst e1; subst e2; subst e3
          obtain ⟨k1, h3⟩ := ihj a2 σ2 h
          refine ⟨max k0 k1 + 1, fun k n hk hn => ?_⟩
          match n, hn with
          | n + 1, hn => simp only [iter, h0 k (by omega), h3 k n (by omega) (by omega)]
        · rename_i hne
          obtain ⟨ex2, a2, σ2, e, k0, h0⟩ := ih h
          injection e with e; injection e with e1 e2; injection e2 with e2 e3; subst e1; subst e2; subst e3
          refine ⟨k0 + 1, fun k n hk hn => ?_⟩
          match n, hn with
          | n + 1, hn =>
            simp only [iter, h0 k (by omega)]
            cases ex2 with
            | normal => exact absurd h (hne a2 σ2)
            | exit i => rfl
            | ret => rfl
    obtain ⟨k0, h0⟩ := key j _ σ hj
    refine ⟨ex, a', σ', h2, k0 + 1, fun k hk => ?_⟩
    simp only [code]
    have := h0 k k (by omega) (by omega)
    match k, hk with
    | k + 1, hk =>
      simp only [iter, cut_cut] at this ⊢
      exact this
  | exit id =>
    intro β an a σ K r h
    exact ⟨_, a, σ, h, 0, fun _ _ => rfl⟩
  | ret =>
    intro β an a σ K r h
    exact ⟨_, a, σ, h, 0, fun _ _ => rfl⟩
  | rangeFunc g ps x y ihx ihy =>
    intro β an a σ K r h
    unfold codeK at h
    split at h
    · rename_i f caps hg
      split at h
      · rename_i xss hx
        split at h
        · rename_i hc
          have key : ∀ (xss : List (List DV)) (σ : Store), roundsK (fun xs σ K' => codeK P pl (callL P pol) lo x .nil (putAll ps.toList xs a) σ fun ex a1 σ1 => match ex with
              | .normal => codeK P pl (callL P pol) lo y an.left a1 σ1 fun ex _ σ2 => K' ex σ2
              | _ => none) xss σ (fun ex σ' => K ex a σ') = some r →
              ∃ ex σ', K ex a σ' = some r ∧ Evt (fun k => roundsD (roundWith (fun a σ => code P pl (callK P pol k) k lo x .nil a σ) (fun a σ => code P pl (callK P pol k) k lo y an.left a σ) ps.toList a) xss σ) (ex, σ') := by
            intro xss
            induction xss with
            | nil => intro σ h; exact ⟨.normal, σ, h, 0, fun _ _ => rfl⟩
            | cons xs xss ihr =>
              intro σ h
              simp only [roundsK] at h
              obtain ⟨ex1, a1, σ1, h1, k0, h0⟩ := ihx h
              cases ex1 with
              | normal =>
                obtain ⟨ex2, a2, σ2, h2, k1, h3⟩ := ihy h1
                have hrw : ∀ k, max k0 k1 ≤ k → roundWith (fun a σ => code P pl (callK P pol k) k lo x .nil a σ) (fun a σ => code P pl (callK P pol k) k lo y an.left a σ) ps.toList a xs σ = some (ex2, σ2) := fun k hk => by
                  simp only [roundWith, h0 k (by omega), h3 k (by omega)]
                cases ex2 with
                | normal =>
                  obtain ⟨ex3, σ3, h4, k2, h5⟩ := ihr σ2 h2
                  refine ⟨ex3, σ3, h4, max (max k0 k1) k2, fun k hk => ?_⟩
                  simp only [roundsD, hrw k (by omega), h5 k (by omega)]
                | exit i => exact ⟨_, σ2, h2, max k0 k1, fun k hk => by simp only [roundsD, hrw k (by omega)]⟩
                | ret => exact ⟨_, σ2, h2, max k0 k1, fun k hk => by simp only [roundsD, hrw k (by omega)]⟩
              | exit i => exact absurd h1 (by simp)
              | ret => exact absurd h1 (by simp)
          obtain ⟨ex, σ', h1, k0, h0⟩ := key xss σ h
          refine ⟨ex, a, σ', h1, k0, fun k hk => ?_⟩
          simp only [code, hg, hx, if_pos hc]
          have := h0 k hk
          simp only at this
          rw [this]
          rfl
        · exact absurd h (by simp)
      · exact absurd h (by simp)
    · exact absurd h (by simp)
  | _ =>
    intro β an a σ K r h
    unfold codeK at h
    exact absurd h (by simp)

/-- What stands behind a function's code. -/
def finK (P : Program) (rs : List ResultVar) : Ex → Frame → Store → Option (DV × Store)
  | .normal, a, σ | .ret, a, σ => (resultsOf P a σ rs).bind fun vs => some (wrap vs, σ)
  | _, _, _ => none

theorem callL_of {f lo : Nat} {fn : Func} {c : Code} {args : List DV} {σ : Store} {r : DV × Store} (hf : P.funcs[f]? = some fn) (hname : (fn.name == "runtime.NumGoroutine") = false) (hb : fn.body = some c) (hd : drawsOk c = true)
    (h : codeK P (pol f) (callL P pol) lo c (pol f).ann (args ++ List.replicate (fn.ntmps - args.length) .undef) σ (finK P fn.results.toList) = some r) : callL P pol lo f args σ = some r := by
  obtain ⟨ex, a', σ', h1, k0, h0⟩ := codeK_evt c h
  refine lim_eq ⟨k0 + 1, fun k hk => ?_⟩
  match k, hk with
  | k + 1, hk =>
    have h0 := h0 k (by omega)
    simp only at h0
    simp only [callK, hf, hname, hb, hd, Bool.true_eq_false, if_false, h0]
    cases ex with
    | normal => obtain ⟨vs, hv, he⟩ := bind_some' h1; simp only [hv, Option.map_some]; exact he
    | ret => obtain ⟨vs, hv, he⟩ := bind_some' h1; simp only [hv, Option.map_some]; exact he
    | exit i => exact absurd h1 (by simp [finK])

/-! ### Loops, round by round -/
theorem codeK_bind {pl : FPol} {call : CallF} {lo : Nat} : ∀ (c : Code) {β γ : Type} {an : Ann} {a : Frame} {σ : Store} {K : Ex → Frame → Store → Option β} {J : β → Option γ},
    (codeK P pl call lo c an a σ K).bind J = codeK P pl call lo c an a σ fun ex a σ => (K ex a σ).bind J := by
  have hroundsK : ∀ {β γ : Type} {run : {β : Type} → List DV → Store → (Ex → Store → Option β) → Option β} (hr : ∀ {β γ : Type} xs σ (K : Ex → Store → Option β) (J : β → Option γ), (run xs σ K).bind J = run xs σ fun ex σ => (K ex σ).bind J) (J : β → Option γ) (K : Ex → Store → Option β) (xss : List (List DV)) (σ : Store),
      (roundsK run xss σ K).bind J = roundsK run xss σ fun ex σ => (K ex σ).bind J := by
    intro β γ run hr J K xss
    induction xss with
    | nil => intro σ; rfl
    | cons xs xss ih =>
      intro σ
      simp only [roundsK, hr]
      congr 1
      funext ex σ'
      cases ex with
      | normal => exact ih σ'
      | exit i => rfl
      | ret => rfl
  intro c
  induction c with
  | skip => intros; rfl
  | region id ops draw =>
    intro β γ an a σ K J
    cases draw with
    | false => simp only [codeK, opsK_eq, Option.bind_assoc, Bool.false_eq_true, if_false]
    | true =>
      simp only [codeK, opsK_eq, if_true]
      split
      · simp only [Option.bind_assoc]
      · simp only [opsKT_eq, Option.bind_assoc, List.nil_append]
        congr 1
        funext r
        cases stableB P pl ops.toList (traceD P pl call ops (lowOf lo) ops.toList (flags pl ops) a σ) <;> rfl
  | seq x y ihx ihy =>
    intro β γ an a σ K J
    simp only [codeK, ihx]
    congr 1
    funext ex a' σ'
    cases ex with
    | normal => exact ihy
    | exit i => rfl
    | ret => rfl
  | cond c x y ihx ihy =>
    intro β γ an a σ K J
    simp only [codeK, ← ihx, ← ihy]
    unfold condK
    split <;> rfl
  | block id x ih =>
    intro β γ an a σ K J
    simp only [codeK, ih]
    congr 1
    funext ex a' σ'
    cases ex with
    | normal => rfl
    | exit i => simp only []; split <;> rfl
    | ret => rfl
  | loop x ih =>
    intro β γ an a σ K J
    simp only [codeK, loopWith, Option.bind_assoc]
  | exit id => intros; rfl
  | ret => intros; rfl
  | rangeFunc g ps x y ihx ihy =>
    intro β γ an a σ K J
    simp only [codeK]
    split
    · split
      · split
        · refine hroundsK (run := fun {β} xs σ K' => codeK P pl call lo x .nil (putAll ps.toList xs a) σ fun ex a1 σ1 => match ex with
              | .normal => codeK P pl call lo y an.left a1 σ1 fun ex _ σ2 => K' ex σ2
              | _ => none) (fun xs σ K J => ?_) J _ _ _
          rw [ihx]
          congr 1
          funext ex a1 σ1
          cases ex with
          | normal => exact ihy
          | exit i => rfl
          | ret => rfl
        · rfl
      · rfl
    · rfl
  | _ => intros; rfl

theorem loop_eq {β : Type} {pl : FPol} {call : CallF} {lo : Nat} {x : Code} {an : Ann} {a : Frame} {σ : Store} {K : Ex → Frame → Store → Option β} :
    codeK P pl call lo (.loop x) an a σ K = codeK P pl call lo x an.left (an.cut a) σ fun ex a' σ' => match ex with
      | .normal => codeK P pl call lo (.loop x) an a' σ' K
      | ex => K ex a' σ' := by
  have hcut : ∀ a σ, iterL (fun a σ => codeK P pl call lo x an.left (an.cut a) σ fun ex a σ => some (ex, a, σ)) (an.cut a) σ = iterL (fun a σ => codeK P pl call lo x an.left (an.cut a) σ fun ex a σ => some (ex, a, σ)) a σ := by
    intro a σ
    rw [iterL_eq, iterL_eq _ a]
    simp only [cut_cut]
  have h1 : codeK P pl call lo (.loop x) an a σ K = (iterL (fun a σ => codeK P pl call lo x an.left (an.cut a) σ fun ex a σ => some (ex, a, σ)) a σ).bind fun r => K r.1 r.2.1 r.2.2 := by
    simp only [codeK, loopWith, hcut]
  rw [h1, iterL_eq]
  have h2 : ∀ (J : St → Option β), (codeK P pl call lo x an.left (an.cut a) σ fun ex a σ => some (ex, a, σ)).bind J = codeK P pl call lo x an.left (an.cut a) σ fun ex a σ => J (ex, a, σ) := by
    intro J
    rw [codeK_bind]
    rfl
  refine Eq.trans ?_ (h2 fun r => match r.1 with
    | .normal => codeK P pl call lo (.loop x) an r.2.1 r.2.2 K
    | ex => K ex r.2.1 r.2.2)
  generalize (codeK P pl call lo x an.left (an.cut a) σ fun ex a σ => some (ex, a, σ)) = o
  cases o with
  | none => rfl
  | some r =>
    obtain ⟨ex, a', σ'⟩ := r
    cases ex with
    | normal => simp only [Option.bind_some, codeK, loopWith, hcut]
    | exit i => rfl
    | ret => rfl

end Go.D
end
/- More fuel answers the same. -/
section
set_option linter.unusedVariables false
set_option linter.unusedSimpArgs false
namespace Go.D

variable {P : Program}

def CallLe (c c' : CallF) : Prop := ∀ lo f args σ r, c lo f args σ = some r → c' lo f args σ = some r

theorem pureCall_le {c c' : CallF} (h : CallLe c c') {f : FuncId} {args : List DV} {σ : Store} {r : DV × Store} (hr : pureCall c f args σ = some r) : pureCall c' f args σ = some r := by
  unfold pureCall at hr ⊢
  split at hr
  · rename_i hc
    rw [if_pos hc]
    split at hr
    · rename_i v1 σ1 h1
      rw [h _ _ _ _ _ h1]; exact hr
    · exact absurd hr (by simp)
  · rename_i hc
    rw [if_neg hc]
    split at hr
    · rename_i v1 σ1 h1
      rw [h _ _ _ _ _ h1]; exact hr
    · exact absurd hr (by simp)

theorem op_le {c c' : CallF} (h : CallLe c c') {pl : FPol} {lo : Nat} {a : Frame} {o : Oper} {σ : Store} {r : DV × Store} (hr : op P pl c lo a o σ = some r) : op P pl c' lo a o σ = some r := by
  unfold op at hr
  cases ho : o.op with
  | call q =>
    simp only [ho] at hr
    cases hc : q.callee with
    | value g =>
      simp only [hc] at hr
      cases hg : ev a g with
      | fn f caps =>
        simp only [hg] at hr
        simp only [op, ho, hc, hg]
        by_cases hp : pl.isPlain o.dst = true
        · rw [if_pos hp] at hr ⊢
          exact h _ _ _ _ _ hr
        · rw [if_neg hp] at hr ⊢
          exact pureCall_le h hr
      | _ => simp [hg] at hr
    | builtin b => cases b <;> (unfold op; simp only [ho, hc]; simpa only [hc] using hr)
    | invoke r m => unfold op; simp only [ho, hc]; simpa only [hc] using hr
  | makeFunc f first caps => cases f <;> (unfold op; simpa only [ho] using hr)
  | makeMap t n => cases n <;> (unfold op; simpa only [ho] using hr)
  | _ => unfold op; simpa only [ho] using hr

theorem opsD_le {c c' : CallF} (h : CallLe c c') {pl : FPol} {all : Array Oper} {lows : Bool → Store → Nat} : ∀ {os : List Oper} {cs : List Bool} {a : Frame} {σ : Store} {r : Frame × Store}, opsD P pl c all lows os cs a σ = some r → opsD P pl c' all lows os cs a σ = some r
  | [], cs, a, σ, r, hr => hr
  | o :: os, cs, a, σ, r, hr => by
    simp only [opsD] at hr ⊢
    split at hr
    · rename_i hw
      split at hr
      · rename_i v σ1 h1
        simp only [hw, op_le h h1]
        exact opsD_le h hr
      · exact absurd hr (by simp)
    · rename_i hw
      try simp only [hw]
      exact opsD_le h hr
    · exact absurd hr (by simp)

theorem traceD_le {c c' : CallF} (h : CallLe c c') {pl : FPol} {all : Array Oper} {lows : Bool → Store → Nat} : ∀ {os : List Oper} {cs : List Bool} {a : Frame} {σ : Store} {r : Frame × Store}, opsD P pl c all lows os cs a σ = some r → traceD P pl c all lows os cs a σ = traceD P pl c' all lows os cs a σ
  | [], cs, a, σ, r, hr => rfl
  | o :: os, cs, a, σ, r, hr => by
    simp only [opsD] at hr
    simp only [traceD]
    split at hr
    · rename_i hw
      split at hr
      · rename_i v σ1 h1
        simp only [hw, h1, op_le h h1, traceD_le h hr]
      · exact absurd hr (by simp)
    · rename_i hw
      simp only [hw, traceD_le h hr]
    · exact absurd hr (by simp)

theorem iter_le {b b' : Frame → Store → Option St} (h : ∀ a σ r, b a σ = some r → b' a σ = some r) : ∀ (k k' : Nat) (a : Frame) (σ : Store) (r : St), k ≤ k' → iter b k a σ = some r → iter b' k' a σ = some r
  | 0, k', a, σ, r, hk, hr => absurd hr (by simp [iter])
  | k + 1, 0, a, σ, r, hk, hr => absurd hk (by omega)
  | k + 1, k' + 1, a, σ, r, hk, hr => by
    simp only [iter] at hr ⊢
    split at hr
    · rename_i a1 σ1 h1
      rw [h _ _ _ h1]
      exact iter_le h k k' a1 σ1 r (by omega) hr
    · rename_i hne
      have h2 := h _ _ _ hr
      rw [h2]
      obtain ⟨ex, a1, σ1⟩ := r
      cases ex with
      | normal => exact absurd hr (hne a1 σ1)
      | exit i => rfl
      | ret => rfl

theorem roundsD_le {b b' : List DV → Store → Option (Ex × Store)} (h : ∀ xs σ r, b xs σ = some r → b' xs σ = some r) : ∀ (xss : List (List DV)) (σ : Store) (r : Ex × Store), roundsD b xss σ = some r → roundsD b' xss σ = some r
  | [], σ, r, hr => hr
  | xs :: xss, σ, r, hr => by
    simp only [roundsD] at hr ⊢
    split at hr
    · rename_i σ1 h1
      rw [h _ _ _ h1]
      exact roundsD_le h xss σ1 r hr
    · rename_i hne
      have h2 := h _ _ _ hr
      rw [h2]
      obtain ⟨ex, σ1⟩ := r
      cases ex with
      | normal => exact absurd hr (hne σ1)
      | exit i => rfl
      | ret => rfl

theorem code_le {c c' : CallF} (h : CallLe c c') {pl : FPol} {k k' lo : Nat} (hk : k ≤ k') : ∀ (x : Code) (an : Ann) (a : Frame) (σ : Store) (r : St), code P pl c k lo x an a σ = some r → code P pl c' k' lo x an a σ = some r := by
  intro x
  induction x with
  | region id ops draw =>
    intro an a σ r hr
    simp only [code] at hr ⊢
    obtain ⟨⟨a1, σ1⟩, h1, rfl⟩ := Option.map_eq_some_iff.1 hr
    have : region P pl c' lo ops draw a σ = some (a1, σ1) := by
      unfold region at h1 ⊢
      cases draw with
      | true =>
        simp only [if_true] at h1 ⊢
        split at h1
        · rename_i hst
          have hst2 : (pl.rload.isEmpty || stableB P pl ops.toList (traceD P pl c' ops (lowOf lo) ops.toList (flags pl ops) a σ)) = true := by
            rw [← traceD_le h h1]; exact hst
          rw [if_pos hst2]
          exact opsD_le h h1
        · exact absurd h1 (by simp)
      | false => simp only [Bool.false_eq_true, if_false] at h1 ⊢; exact opsD_le h h1
    rw [this]; rfl
  | seq x y ihx ihy =>
    intro an a σ r hr
    simp only [code] at hr ⊢
    split at hr
    · rename_i a1 σ1 h1
      rw [ihx _ _ _ _ h1]
      exact ihy _ _ _ _ hr
    · rename_i hne
      have h2 := ihx _ _ _ _ hr
      rw [h2]
      obtain ⟨ex, a1, σ1⟩ := r
      cases ex with
      | normal => exact absurd hr (hne a1 σ1)
      | exit i => rfl
      | ret => rfl
  | cond q x y ihx ihy =>
    intro an a σ r hr
    simp only [code] at hr ⊢
    split at hr
    · rename_i hc; (try simp only [hc]); exact ihx _ _ _ _ hr
    · rename_i hc; (try simp only [hc]); exact ihy _ _ _ _ hr
    · exact absurd hr (by simp)
  | block id x ih =>
    intro an a σ r hr
    simp only [code] at hr ⊢
    split at hr
    · rename_i h1; rw [ih _ _ _ _ h1]; exact hr
    · rename_i h1; rw [ih _ _ _ _ h1]; exact hr
    · rename_i h1; rw [ih _ _ _ _ h1]; exact hr
    · exact absurd hr (by simp)
  | loop x ih =>
    intro an a σ r hr
    simp only [code] at hr ⊢
    exact iter_le (fun a σ r hr => ih _ _ _ _ hr) _ _ _ _ _ hk hr
  | rangeFunc g ps x y ihx ihy =>
    intro an a σ r hr
    simp only [code] at hr ⊢
    split at hr
    · rename_i f caps hg
      try simp only [hg]
      split at hr
      · rename_i xss hx
        try simp only [hx]
        split at hr
        · rename_i hc
          rw [if_pos hc]
          obtain ⟨⟨ex, σ1⟩, h1, rfl⟩ := Option.map_eq_some_iff.1 hr
          rw [roundsD_le (fun xs σ r hr => ?_) _ _ _ h1]
          · rfl
          · obtain ⟨ex, σ2⟩ := r
            obtain ⟨a1, σ1, a2, h2, h3⟩ := roundWith_some hr
            simp only [roundWith, ihx _ _ _ _ h2, ihy _ _ _ _ h3]
        · exact absurd hr (by simp)
      · exact absurd hr (by simp)
    · exact absurd hr (by simp)
  | _ =>
    intro an a σ r hr
    simp only [code] at hr ⊢
    exact hr

theorem callK_le {pol : FuncId → FPol} : ∀ k, CallLe (callK P pol k) (callK P pol (k + 1))
  | 0 => fun lo f args σ r h => absurd h (by simp [callK])
  | k + 1 => by
    intro lo f args σ r h
    rw [callK] at h ⊢
    split at h
    · rename_i fn hf
      split at h
      · rename_i c hname hb
        try simp only [hf, hname, hb]
        split at h
        · exact absurd h (by simp)
        rename_i hd
        rw [if_neg hd]
        split at h
        · rename_i a1 σ1 h1
          rw [code_le (callK_le k) (Nat.le_succ k) _ _ _ _ _ h1]
          exact h
        · rename_i a1 σ1 h1
          rw [code_le (callK_le k) (Nat.le_succ k) _ _ _ _ _ h1]
          exact h
        · exact absurd h (by simp)
      · exact absurd h (by simp)
    · exact absurd h (by simp)

theorem callL_at {pol : FuncId → FPol} {k lo : Nat} {f : FuncId} {args : List DV} {σ : Store} {r : DV × Store} (h : callK P pol k lo f args σ = some r) : callL P pol lo f args σ = some r := by
  refine lim_eq ⟨k, fun m hm => ?_⟩
  obtain ⟨d, rfl⟩ := Nat.exists_eq_add_of_le hm
  clear hm
  induction d with
  | zero => exact h
  | succ d ih => exact callK_le (k + d) _ _ _ _ _ ih

end Go.D
end
/- The continuation style once more, so that a kernel works out frames as it goes. -/
section
set_option linter.unusedVariables false
set_option linter.unusedSimpArgs false
namespace Go.D

section
variable {β : Type}
/-- Definitions that name 'high' are taller than guardK: a kernel opens them first. -/
def tall : Unit := (fun (_ : DV → Bool → Option (DV × Store) → Store → (DV → Store → Option Unit) → Option Unit) => ()) guardK
def high (x : β) : β := match tall with | () => x
theorem high_eq (x : β) : high x = x := rfl

def getK : List DV → Nat → (DV → β) → β
  | [], _, K => K .undef
  | x :: _, 0, K => high (K x)
  | _ :: xs, n + 1, K => getK xs n K
theorem getK_eq : ∀ (a : List DV) (n : Nat) (K : DV → β), getK a n K = K (a.getD n .undef)
  | [], n, K => by simp [getK]
  | x :: _, 0, K => rfl
  | _ :: xs, n + 1, K => by simpa [getK] using getK_eq xs n K
def evK (a : Frame) (x : Operand) (K : DV → β) : β := match x with
  | .tmp t => getK a t K
  | .const v => K (cst v)
  | .global _ => K .undef
  | .func f => K (.fn f [])
theorem evK_eq (a : Frame) (x : Operand) (K : DV → β) : evK a x K = K (ev a x) := by
  cases x <;> first | rfl | exact getK_eq _ _ _
def evsK (a : Frame) : List Operand → (List DV → β) → β
  | [], K => K []
  | x :: xs, K => evK a x fun v => evsK a xs fun vs => K (v :: vs)
theorem evsK_eq (a : Frame) : ∀ (xs : List Operand) (K : List DV → β), evsK a xs K = K (xs.map (ev a))
  | [], K => rfl
  | x :: xs, K => by simp only [evsK, evK_eq, evsK_eq a xs, List.map_cons]
def partsK (a : Frame) : List (Nat × Operand) → (List (Nat × DV) → β) → β
  | [], K => K []
  | q :: xs, K => evK a q.2 fun v => partsK a xs fun vs => K ((q.1, v) :: vs)
theorem partsK_eq (a : Frame) : ∀ (xs : List (Nat × Operand)) (K : List (Nat × DV) → β), partsK a xs K = K (xs.map fun q => (q.1, ev a q.2))
  | [], K => rfl
  | q :: xs, K => by simp only [partsK, evK_eq, partsK_eq a xs, List.map_cons]
def optK (a : Frame) (x : Option Operand) (K : Option DV → β) : β := match x with
  | none => K none
  | some x => evK a x fun v => K (some v)
theorem optK_eq (a : Frame) (x : Option Operand) (K : Option DV → β) : optK a x K = K (x.map (ev a)) := by
  cases x <;> simp [optK, evK_eq]
def setK : List DV → Nat → DV → (List DV → β) → β
  | [], _, _, K => K []
  | x :: xs, 0, v, K => high (K (v :: xs))
  | x :: xs, n + 1, v, K => setK xs n v fun xs' => K (x :: xs')
theorem setK_eq : ∀ (a : List DV) (n : Nat) (v : DV) (K : List DV → β), setK a n v K = K (a.set n v)
  | [], n, v, K => by simp [setK]
  | x :: xs, 0, v, K => by simp [setK, high_eq]
  | x :: xs, n + 1, v, K => by simp [setK, setK_eq xs n v]
def putK (a : Frame) (d : Option Tmp) (v : DV) (K : Frame → β) : β := match d with
  | some d => setK a d v K
  | none => K a
theorem putK_eq (a : Frame) (d : Option Tmp) (v : DV) (K : Frame → β) : putK a d v K = K (put a d v) := by
  cases d <;> first | rfl | exact setK_eq _ _ _ _
def maskK : List Bool → Frame → (Frame → β) → β
  | _, [], K => K []
  | [], v :: a, K => maskK [] a fun r => K (.undef :: r)
  | true :: bs, v :: a, K => maskK bs a fun r => K (v :: r)
  | false :: bs, v :: a, K => maskK bs a fun r => K (.undef :: r)
theorem maskK_eq : ∀ (m : List Bool) (a : Frame) (K : Frame → β), maskK m a K = K (mask m a)
  | m, [], K => by cases m <;> simp [maskK, mask]
  | [], v :: a, K => by simp [maskK, mask, maskK_eq [] a]
  | b :: bs, v :: a, K => by cases b <;> simp [maskK, mask, maskK_eq bs a]
def cutK (an : Ann) (a : Frame) (K : Frame → β) : β := match an with
  | .keep m _ => maskK m a K
  | _ => K a
theorem cutK_eq (an : Ann) (a : Frame) (K : Frame → β) : cutK an a K = K (an.cut a) := by
  cases an <;> first | rfl | exact maskK_eq _ _ _

def opF (P : Program) (pl : FPol) (call : CallF) (lo : Nat) (a : Frame) (o : Oper) (σ : Store) (K : DV → Store → Option β) : Option β :=
  match o.op with
  | .move x | .assign x => evK a x fun x => K x σ
  | .pick c x y => evK a c fun c => evK a x fun x => evK a y fun y => (pickV c x y).bind fun v => K v σ
  | .alloc t => (zeroOf P t).bind fun z => K (.ptr σ.length 0) (σ ++ [.mix z])
  | .box _ x => evK a x fun x => (boxV x).bind fun cs => K (.ptr σ.length 0) (σ ++ [.mix cs])
  | .build t ps => partsK a ps.toList fun ps => (build P t ps).bind fun v => K v σ
  | .buildSlice t n ps => partsK a ps.toList fun ps => (buildSlice P (pl.asRow o.dst) t n ps σ).bind fun r => K r.1 r.2
  | .load t x => evK a x fun x => (loadP P pl o.dst t x σ).bind fun v => K v σ
  | .store t x y => evK a x fun x => evK a y fun y => (store P lo t x y σ).bind fun σ' => K .undef σ'
  | .nilCheck x => evK a x fun x => (nilCheckV x).bind fun v => K v σ
  | .binOp op t x y _ => evK a x fun x => evK a y fun y => (binOp P op t x y).bind fun v => K v σ
  | .unOp op _ x => evK a x fun x => (unOp op x).bind fun v => K v σ
  | .convert s d x => evK a x fun x => (convert P s d x).bind fun v => K v σ
  | .makeFunc (.func f) first caps => if first.size = 0 then evsK a caps.toList fun cs => K (.fn f cs) σ else none
  | .makeMap _ none => K (.map σ.length) (σ ++ [.map []])
  | .makeSlice t l c => evK a l fun l => evK a c fun c => (makeSlice P (pl.isMixed o.dst) t l c σ).bind fun r => K r.1 r.2
  | .slice t x l h m => evK a x fun x => optK a l fun l => optK a h fun h => optK a m fun m => (sliceOp P t x l h m).bind fun v => K v σ
  | .fieldAddr t x i => evK a x fun x => (fieldAddr P t x i).bind fun v => K v σ
  | .field t x i => evK a x fun x => (field P t x i).bind fun v => K v σ
  | .indexAddr t x i => evK a x fun x => evK a i fun i => (indexAddr P t x i).bind fun v => K v σ
  | .index t x i => evK a x fun x => evK a i fun i => (index P t x i).bind fun v => K v σ
  | .lookup t x i ok => evK a x fun x => evK a i fun i => (lookup P t x i ok σ).bind fun v => K v σ
  | .mapUpdate t m k v => evK a m fun m => evK a k fun k => evK a v fun v => (mapUpdate P lo t m k v σ).bind fun σ' => K .undef σ'
  | .extract x i => evK a x fun x => (extractV x i).bind fun v => K v σ
  | .call c =>
    match c.callee with
    | .builtin .len => if c.args.size = 1 ∧ c.argTypes.size = 1 then evK a (c.args.getD 0 (.const undef)) fun x => (len P (c.argTypes.getD 0 0) x σ).bind fun v => K v σ else none
    | .builtin .append => if c.args.size = 2 ∧ c.argTypes.size = 2 then evK a (c.args.getD 0 (.const undef)) fun x => evK a (c.args.getD 1 (.const undef)) fun y => (append P lo (pl.isMixed o.dst) (c.argTypes.getD 0 0) (c.argTypes.getD 1 0) x y σ).bind fun r => K r.1 r.2 else none
    | .builtin .max => evsK a c.args.toList fun xs => (maxMin true xs).bind fun v => K v σ
    | .builtin .min => evsK a c.args.toList fun xs => (maxMin false xs).bind fun v => K v σ
    | .builtin _ => none
    | .value g => evK a g fun g => evsK a c.args.toList fun xs => if pl.isPlain o.dst then (plainFn call lo g xs σ).bind fun r => K r.1 r.2
      else (pureFn call g xs σ).bind fun v => K v σ
    | .invoke _ _ => none
  | _ => none

theorem opF_eq (P : Program) (pl : FPol) (call : CallF) (lo : Nat) (a : Frame) (o : Oper) (σ : Store) (K : DV → Store → Option β) : opF P pl call lo a o σ K = opK P pl call lo a o σ K := by
  cases ho : o.op
  case makeFunc f first caps => first | (simp only [opF, opK, ho, evK_eq, evsK_eq, partsK_eq, optK_eq]; done) | (cases f <;> simp only [opF, opK, ho, evsK_eq])
  case makeMap t n => first | (simp only [opF, opK, ho, evK_eq, evsK_eq, partsK_eq, optK_eq]; done) | (cases n <;> simp only [opF, opK, ho])
  case call c =>
    first
    | (simp only [opF, opK, ho, evK_eq, evsK_eq, partsK_eq, optK_eq]; done)
    | (simp only [opF, opK, ho]
       cases hc : c.callee with
       | builtin b => cases b <;> simp only [evK_eq, evsK_eq]
       | value g => simp only [evK_eq, evsK_eq]
       | invoke r m => rfl)
  all_goals simp only [opF, opK, ho, evK_eq, evsK_eq, partsK_eq, optK_eq]

def guardF (all : Array Oper) (a : Frame) (j : Nat) (K : DV → β) : β := match (all.toList[j]?).bind (·.dst) with
  | some t => getK a t K
  | none => K .undef
theorem guardF_eq (all : Array Oper) (a : Frame) (j : Nat) (K : DV → β) : guardF all a j K = K (guardVal all a j) := by
  unfold guardF guardVal
  rw [Array.getElem?_toList]
  cases (all[j]?).bind (·.dst) <;> first | rfl | exact getK_eq _ _ _

/-- guardK is handed in, so that no kernel opens it while it compares. -/
abbrev GuardT := (β : Type) → DV → Bool → Option (DV × Store) → Store → (DV → Store → Option β) → Option β
def guardT : GuardT := fun _ => guardK

def opsF (G : GuardT) (P : Program) (pl : FPol) (call : CallF) (all : Array Oper) (lows : Bool → Store → Nat) : List Oper → List Bool → Frame → Store → (Frame → Store → Option β) → Option β
  | [], _, a, σ, K => K a σ
  | o :: os, cs, a, σ, K => match o.guard with
    | none => opF P pl call (lows (cs.headD true) σ) a o σ fun v σ' => putK a o.dst v fun a => opsF G P pl call all lows os cs.tail a σ' K
    | some (j, want) => guardF all a j fun g => G β g want (opF P pl call (lows (cs.headD true) σ) a o σ fun v σ' => some (v, σ')) σ fun v σ' => putK a o.dst v fun a => opsF G P pl call all lows os cs.tail a σ' K

theorem opsF_eq (P : Program) (pl : FPol) (call : CallF) (all : Array Oper) (lows : Bool → Store → Nat) : ∀ (os : List Oper) (cs : List Bool) (a : Frame) (σ : Store) (K : Frame → Store → Option β),
    opsF guardT P pl call all lows os cs a σ K = opsK P pl call all lows os cs a σ K
  | [], cs, a, σ, K => rfl
  | o :: os, cs, a, σ, K => by
    cases hg : o.guard with
    | none => simp only [opsF, opsK, hg, opF_eq, putK_eq, opsF_eq P pl call all lows os]
    | some g =>
      simp only [opsF, opsK, hg, opF_eq, putK_eq, guardF_eq, opsF_eq P pl call all lows os]
      rfl
end

section
variable {β : Type}
def opsFT (G : GuardT) (P : Program) (pl : FPol) (call : CallF) (all : Array Oper) (lows : Bool → Store → Nat) : List Oper → List Bool → Frame → Store → List (Frame × Store) → (Frame → Store → List (Frame × Store) → Option β) → Option β
  | [], _, a, σ, tr, K => K a σ (tr ++ [(a, σ)])
  | o :: os, cs, a, σ, tr, K => match o.guard with
    | none => opF P pl call (lows (cs.headD true) σ) a o σ fun v σ' => putK a o.dst v fun a2 => opsFT G P pl call all lows os cs.tail a2 σ' (tr ++ [(a, σ)]) K
    | some (j, want) => guardF all a j fun g => G β g want (opF P pl call (lows (cs.headD true) σ) a o σ fun v σ' => some (v, σ')) σ fun v σ' => putK a o.dst v fun a2 => opsFT G P pl call all lows os cs.tail a2 σ' (tr ++ [(a, σ)]) K

theorem opsFT_eq (P : Program) (pl : FPol) (call : CallF) (all : Array Oper) (lows : Bool → Store → Nat) : ∀ (os : List Oper) (cs : List Bool) (a : Frame) (σ : Store) (tr : List (Frame × Store)) (K : Frame → Store → List (Frame × Store) → Option β),
    opsFT guardT P pl call all lows os cs a σ tr K = opsKT P pl call all lows os cs a σ tr K
  | [], cs, a, σ, tr, K => rfl
  | o :: os, cs, a, σ, tr, K => by
    cases hg : o.guard with
    | none => simp only [opsFT, opsKT, hg, opF_eq, putK_eq, opsFT_eq P pl call all lows os]
    | some g =>
      simp only [opsFT, opsKT, hg, opF_eq, putK_eq, guardF_eq, opsFT_eq P pl call all lows os]
      rfl
end

noncomputable def codeF (G : GuardT) (P : Program) (pl : FPol) (call : CallF) (lo : Nat) : Code → {β : Type} → Ann → Frame → Store → (Ex → Frame → Store → Option β) → Option β
  | .skip, _, _, a, σ, K => K .normal a σ
  | .region _ ops draw, _, _, a, σ, K => if draw then (if pl.rload.isEmpty then opsF G P pl call ops (lowOf lo) ops.toList (flags pl ops) a σ (K .normal) else opsFT G P pl call ops (lowOf lo) ops.toList (flags pl ops) a σ [] fun a' σ' tr => bif stableB P pl ops.toList tr then K .normal a' σ' else none) else opsF G P pl call ops (fun _ _ => lo) ops.toList [] a σ (K .normal)
  | .seq x y, _, an, a, σ, K => codeF G P pl call lo x an.left a σ fun ex a' σ' => match ex with
    | .normal => codeF G P pl call lo y an.right a' σ' K
    | ex => K ex a' σ'
  | .cond c x y, _, an, a, σ, K => evK a c fun c => condK c (codeF G P pl call lo x an.left a σ K) (codeF G P pl call lo y an.right a σ K)
  | .block id x, _, an, a, σ, K => codeF G P pl call lo x an.left a σ fun ex a' σ' => match ex with
    | .normal => cutK an a' fun a2 => K .normal a2 σ'
    | .exit i => if i = id then cutK an a' fun a2 => K .normal a2 σ' else K (.exit i) a' σ'
    | .ret => K .ret a' σ'
  | .loop x, _, an, a, σ, K => cutK an a fun a2 => loopWith (fun a σ => codeF G P pl call lo x an.left (an.cut a) σ fun ex a σ => some (ex, a, σ)) a2 σ K
  | .exit id, _, _, a, σ, K => K (.exit id) a σ
  | .ret, _, _, a, σ, K => K .ret a σ
  | .rangeFunc g ps x y, _, an, a, σ, K => evK a g fun g => match g with
    | .fn f caps => match (pl.seq f).bind fun kind => seqList kind caps with
      | some xss =>
        if xss.all (·.length == ps.size) && !hasRange x && !hasRange y then
          roundsK (fun xs σ K' => codeF G P pl call lo x .nil (putAll ps.toList xs a) σ fun ex a1 σ1 => match ex with
            | .normal => codeF G P pl call lo y an.left a1 σ1 fun ex _ σ2 => K' ex σ2
            | _ => none) xss σ fun ex σ' => K ex a σ'
        else none
      | none => none
    | _ => none
  | _, _, _, _, _, _ => none

theorem codeF_eq {P : Program} {pl : FPol} {call : CallF} {lo : Nat} : ∀ (c : Code) {β : Type} {an : Ann} {a : Frame} {σ : Store} {K : Ex → Frame → Store → Option β}, codeF guardT P pl call lo c an a σ K = codeK P pl call lo c an a σ K := by
  intro c
  induction c with
  | region id ops draw => intros; simp only [codeF, codeK, opsF_eq, opsFT_eq]
  | seq x y ihx ihy =>
    intro β an a σ K
    simp only [codeF, codeK, ihx]
    congr 1
    funext ex a' σ'
    cases ex with
    | normal => exact ihy
    | exit i => rfl
    | ret => rfl
  | cond c x y ihx ihy => intros; simp only [codeF, codeK, evK_eq, ihx, ihy]
  | block id x ih =>
    intro β an a σ K
    first
    | (simp only [codeF, codeK, ih, cutK_eq]; done)
    | (simp only [codeF, codeK, ih, cutK_eq]; congr 1)
  | loop x ih => intros; simp only [codeF, codeK, ih, cutK_eq]
  | rangeFunc g ps x y ihx ihy =>
    intro β an a σ K
    first
    | (simp only [codeF, codeK, evK_eq, ihx, ihy]; done)
    | (simp only [codeF, codeK, evK_eq, ihx, ihy]; cases ev a g <;> try rfl)
  | _ => intros; rfl

theorem loopF_cut {G : GuardT} {P : Program} {pl : FPol} {call : CallF} {lo : Nat} {x : Code} {an : Ann} (a : Frame) (σ : Store) :
    iterL (fun a σ => codeF G P pl call lo x an.left (an.cut a) σ fun ex a σ => some (ex, a, σ)) (an.cut a) σ = iterL (fun a σ => codeF G P pl call lo x an.left (an.cut a) σ fun ex a σ => some (ex, a, σ)) a σ := by
  rw [iterL_eq, iterL_eq _ a]
  simp only [cut_cut]

/-- What loops need of the guards: they go along with what stands behind. -/
def GuardOk (G : GuardT) : Prop := G = guardT

theorem loopF_eq {P : Program} {β : Type} {pl : FPol} {call : CallF} {lo : Nat} {x : Code} {an : Ann} {a : Frame} {σ : Store} {K : Ex → Frame → Store → Option β} (G : GuardT) (hG : GuardOk G) :
    codeF G P pl call lo (.loop x) an a σ K = cutK an a fun a => codeF G P pl call lo x an.left a σ fun ex a' σ' => match ex with
      | .normal => codeF G P pl call lo (.loop x) an a' σ' K
      | ex => K ex a' σ' := by
  cases hG
  simp only [codeF_eq, cutK_eq]
  exact loop_eq

end Go.D
end
/- What the generated texts need: contexts as functions, results in continuation style. -/
section
set_option linter.unusedVariables false
set_option linter.unusedSimpArgs false
namespace Go.D
/-- Short names for printed texts. -/
abbrev ud : DV := .undef
abbrev tt : Bool := true
abbrev ff : Bool := false

def cellV (P : Program) (t : TypeId) (x : DV) (σ : Store) : Option DV := match x with
  | .ptr r off => load P t (.ptr r off) σ
  | _ => none

def resK {β : Type} (P : Program) (a : Frame) (σ : Store) : List ResultVar → (List DV → Option β) → Option β
  | [], K => K []
  | .tmp t :: rs, K => resK P a σ rs fun vs => K (a.getD t .undef :: vs)
  | .cell x t :: rs, K => (cellV P t (a.getD x .undef) σ).bind fun v => resK P a σ rs fun vs => K (v :: vs)

theorem resK_eq {β : Type} (P : Program) (a : Frame) (σ : Store) : ∀ (rs : List ResultVar) (K : List DV → Option β), resK P a σ rs K = (resultsOf P a σ rs).bind K
  | [], K => rfl
  | .tmp t :: rs, K => by
    simp only [resK, resultsOf, resultOf, resK_eq P a σ rs]
    cases resultsOf P a σ rs <;> rfl
  | .cell x t :: rs, K => by
    simp only [resK, resultsOf, resultOf, resK_eq P a σ rs]
    unfold cellV
    generalize a.getD x .undef = g
    cases g <;> try rfl
    rename_i r off
    simp only []
    cases load P t (.ptr r off) σ <;> first | rfl | (cases resultsOf P a σ rs <;> rfl)

def finR (P : Program) (rs : List ResultVar) : Ex → Frame → Store → Option (DV × Store)
  | .normal, a, σ => resK P a σ rs fun vs => some (wrap vs, σ)
  | .ret, a, σ => resK P a σ rs fun vs => some (wrap vs, σ)
  | _, _, _ => none

theorem finR_eq (P : Program) (rs : List ResultVar) : finR P rs = finK P rs := by
  funext ex a σ
  cases ex <;> first | rfl | exact resK_eq P a σ rs _

def bodyOf (f : Func) : Code := f.body.getD .skip

theorem callL_run {P : Program} {pol : FuncId → FPol} {f lo : Nat} {fn : Func} {args : List DV} {σ : Store} {r : DV × Store} (hf : P.funcs[f]? = some fn) (hname : (fn.name == "runtime.NumGoroutine") = false) (hb : fn.body.isSome = true) (hd : drawsOk (bodyOf fn) = true)
    (h : codeF guardT P (pol f) (callL P pol) lo (bodyOf fn) (pol f).ann (args ++ List.replicate (fn.ntmps - args.length) .undef) σ (finR P fn.results.toList) = some r) : callL P pol lo f args σ = some r := by
  obtain ⟨c, hc⟩ := Option.isSome_iff_exists.1 hb
  have e : bodyOf fn = c := by unfold bodyOf; rw [hc]; rfl
  rw [e] at hd h
  rw [finR_eq, codeF_eq] at h
  exact callL_of hf hname hc hd h

def Code.fstC : Code → Code
  | .seq x _ => x | .cond _ x _ => x | .block _ x => x | .loop x => x | .rangeFunc _ _ x _ => x | c => c
def Code.sndC : Code → Code
  | .seq _ y => y | .cond _ _ y => y | .rangeFunc _ _ _ y => y | c => c

def splitC {β : Type} (N : Frame → Store → Option β) (E : Ex → Frame → Store → Option β) : Ex → Frame → Store → Option β := fun ex a σ => match ex with
  | .normal => N a σ
  | ex => E ex a σ
theorem splitC_eta {β : Type} (K : Ex → Frame → Store → Option β) : splitC (K .normal) K = K := by
  funext ex a σ
  cases ex <;> rfl

section
variable {β : Type} (G : GuardT) (P : Program) (pl : FPol) (call : CallF) (lo : Nat)
noncomputable def seqC (y : Code) (an : Ann) (K : Ex → Frame → Store → Option β) : Ex → Frame → Store → Option β := fun ex a σ => match ex with
  | .normal => codeF G P pl call lo y an a σ K
  | ex => K ex a σ
def blockC (id : Nat) (an : Ann) (K : Ex → Frame → Store → Option β) : Ex → Frame → Store → Option β := fun ex a σ => match ex with
  | .normal => cutK an a fun a2 => K .normal a2 σ
  | .exit i => if i = id then cutK an a fun a2 => K .normal a2 σ else K (.exit i) a σ
  | .ret => K .ret a σ
noncomputable def loopC (x : Code) (an : Ann) (K : Ex → Frame → Store → Option β) : Ex → Frame → Store → Option β := fun ex a σ => match ex with
  | .normal => codeF G P pl call lo (.loop x) an a σ K
  | ex => K ex a σ
def endC (K : Ex → Store → Option β) : Ex → Frame → Store → Option β := fun ex _ σ => K ex σ
noncomputable def midC (y : Code) (an : Ann) (K : Ex → Store → Option β) : Ex → Frame → Store → Option β := fun ex a σ => match ex with
  | .normal => codeF G P pl call lo y an a σ fun ex _ σ => K ex σ
  | _ => none
noncomputable def roundC (x y : Code) (an : Ann) (ps : List Tmp) (a : Frame) (xs : List DV) (σ : Store) (K : Ex → Store → Option β) : Option β :=
  codeF G P pl call lo x .nil (putAll ps xs a) σ fun ex a1 σ1 => match ex with
    | .normal => codeF G P pl call lo y an a1 σ1 fun ex _ σ2 => K ex σ2
    | _ => none
noncomputable def rangeK (g : DV) (n : Nat) (ok1 ok2 : Bool) (run : List DV → Store → (Ex → Store → Option β) → Option β) (σ : Store) (K : Ex → Store → Option β) : Option β := match g with
  | .fn f caps => match (pl.seq f).bind fun kind => seqList kind caps with
    | some xss => if (xss.all (·.length == n) && ok1) && ok2 then roundsK run xss σ K else none
    | none => none
  | _ => none
end
end Go.D
end
/- Policies of the functions: what is kept of temporaries, which calls are plain, which slices are rows. -/
section
namespace Go.D
noncomputable abbrev PP : Program := Go.Proofs.Tryz.prog
def pol3 : FPol := { ann := .nil }
def pol4 : FPol := { ann := .nil }
def pol5 : FPol := { ann := .nil }
def pol6 : FPol := { ann := (.seq .nil (.seq .nil (.seq .nil (.seq (.seq .nil (.keep [ff, ff, tt, tt] (.keep [ff, ff, tt, tt, ff, tt] (.seq .nil (.seq (.keep [ff, ff, tt, tt, ff, tt] .nil) .nil))))) (.seq .nil (.seq .nil (.seq .nil (.seq (.seq .nil (.keep [] (.keep [ff, ff, tt, ff, ff, ff, tt, ff, tt] (.seq .nil (.seq (.keep [ff, ff, tt, ff, ff, ff, tt, ff, tt] (.seq .nil (.keep [ff, ff, tt, ff, ff, ff, tt, ff, tt] (.keep [ff, ff, tt, ff, ff, ff, tt, ff, tt, tt] (.seq .nil (.seq (.keep [ff, ff, tt, ff, ff, ff, tt, ff, tt, tt] (.seq .nil (.seq (.seq .nil (.keep [ff, ff, tt, ff, ff, ff, tt, ff, tt, tt, tt] (.keep [ff, ff, tt, ff, ff, ff, tt, ff, tt, tt, tt, tt] (.seq .nil (.seq (.keep [ff, ff, tt, ff, ff, ff, tt, ff, tt, tt, tt, tt] .nil) .nil))))) .nil))) .nil)))))) .nil))))) .nil)))))))) }
def pol7 : FPol := { ann := (.seq .nil (.seq .nil (.seq .nil (.seq .nil (.seq .nil (.seq .nil (.seq .nil (.seq .nil (.seq (.seq .nil (.keep [ff, ff, tt, ff, tt, ff, ff, ff, ff, ff, tt, ff, tt] (.keep [ff, ff, tt, ff, tt, ff, ff, ff, ff, ff, tt, ff, tt, tt] (.seq .nil (.seq (.keep [ff, ff, tt, ff, tt, ff, ff, ff, ff, ff, tt, ff, tt, tt] .nil) .nil))))) (.seq (.seq .nil (.keep [ff, ff, ff, ff, tt, ff, ff, ff, ff, ff, ff, ff, tt] (.keep [ff, ff, tt, ff, tt, ff, ff, ff, ff, ff, tt, ff, tt, ff, tt] (.seq .nil (.seq (.keep [ff, ff, tt, ff, tt, ff, ff, ff, ff, ff, tt, ff, tt, ff, tt] (.seq .nil (.seq (.seq .nil (.keep [ff, ff, tt, ff, tt, ff, ff, ff, ff, ff, tt, ff, ff, ff, tt, tt] (.keep [ff, ff, tt, ff, tt, ff, ff, ff, ff, ff, tt, ff, tt, ff, tt, tt, tt] (.seq .nil (.seq (.keep [ff, ff, tt, ff, tt, ff, ff, ff, ff, ff, tt, ff, tt, ff, tt, tt, tt] .nil) .nil))))) .nil))) .nil))))) (.seq .nil (.seq (.seq .nil (.keep [ff, ff, ff, ff, tt, ff, ff, ff, ff, ff, ff, ff, ff, ff, ff, ff, ff, ff, tt] (.keep [ff, ff, ff, ff, tt, ff, ff, ff, ff, ff, ff, ff, tt, ff, ff, ff, ff, ff, tt, tt] (.seq .nil (.seq (.keep [ff, ff, ff, ff, tt, ff, ff, ff, ff, ff, ff, ff, tt, ff, ff, ff, ff, ff, tt, tt] .nil) .nil))))) .nil)))))))))))) }
def pol8 : FPol := { ann := .nil }
def pol9 : FPol := { ann := .nil, plain := [28] }
def pol10 : FPol := { ann := .nil }
def pol11 : FPol := { ann := (.seq .nil (.seq .nil (.seq (.seq .nil (.keep [] (.keep [tt, ff, ff, tt] (.seq .nil (.seq (.keep [tt, ff, ff, tt] .nil) .nil))))) .nil))) }
def pol12 : FPol := { ann := .nil, plain := [19] }
def pol13 : FPol := { ann := .nil }
def pol14 : FPol := { ann := .nil }
def pol15 : FPol := { ann := (.seq .nil (.seq .nil (.seq .nil (.seq .nil (.seq .nil (.seq .nil (.seq (.seq .nil (.keep [ff, ff, ff, ff, ff, ff, ff, ff, ff, ff, ff, ff, tt] (.keep [ff, ff, ff, tt, tt, ff, ff, ff, ff, tt, ff, tt, tt, ff, ff, ff, ff, ff, ff, ff, ff, ff, ff, ff, ff, ff, ff, ff, ff, ff, ff, ff, ff, ff, ff, ff, ff, ff, ff, ff, ff, ff, ff, ff, ff, ff, ff, ff, ff, ff, ff, ff, ff, tt, tt, tt] (.seq .nil (.seq .nil (.seq (.keep [ff, ff, ff, tt, tt, ff, ff, ff, ff, tt, ff, tt, tt, ff, ff, ff, ff, ff, ff, ff, ff, ff, ff, ff, ff, ff, ff, ff, ff, ff, ff, ff, ff, ff, ff, ff, ff, ff, ff, ff, ff, ff, ff, ff, ff, ff, ff, ff, ff, ff, ff, ff, ff, tt, tt, tt] .nil) .nil)))))) .nil))))))), plain := [24] }
def pol16 : FPol := { ann := .nil }
def pol17 : FPol := { ann := (.seq .nil (.seq .nil (.seq .nil (.seq (.seq .nil (.keep [] (.keep [ff, tt, ff, tt] (.seq .nil (.seq (.keep [ff, tt, ff, tt] .nil) .nil))))) .nil)))) }
def pol18 : FPol := { ann := (.seq .nil (.seq .nil (.seq (.seq .nil (.keep [ff, ff, tt, tt] (.keep [ff, ff, tt, tt, ff, tt] (.seq .nil (.seq (.keep [ff, ff, tt, tt, ff, tt] .nil) .nil))))) (.seq .nil (.seq (.seq .nil (.keep [] (.keep [ff, ff, ff, tt, ff, ff, tt] (.seq .nil (.seq (.keep [ff, ff, ff, tt, ff, ff, tt] (.seq .nil (.seq .nil (.keep [ff, ff, ff, tt, ff, ff, tt] (.keep [ff, ff, ff, tt, ff, ff, tt, tt] (.seq .nil (.seq (.keep [ff, ff, ff, tt, ff, ff, tt, tt] .nil) .nil))))))) .nil))))) .nil))))) }
def pol19 : FPol := { ann := .nil }
def pol20 : FPol := { ann := (.seq .nil (.seq .nil (.seq .nil (.seq (.seq .nil (.keep [ff, ff, tt, tt, tt, tt, tt] (.keep [ff, ff, tt, tt, tt, tt, tt, tt] (.seq .nil (.seq (.keep [ff, ff, tt, tt, tt, tt, tt, tt] .nil) .nil))))) (.seq (.seq .nil (.keep [ff, ff, ff, ff, tt, tt, tt] (.keep [ff, ff, tt, tt, tt, tt, tt, ff, tt] (.seq .nil (.seq (.keep [ff, ff, tt, tt, tt, tt, tt, ff, tt] (.seq .nil (.keep [ff, ff, tt, tt, tt, tt, tt, ff, tt] (.keep [ff, ff, tt, tt, tt, tt, tt, ff, tt, tt] (.seq .nil (.seq (.keep [ff, ff, tt, tt, tt, tt, tt, ff, tt, tt] .nil) .nil)))))) .nil))))) .nil))))) }
def pol21 : FPol := { ann := .nil }
def pol22 : FPol := { ann := (.seq .nil (.seq .nil (.seq .nil (.seq (.seq .nil (.keep [ff, tt, tt] (.keep [ff, tt, tt, ff, ff, tt] (.seq .nil (.seq (.keep [ff, tt, tt, ff, ff, tt] .nil) .nil))))) (.seq .nil (.seq (.seq .nil (.keep [] (.keep [ff, tt, tt, ff, ff, ff, tt] (.seq .nil (.seq (.keep [ff, tt, tt, ff, ff, ff, tt] .nil) .nil))))) .nil)))))) }
def pol23 : FPol := { ann := .nil }
def pol24 : FPol := { ann := (.seq .nil (.seq .nil (.seq .nil (.seq .nil (.seq (.seq .nil (.keep [ff, ff, ff, ff, ff, ff, ff, ff, ff, tt] (.keep [ff, ff, tt, tt, tt, ff, ff, tt, tt, tt, tt] (.seq .nil (.seq (.keep [ff, ff, tt, tt, tt, ff, ff, tt, tt, tt, tt] .nil) .nil))))) .nil))))) }
def pol25 : FPol := { ann := .nil, plain := [19] }
def pol26 : FPol := { ann := .nil }
def pol27 : FPol := { ann := (.seq .nil (.seq .nil (.seq .nil (.seq .nil (.seq .nil (.seq (.seq .nil (.keep [ff, ff, ff, ff, ff, ff, ff, ff, ff, ff, ff, tt] (.keep [ff, ff, tt, tt, tt, ff, ff, ff, ff, tt, ff, tt, ff, ff, ff, ff, ff, ff, ff, ff, ff, ff, ff, ff, ff, ff, ff, ff, ff, ff, ff, ff, ff, ff, ff, ff, ff, ff, ff, ff, ff, ff, ff, ff, ff, ff, tt, tt, tt] (.seq .nil (.seq .nil (.seq (.keep [ff, ff, tt, tt, tt, ff, ff, ff, ff, tt, ff, tt, ff, ff, ff, ff, ff, ff, ff, ff, ff, ff, ff, ff, ff, ff, ff, ff, ff, ff, ff, ff, ff, ff, ff, ff, ff, ff, ff, ff, ff, ff, ff, ff, ff, ff, tt, tt, tt] (.seq .nil (.seq .nil (.seq (.seq .nil (.keep [ff, ff, tt, tt, tt, ff, ff, ff, ff, tt, ff, tt, ff, tt, ff, ff, ff, ff, ff, ff, ff, ff, ff, ff, ff, ff, ff, ff, ff, ff, ff, ff, ff, ff, ff, ff, ff, ff, ff, ff, ff, ff, ff, ff, ff, ff, tt, tt, tt] (.keep [ff, ff, tt, tt, tt, ff, ff, ff, ff, tt, ff, tt, ff, tt, tt, tt, ff, ff, ff, ff, ff, ff, ff, ff, ff, ff, ff, ff, ff, ff, ff, ff, ff, ff, ff, ff, ff, ff, ff, ff, ff, ff, ff, ff, ff, ff, tt, tt, tt] (.seq .nil (.seq (.keep [ff, ff, tt, tt, tt, ff, ff, ff, ff, tt, ff, tt, ff, tt, tt, tt, ff, ff, ff, ff, ff, ff, ff, ff, ff, ff, ff, ff, ff, ff, ff, ff, ff, ff, ff, ff, ff, ff, ff, ff, ff, ff, ff, ff, ff, ff, tt, tt, tt] .nil) .nil))))) .nil)))) .nil)))))) .nil)))))), plain := [25] }
def pol28 : FPol := { ann := (.seq .nil (.seq .nil (.seq (.seq .nil (.keep [] (.keep [ff, ff, ff, tt, ff, tt] (.seq .nil (.seq (.keep [ff, ff, ff, tt, ff, tt] .nil) .nil))))) .nil))) }
def pol29 : FPol := { ann := (.seq .nil (.seq .nil (.seq .nil (.seq (.seq .nil (.keep [ff, ff, tt, tt, tt, tt, tt] (.keep [ff, ff, tt, tt, tt, tt, tt, tt] (.seq .nil (.seq (.keep [ff, ff, tt, tt, tt, tt, tt, tt] .nil) .nil))))) (.seq (.seq .nil (.keep [ff, ff, ff, ff, tt, tt, tt] (.keep [ff, ff, tt, tt, tt, tt, tt, ff, tt] (.seq .nil (.seq (.keep [ff, ff, tt, tt, tt, tt, tt, ff, tt] (.seq .nil (.seq .nil (.seq .nil (.seq .nil (.keep [ff, ff, tt, tt, tt, tt, tt, ff, tt] (.keep [ff, ff, tt, tt, tt, tt, tt, ff, tt, tt, tt] (.seq .nil (.seq (.keep [ff, ff, tt, tt, tt, tt, tt, ff, tt, tt, tt] .nil) .nil))))))))) .nil))))) .nil))))) }
def pol30 : FPol := { ann := (.seq .nil (.seq .nil (.seq .nil (.seq (.seq .nil (.keep [ff, ff, ff, ff, ff, ff, ff, ff, tt] (.keep [ff, ff, tt, tt, tt, ff, ff, tt, tt, tt] (.seq .nil (.seq (.keep [ff, ff, tt, tt, tt, ff, ff, tt, tt, tt] (.seq (.seq .nil (.keep [ff, ff, tt, tt, tt, ff, ff, tt, tt, tt] (.keep [ff, ff, tt, tt, tt, ff, ff, tt, tt, tt, tt] (.seq .nil (.seq (.keep [ff, ff, tt, tt, tt, ff, ff, tt, tt, tt, tt] .nil) .nil))))) .nil)) .nil))))) .nil)))) }
def pol31 : FPol := { ann := (.seq .nil (.seq .nil (.seq .nil (.seq .nil (.seq (.seq .nil (.keep [ff, ff, ff, ff, ff, ff, ff, ff, tt] (.keep [ff, tt, tt, ff, ff, ff, ff, ff, tt, ff, ff, ff, ff, ff, ff, ff, ff, ff, ff, ff, ff, ff, ff, tt, tt, tt] (.seq .nil (.seq .nil (.seq (.keep [ff, tt, tt, ff, ff, ff, ff, ff, tt, ff, ff, ff, ff, ff, ff, ff, ff, ff, ff, ff, ff, ff, ff, tt, tt, tt] .nil) .nil)))))) .nil))))) }
def pol32 : FPol := { ann := .nil }
def pol33 : FPol := { ann := (.seq .nil (.seq .nil (.seq .nil (.seq (.seq .nil (.keep [ff, tt] (.keep [ff, tt, ff, tt] (.seq .nil (.seq (.keep [ff, tt, ff, tt] .nil) .nil))))) (.seq (.seq .nil (.keep [] (.keep [ff, tt, ff, ff, tt] (.seq .nil (.seq (.keep [ff, tt, ff, ff, tt] .nil) .nil))))) .nil))))) }
def pol34 : FPol := { ann := (.seq .nil (.seq .nil (.seq (.seq .nil (.keep [] (.keep [tt, tt, ff, ff, ff, tt] (.seq .nil (.seq (.keep [tt, tt, ff, ff, ff, tt] .nil) .nil))))) .nil))) }
def pol35 : FPol := { ann := (.seq .nil (.seq .nil (.seq (.seq .nil (.keep [ff, ff, ff, ff, ff, tt] (.keep [ff, tt, tt, ff, ff, tt, tt] (.seq .nil (.seq (.keep [ff, tt, tt, ff, ff, tt, tt] .nil) .nil))))) .nil))) }
def pol36 : FPol := { ann := .nil }
def pol37 : FPol := { ann := (.seq .nil (.seq .nil (.seq (.seq .nil (.keep [] (.keep [tt, ff, ff, tt] (.seq .nil (.seq (.keep [tt, ff, ff, tt] .nil) .nil))))) .nil))) }
def pol38 : FPol := { ann := (.seq .nil (.seq .nil (.seq .nil (.seq (.seq .nil (.keep [] (.keep [ff, ff, ff, tt, ff, tt] (.seq .nil (.seq (.keep [ff, ff, ff, tt, ff, tt] (.seq .nil (.keep [ff, ff, ff, tt, ff, tt] (.keep [ff, ff, ff, tt, ff, tt, tt] (.seq .nil (.seq (.keep [ff, ff, ff, tt, ff, tt, tt] .nil) .nil)))))) .nil))))) .nil)))) }
def pol39 : FPol := { ann := .nil }
def pol40 : FPol := { ann := (.seq .nil (.seq .nil (.seq (.seq .nil (.keep [ff, ff, tt, tt] (.keep [ff, tt, tt, tt, tt] (.seq .nil (.seq (.keep [ff, tt, tt, tt, tt] .nil) .nil))))) .nil))) }
def pol41 : FPol := { ann := .nil }
def pol42 : FPol := { ann := (.seq .nil (.seq .nil (.seq .nil (.seq .nil (.seq .nil (.seq .nil (.seq (.seq .nil (.keep [ff, ff, ff, ff, ff, tt, ff, ff, ff, ff, ff, tt, ff, tt, tt] (.seq (.keep [] (.seq .nil (.seq .nil (.keep [] (.keep [ff, ff, ff, ff, tt, tt, ff, ff, ff, ff, ff, ff, ff, tt, tt, tt, ff, ff, ff, ff, ff, ff, ff, ff, ff, ff, ff, ff, ff, ff, ff, ff, ff, ff, ff, ff, ff, ff, ff, ff, ff, ff, ff, ff, ff, ff, ff, ff, ff, ff, ff, ff, ff, ff, ff, ff, ff, ff, ff, ff, ff, ff, ff, ff, ff, ff, ff, tt, tt] (.seq .nil (.seq .nil (.seq (.keep [ff, ff, ff, ff, tt, tt, ff, ff, ff, ff, ff, ff, ff, tt, tt, tt, ff, ff, ff, ff, ff, ff, ff, ff, ff, ff, ff, ff, ff, ff, ff, ff, ff, ff, ff, ff, ff, ff, ff, ff, ff, ff, ff, ff, ff, ff, ff, ff, ff, ff, ff, ff, ff, ff, ff, ff, ff, ff, ff, ff, ff, ff, ff, ff, ff, ff, ff, tt, tt] (.seq .nil (.seq .nil (.seq .nil (.keep [ff, ff, ff, ff, tt, tt, ff, ff, ff, ff, ff, ff, ff, tt, tt, tt, ff, ff, ff, ff, ff, ff, ff, ff, ff, ff, ff, ff, ff, ff, ff, ff, ff, ff, ff, ff, ff, ff, ff, ff, ff, ff, ff, ff, ff, ff, ff, ff, ff, ff, ff, ff, ff, ff, ff, ff, ff, ff, ff, ff, ff, ff, ff, ff, ff, ff, ff, tt, tt] (.keep [ff, ff, ff, ff, tt, tt, ff, ff, ff, ff, ff, ff, ff, tt, tt, tt, tt, tt, ff, ff, ff, ff, ff, ff, ff, ff, ff, ff, ff, ff, ff, ff, ff, ff, ff, ff, ff, ff, ff, ff, ff, ff, ff, ff, ff, ff, ff, ff, ff, ff, ff, ff, ff, ff, ff, ff, ff, ff, ff, ff, ff, ff, ff, ff, ff, ff, ff, tt, tt] (.seq .nil (.seq (.keep [ff, ff, ff, ff, tt, tt, ff, ff, ff, ff, ff, ff, ff, tt, tt, tt, tt, tt, ff, ff, ff, ff, ff, ff, ff, ff, ff, ff, ff, ff, ff, ff, ff, ff, ff, ff, ff, ff, ff, ff, ff, ff, ff, ff, ff, ff, ff, ff, ff, ff, ff, ff, ff, ff, ff, ff, ff, ff, ff, ff, ff, ff, ff, ff, ff, ff, ff, tt, tt] .nil) .nil)))))))) .nil)))))))) .nil))) (.seq .nil (.seq .nil (.seq (.seq .nil (.keep [ff, ff, ff, ff, ff, ff, ff, ff, ff, ff, ff, ff, ff, ff, ff, ff, ff, ff, tt] (.keep [ff, ff, ff, ff, ff, tt, ff, ff, ff, ff, ff, tt, ff, tt, tt, ff, ff, ff, tt, tt, ff, ff, ff, ff, ff, ff, ff, ff, ff, ff, ff, ff, ff, ff, ff, ff, ff, ff, ff, ff, ff, ff, ff, ff, ff, ff, ff, ff, ff, ff, ff, ff, ff, ff, ff, ff, ff, ff, ff, ff, ff, ff, ff, ff, ff, ff, ff, ff, ff, ff, ff, ff, ff, ff, ff, ff, ff, ff, ff, ff, ff, ff, ff, ff, ff, ff, ff, ff, ff, ff, ff, ff, ff, ff, ff, ff, ff, ff, ff, ff, ff, ff, ff, ff, ff, ff, ff, ff, ff, ff, ff, ff, ff, ff, ff, ff, ff, ff, ff, ff, ff, ff, ff, ff, ff, ff, ff, ff, ff, ff, ff, ff, ff, ff, ff, tt, tt, tt] (.seq .nil (.seq .nil (.seq (.keep [ff, ff, ff, ff, ff, tt, ff, ff, ff, ff, ff, tt, ff, tt, tt, ff, ff, ff, tt, tt, ff, ff, ff, ff, ff, ff, ff, ff, ff, ff, ff, ff, ff, ff, ff, ff, ff, ff, ff, ff, ff, ff, ff, ff, ff, ff, ff, ff, ff, ff, ff, ff, ff, ff, ff, ff, ff, ff, ff, ff, ff, ff, ff, ff, ff, ff, ff, ff, ff, ff, ff, ff, ff, ff, ff, ff, ff, ff, ff, ff, ff, ff, ff, ff, ff, ff, ff, ff, ff, ff, ff, ff, ff, ff, ff, ff, ff, ff, ff, ff, ff, ff, ff, ff, ff, ff, ff, ff, ff, ff, ff, ff, ff, ff, ff, ff, ff, ff, ff, ff, ff, ff, ff, ff, ff, ff, ff, ff, ff, ff, ff, ff, ff, ff, ff, tt, tt, tt] (.seq .nil (.seq (.seq .nil (.keep [ff, ff, ff, ff, ff, tt, ff, ff, ff, ff, ff, tt, ff, tt, tt, ff, ff, ff, tt, tt, ff, tt, ff, ff, ff, ff, ff, ff, ff, ff, ff, ff, ff, ff, ff, ff, ff, ff, ff, ff, ff, ff, ff, ff, ff, ff, ff, ff, ff, ff, ff, ff, ff, ff, ff, ff, ff, ff, ff, ff, ff, ff, ff, ff, ff, ff, ff, ff, ff, ff, ff, ff, ff, ff, ff, ff, ff, ff, ff, ff, ff, ff, ff, ff, ff, ff, ff, ff, ff, ff, ff, ff, ff, ff, ff, ff, ff, ff, ff, ff, ff, ff, ff, ff, ff, ff, ff, ff, ff, ff, ff, ff, ff, ff, ff, ff, ff, ff, ff, ff, ff, ff, ff, ff, ff, ff, ff, ff, ff, ff, ff, ff, ff, ff, ff, tt, tt, tt] (.keep [ff, ff, ff, ff, ff, tt, ff, ff, ff, ff, ff, tt, ff, tt, tt, ff, ff, ff, tt, tt, tt, tt, ff, ff, ff, ff, ff, ff, ff, ff, ff, ff, ff, ff, ff, ff, ff, ff, ff, ff, ff, ff, ff, ff, ff, ff, ff, ff, ff, ff, ff, ff, ff, ff, ff, ff, ff, ff, ff, ff, ff, ff, ff, ff, ff, ff, ff, ff, ff, ff, ff, ff, ff, ff, ff, ff, ff, ff, ff, ff, ff, ff, ff, ff, ff, ff, ff, ff, ff, ff, ff, ff, ff, ff, ff, ff, ff, ff, ff, ff, ff, ff, ff, ff, ff, ff, ff, ff, ff, ff, ff, ff, ff, ff, ff, ff, ff, ff, ff, ff, ff, ff, ff, ff, ff, ff, ff, ff, ff, ff, ff, ff, ff, ff, ff, tt, tt, tt, ff, ff, ff, ff, ff, ff, ff, tt, tt, tt] (.seq .nil (.seq .nil (.seq (.keep [ff, ff, ff, ff, ff, tt, ff, ff, ff, ff, ff, tt, ff, tt, tt, ff, ff, ff, tt, tt, tt, tt, ff, ff, ff, ff, ff, ff, ff, ff, ff, ff, ff, ff, ff, ff, ff, ff, ff, ff, ff, ff, ff, ff, ff, ff, ff, ff, ff, ff, ff, ff, ff, ff, ff, ff, ff, ff, ff, ff, ff, ff, ff, ff, ff, ff, ff, ff, ff, ff, ff, ff, ff, ff, ff, ff, ff, ff, ff, ff, ff, ff, ff, ff, ff, ff, ff, ff, ff, ff, ff, ff, ff, ff, ff, ff, ff, ff, ff, ff, ff, ff, ff, ff, ff, ff, ff, ff, ff, ff, ff, ff, ff, ff, ff, ff, ff, ff, ff, ff, ff, ff, ff, ff, ff, ff, ff, ff, ff, ff, ff, ff, ff, ff, ff, tt, tt, tt, ff, ff, ff, ff, ff, ff, ff, tt, tt, tt] .nil) .nil)))))) .nil))) .nil)))))) .nil)))))))))) }
def pol43 : FPol := { ann := (.seq .nil (.seq (.seq .nil (.keep [] (.keep [ff, ff, tt, tt, ff, ff, ff, tt] (.seq .nil (.seq (.keep [ff, ff, tt, tt, ff, ff, ff, tt] (.seq .nil (.keep [ff, ff, tt, tt, ff, ff, ff, tt] (.keep [ff, ff, tt, tt, ff, ff, ff, tt, tt] (.seq .nil (.seq (.keep [ff, ff, tt, tt, ff, ff, ff, tt, tt] (.seq .nil (.seq (.seq .nil (.keep [ff, ff, tt, tt, ff, ff, ff, tt, tt, tt] (.keep [ff, ff, tt, tt, ff, ff, ff, tt, tt, tt, tt] (.seq .nil (.seq (.keep [ff, ff, tt, tt, ff, ff, ff, tt, tt, tt, tt] .nil) .nil))))) .nil))) .nil)))))) .nil))))) .nil)) }
def pol44 : FPol := { ann := (.seq .nil (.seq .nil (.seq .nil (.seq (.seq .nil (.keep [ff, ff, tt, tt, tt, tt, tt] (.keep [ff, ff, tt, tt, tt, tt, tt, tt] (.seq .nil (.seq (.keep [ff, ff, tt, tt, tt, tt, tt, tt] (.seq .nil (.keep [ff, ff, tt, tt, tt, tt, tt, tt] (.keep [ff, ff, tt, tt, tt, tt, tt, tt, tt] (.seq .nil (.seq (.keep [ff, ff, tt, tt, tt, tt, tt, tt, tt] .nil) .nil)))))) .nil))))) (.seq (.seq .nil (.keep [ff, ff, ff, ff, tt, tt, tt] (.keep [ff, ff, tt, tt, tt, tt, tt, ff, ff, tt] (.seq .nil (.seq (.keep [ff, ff, tt, tt, tt, tt, tt, ff, ff, tt] (.seq .nil (.keep [ff, ff, tt, tt, tt, tt, tt, ff, ff, tt] (.keep [ff, ff, tt, tt, tt, tt, tt, ff, ff, tt, tt] (.seq .nil (.seq (.keep [ff, ff, tt, tt, tt, tt, tt, ff, ff, tt, tt] .nil) .nil)))))) .nil))))) .nil))))) }
def pol45 : FPol := { ann := (.seq .nil (.seq .nil (.seq .nil (.seq (.seq .nil (.keep [ff, ff, tt, tt, tt, ff, ff, tt, tt] (.keep [ff, ff, tt, tt, tt, ff, ff, tt, tt, tt] (.seq .nil (.seq (.keep [ff, ff, tt, tt, tt, ff, ff, tt, tt, tt] (.seq .nil (.seq .nil (.keep [ff, ff, tt, tt, tt, ff, ff, tt, tt, tt] (.keep [ff, ff, tt, tt, tt, ff, ff, tt, tt, tt, tt] (.seq .nil (.seq (.keep [ff, ff, tt, tt, tt, ff, ff, tt, tt, tt, tt] (.seq .nil (.seq .nil (.keep [ff, ff, tt, tt, tt, ff, ff, tt, tt, tt, tt] (.keep [ff, ff, tt, tt, tt, ff, ff, tt, tt, tt, tt, tt] (.seq .nil (.seq (.keep [ff, ff, tt, tt, tt, ff, ff, tt, tt, tt, tt, tt] .nil) .nil))))))) .nil))))))) .nil))))) (.seq .nil (.seq .nil (.seq (.seq .nil (.keep [ff, ff, ff, ff, ff, ff, ff, ff, ff, ff, ff, ff, tt] (.keep [ff, ff, tt, tt, tt, ff, ff, tt, tt, ff, ff, ff, tt, tt, tt] (.seq .nil (.seq (.keep [ff, ff, tt, tt, tt, ff, ff, tt, tt, ff, ff, ff, tt, tt, tt] (.seq .nil (.keep [ff, ff, tt, tt, tt, ff, ff, tt, tt, ff, ff, ff, tt, tt, tt] (.keep [ff, ff, tt, tt, tt, ff, ff, tt, tt, ff, ff, ff, tt, tt, tt, tt] (.seq .nil (.seq (.keep [ff, ff, tt, tt, tt, ff, ff, tt, tt, ff, ff, ff, tt, tt, tt, tt] .nil) .nil)))))) .nil))))) .nil))))))) }
def pol46 : FPol := { ann := .nil }
def pol47 : FPol := { ann := .nil }
def pol48 : FPol := { ann := .nil, mixed := [9] }
def pol49 : FPol := { ann := .nil }
def pol50 : FPol := { ann := (.seq .nil (.seq .nil (.seq (.seq .nil (.keep [] (.keep [ff, ff, ff, ff, ff, ff, ff, ff, ff, ff, ff, ff, ff, ff, ff, ff, ff, ff, ff, ff, ff, ff, ff, ff, ff, ff, ff, ff, ff, ff, ff, ff, ff, ff, ff, ff, tt, tt, tt] (.seq .nil (.seq .nil (.seq (.keep [ff, ff, ff, ff, ff, ff, ff, ff, ff, ff, ff, ff, ff, ff, ff, ff, ff, ff, ff, ff, ff, ff, ff, ff, ff, ff, ff, ff, ff, ff, ff, ff, ff, ff, ff, ff, tt, tt, tt] .nil) .nil)))))) .nil))) }
def pol51 : FPol := { ann := (.seq .nil (.seq .nil (.seq (.seq .nil (.keep [ff, ff, tt, tt, tt, ff, tt] (.keep [ff, ff, tt, tt, tt, ff, tt, ff, ff, ff, tt, tt, tt] (.seq .nil (.seq .nil (.seq (.keep [ff, ff, tt, tt, tt, ff, tt, ff, ff, ff, tt, tt, tt] .nil) .nil)))))) .nil))), plain := [32] }
def pol52 : FPol := { ann := (.seq .nil (.seq .nil (.seq (.seq .nil (.keep [ff, ff, ff, tt] (.keep [tt, ff, ff, tt, tt] (.seq .nil (.seq (.keep [tt, ff, ff, tt, tt] .nil) .nil))))) .nil))) }
def pol53 : FPol := { ann := (.seq .nil (.seq (.seq .nil (.keep [] (.keep [ff, ff, ff, ff, ff, tt, tt, tt] (.seq .nil (.seq .nil (.seq (.keep [ff, ff, ff, ff, ff, tt, tt, tt] .nil) .nil)))))) .nil)) }
def pol54 : FPol := { ann := (.seq .nil (.seq .nil (.seq .nil (.seq .nil (.seq (.seq .nil (.keep [ff, ff, ff, ff, ff, ff, ff, tt] (.keep [ff, tt, tt, ff, ff, ff, ff, tt, ff, ff, ff, ff, ff, ff, ff, ff, ff, ff, ff, ff, ff, ff, ff, ff, ff, ff, ff, ff, ff, ff, ff, ff, ff, ff, ff, ff, tt, tt] (.seq .nil (.seq .nil (.seq (.keep [ff, tt, tt, ff, ff, ff, ff, tt, ff, ff, ff, ff, ff, ff, ff, ff, ff, ff, ff, ff, ff, ff, ff, ff, ff, ff, ff, ff, ff, ff, ff, ff, ff, ff, ff, ff, tt, tt] .nil) .nil)))))) .nil))))) }
def pol55 : FPol := { ann := .nil }
def pol56 : FPol := { ann := (.seq .nil (.seq .nil (.seq (.seq .nil (.keep [ff, tt] (.keep [ff, tt, ff, tt] (.seq .nil (.seq (.keep [ff, tt, ff, tt] .nil) .nil))))) (.seq (.seq .nil (.keep [] (.keep [ff, tt, ff, ff, tt] (.seq .nil (.seq (.keep [ff, tt, ff, ff, tt] .nil) .nil))))) .nil)))) }
def pol57 : FPol := { ann := .nil }
def pol58 : FPol := { ann := .nil }
def pol59 : FPol := { ann := .nil }
def pol60 : FPol := { ann := (.seq .nil (.seq .nil (.seq (.seq .nil (.keep [tt, tt, ff, ff, tt, tt] (.keep [tt, tt, ff, ff, tt, tt, tt] (.seq .nil (.seq (.keep [tt, tt, ff, ff, tt, tt, tt] .nil) .nil))))) (.seq (.seq .nil (.keep [tt, tt, ff, ff, tt, tt] (.keep [tt, tt, ff, ff, tt, tt, ff, tt] (.seq .nil (.keep [tt, tt, ff, ff, tt, tt, ff, tt] (.seq .nil (.seq .nil (.keep [tt, tt, ff, ff, tt, tt, ff, tt] (.keep [tt, tt, ff, ff, tt, tt, ff, tt, tt] (.seq .nil (.seq (.keep [tt, tt, ff, ff, tt, tt, ff, tt, tt] .nil) .nil))))))))))) (.seq .nil (.seq .nil (.seq (.seq .nil (.keep [tt, tt, ff, ff, tt, tt, ff, ff, ff, tt, tt] (.keep [tt, tt, ff, ff, tt, tt, ff, ff, ff, tt, tt, tt] (.seq .nil (.seq (.keep [tt, tt, ff, ff, tt, tt, ff, ff, ff, tt, tt, tt] .nil) .nil))))) (.seq (.seq .nil (.keep [ff, tt, ff, ff, tt, tt, ff, ff, ff, tt, tt] (.keep [tt, tt, ff, ff, tt, tt, ff, ff, ff, tt, tt, ff, tt] (.seq .nil (.seq (.keep [tt, tt, ff, ff, tt, tt, ff, ff, ff, tt, tt, ff, tt] .nil) .nil))))) (.seq (.seq .nil (.keep [ff, ff, ff, ff, tt, ff, ff, ff, ff, tt] (.keep [ff, tt, ff, ff, tt, tt, ff, ff, ff, tt, tt, ff, ff, tt] (.seq .nil (.seq (.keep [ff, tt, ff, ff, tt, tt, ff, ff, ff, tt, tt, ff, ff, tt] (.seq .nil (.keep [ff, tt, ff, ff, tt, tt, ff, ff, ff, tt, tt, ff, ff, tt] (.keep [ff, tt, ff, ff, tt, tt, ff, ff, ff, tt, tt, ff, ff, tt, tt] (.seq .nil (.seq (.keep [ff, tt, ff, ff, tt, tt, ff, ff, ff, tt, tt, ff, ff, tt, tt] (.seq .nil (.keep [ff, tt, ff, ff, tt, tt, ff, ff, ff, tt, tt, ff, ff, tt, tt] (.keep [ff, tt, ff, ff, tt, tt, ff, ff, ff, tt, tt, ff, ff, tt, tt, tt] (.seq .nil (.seq (.keep [ff, tt, ff, ff, tt, tt, ff, ff, ff, tt, tt, ff, ff, tt, tt, tt] .nil) .nil)))))) .nil)))))) .nil))))) .nil))))))))) }
def pol61 : FPol := { ann := .nil }
def pol62 : FPol := { ann := (.seq .nil (.seq (.seq .nil (.keep [] (.keep [tt, tt, ff, ff, ff, tt] (.seq .nil (.seq (.keep [tt, tt, ff, ff, ff, tt] .nil) .nil))))) .nil)) }
def pol63 : FPol := { ann := (.seq .nil (.seq (.seq .nil (.keep [] (.keep [ff, tt, tt, tt, ff, ff, ff, tt] (.seq .nil (.seq (.keep [ff, tt, tt, tt, ff, ff, ff, tt] .nil) .nil))))) .nil)) }
def pol64 : FPol := { ann := (.seq .nil (.seq (.seq .nil (.keep [] (.keep [ff, tt, tt, tt, ff, ff, ff, tt] (.seq .nil (.seq (.keep [ff, tt, tt, tt, ff, ff, ff, tt] .nil) .nil))))) .nil)) }
def pol65 : FPol := { ann := .nil }
def pol66 : FPol := { ann := (.seq .nil (.seq .nil (.seq (.seq .nil (.keep [ff, ff, tt, tt, tt, ff, tt] (.keep [ff, ff, tt, tt, tt, ff, tt, ff, ff, ff, tt, tt, tt] (.seq .nil (.seq .nil (.seq (.keep [ff, ff, tt, tt, tt, ff, tt, ff, ff, ff, tt, tt, tt] .nil) .nil)))))) .nil))), plain := [27] }
def pol67 : FPol := { ann := (.seq .nil (.seq .nil (.seq .nil (.seq .nil (.seq (.seq .nil (.keep [ff, tt, ff, ff, tt, tt] (.keep [ff, tt, ff, ff, tt, tt, tt] (.seq .nil (.seq (.keep [ff, tt, ff, ff, tt, tt, tt] .nil) .nil))))) .nil))))) }
def pol68 : FPol := { ann := .nil }
def pol69 : FPol := { ann := (.seq .nil (.seq (.seq .nil (.keep [tt, tt] (.keep [tt, tt, ff, ff, ff, tt] (.seq .nil (.seq (.keep [tt, tt, ff, ff, ff, tt] .nil) .nil))))) .nil)) }
def pol70 : FPol := { ann := (.seq .nil (.seq (.seq .nil (.keep [] (.keep [ff, tt, tt, tt, ff, ff, ff, tt] (.seq .nil (.seq (.keep [ff, tt, tt, tt, ff, ff, ff, tt] .nil) .nil))))) .nil)) }
def pol71 : FPol := { ann := (.seq .nil (.seq .nil (.seq (.seq .nil (.keep [] (.keep [ff, ff, ff, tt, ff, ff, ff, ff, ff, ff, ff, ff, ff, ff, ff, ff, ff, ff, ff, ff, ff, ff, ff, ff, ff, ff, ff, ff, ff, ff, ff, tt, tt, tt] (.seq .nil (.seq .nil (.seq (.keep [ff, ff, ff, tt, ff, ff, ff, ff, ff, ff, ff, ff, ff, ff, ff, ff, ff, ff, ff, ff, ff, ff, ff, ff, ff, ff, ff, ff, ff, ff, ff, tt, tt, tt] (.seq .nil (.seq .nil (.keep [ff, ff, ff, tt, ff, ff, ff, ff, ff, ff, ff, ff, ff, ff, ff, ff, ff, ff, ff, ff, ff, ff, ff, ff, ff, ff, ff, ff, ff, ff, ff, tt, tt, tt] (.keep [ff, ff, ff, tt, ff, ff, ff, tt, ff, ff, ff, ff, ff, ff, ff, ff, ff, ff, ff, ff, ff, ff, ff, ff, ff, ff, ff, ff, ff, ff, ff, tt, tt, tt, ff, ff, ff, tt, tt, tt] (.seq .nil (.seq .nil (.seq (.keep [ff, ff, ff, tt, ff, ff, ff, tt, ff, ff, ff, ff, ff, ff, ff, ff, ff, ff, ff, ff, ff, ff, ff, ff, ff, ff, ff, ff, ff, ff, ff, tt, tt, tt, ff, ff, ff, tt, tt, tt] .nil) .nil)))))))) .nil)))))) .nil))) }
def pol72 : FPol := { ann := (.seq .nil (.seq (.seq .nil (.keep [] (.keep [ff, tt, ff, ff, ff, ff, ff, ff, ff, tt, tt, tt] (.seq .nil (.seq .nil (.seq (.keep [ff, tt, ff, ff, ff, ff, ff, ff, ff, tt, tt, tt] (.seq .nil (.seq .nil (.keep [ff, tt, ff, ff, ff, ff, ff, ff, ff, tt, tt, tt] (.keep [ff, tt, ff, ff, ff, tt, tt, ff, ff, tt, tt, tt, ff, ff, ff, ff, ff, tt, tt] (.seq .nil (.seq .nil (.seq (.keep [ff, tt, ff, ff, ff, tt, tt, ff, ff, tt, tt, tt, ff, ff, ff, ff, ff, tt, tt] .nil) .nil)))))))) .nil)))))) .nil)) }
def pol73 : FPol := { ann := .nil }
def pol74 : FPol := { ann := (.seq .nil (.seq .nil (.seq (.seq .nil (.keep [ff, ff, tt, tt, tt, ff, tt] (.keep [ff, ff, tt, tt, tt, ff, tt, ff, ff, ff, ff, tt, tt, tt] (.seq .nil (.seq .nil (.seq (.keep [ff, ff, tt, tt, tt, ff, tt, ff, ff, ff, ff, tt, tt, tt] (.seq .nil (.seq .nil (.keep [ff, ff, tt, tt, tt, ff, tt, ff, ff, ff, ff, tt, tt, tt] (.keep [ff, ff, tt, tt, tt, ff, tt, ff, tt, ff, ff, tt, tt, tt, ff, ff, ff, ff, tt, tt] (.seq .nil (.seq .nil (.seq (.keep [ff, ff, tt, tt, tt, ff, tt, ff, tt, ff, ff, tt, tt, tt, ff, ff, ff, ff, tt, tt] .nil) .nil)))))))) .nil)))))) .nil))) }
def pol75 : FPol := { ann := (.seq .nil (.seq (.seq .nil (.keep [] (.keep [tt, tt, ff, ff, ff, tt, ff, ff, tt, tt, ff, ff, ff, ff, tt, tt, tt] (.seq .nil (.seq .nil (.seq (.keep [tt, tt, ff, ff, ff, tt, ff, ff, tt, tt, ff, ff, ff, ff, tt, tt, tt] .nil) .nil)))))) .nil)) }
def pol76 : FPol := { ann := .nil }
def pol77 : FPol := { ann := .nil }
def pol78 : FPol := { ann := .nil }
def pol79 : FPol := { ann := (.seq .nil (.seq (.seq .nil (.keep [] (.keep [ff, tt, tt, tt, tt, ff, ff, ff, ff, tt] (.seq .nil (.seq (.keep [ff, tt, tt, tt, tt, ff, ff, ff, ff, tt] .nil) .nil))))) .nil)) }
def pol80 : FPol := { ann := (.seq .nil (.seq (.seq .nil (.keep [] (.keep [ff, ff, ff, ff, tt, tt, tt, tt, ff, tt] (.seq .nil (.seq (.keep [ff, ff, ff, ff, tt, tt, tt, tt, ff, tt] .nil) .nil))))) .nil)) }
def pol81 : FPol := { ann := .nil }
def pol82 : FPol := { ann := .nil }
def pol83 : FPol := { ann := (.seq .nil (.seq .nil (.seq (.seq .nil (.keep [ff, ff, ff, ff, ff, tt] (.keep [ff, tt, tt, tt, ff, tt, ff, ff, ff, ff, ff, tt, tt, tt] (.seq .nil (.seq .nil (.seq (.keep [ff, tt, tt, tt, ff, tt, ff, ff, ff, ff, ff, tt, tt, tt] .nil) .nil)))))) .nil))) }
def pol84 : FPol := { ann := (.seq .nil (.seq .nil (.seq (.seq .nil (.keep [ff, ff, ff, ff, ff, tt] (.keep [ff, tt, ff, ff, ff, tt, ff, ff, ff, tt, tt, tt] (.seq .nil (.seq .nil (.seq (.keep [ff, tt, ff, ff, ff, tt, ff, ff, ff, tt, tt, tt] .nil) .nil)))))) .nil))) }
def pol85 : FPol := { ann := (.seq .nil (.seq .nil (.seq .nil (.seq .nil (.seq (.seq .nil (.keep [ff, tt, tt, ff, tt, tt, tt] (.keep [ff, tt, tt, ff, tt, tt, tt, ff, ff, ff, ff, ff, ff, ff, ff, ff, ff, ff, ff, ff, ff, ff, ff, ff, tt, tt, tt] (.seq .nil (.seq .nil (.seq (.keep [ff, tt, tt, ff, tt, tt, tt, ff, ff, ff, ff, ff, ff, ff, ff, ff, ff, ff, ff, ff, ff, ff, ff, ff, tt, tt, tt] .nil) .nil)))))) (.seq (.seq .nil (.keep [ff, tt, tt, ff, tt, tt] (.keep [ff, tt, tt, ff, tt, tt, tt, ff, ff, tt] (.seq .nil (.seq (.keep [ff, tt, tt, ff, tt, tt, tt, ff, ff, tt] (.seq .nil (.keep [ff, tt, tt, ff, tt, tt, tt, ff, ff, tt] (.keep [ff, tt, tt, ff, tt, tt, tt, ff, ff, tt, ff, ff, ff, ff, ff, ff, ff, ff, ff, ff, ff, ff, ff, ff, ff, ff, ff, ff, ff, ff, ff, ff, ff, ff, ff, ff, ff, ff, ff, ff, ff, ff, ff, ff, ff, ff, tt, tt, tt] (.seq .nil (.seq .nil (.seq (.keep [ff, tt, tt, ff, tt, tt, tt, ff, ff, tt, ff, ff, ff, ff, ff, ff, ff, ff, ff, ff, ff, ff, ff, ff, ff, ff, ff, ff, ff, ff, ff, ff, ff, ff, ff, ff, ff, ff, ff, ff, ff, ff, ff, ff, ff, ff, tt, tt, tt] .nil) .nil))))))) .nil))))) (.seq .nil (.seq (.seq .nil (.keep [ff, tt, tt, ff, tt, tt] (.keep [ff, tt, tt, ff, tt, tt, ff, ff, ff, ff, ff, ff, ff, ff, ff, ff, ff, ff, ff, ff, ff, ff, ff, ff, ff, ff, ff, ff, ff, ff, ff, ff, ff, ff, ff, ff, ff, ff, ff, ff, ff, ff, ff, ff, ff, ff, ff, ff, ff, ff, ff, ff, ff, ff, ff, ff, ff, ff, ff, tt, tt, tt] (.seq .nil (.seq .nil (.seq (.keep [ff, tt, tt, ff, tt, tt, ff, ff, ff, ff, ff, ff, ff, ff, ff, ff, ff, ff, ff, ff, ff, ff, ff, ff, ff, ff, ff, ff, ff, ff, ff, ff, ff, ff, ff, ff, ff, ff, ff, ff, ff, ff, ff, ff, ff, ff, ff, ff, ff, ff, ff, ff, ff, ff, ff, ff, ff, ff, ff, tt, tt, tt] .nil) .nil)))))) (.seq .nil (.seq (.seq .nil (.keep [ff, tt, tt, ff, tt, tt] (.keep [ff, tt, tt, ff, tt, tt, ff, ff, ff, ff, ff, ff, ff, ff, ff, ff, ff, ff, ff, ff, ff, ff, ff, ff, ff, ff, ff, ff, ff, ff, ff, ff, ff, ff, ff, ff, ff, ff, ff, ff, ff, ff, ff, ff, ff, ff, ff, ff, ff, ff, ff, ff, ff, ff, ff, ff, ff, ff, ff, ff, ff, ff, ff, ff, ff, ff, ff, ff, ff, ff, ff, ff, ff, ff, ff, ff, ff, ff, ff, ff, ff, ff, ff, ff, ff, ff, ff, ff, ff, ff, ff, ff, ff, ff, ff, tt, tt, tt] (.seq .nil (.seq .nil (.seq (.keep [ff, tt, tt, ff, tt, tt, ff, ff, ff, ff, ff, ff, ff, ff, ff, ff, ff, ff, ff, ff, ff, ff, ff, ff, ff, ff, ff, ff, ff, ff, ff, ff, ff, ff, ff, ff, ff, ff, ff, ff, ff, ff, ff, ff, ff, ff, ff, ff, ff, ff, ff, ff, ff, ff, ff, ff, ff, ff, ff, ff, ff, ff, ff, ff, ff, ff, ff, ff, ff, ff, ff, ff, ff, ff, ff, ff, ff, ff, ff, ff, ff, ff, ff, ff, ff, ff, ff, ff, ff, ff, ff, ff, ff, ff, ff, tt, tt, tt] .nil) .nil)))))) (.seq .nil (.seq .nil (.seq (.seq .nil (.keep [ff, ff, tt, ff, tt, tt] (.keep [ff, tt, tt, ff, tt, tt, ff, ff, ff, ff, ff, ff, ff, ff, ff, ff, ff, ff, ff, ff, ff, ff, ff, ff, ff, ff, ff, ff, ff, ff, ff, ff, ff, ff, ff, ff, ff, ff, ff, ff, ff, ff, ff, ff, ff, ff, ff, ff, ff, ff, ff, ff, ff, ff, ff, ff, ff, ff, ff, ff, ff, ff, ff, ff, ff, ff, ff, ff, ff, ff, ff, ff, ff, ff, ff, ff, ff, ff, ff, ff, ff, ff, ff, ff, ff, ff, ff, ff, ff, ff, ff, ff, ff, ff, ff, ff, ff, ff, ff, ff, ff, ff, ff, ff, ff, ff, ff, ff, ff, ff, ff, ff, ff, ff, ff, ff, ff, ff, ff, ff, ff, ff, ff, ff, ff, ff, ff, ff, tt, tt, tt] (.seq .nil (.seq .nil (.seq (.keep [ff, tt, tt, ff, tt, tt, ff, ff, ff, ff, ff, ff, ff, ff, ff, ff, ff, ff, ff, ff, ff, ff, ff, ff, ff, ff, ff, ff, ff, ff, ff, ff, ff, ff, ff, ff, ff, ff, ff, ff, ff, ff, ff, ff, ff, ff, ff, ff, ff, ff, ff, ff, ff, ff, ff, ff, ff, ff, ff, ff, ff, ff, ff, ff, ff, ff, ff, ff, ff, ff, ff, ff, ff, ff, ff, ff, ff, ff, ff, ff, ff, ff, ff, ff, ff, ff, ff, ff, ff, ff, ff, ff, ff, ff, ff, ff, ff, ff, ff, ff, ff, ff, ff, ff, ff, ff, ff, ff, ff, ff, ff, ff, ff, ff, ff, ff, ff, ff, ff, ff, ff, ff, ff, ff, ff, ff, ff, ff, tt, tt, tt] (.seq .nil (.seq .nil (.keep [ff, tt, tt, ff, tt, tt, ff, ff, ff, ff, ff, ff, ff, ff, ff, ff, ff, ff, ff, ff, ff, ff, ff, ff, ff, ff, ff, ff, ff, ff, ff, ff, ff, ff, ff, ff, ff, ff, ff, ff, ff, ff, ff, ff, ff, ff, ff, ff, ff, ff, ff, ff, ff, ff, ff, ff, ff, ff, ff, ff, ff, ff, ff, ff, ff, ff, ff, ff, ff, ff, ff, ff, ff, ff, ff, ff, ff, ff, ff, ff, ff, ff, ff, ff, ff, ff, ff, ff, ff, ff, ff, ff, ff, ff, ff, ff, ff, ff, ff, ff, ff, ff, ff, ff, ff, ff, ff, ff, ff, ff, ff, ff, ff, ff, ff, ff, ff, ff, ff, ff, ff, ff, ff, ff, ff, ff, ff, ff, tt, tt, tt] (.keep [ff, tt, tt, ff, tt, tt, ff, ff, ff, ff, ff, ff, ff, ff, ff, ff, tt, ff, ff, ff, ff, ff, ff, ff, ff, ff, ff, ff, ff, ff, ff, ff, ff, ff, ff, ff, ff, ff, ff, ff, ff, ff, ff, ff, ff, ff, ff, ff, ff, ff, ff, ff, ff, ff, ff, ff, ff, ff, ff, ff, ff, ff, ff, ff, ff, ff, ff, ff, ff, ff, ff, ff, ff, ff, ff, ff, ff, ff, ff, ff, ff, ff, ff, ff, ff, ff, ff, ff, ff, ff, ff, ff, ff, ff, ff, ff, ff, ff, ff, ff, ff, ff, ff, ff, ff, ff, ff, ff, ff, ff, ff, ff, ff, ff, ff, ff, ff, ff, ff, ff, ff, ff, ff, ff, ff, ff, ff, ff, tt, tt, tt, ff, ff, ff, ff, ff, ff, ff, tt, tt, tt] (.seq .nil (.seq .nil (.seq (.keep [ff, tt, tt, ff, tt, tt, ff, ff, ff, ff, ff, ff, ff, ff, ff, ff, tt, ff, ff, ff, ff, ff, ff, ff, ff, ff, ff, ff, ff, ff, ff, ff, ff, ff, ff, ff, ff, ff, ff, ff, ff, ff, ff, ff, ff, ff, ff, ff, ff, ff, ff, ff, ff, ff, ff, ff, ff, ff, ff, ff, ff, ff, ff, ff, ff, ff, ff, ff, ff, ff, ff, ff, ff, ff, ff, ff, ff, ff, ff, ff, ff, ff, ff, ff, ff, ff, ff, ff, ff, ff, ff, ff, ff, ff, ff, ff, ff, ff, ff, ff, ff, ff, ff, ff, ff, ff, ff, ff, ff, ff, ff, ff, ff, ff, ff, ff, ff, ff, ff, ff, ff, ff, ff, ff, ff, ff, ff, ff, tt, tt, tt, ff, ff, ff, ff, ff, ff, ff, tt, tt, tt] .nil) .nil)))))))) .nil)))))) .nil))))))))))))), plain := [32, 55, 58, 119, 124, 168], mixed := [110, 158], rload := [81], sload := [79], pbuild := [82] }
def pol86 : FPol := { ann := .nil }
def pol87 : FPol := { ann := .nil }
def pol88 : FPol := { ann := .nil }
def pol89 : FPol := { ann := .nil }
def pol90 : FPol := { ann := (.seq .nil (.seq (.seq .nil (.keep [] (.keep [tt, tt, ff, ff, ff, ff, ff, tt, tt] (.seq .nil (.seq .nil (.seq (.keep [tt, tt, ff, ff, ff, ff, ff, tt, tt] .nil) .nil)))))) .nil)) }
def pol91 : FPol := { ann := .nil }
def pol92 : FPol := { ann := .nil }
def pol93 : FPol := { ann := (.seq .nil (.seq .nil (.seq (.seq .nil (.keep [] (.keep [ff, ff, tt, tt, ff, tt] (.seq .nil (.seq (.keep [ff, ff, tt, tt, ff, tt] .nil) .nil))))) .nil))) }
def pol94 : FPol := { ann := (.seq .nil (.seq (.seq .nil (.keep [] (.keep [tt, ff, ff, tt, ff, tt] (.seq .nil (.seq (.keep [tt, ff, ff, tt, ff, tt] .nil) .nil))))) .nil)) }
def pol95 : FPol := { ann := (.seq .nil (.seq .nil (.seq .nil (.seq (.seq .nil (.keep [ff, ff, ff, ff, ff, tt] (.keep [ff, tt, tt, tt, ff, tt, ff, ff, ff, ff, ff, ff, ff, ff, ff, ff, ff, ff, ff, ff, ff, ff, ff, ff, tt, tt, tt] (.seq .nil (.seq .nil (.seq (.keep [ff, tt, tt, tt, ff, tt, ff, ff, ff, ff, ff, ff, ff, ff, ff, ff, ff, ff, ff, ff, ff, ff, ff, ff, tt, tt, tt] (.seq .nil (.seq .nil (.seq .nil (.keep [ff, tt, tt, tt, ff, tt, ff, ff, ff, ff, ff, ff, ff, ff, ff, ff, ff, ff, ff, ff, ff, ff, ff, ff, tt, tt, tt] .nil))))) .nil)))))) .nil)))) }
def pol96 : FPol := { ann := (.seq .nil (.seq .nil (.seq .nil (.seq (.seq .nil (.keep [ff, tt, ff, tt, tt] (.keep [ff, tt, ff, tt, tt, ff, ff, ff, ff, ff, ff, ff, ff, ff, ff, ff, ff, ff, ff, ff, tt, tt, tt] (.seq .nil (.seq .nil (.seq (.keep [ff, tt, ff, tt, tt, ff, ff, ff, ff, ff, ff, ff, ff, ff, ff, ff, ff, ff, ff, ff, tt, tt, tt] .nil) .nil)))))) (.seq (.seq .nil (.keep [ff, ff, ff, ff, tt] (.keep [ff, tt, ff, tt, tt, ff, ff, ff, ff, ff, ff, ff, ff, ff, ff, ff, ff, ff, ff, ff, ff, ff, ff, ff, ff, ff, ff, ff, ff, ff, ff, ff, ff, ff, ff, ff, ff, ff, ff, ff, ff, ff, ff, ff, ff, ff, ff, ff, ff, tt, tt, tt] (.seq .nil (.seq .nil (.seq (.keep [ff, tt, ff, tt, tt, ff, ff, ff, ff, ff, ff, ff, ff, ff, ff, ff, ff, ff, ff, ff, ff, ff, ff, ff, ff, ff, ff, ff, ff, ff, ff, ff, ff, ff, ff, ff, ff, ff, ff, ff, ff, ff, ff, ff, ff, ff, ff, ff, ff, tt, tt, tt] .nil) .nil)))))) .nil))))) }
def pol97 : FPol := { ann := .nil }
def pol98 : FPol := { ann := (.seq .nil (.seq .nil (.seq (.seq .nil (.keep [ff, ff, ff, tt] (.keep [ff, ff, ff, tt, ff, ff, tt, tt, tt] (.seq .nil (.seq .nil (.seq (.keep [ff, ff, ff, tt, ff, ff, tt, tt, tt] .nil) .nil)))))) .nil))) }
def pol99 : FPol := { ann := .nil }
def pol100 : FPol := { ann := .nil }
def pol101 : FPol := { ann := .nil }
def pol102 : FPol := { ann := (.seq .nil (.seq (.seq .nil (.keep [tt, tt] (.keep [tt, tt, ff, ff, ff, ff, ff, ff, ff, tt, tt, tt] (.seq .nil (.seq .nil (.seq (.keep [tt, tt, ff, ff, ff, ff, ff, ff, ff, tt, tt, tt] .nil) .nil)))))) .nil)) }
def pol103 : FPol := { ann := .nil }
def pol104 : FPol := { ann := (.seq .nil (.seq .nil (.seq (.seq .nil (.keep [ff, ff, ff, ff, ff, tt] (.keep [ff, tt, tt, tt, ff, tt, ff, ff, ff, ff, ff, ff, ff, tt, tt, tt] (.seq .nil (.seq .nil (.seq (.keep [ff, tt, tt, tt, ff, tt, ff, ff, ff, ff, ff, ff, ff, tt, tt, tt] (.seq .nil (.seq .nil (.keep [ff, tt, tt, tt, ff, tt, ff, ff, ff, ff, ff, ff, ff, tt, tt, tt] (.keep [ff, tt, tt, tt, ff, tt, ff, tt, ff, ff, ff, ff, ff, tt, tt, tt, ff, ff, ff, ff, ff, ff, ff, tt, tt, tt] (.seq .nil (.seq .nil (.seq (.keep [ff, tt, tt, tt, ff, tt, ff, tt, ff, ff, ff, ff, ff, tt, tt, tt, ff, ff, ff, ff, ff, ff, ff, tt, tt, tt] .nil) .nil)))))))) .nil)))))) .nil))) }
def pol105 : FPol := { ann := (.seq .nil (.seq (.seq .nil (.keep [] (.keep [tt, tt, ff, ff, ff, ff, ff, tt, tt] (.seq .nil (.seq .nil (.seq (.keep [tt, tt, ff, ff, ff, ff, ff, tt, tt] .nil) .nil)))))) .nil)) }
def pol106 : FPol := { ann := (.seq .nil (.keep [] (.keep [tt, tt, ff, tt] (.seq .nil (.seq (.keep [tt, tt, ff, tt] .nil) .nil))))) }
def pol107 : FPol := { ann := .nil }
def pol108 : FPol := { ann := .nil }
def pol109 : FPol := { ann := .nil }
def pol110 : FPol := { ann := .nil, mixed := [21] }
def pol111 : FPol := { ann := .nil, plain := [13] }
def pol112 : FPol := { ann := .nil }
def pol113 : FPol := { ann := .nil, plain := [10] }
def pol114 : FPol := { ann := (.seq .nil (.seq .nil (.seq (.seq .nil (.keep [tt] (.keep [tt, ff, ff, tt] (.seq .nil (.seq (.keep [tt, ff, ff, tt] (.seq .nil (.seq (.seq .nil (.seq (.seq .nil (.keep [tt, ff, ff, tt] (.keep [tt, ff, ff, tt, tt, tt] (.seq .nil (.seq (.keep [tt, ff, ff, tt, tt, tt] .nil) .nil))))) .nil)) .nil))) .nil))))) .nil))) }
def pol115 : FPol := { ann := .nil, plain := [4, 6] }
def pol116 : FPol := { ann := (.seq .nil (.seq (.seq .nil (.keep [] (.keep [tt, tt, ff, ff, ff, ff, ff, tt, tt] (.seq .nil (.seq .nil (.seq (.keep [tt, tt, ff, ff, ff, ff, ff, tt, tt] .nil) .nil)))))) .nil)) }
def pol117 : FPol := { ann := (.seq .nil (.seq (.seq .nil (.keep [] (.keep [tt, tt, ff, ff, ff, ff, ff, tt, tt] (.seq .nil (.seq .nil (.seq (.keep [tt, tt, ff, ff, ff, ff, ff, tt, tt] .nil) .nil)))))) .nil)) }
def pol118 : FPol := { ann := .nil }
def pol119 : FPol := { ann := .nil }
def pol120 : FPol := { ann := .nil }
def pol121 : FPol := { ann := (.seq .nil (.seq .nil (.keep [] (.keep [tt, tt, tt, tt, tt, ff, ff, ff, ff, ff, tt, tt] (.keep [tt, tt, tt, tt, tt, ff, ff, ff, ff, ff, tt, tt] .nil))))), plain := [30, 37, 44, 52, 61, 80, 103, 111, 134, 146] }
def pol122 : FPol := { ann := .nil }
def pol123 : FPol := { ann := (.seq .nil (.seq .nil (.keep [] (.keep [tt, tt, tt, tt, ff, ff, ff, ff, tt, tt] (.keep [tt, tt, tt, tt, ff, ff, ff, ff, tt, tt] .nil))))), plain := [27, 33, 39, 46, 54, 72, 92, 99, 121, 132] }
def pol124 : FPol := { ann := .nil, plain := [13] }
def pol125 : FPol := { ann := (.seq .nil (.seq .nil (.seq (.seq .nil (.keep [tt] (.keep [tt, ff, ff, tt] (.seq .nil (.seq (.keep [tt, ff, ff, tt] (.seq .nil (.seq (.seq .nil (.seq (.seq .nil (.keep [tt, ff, ff, tt] (.keep [tt, ff, ff, tt, tt, tt] (.seq .nil (.seq (.keep [tt, ff, ff, tt, tt, tt] .nil) .nil))))) .nil)) .nil))) .nil))))) .nil))) }
def pol126 : FPol := { ann := (.seq .nil (.keep [] (.keep [tt, tt, tt, tt, ff, ff, ff, ff, tt] (.seq .nil (.seq (.keep [tt, tt, tt, tt, ff, ff, ff, ff, tt] (.seq .nil (.keep [tt, tt, tt, tt, ff, ff, ff, ff, tt] (.keep [tt, tt, tt, tt, ff, ff, ff, ff, tt, tt] (.seq .nil (.seq (.keep [tt, tt, tt, tt, ff, ff, ff, ff, tt, tt] .nil) .nil)))))) .nil))))) }
def pol127 : FPol := { ann := (.seq .nil (.seq .nil (.seq .nil (.seq (.seq .nil (.keep [tt, ff, ff, tt, ff, ff, ff, ff, tt, tt, tt] (.keep [tt, ff, ff, tt, ff, ff, ff, ff, tt, tt, tt, tt] (.seq .nil (.seq (.keep [tt, ff, ff, tt, ff, ff, ff, ff, tt, tt, tt, tt] .nil) .nil))))) (.seq .nil (.keep [] (.keep [tt, ff, ff, tt, ff, ff, ff, ff, tt, tt, ff, ff, tt] (.seq .nil (.seq (.keep [tt, ff, ff, tt, ff, ff, ff, ff, tt, tt, ff, ff, tt] .nil) .nil))))))))), plain := [29, 59] }
def pol128 : FPol := { ann := (.seq .nil (.seq .nil (.seq (.seq .nil (.seq .nil (.seq .nil (.keep [] (.keep [tt, tt, ff, ff, ff, ff, ff, ff, tt, tt, tt, tt] (.seq .nil (.seq (.keep [tt, tt, ff, ff, ff, ff, ff, ff, tt, tt, tt, tt] .nil) .nil))))))) .nil))), plain := [38] }
def pol129 : FPol := { ann := (.seq .nil (.seq .nil (.seq .nil (.seq .nil (.seq .nil (.seq .nil (.seq .nil (.seq .nil (.keep [ff, ff, ff, ff, ff, ff, ff, ff, tt, tt] .nil))))))))), plain := [40, 44, 48, 54] }
def pol130 : FPol := { ann := (.seq .nil (.seq .nil (.keep [] (.keep [tt, ff, ff, ff, ff, ff, ff, ff, tt, tt] (.seq .nil (.keep [tt, ff, ff, ff, ff, ff, ff, ff, tt, tt] .nil)))))) }
def pol131 : FPol := { ann := (.seq .nil (.seq .nil (.seq (.seq .nil (.keep [] (.keep [tt, tt, tt, tt, ff, ff, ff, ff, ff, tt, tt] (.seq .nil (.seq (.keep [tt, tt, tt, tt, ff, ff, ff, ff, ff, tt, tt] (.seq (.keep [tt, tt, tt, tt, ff, ff, ff, ff, ff, tt, tt] (.keep [tt, tt, tt, tt, ff, ff, ff, ff, ff, tt, tt] (.seq .nil (.keep [tt, tt, tt, tt, ff, ff, ff, ff, ff, tt, tt] .nil)))) (.seq .nil (.seq .nil (.seq .nil (.seq (.seq .nil (.seq (.seq .nil (.keep [tt, tt, tt, tt, ff, ff, ff, ff, ff, tt, tt] (.keep [tt, tt, tt, tt, ff, ff, ff, ff, ff, tt, tt, tt] (.seq .nil (.seq (.keep [tt, tt, tt, tt, ff, ff, ff, ff, ff, tt, tt, tt] .nil) .nil))))) .nil)) (.seq .nil (.seq (.seq .nil (.keep [tt, tt, tt, tt, ff, ff, ff, ff, ff, tt, tt] (.keep [tt, tt, tt, tt, ff, ff, ff, ff, ff, tt, tt, ff, tt] (.seq .nil (.seq (.keep [tt, tt, tt, tt, ff, ff, ff, ff, ff, tt, tt, ff, tt] .nil) .nil))))) .nil)))))))) .nil))))) .nil))) }
def pol132 : FPol := { ann := (.seq .nil (.seq .nil (.seq .nil (.seq (.keep [ff, ff, ff, ff, ff, ff, ff, ff, ff, ff, ff, tt] (.keep [tt, tt, ff, ff, tt, ff, ff, ff, ff, ff, ff, tt, tt] (.keep [tt, tt, ff, ff, tt, ff, ff, ff, ff, ff, ff, tt, tt] (.seq (.keep [tt, tt, ff, ff, tt, ff, ff, ff, ff, ff, ff, tt, tt] (.keep [tt, tt, ff, ff, tt, ff, ff, ff, ff, ff, ff, tt, tt] (.seq .nil (.keep [tt, tt, ff, ff, tt, ff, ff, ff, ff, ff, ff, tt, tt] .nil)))) (.seq (.keep [tt, tt, ff, ff, tt, ff, ff, ff, ff, ff, ff, tt, tt] (.keep [tt, tt, ff, ff, tt, ff, ff, ff, ff, ff, ff, tt, tt] (.seq .nil (.keep [tt, tt, ff, ff, tt, ff, ff, ff, ff, ff, ff, tt, tt] .nil)))) .nil))))) .nil)))) }
def pol133 : FPol := { ann := (.seq .nil (.seq .nil (.seq .nil (.seq (.keep [tt, tt, ff, ff, tt, ff, ff, ff, ff, ff, ff, ff, tt, tt] (.keep [tt, tt, ff, ff, tt, ff, ff, ff, ff, ff, ff, ff, tt, tt] (.seq .nil (.keep [tt, tt, ff, ff, tt, ff, ff, ff, ff, ff, ff, ff, tt, tt] .nil)))) (.seq (.keep [tt, tt, ff, ff, tt, ff, ff, ff, ff, ff, ff, ff, tt, tt] (.keep [tt, tt, ff, ff, tt, ff, ff, ff, ff, ff, ff, ff, tt, tt] (.seq .nil (.keep [tt, tt, ff, ff, tt, ff, ff, ff, ff, ff, ff, ff, tt, tt] .nil)))) (.seq .nil (.seq .nil (.seq .nil (.seq .nil (.seq (.keep [tt, tt, ff, ff, ff, ff, ff, ff, ff, ff, ff, ff, ff, tt] (.keep [tt, tt, ff, ff, tt, ff, ff, ff, ff, ff, ff, ff, tt, tt] (.keep [tt, tt, ff, ff, tt, ff, ff, ff, ff, ff, ff, ff, tt, tt] (.seq (.keep [tt, tt, ff, ff, tt, ff, ff, ff, ff, ff, ff, ff, tt, tt] (.keep [tt, tt, ff, ff, tt, ff, ff, ff, ff, ff, ff, ff, tt, tt] (.seq .nil (.keep [tt, tt, ff, ff, tt, ff, ff, ff, ff, ff, ff, ff, tt, tt] .nil)))) (.seq (.keep [tt, tt, ff, ff, tt, ff, ff, ff, ff, ff, ff, ff, tt, tt] (.keep [tt, tt, ff, ff, tt, ff, ff, ff, ff, ff, ff, ff, tt, tt] (.seq .nil (.keep [tt, tt, ff, ff, tt, ff, ff, ff, ff, ff, ff, ff, tt, tt] .nil)))) .nil))))) .nil)))))))))) }
def pol134 : FPol := { ann := .nil }
def pol135 : FPol := { ann := .nil }
def pol136 : FPol := { ann := (.seq .nil (.keep [] (.keep [tt, tt, tt, ff, ff, ff, tt] (.seq .nil (.seq (.keep [tt, tt, tt, ff, ff, ff, tt] (.seq .nil (.keep [tt, tt, tt, ff, ff, ff, tt] (.keep [tt, tt, tt, ff, ff, ff, tt, tt] (.seq .nil (.seq (.keep [tt, tt, tt, ff, ff, ff, tt, tt] .nil) .nil)))))) .nil))))) }
def pol137 : FPol := { ann := (.seq .nil (.seq .nil (.seq .nil (.seq (.seq .nil (.keep [tt, ff, ff, ff, ff, ff, tt, tt, tt] (.keep [tt, ff, ff, ff, ff, ff, tt, tt, tt, tt] (.seq .nil (.seq (.keep [tt, ff, ff, ff, ff, ff, tt, tt, tt, tt] .nil) .nil))))) (.seq .nil (.keep [] (.keep [tt, ff, ff, ff, ff, ff, tt, tt, ff, ff, tt] (.seq .nil (.seq (.keep [tt, ff, ff, ff, ff, ff, tt, tt, ff, ff, tt] .nil) .nil))))))))) }
def pol138 : FPol := { ann := (.seq .nil (.seq .nil (.seq (.seq .nil (.seq .nil (.seq .nil (.keep [] (.keep [tt, tt, ff, ff, ff, ff, tt, tt, tt, tt] (.seq .nil (.seq (.keep [tt, tt, ff, ff, ff, ff, tt, tt, tt, tt] .nil) .nil))))))) .nil))) }
def pol139 : FPol := { ann := (.seq .nil (.seq .nil (.seq .nil (.seq .nil (.seq .nil (.seq .nil (.seq .nil (.seq .nil (.keep [ff, ff, ff, ff, ff, ff, tt, tt] .nil))))))))) }
def pol140 : FPol := { ann := (.seq .nil (.seq .nil (.keep [] (.keep [tt, ff, ff, ff, ff, ff, tt, tt] (.seq .nil (.keep [tt, ff, ff, ff, ff, ff, tt, tt] .nil)))))) }
def pol141 : FPol := { ann := (.seq .nil (.seq .nil (.seq (.seq .nil (.keep [] (.keep [tt, tt, tt, ff, ff, ff, ff, tt, tt] (.seq .nil (.seq (.keep [tt, tt, tt, ff, ff, ff, ff, tt, tt] (.seq (.keep [tt, tt, tt, ff, ff, ff, ff, tt, tt] (.keep [tt, tt, tt, ff, ff, ff, ff, tt, tt] (.seq .nil (.keep [tt, tt, tt, ff, ff, ff, ff, tt, tt] .nil)))) (.seq .nil (.seq .nil (.seq .nil (.seq (.seq .nil (.seq (.seq .nil (.keep [tt, tt, tt, ff, ff, ff, ff, tt, tt] (.keep [tt, tt, tt, ff, ff, ff, ff, tt, tt, tt] (.seq .nil (.seq (.keep [tt, tt, tt, ff, ff, ff, ff, tt, tt, tt] .nil) .nil))))) .nil)) (.seq .nil (.seq (.seq .nil (.keep [tt, tt, tt, ff, ff, ff, ff, tt, tt] (.keep [tt, tt, tt, ff, ff, ff, ff, tt, tt, ff, tt] (.seq .nil (.seq (.keep [tt, tt, tt, ff, ff, ff, ff, tt, tt, ff, tt] .nil) .nil))))) .nil)))))))) .nil))))) .nil))) }
def pol142 : FPol := { ann := .nil }
def pol143 : FPol := { ann := (.seq .nil (.seq .nil (.seq .nil (.seq (.keep [ff, ff, ff, ff, ff, ff, ff, ff, ff, tt] (.keep [tt, tt, ff, ff, ff, ff, ff, ff, ff, tt, tt] (.keep [tt, tt, ff, ff, ff, ff, ff, ff, ff, tt, tt] (.seq (.keep [tt, tt, ff, ff, ff, ff, ff, ff, ff, tt, tt] (.keep [tt, tt, ff, ff, ff, ff, ff, ff, ff, tt, tt] (.seq .nil (.keep [tt, tt, ff, ff, ff, ff, ff, ff, ff, tt, tt] .nil)))) (.seq (.keep [tt, tt, ff, ff, ff, ff, ff, ff, ff, tt, tt] (.keep [tt, tt, ff, ff, ff, ff, ff, ff, ff, tt, tt] (.seq .nil (.keep [tt, tt, ff, ff, ff, ff, ff, ff, ff, tt, tt] .nil)))) .nil))))) .nil)))) }
def pol144 : FPol := { ann := (.seq .nil (.seq .nil (.seq .nil (.seq (.keep [tt, tt, ff, ff, ff, ff, ff, ff, ff, ff, tt, tt] (.keep [tt, tt, ff, ff, ff, ff, ff, ff, ff, ff, tt, tt] (.seq .nil (.keep [tt, tt, ff, ff, ff, ff, ff, ff, ff, ff, tt, tt] .nil)))) (.seq (.keep [tt, tt, ff, ff, ff, ff, ff, ff, ff, ff, tt, tt] (.keep [tt, tt, ff, ff, ff, ff, ff, ff, ff, ff, tt, tt] (.seq .nil (.keep [tt, tt, ff, ff, ff, ff, ff, ff, ff, ff, tt, tt] .nil)))) (.seq .nil (.seq .nil (.seq .nil (.seq .nil (.seq (.keep [tt, tt, ff, ff, ff, ff, ff, ff, ff, ff, ff, tt] (.keep [tt, tt, ff, ff, ff, ff, ff, ff, ff, ff, tt, tt] (.keep [tt, tt, ff, ff, ff, ff, ff, ff, ff, ff, tt, tt] (.seq (.keep [tt, tt, ff, ff, ff, ff, ff, ff, ff, ff, tt, tt] (.keep [tt, tt, ff, ff, ff, ff, ff, ff, ff, ff, tt, tt] (.seq .nil (.keep [tt, tt, ff, ff, ff, ff, ff, ff, ff, ff, tt, tt] .nil)))) (.seq (.keep [tt, tt, ff, ff, ff, ff, ff, ff, ff, ff, tt, tt] (.keep [tt, tt, ff, ff, ff, ff, ff, ff, ff, ff, tt, tt] (.seq .nil (.keep [tt, tt, ff, ff, ff, ff, ff, ff, ff, ff, tt, tt] .nil)))) .nil))))) .nil)))))))))) }
def pol145 : FPol := { ann := (.seq .nil (.seq .nil (.keep [] (.keep [tt, tt, tt, tt, tt, ff, ff, ff, ff, ff, tt, tt] (.keep [tt, tt, tt, tt, tt, ff, ff, ff, ff, ff, tt, tt] .nil))))), plain := [30, 37, 44, 52, 61, 80, 103, 111, 134, 146] }
def pol146 : FPol := { ann := (.seq .nil (.keep [] (.keep [tt, ff, tt, tt, tt, ff, ff, ff, ff, ff, tt] (.keep [tt, ff, tt, tt, tt, ff, ff, ff, ff, ff, tt] .nil)))) }
def pol147 : FPol := { ann := .nil }
def pol148 : FPol := { ann := .nil }
def pol149 : FPol := { ann := .nil, plain := [17] }
def pol150 : FPol := { ann := .nil, plain := [19, 28, 37] }
def pol151 : FPol := { ann := (.seq .nil (.keep [] (.keep [tt, ff, tt, tt, ff, ff, ff, ff, tt] (.keep [tt, ff, tt, tt, ff, ff, ff, ff, tt] .nil)))) }
def pol152 : FPol := { ann := .nil }
def pol153 : FPol := { ann := .nil }
def pol154 : FPol := { ann := (.seq .nil (.keep [] (.keep [tt, tt, tt, tt, ff, ff, ff, ff, tt] (.seq .nil (.seq (.keep [tt, tt, tt, tt, ff, ff, ff, ff, tt] (.seq .nil (.keep [tt, tt, tt, tt, ff, ff, ff, ff, tt] (.keep [tt, tt, tt, tt, ff, ff, ff, ff, tt, tt] (.seq .nil (.seq (.keep [tt, tt, tt, tt, ff, ff, ff, ff, tt, tt] .nil) .nil)))))) .nil))))) }
def pol155 : FPol := { ann := (.seq .nil (.seq .nil (.seq .nil (.seq (.seq .nil (.keep [tt, ff, ff, tt, ff, ff, ff, ff, tt, tt, tt] (.keep [tt, ff, ff, tt, ff, ff, ff, ff, tt, tt, tt, tt] (.seq .nil (.seq (.keep [tt, ff, ff, tt, ff, ff, ff, ff, tt, tt, tt, tt] .nil) .nil))))) (.seq .nil (.keep [] (.keep [tt, ff, ff, tt, ff, ff, ff, ff, tt, tt, ff, ff, tt] (.seq .nil (.seq (.keep [tt, ff, ff, tt, ff, ff, ff, ff, tt, tt, ff, ff, tt] .nil) .nil))))))))), plain := [29, 59] }
def pol156 : FPol := { ann := (.seq .nil (.seq .nil (.seq (.seq .nil (.seq .nil (.seq .nil (.keep [] (.keep [tt, tt, ff, ff, ff, ff, ff, ff, tt, tt, tt, tt] (.seq .nil (.seq (.keep [tt, tt, ff, ff, ff, ff, ff, ff, tt, tt, tt, tt] .nil) .nil))))))) .nil))), plain := [38] }
def pol157 : FPol := { ann := (.seq .nil (.seq .nil (.seq .nil (.seq .nil (.seq .nil (.seq .nil (.seq .nil (.seq .nil (.keep [ff, ff, ff, ff, ff, ff, ff, ff, tt, tt] .nil))))))))), plain := [40, 44, 48, 54] }
def pol158 : FPol := { ann := (.seq .nil (.seq .nil (.keep [] (.keep [tt, ff, ff, ff, ff, ff, ff, ff, tt, tt] (.seq .nil (.keep [tt, ff, ff, ff, ff, ff, ff, ff, tt, tt] .nil)))))) }
def pol159 : FPol := { ann := (.seq .nil (.seq .nil (.seq (.seq .nil (.keep [] (.keep [tt, tt, tt, tt, ff, ff, ff, ff, ff, tt, tt] (.seq .nil (.seq (.keep [tt, tt, tt, tt, ff, ff, ff, ff, ff, tt, tt] (.seq (.keep [tt, tt, tt, tt, ff, ff, ff, ff, ff, tt, tt] (.keep [tt, tt, tt, tt, ff, ff, ff, ff, ff, tt, tt] (.seq .nil (.keep [tt, tt, tt, tt, ff, ff, ff, ff, ff, tt, tt] .nil)))) (.seq .nil (.seq .nil (.seq .nil (.seq (.seq .nil (.seq (.seq .nil (.keep [tt, tt, tt, tt, ff, ff, ff, ff, ff, tt, tt] (.keep [tt, tt, tt, tt, ff, ff, ff, ff, ff, tt, tt, tt] (.seq .nil (.seq (.keep [tt, tt, tt, tt, ff, ff, ff, ff, ff, tt, tt, tt] .nil) .nil))))) .nil)) (.seq .nil (.seq (.seq .nil (.keep [tt, tt, tt, tt, ff, ff, ff, ff, ff, tt, tt] (.keep [tt, tt, tt, tt, ff, ff, ff, ff, ff, tt, tt, ff, tt] (.seq .nil (.seq (.keep [tt, tt, tt, tt, ff, ff, ff, ff, ff, tt, tt, ff, tt] .nil) .nil))))) .nil)))))))) .nil))))) .nil))) }
def pol160 : FPol := { ann := (.seq .nil (.seq .nil (.seq .nil (.seq (.keep [ff, ff, ff, ff, ff, ff, ff, ff, ff, ff, ff, tt] (.keep [tt, tt, ff, ff, tt, ff, ff, ff, ff, ff, ff, tt, tt] (.keep [tt, tt, ff, ff, tt, ff, ff, ff, ff, ff, ff, tt, tt] (.seq (.keep [tt, tt, ff, ff, tt, ff, ff, ff, ff, ff, ff, tt, tt] (.keep [tt, tt, ff, ff, tt, ff, ff, ff, ff, ff, ff, tt, tt] (.seq .nil (.keep [tt, tt, ff, ff, tt, ff, ff, ff, ff, ff, ff, tt, tt] .nil)))) (.seq (.keep [tt, tt, ff, ff, tt, ff, ff, ff, ff, ff, ff, tt, tt] (.keep [tt, tt, ff, ff, tt, ff, ff, ff, ff, ff, ff, tt, tt] (.seq .nil (.keep [tt, tt, ff, ff, tt, ff, ff, ff, ff, ff, ff, tt, tt] .nil)))) .nil))))) .nil)))) }
def pol161 : FPol := { ann := (.seq .nil (.seq .nil (.seq .nil (.seq (.keep [tt, tt, ff, ff, tt, ff, ff, ff, ff, ff, ff, ff, tt, tt] (.keep [tt, tt, ff, ff, tt, ff, ff, ff, ff, ff, ff, ff, tt, tt] (.seq .nil (.keep [tt, tt, ff, ff, tt, ff, ff, ff, ff, ff, ff, ff, tt, tt] .nil)))) (.seq (.keep [tt, tt, ff, ff, tt, ff, ff, ff, ff, ff, ff, ff, tt, tt] (.keep [tt, tt, ff, ff, tt, ff, ff, ff, ff, ff, ff, ff, tt, tt] (.seq .nil (.keep [tt, tt, ff, ff, tt, ff, ff, ff, ff, ff, ff, ff, tt, tt] .nil)))) (.seq .nil (.seq .nil (.seq .nil (.seq .nil (.seq (.keep [tt, tt, ff, ff, ff, ff, ff, ff, ff, ff, ff, ff, ff, tt] (.keep [tt, tt, ff, ff, tt, ff, ff, ff, ff, ff, ff, ff, tt, tt] (.keep [tt, tt, ff, ff, tt, ff, ff, ff, ff, ff, ff, ff, tt, tt] (.seq (.keep [tt, tt, ff, ff, tt, ff, ff, ff, ff, ff, ff, ff, tt, tt] (.keep [tt, tt, ff, ff, tt, ff, ff, ff, ff, ff, ff, ff, tt, tt] (.seq .nil (.keep [tt, tt, ff, ff, tt, ff, ff, ff, ff, ff, ff, ff, tt, tt] .nil)))) (.seq (.keep [tt, tt, ff, ff, tt, ff, ff, ff, ff, ff, ff, ff, tt, tt] (.keep [tt, tt, ff, ff, tt, ff, ff, ff, ff, ff, ff, ff, tt, tt] (.seq .nil (.keep [tt, tt, ff, ff, tt, ff, ff, ff, ff, ff, ff, ff, tt, tt] .nil)))) .nil))))) .nil)))))))))) }
def pol162 : FPol := { ann := .nil }
def pol163 : FPol := { ann := .nil }
def pol164 : FPol := { ann := (.seq .nil (.keep [] (.keep [tt, ff, tt, tt, tt, ff, ff, ff, ff, ff, tt] (.keep [tt, ff, tt, tt, tt, ff, ff, ff, ff, ff, tt] .nil)))) }
def pol165 : FPol := { ann := .nil, plain := [17] }
def pol166 : FPol := { ann := .nil, plain := [19, 28, 37] }
def pol167 : FPol := { ann := .nil }
def pol : FuncId → FPol
  | 3 => pol3
  | 4 => pol4
  | 5 => pol5
  | 6 => pol6
  | 7 => pol7
  | 8 => pol8
  | 9 => pol9
  | 10 => pol10
  | 11 => pol11
  | 12 => pol12
  | 13 => pol13
  | 14 => pol14
  | 15 => pol15
  | 16 => pol16
  | 17 => pol17
  | 18 => pol18
  | 19 => pol19
  | 20 => pol20
  | 21 => pol21
  | 22 => pol22
  | 23 => pol23
  | 24 => pol24
  | 25 => pol25
  | 26 => pol26
  | 27 => pol27
  | 28 => pol28
  | 29 => pol29
  | 30 => pol30
  | 31 => pol31
  | 32 => pol32
  | 33 => pol33
  | 34 => pol34
  | 35 => pol35
  | 36 => pol36
  | 37 => pol37
  | 38 => pol38
  | 39 => pol39
  | 40 => pol40
  | 41 => pol41
  | 42 => pol42
  | 43 => pol43
  | 44 => pol44
  | 45 => pol45
  | 46 => pol46
  | 47 => pol47
  | 48 => pol48
  | 49 => pol49
  | 50 => pol50
  | 51 => pol51
  | 52 => pol52
  | 53 => pol53
  | 54 => pol54
  | 55 => pol55
  | 56 => pol56
  | 57 => pol57
  | 58 => pol58
  | 59 => pol59
  | 60 => pol60
  | 61 => pol61
  | 62 => pol62
  | 63 => pol63
  | 64 => pol64
  | 65 => pol65
  | 66 => pol66
  | 67 => pol67
  | 68 => pol68
  | 69 => pol69
  | 70 => pol70
  | 71 => pol71
  | 72 => pol72
  | 73 => pol73
  | 74 => pol74
  | 75 => pol75
  | 76 => pol76
  | 77 => pol77
  | 78 => pol78
  | 79 => pol79
  | 80 => pol80
  | 81 => pol81
  | 82 => pol82
  | 83 => pol83
  | 84 => pol84
  | 85 => pol85
  | 86 => pol86
  | 87 => pol87
  | 88 => pol88
  | 89 => pol89
  | 90 => pol90
  | 91 => pol91
  | 92 => pol92
  | 93 => pol93
  | 94 => pol94
  | 95 => pol95
  | 96 => pol96
  | 97 => pol97
  | 98 => pol98
  | 99 => pol99
  | 100 => pol100
  | 101 => pol101
  | 102 => pol102
  | 103 => pol103
  | 104 => pol104
  | 105 => pol105
  | 106 => pol106
  | 107 => pol107
  | 108 => pol108
  | 109 => pol109
  | 110 => pol110
  | 111 => pol111
  | 112 => pol112
  | 113 => pol113
  | 114 => pol114
  | 115 => pol115
  | 116 => pol116
  | 117 => pol117
  | 118 => pol118
  | 119 => pol119
  | 120 => pol120
  | 121 => pol121
  | 122 => pol122
  | 123 => pol123
  | 124 => pol124
  | 125 => pol125
  | 126 => pol126
  | 127 => pol127
  | 128 => pol128
  | 129 => pol129
  | 130 => pol130
  | 131 => pol131
  | 132 => pol132
  | 133 => pol133
  | 134 => pol134
  | 135 => pol135
  | 136 => pol136
  | 137 => pol137
  | 138 => pol138
  | 139 => pol139
  | 140 => pol140
  | 141 => pol141
  | 142 => pol142
  | 143 => pol143
  | 144 => pol144
  | 145 => pol145
  | 146 => pol146
  | 147 => pol147
  | 148 => pol148
  | 149 => pol149
  | 150 => pol150
  | 151 => pol151
  | 152 => pol152
  | 153 => pol153
  | 154 => pol154
  | 155 => pol155
  | 156 => pol156
  | 157 => pol157
  | 158 => pol158
  | 159 => pol159
  | 160 => pol160
  | 161 => pol161
  | 162 => pol162
  | 163 => pol163
  | 164 => pol164
  | 165 => pol165
  | 166 => pol166
  | 167 => pol167
  | _ => {}
noncomputable abbrev CC : CallF := callL PP pol
end Go.D
end
/- Typed values of chapter 22, and what operations do with them. -/
section
set_option linter.unusedVariables false
set_option linter.unusedSimpArgs false
namespace Go.D

abbrev pI (n : Int) : PV := .int .i64 n
def eInts (l : List Int) : List PV := l.map pI
def eBools (l : List Bool) : List PV := l.map .bool
def eSl : Option (List Int) → PV
  | none => .nilsl
  | some l => .sl false l.length (eInts l)
structure Edg where
  f : Int
  t : Int
  a : Int
  deriving DecidableEq, Inhabited
def eEdg (e : Edg) : List PV := [pI e.f, pI e.t, pI e.a]
def eEdgs : List Edg → List PV
  | [] => []
  | e :: l => pI e.f :: pI e.t :: pI e.a :: eEdgs l
def eEs : Option (List Edg) → PV
  | none => .nilsl
  | some l => .sl false l.length (eEdgs l)
structure Gr where
  n : Int
  init : Option (List Int)
  edges : Option (List Edg)
def eGr (g : Gr) : List DV := [.p (pI g.n), .p (eSl g.init), .p (eEs g.edges)]
abbrev L {α : Type} (o : Option (List α)) : List α := o.getD []

/-! ### Canonical values -/
theorem loosens_ints (l : List Int) : loosens (eInts l) = eInts l := by
  induction l with
  | nil => rfl
  | cons a l ih => simp only [eInts, List.map_cons, loosens, loosen] at *; rw [ih]
theorem loosens_bools (l : List Bool) : loosens (eBools l) = eBools l := by
  induction l with
  | nil => rfl
  | cons a l ih => simp only [eBools, List.map_cons, loosens, loosen] at *; rw [ih]
theorem loosens_edgs (l : List Edg) : loosens (eEdgs l) = eEdgs l := by
  induction l with
  | nil => rfl
  | cons a l ih => simp only [eEdgs, loosens, loosen, ih]
theorem loosen_sl (o : Option (List Int)) : loosen (eSl o) = eSl o := by
  cases o <;> simp [eSl, loosen, loosens_ints]
theorem loosen_es (o : Option (List Edg)) : loosen (eEs o) = eEs o := by
  cases o <;> simp [eEs, loosen, loosens_edgs]

/-! ### Calls -/
theorem pureFn_fn (call : CallF) (f : FuncId) (caps args : List DV) (σ : Store) : pureFn call (.fn f caps) args σ = pureV call f (args ++ caps) σ := Eq.trans rfl rfl
/-- Steps that a kernel need not compute again: no proof by rfl alone. -/
theorem obind {α β : Type} (x : α) (f : α → Option β) : (some x).bind f = f x := Eq.trans rfl rfl
theorem omap {α β : Type} (x : α) (f : α → β) : (some x).map f = some (f x) := Eq.trans rfl rfl

/-- A call on values that name no row, at the empty store. -/
theorem pureV_free {call : CallF} {f : FuncId} {args : List DV} {σ : Store} {v v' : DV} {σ' : Store} (h1 : args.map view = args) (h2 : args.all rowFree = true) (h : call 0 f args [] = some (v', σ')) (ht : thawAll 0 σ' v' = some v) : pureV call f args σ = some v := by
  unfold pureV
  rw [h1, if_pos h2, h]
  exact ht

theorem pureV_rows {call : CallF} {f : FuncId} {args : List DV} {σ : Store} {v v' : DV} {σ' : Store} (h1 : args.map view = args) (h2 : args.all rowFree = false) (h : call σ.length f args σ = some (v', σ')) (ht : thawAll σ.length σ' v' = some v) : pureV call f args σ = some v := by
  unfold pureV
  rw [h1, if_neg (by rw [h2]; simp), h]
  exact ht

theorem pureV_any {call : CallF} {f : FuncId} {args : List DV} {σ : Store} {v : DV} (h1 : args.map view = args)
    (h : ∀ lo σ0, (σ0 = [] ∧ lo = 0 ∧ args.all rowFree = true) ∨ (σ0 = σ ∧ lo = σ.length ∧ args.all rowFree = false) → ∃ v' σ', call lo f args σ0 = some (v', σ') ∧ thawAll lo σ' v' = some v) : pureV call f args σ = some v := by
  cases hr : args.all rowFree with
  | true =>
    obtain ⟨v', σ', h2, h3⟩ := h 0 [] (.inl ⟨rfl, rfl, hr⟩)
    exact pureV_free h1 hr h2 h3
  | false =>
    obtain ⟨v', σ', h2, h3⟩ := h _ σ (.inr ⟨rfl, rfl, hr⟩)
    exact pureV_rows h1 hr h2 h3

/-- Either way: what holds at every store that goes on from this one, or at the empty one. -/
theorem thaw_int (n : Nat) (σ : Store) (x : Int) : thawAll n σ (.p (.int .i64 x)) = some (.p (.int .i64 x)) := rfl
theorem thaw_bool (n : Nat) (σ : Store) (x : Bool) : thawAll n σ (.p (.bool x)) = some (.p (.bool x)) := rfl

/-! ### Steps -/
theorem condK_true {β : Type} (x y : Option β) : condK (.p (.bool true)) x y = x := Eq.trans rfl rfl
theorem condK_false {β : Type} (x y : Option β) : condK (.p (.bool false)) x y = y := Eq.trans rfl rfl
theorem condK_if {β : Type} (b : Bool) (x y : Option β) : condK (.p (.bool b)) x y = if b = true then x else y := by cases b <;> rfl
theorem pickV_true (x y : DV) : pickV (.p (.bool true)) x y = some x := Eq.trans rfl rfl
theorem pickV_false (x y : DV) : pickV (.p (.bool false)) x y = some y := Eq.trans rfl rfl
theorem guard_tt (β : Type) (m : Option (DV × Store)) (σ : Store) (K : DV → Store → Option β) : guardT β (.p (.bool true)) true m σ K = m.bind fun r => K r.1 r.2 := Eq.trans rfl rfl
theorem guard_ff (β : Type) (m : Option (DV × Store)) (σ : Store) (K : DV → Store → Option β) : guardT β (.p (.bool false)) false m σ K = m.bind fun r => K r.1 r.2 := Eq.trans rfl rfl
theorem guard_tf (β : Type) (m : Option (DV × Store)) (σ : Store) (K : DV → Store → Option β) : guardT β (.p (.bool true)) false m σ K = K .skip σ := Eq.trans rfl rfl
theorem guard_ft (β : Type) (m : Option (DV × Store)) (σ : Store) (K : DV → Store → Option β) : guardT β (.p (.bool false)) true m σ K = K .skip σ := Eq.trans rfl rfl
theorem guard_sk (β : Type) (w : Bool) (m : Option (DV × Store)) (σ : Store) (K : DV → Store → Option β) : guardT β (.tuple []) w m σ K = K .skip σ := Eq.trans rfl rfl
theorem not_bool (b : Bool) : unOp .not (.p (.bool b)) = some (.p (.bool !b)) := Eq.trans rfl rfl
section
variable (P : Program) (t : TypeId) (a b : Int)
theorem b_geq : binOp P .geq t (.p (.int .i64 a)) (.p (.int .i64 b)) = some (.p (.bool (decide (a ≥ b)))) := Eq.trans rfl rfl
theorem b_leq : binOp P .leq t (.p (.int .i64 a)) (.p (.int .i64 b)) = some (.p (.bool (decide (a ≤ b)))) := Eq.trans rfl rfl
theorem b_gtr : binOp P .gtr t (.p (.int .i64 a)) (.p (.int .i64 b)) = some (.p (.bool (decide (a > b)))) := Eq.trans rfl rfl
theorem b_lss : binOp P .lss t (.p (.int .i64 a)) (.p (.int .i64 b)) = some (.p (.bool (decide (a < b)))) := Eq.trans rfl rfl
theorem b_eql : binOp P .eql t (.p (.int .i64 a)) (.p (.int .i64 b)) = some (.p (.bool (decide (a = b)))) := by
  show some (DV.p (PV.bool (a == b))) = _
  exact Eq.trans rfl rfl
theorem b_neq : binOp P .neq t (.p (.int .i64 a)) (.p (.int .i64 b)) = some (.p (.bool (!decide (a = b)))) := by
  show some (DV.p (PV.bool (a != b))) = _
  exact Eq.trans rfl rfl
theorem b_add : binOp P .add t (.p (.int .i64 a)) (.p (.int .i64 b)) = some (.p (.int .i64 (IntKind.wrap .i64 (a + b)))) := Eq.trans rfl rfl
theorem b_sub : binOp P .sub t (.p (.int .i64 a)) (.p (.int .i64 b)) = some (.p (.int .i64 (IntKind.wrap .i64 (a - b)))) := Eq.trans rfl rfl
theorem b_mul : binOp P .mul t (.p (.int .i64 a)) (.p (.int .i64 b)) = some (.p (.int .i64 (IntKind.wrap .i64 (a * b)))) := Eq.trans rfl rfl
end
theorem wrap_ok {x : Int} (h0 : -9223372036854775808 ≤ x) (h1 : x ≤ 9223372036854775807) : IntKind.wrap .i64 x = x := i64_ok h0 h1
theorem wrap_succ {i : Nat} (h : i ≤ 1000000) : IntKind.wrap .i64 ((i : Int) + 1) = ((i + 1 : Nat) : Int) := by
  rw [wrap_ok] <;> omega

/-! ### The types of this program -/
theorem u22 : PP.underlying 22 = some (.slice 3) := Eq.trans (by kernel_rfl) rfl
theorem u23 : PP.underlying 23 = some (.slice 69) := Eq.trans (by kernel_rfl) rfl
theorem u143 : PP.underlying 143 = some (.slice 34) := Eq.trans (by kernel_rfl) rfl
theorem s3 : size? PP 3 = some 1 := Eq.trans (by kernel_rfl) rfl
theorem s4 : size? PP 4 = some 1 := Eq.trans (by kernel_rfl) rfl
theorem s34 : size? PP 34 = some 1 := Eq.trans (by kernel_rfl) rfl
theorem s69 : size? PP 69 = some 3 := Eq.trans (by kernel_rfl) rfl
theorem len22 (o : Option (List Int)) (σ : Store) : len PP 22 (.p (eSl o)) σ = some (.p (.int .i64 ((L o).length : Nat))) := by cases o <;> simp [len, u22, eSl]
theorem len23 (o : Option (List Edg)) (σ : Store) : len PP 23 (.p (eEs o)) σ = some (.p (.int .i64 ((L o).length : Nat))) := by cases o <;> simp [len, u23, eEs]
theorem ints_length (l : List Int) : (eInts l).length = l.length := by simp [eInts]
theorem bools_length (l : List Bool) : (eBools l).length = l.length := by simp [eBools]
theorem edgs_length (l : List Edg) : (eEdgs l).length = l.length * 3 := by
  induction l with
  | nil => rfl
  | cons a l ih => simp [eEdgs, ih]; omega
theorem idx22 {o : Option (List Int)} {i : Nat} (h : i < (L o).length) : indexAddr PP 22 (.p (eSl o)) (.p (.int .i64 (i : Nat))) = some (.pptr (eInts (L o)) i) := by
  cases o with
  | none => simp at h
  | some l =>
    have h2 : (0 : Int) ≤ (i : Int) ∧ (i : Int) < (l.length : Nat) := by simp at h; omega
    simp [indexAddr, u22, s3, eSl, h2]
theorem idx23 {o : Option (List Edg)} {i : Nat} (h : i < (L o).length) : indexAddr PP 23 (.p (eEs o)) (.p (.int .i64 (i : Nat))) = some (.pptr (eEdgs (L o)) (i * 3)) := by
  cases o with
  | none => simp at h
  | some l =>
    have h2 : (0 : Int) ≤ (i : Int) ∧ (i : Int) < (l.length : Nat) := by simp at h; omega
    simp [indexAddr, u23, s69, eEs, h2]
/-- Loads of one cell. -/
def load1 (x : DV) (σ : Store) : Option DV := match loadN σ 1 x with
  | some [v] => some v
  | _ => none
theorem load3 (x : DV) (σ : Store) : load PP 3 x σ = load1 x σ := Eq.trans (by kernel_rfl) rfl
theorem load4 (x : DV) (σ : Store) : load PP 4 x σ = load1 x σ := Eq.trans (by kernel_rfl) rfl
theorem load22 (x : DV) (σ : Store) : load PP 22 x σ = load1 x σ := Eq.trans (by kernel_rfl) rfl
theorem load23 (x : DV) (σ : Store) : load PP 23 x σ = load1 x σ := Eq.trans (by kernel_rfl) rfl
theorem load34 (x : DV) (σ : Store) : load PP 34 x σ = load1 x σ := Eq.trans (by kernel_rfl) rfl
theorem load25 (x : DV) (σ : Store) : load PP 25 x σ = (loadN σ 3 x).map .agg := Eq.trans (by kernel_rfl) rfl
theorem load69 (x : DV) (σ : Store) : load PP 69 x σ = (loadN σ 3 x).map .agg := Eq.trans (by kernel_rfl) rfl
theorem load1_pptr {cs : List PV} {i : Nat} {x : PV} (h : cs[i]? = some x) (σ : Store) : load1 (.pptr cs i) σ = some (.p x) := by
  obtain ⟨h1, h2⟩ := drop_one h
  simp [load1, loadN, h1, h2]
theorem load1_ints {l : List Int} {i : Nat} (h : i < l.length) (σ : Store) : load1 (.pptr (eInts l) i) σ = some (.p (.int .i64 l[i])) :=
  load1_pptr (by simp [eInts, h]) σ
theorem load1_bools {l : List Bool} {i : Nat} (h : i < l.length) (σ : Store) : load1 (.pptr (eBools l) i) σ = some (.p (.bool l[i])) :=
  load1_pptr (by simp [eBools, h]) σ
theorem edgs_get : ∀ (l : List Edg) (i : Nat) (h : i < l.length), (eEdgs l)[i * 3]? = some (pI l[i].f) ∧ (eEdgs l)[i * 3 + 1]? = some (pI l[i].t) ∧ (eEdgs l)[i * 3 + 2]? = some (pI l[i].a)
  | e :: l, 0, h => by simp [eEdgs]
  | e :: l, i + 1, h => by
    have := edgs_get l i (by simpa using h)
    have e3 : (i + 1) * 3 = i * 3 + 1 + 1 + 1 := by omega
    rw [e3]
    simpa [eEdgs] using this
theorem load69_edgs {l : List Edg} {i : Nat} (h : i < l.length) (σ : Store) : (loadN σ 3 (.pptr (eEdgs l) (i * 3))).map DV.agg = some (.agg [.p (pI l[i].f), .p (pI l[i].t), .p (pI l[i].a)]) := by
  have hle : i * 3 + 3 ≤ (eEdgs l).length := by rw [edgs_length]; omega
  obtain ⟨h1, h2, h3⟩ := edgs_get l i h
  have hd : ((eEdgs l).drop (i * 3)).take 3 = [pI l[i].f, pI l[i].t, pI l[i].a] := by
    apply List.ext_getElem?
    intro j
    match j with
    | 0 => simpa using h1
    | 1 => simpa using h2
    | 2 => simpa using h3
    | j + 3 => simp; omega
  simp [loadN, hle, hd]
theorem fa25_0 (x : DV) : fieldAddr PP 25 x 0 = shiftPtr x 0 := Eq.trans (by kernel_rfl) rfl
theorem fa25_1 (x : DV) : fieldAddr PP 25 x 1 = shiftPtr x 1 := Eq.trans (by kernel_rfl) rfl
theorem fa25_2 (x : DV) : fieldAddr PP 25 x 2 = shiftPtr x 2 := Eq.trans (by kernel_rfl) rfl
theorem fa69_0 (x : DV) : fieldAddr PP 69 x 0 = shiftPtr x 0 := Eq.trans (by kernel_rfl) rfl
theorem fa69_1 (x : DV) : fieldAddr PP 69 x 1 = shiftPtr x 1 := Eq.trans (by kernel_rfl) rfl
theorem fa69_2 (x : DV) : fieldAddr PP 69 x 2 = shiftPtr x 2 := Eq.trans (by kernel_rfl) rfl
theorem shift_ptr (r off n : Nat) : shiftPtr (.ptr r off) n = some (.ptr r (off + n)) := Eq.trans rfl rfl
theorem shift_pptr (cs : List PV) (off n : Nat) : shiftPtr (.pptr cs off) n = some (.pptr cs (off + n)) := Eq.trans rfl rfl
theorem nil_ptr (r off : Nat) : nilCheckV (.ptr r off) = some (.ptr r off) := Eq.trans rfl rfl
theorem nil_pptr (cs : List PV) (off : Nat) : nilCheckV (.pptr cs off) = some (.pptr cs off) := Eq.trans rfl rfl
theorem load1_ptr {σ : Store} {r off : Nat} {cs : List DV} {v : DV} (h : σ[r]? = some (.mix cs)) (hv : cs[off]? = some v) : load1 (.ptr r off) σ = some v := by
  obtain ⟨h1, h2⟩ := List.getElem?_eq_some_iff.1 hv
  have h3 : (cs.drop off).take 1 = [v] := by rw [List.drop_eq_getElem_cons h1, h2]; rfl
  have h4 : off + 1 ≤ cs.length := h1
  simp [load1, loadN, h, h3, h4]
theorem loadN_ptr {σ : Store} {r off n : Nat} {cs vs : List DV} (h : σ[r]? = some (.mix cs)) (hv : (cs.drop off).take n = vs) (hn : off + n ≤ cs.length) : loadN σ n (.ptr r off) = some vs := by
  simp [loadN, h, hn, hv]
theorem zero69 : zeroOf PP 69 = some [.p (pI 0), .p (pI 0), .p (pI 0)] := Eq.trans (by kernel_rfl) rfl
theorem zero3 : zeroOf PP 3 = some [.p (pI 0)] := Eq.trans (by kernel_rfl) rfl
theorem zero25 : zeroOf PP 25 = some [.p (pI 0), .p .nilsl, .p .nilsl] := Eq.trans (by kernel_rfl) rfl

end Go.D
end
/- Equations of functions 88, 61, 73, 120, 99, 36, 116, 86, 117, 89, 62, 98, 119, 92, 69, 53, 87, 91, 34, 16, printed by gen.py. -/
section
set_option linter.unusedVariables false
set_option maxRecDepth 10000
namespace Go.D
open _root_.Go.D.Code (fstC sndC)
open _root_.Go.D.Ann (left right)
noncomputable def c88_0 : Code := bodyOf Go.Proofs.Tryz.f88
noncomputable def a88_0 : Ann := (pol 88).ann
noncomputable def F88 (G : GuardT) (lo : Nat) (x0 x1 x2 : DV) (σ : Store) : Option (DV × Store) :=
 codeF G PP (pol 88) CC lo c88_0 a88_0 [x0, x1, x2, ud, ud, ud, ud, ud, ud, ud, ud, ud, ud, ud, ud] σ (finR PP Go.Proofs.Tryz.f88.results.toList)
theorem F88_eq (G : GuardT) (lo : Nat) (x0 x1 x2 : DV) (σ : Store) : F88 G lo x0 x1 x2 σ =
 (binOp PP .geq 3 x0 x1).bind fun x9 =>
 G _ x9 true (some (x0, σ)) σ fun x11 σ1 =>
 G _ x9 true (some (x2, σ1)) σ1 fun x12 σ2 =>
 G _ x9 true ((binOp PP .leq 3 x11 x12).bind fun v => some (v, σ2)) σ2 fun x13 σ3 =>
 (pickV x9 x13 (DV.p (PV.bool false))).bind fun x14 =>
 some (x14, σ3) := by kernel_rfl
theorem F88_call {lo : Nat} {x0 x1 x2 : DV} {σ : Store} {r : DV × Store} (h : F88 guardT lo x0 x1 x2 σ = some r) : CC lo 88 [x0, x1, x2] σ = some r :=
 callL_run Go.Proofs.Tryz.func88 (by decide +kernel) rfl (by decide +kernel) h
noncomputable def c61_0 : Code := bodyOf Go.Proofs.Tryz.f61
noncomputable def a61_0 : Ann := (pol 61).ann
noncomputable def F61 (G : GuardT) (lo : Nat) (x0 x1 x2 : DV) (σ : Store) : Option (DV × Store) :=
 codeF G PP (pol 61) CC lo c61_0 a61_0 [x0, x1, x2, ud, ud, ud, ud, ud, ud, ud, ud, ud, ud, ud, ud] σ (finR PP Go.Proofs.Tryz.f61.results.toList)
theorem F61_eq (G : GuardT) (lo : Nat) (x0 x1 x2 : DV) (σ : Store) : F61 G lo x0 x1 x2 σ =
 (binOp PP .geq 3 x0 x1).bind fun x9 =>
 G _ x9 true (some (x0, σ)) σ fun x11 σ1 =>
 G _ x9 true (some (x2, σ1)) σ1 fun x12 σ2 =>
 G _ x9 true ((binOp PP .leq 3 x11 x12).bind fun v => some (v, σ2)) σ2 fun x13 σ3 =>
 (pickV x9 x13 (DV.p (PV.bool false))).bind fun x14 =>
 some (x14, σ3) := by kernel_rfl
theorem F61_call {lo : Nat} {x0 x1 x2 : DV} {σ : Store} {r : DV × Store} (h : F61 guardT lo x0 x1 x2 σ = some r) : CC lo 61 [x0, x1, x2] σ = some r :=
 callL_run Go.Proofs.Tryz.func61 (by decide +kernel) rfl (by decide +kernel) h
noncomputable def c73_0 : Code := bodyOf Go.Proofs.Tryz.f73
noncomputable def a73_0 : Ann := (pol 73).ann
noncomputable def F73 (G : GuardT) (lo : Nat) (x0 x1 : DV) (σ : Store) : Option (DV × Store) :=
 codeF G PP (pol 73) CC lo c73_0 a73_0 [x0, x1, ud, ud, ud, ud, ud] σ (finR PP Go.Proofs.Tryz.f73.results.toList)
theorem F73_eq (G : GuardT) (lo : Nat) (x0 x1 : DV) (σ : Store) : F73 G lo x0 x1 σ =
 condK x0
 (
 some ((DV.p (PV.int IntKind.i64 (0))), σ)
 )
 (
 some (x1, σ)
 ) := by kernel_rfl
theorem F73_call {lo : Nat} {x0 x1 : DV} {σ : Store} {r : DV × Store} (h : F73 guardT lo x0 x1 σ = some r) : CC lo 73 [x0, x1] σ = some r :=
 callL_run Go.Proofs.Tryz.func73 (by decide +kernel) rfl (by decide +kernel) h
noncomputable def c120_0 : Code := bodyOf Go.Proofs.Tryz.f120
noncomputable def a120_0 : Ann := (pol 120).ann
noncomputable def F120 (G : GuardT) (lo : Nat) (x0 : DV) (σ : Store) : Option (DV × Store) :=
 codeF G PP (pol 120) CC lo c120_0 a120_0 [x0, ud, ud, ud, ud, ud] σ (finR PP Go.Proofs.Tryz.f120.results.toList)
theorem F120_eq (G : GuardT) (lo : Nat) (x0 : DV) (σ : Store) : F120 G lo x0 σ =
 (binOp PP .neq 3 x0 x0).bind fun x5 =>
 some (x5, σ) := by kernel_rfl
theorem F120_call {lo : Nat} {x0 : DV} {σ : Store} {r : DV × Store} (h : F120 guardT lo x0 σ = some r) : CC lo 120 [x0] σ = some r :=
 callL_run Go.Proofs.Tryz.func120 (by decide +kernel) rfl (by decide +kernel) h
noncomputable def c99_0 : Code := bodyOf Go.Proofs.Tryz.f99
noncomputable def a99_0 : Ann := (pol 99).ann
noncomputable def F99 (G : GuardT) (lo : Nat) (x0 x1 : DV) (σ : Store) : Option (DV × Store) :=
 codeF G PP (pol 99) CC lo c99_0 a99_0 [x0, x1, ud, ud, ud, ud, ud, ud, ud, ud, ud, ud, ud, ud, ud, ud, ud, ud, ud, ud] σ (finR PP Go.Proofs.Tryz.f99.results.toList)
theorem F99_eq (G : GuardT) (lo : Nat) (x0 x1 : DV) (σ : Store) : F99 G lo x0 x1 σ =
 (pureFn CC (DV.fn 120 []) [x0] σ).bind fun x8 =>
 (pureFn CC (DV.fn 120 []) [x1] σ).bind fun x10 =>
 condK x8
 (
 condK x10
 (
 some ((DV.p (PV.int IntKind.i64 (0))), σ)
 )
 (
 some ((DV.p (PV.int IntKind.i64 (-1))), σ)
 )
 )
 (
 condK x10
 (
 some ((DV.p (PV.int IntKind.i64 (1))), σ)
 )
 (
 (binOp PP .lss 3 x0 x1).bind fun x16 =>
 condK x16
 (
 some ((DV.p (PV.int IntKind.i64 (-1))), σ)
 )
 (
 (binOp PP .gtr 3 x0 x1).bind fun x19 =>
 condK x19
 (
 some ((DV.p (PV.int IntKind.i64 (1))), σ)
 )
 (
 some ((DV.p (PV.int IntKind.i64 (0))), σ)
 )
 )
 )
 ) := by kernel_rfl
theorem F99_call {lo : Nat} {x0 x1 : DV} {σ : Store} {r : DV × Store} (h : F99 guardT lo x0 x1 σ = some r) : CC lo 99 [x0, x1] σ = some r :=
 callL_run Go.Proofs.Tryz.func99 (by decide +kernel) rfl (by decide +kernel) h
noncomputable def c36_0 : Code := bodyOf Go.Proofs.Tryz.f36
noncomputable def a36_0 : Ann := (pol 36).ann
noncomputable def F36 (G : GuardT) (lo : Nat) (x0 : DV) (σ : Store) : Option (DV × Store) :=
 codeF G PP (pol 36) CC lo c36_0 a36_0 [x0, ud, ud, ud] σ (finR PP Go.Proofs.Tryz.f36.results.toList)
theorem F36_eq (G : GuardT) (lo : Nat) (x0 : DV) (σ : Store) : F36 G lo x0 σ =
 condK x0
 (
 some ((DV.p (PV.int IntKind.i64 (1))), σ)
 )
 (
 some ((DV.p (PV.int IntKind.i64 (0))), σ)
 ) := by kernel_rfl
theorem F36_call {lo : Nat} {x0 : DV} {σ : Store} {r : DV × Store} (h : F36 guardT lo x0 σ = some r) : CC lo 36 [x0] σ = some r :=
 callL_run Go.Proofs.Tryz.func36 (by decide +kernel) rfl (by decide +kernel) h
noncomputable def c116_0 : Code := bodyOf Go.Proofs.Tryz.f116
noncomputable def a116_0 : Ann := (pol 116).ann
noncomputable def a116_5 : Ann := right (left (right a116_0))
noncomputable def a116_6 : Ann := left a116_5
noncomputable def c116_7 : Code := fstC (fstC (sndC (fstC (sndC c116_0))))
noncomputable def c116_25 : Code := sndC (sndC c116_0)
noncomputable def a116_25 : Ann := right (right a116_0)
noncomputable def f116_L0 (G : GuardT) (lo : Nat) (x0 x1 x7 x8 : DV) (σ : Store) : Option (DV × Store) :=
 codeF G PP (pol 116) CC lo (.loop c116_7) a116_6 [x0, x1, ud, ud, ud, ud, ud, x7, x8, ud, ud, ud, ud, ud, ud, ud, ud, ud, ud] σ
 (blockC 0 a116_5 (seqC G PP (pol 116) CC lo c116_25 a116_25 (finR PP Go.Proofs.Tryz.f116.results.toList)))
noncomputable def F116 (G : GuardT) (lo : Nat) (x0 x1 : DV) (σ : Store) : Option (DV × Store) :=
 codeF G PP (pol 116) CC lo c116_0 a116_0 [x0, x1, ud, ud, ud, ud, ud, ud, ud, ud, ud, ud, ud, ud, ud, ud, ud, ud, ud] σ (finR PP Go.Proofs.Tryz.f116.results.toList)
theorem f116_L0_eq (G : GuardT) (hG : GuardOk G) (lo : Nat) (x0 x1 x7 x8 : DV) (σ : Store) : f116_L0 G lo x0 x1 x7 x8 σ =
 (binOp PP .lss 3 x8 x7).bind fun x9 =>
 condK x9
 (
 (indexAddr PP 22 x0 x8).bind fun x14 =>
 (load PP 3 x14 σ).bind fun x15 =>
 (pureFn CC x1 [x15] σ).bind fun x16 =>
 condK x16
 (
 some (x8, σ)
 )
 (
 (binOp PP .add 3 x8 (DV.p (PV.int IntKind.i64 (1)))).bind fun x18 =>
 f116_L0 G lo x0 x1 x7 x18 σ
 )
 )
 (
 some ((DV.p (PV.int IntKind.i64 (-1))), σ)
 ) := (loopF_eq G hG).trans (by kernel_rfl)
theorem F116_eq (G : GuardT) (lo : Nat) (x0 x1 : DV) (σ : Store) : F116 G lo x0 x1 σ =
 (len PP 22 x0 σ).bind fun x7 =>
 f116_L0 G lo x0 x1 x7 (DV.p (PV.int IntKind.i64 (0))) σ := by kernel_rfl
theorem F116_call {lo : Nat} {x0 x1 : DV} {σ : Store} {r : DV × Store} (h : F116 guardT lo x0 x1 σ = some r) : CC lo 116 [x0, x1] σ = some r :=
 callL_run Go.Proofs.Tryz.func116 (by decide +kernel) rfl (by decide +kernel) h
noncomputable def c86_0 : Code := bodyOf Go.Proofs.Tryz.f86
noncomputable def a86_0 : Ann := (pol 86).ann
noncomputable def F86 (G : GuardT) (lo : Nat) (x0 x1 : DV) (σ : Store) : Option (DV × Store) :=
 codeF G PP (pol 86) CC lo c86_0 a86_0 [x0, x1, ud, ud, ud, ud, ud, ud, ud] σ (finR PP Go.Proofs.Tryz.f86.results.toList)
theorem F86_eq (G : GuardT) (lo : Nat) (x0 x1 : DV) (σ : Store) : F86 G lo x0 x1 σ =
 (pureFn CC (DV.fn 116 []) [x0, x1] σ).bind fun x7 =>
 (binOp PP .geq 3 x7 (DV.p (PV.int IntKind.i64 (0)))).bind fun x8 =>
 some (x8, σ) := by kernel_rfl
theorem F86_call {lo : Nat} {x0 x1 : DV} {σ : Store} {r : DV × Store} (h : F86 guardT lo x0 x1 σ = some r) : CC lo 86 [x0, x1] σ = some r :=
 callL_run Go.Proofs.Tryz.func86 (by decide +kernel) rfl (by decide +kernel) h
noncomputable def c117_0 : Code := bodyOf Go.Proofs.Tryz.f117
noncomputable def a117_0 : Ann := (pol 117).ann
noncomputable def a117_5 : Ann := right (left (right a117_0))
noncomputable def a117_6 : Ann := left a117_5
noncomputable def c117_7 : Code := fstC (fstC (sndC (fstC (sndC c117_0))))
noncomputable def c117_25 : Code := sndC (sndC c117_0)
noncomputable def a117_25 : Ann := right (right a117_0)
noncomputable def f117_L0 (G : GuardT) (lo : Nat) (x0 x1 x7 x8 : DV) (σ : Store) : Option (DV × Store) :=
 codeF G PP (pol 117) CC lo (.loop c117_7) a117_6 [x0, x1, ud, ud, ud, ud, ud, x7, x8, ud, ud, ud, ud, ud, ud, ud, ud, ud, ud] σ
 (blockC 0 a117_5 (seqC G PP (pol 117) CC lo c117_25 a117_25 (finR PP Go.Proofs.Tryz.f117.results.toList)))
noncomputable def F117 (G : GuardT) (lo : Nat) (x0 x1 : DV) (σ : Store) : Option (DV × Store) :=
 codeF G PP (pol 117) CC lo c117_0 a117_0 [x0, x1, ud, ud, ud, ud, ud, ud, ud, ud, ud, ud, ud, ud, ud, ud, ud, ud, ud] σ (finR PP Go.Proofs.Tryz.f117.results.toList)
theorem f117_L0_eq (G : GuardT) (hG : GuardOk G) (lo : Nat) (x0 x1 x7 x8 : DV) (σ : Store) : f117_L0 G lo x0 x1 x7 x8 σ =
 (binOp PP .lss 3 x8 x7).bind fun x9 =>
 condK x9
 (
 (indexAddr PP 22 x0 x8).bind fun x14 =>
 (load PP 3 x14 σ).bind fun x15 =>
 (binOp PP .eql 3 x1 x15).bind fun x16 =>
 condK x16
 (
 some (x8, σ)
 )
 (
 (binOp PP .add 3 x8 (DV.p (PV.int IntKind.i64 (1)))).bind fun x18 =>
 f117_L0 G lo x0 x1 x7 x18 σ
 )
 )
 (
 some ((DV.p (PV.int IntKind.i64 (-1))), σ)
 ) := (loopF_eq G hG).trans (by kernel_rfl)
theorem F117_eq (G : GuardT) (lo : Nat) (x0 x1 : DV) (σ : Store) : F117 G lo x0 x1 σ =
 (len PP 22 x0 σ).bind fun x7 =>
 f117_L0 G lo x0 x1 x7 (DV.p (PV.int IntKind.i64 (0))) σ := by kernel_rfl
theorem F117_call {lo : Nat} {x0 x1 : DV} {σ : Store} {r : DV × Store} (h : F117 guardT lo x0 x1 σ = some r) : CC lo 117 [x0, x1] σ = some r :=
 callL_run Go.Proofs.Tryz.func117 (by decide +kernel) rfl (by decide +kernel) h
noncomputable def c89_0 : Code := bodyOf Go.Proofs.Tryz.f89
noncomputable def a89_0 : Ann := (pol 89).ann
noncomputable def F89 (G : GuardT) (lo : Nat) (x0 x1 : DV) (σ : Store) : Option (DV × Store) :=
 codeF G PP (pol 89) CC lo c89_0 a89_0 [x0, x1, ud, ud, ud, ud, ud, ud, ud] σ (finR PP Go.Proofs.Tryz.f89.results.toList)
theorem F89_eq (G : GuardT) (lo : Nat) (x0 x1 : DV) (σ : Store) : F89 G lo x0 x1 σ =
 (pureFn CC (DV.fn 117 []) [x0, x1] σ).bind fun x7 =>
 (binOp PP .geq 3 x7 (DV.p (PV.int IntKind.i64 (0)))).bind fun x8 =>
 some (x8, σ) := by kernel_rfl
theorem F89_call {lo : Nat} {x0 x1 : DV} {σ : Store} {r : DV × Store} (h : F89 guardT lo x0 x1 σ = some r) : CC lo 89 [x0, x1] σ = some r :=
 callL_run Go.Proofs.Tryz.func89 (by decide +kernel) rfl (by decide +kernel) h
noncomputable def c62_0 : Code := bodyOf Go.Proofs.Tryz.f62
noncomputable def a62_0 : Ann := (pol 62).ann
noncomputable def a62_5 : Ann := right (left (right a62_0))
noncomputable def a62_6 : Ann := left a62_5
noncomputable def c62_7 : Code := fstC (fstC (sndC (fstC (sndC c62_0))))
noncomputable def c62_23 : Code := sndC (sndC c62_0)
noncomputable def a62_23 : Ann := right (right a62_0)
noncomputable def f62_L0 (G : GuardT) (lo : Nat) (x0 x1 x5 : DV) (σ : Store) : Option (DV × Store) :=
 codeF G PP (pol 62) CC lo (.loop c62_7) a62_6 [x0, x1, ud, ud, ud, x5, ud, ud, ud, ud, ud, ud, ud, ud, ud, ud, ud, ud] σ
 (blockC 0 a62_5 (seqC G PP (pol 62) CC lo c62_23 a62_23 (finR PP Go.Proofs.Tryz.f62.results.toList)))
noncomputable def F62 (G : GuardT) (lo : Nat) (x0 x1 : DV) (σ : Store) : Option (DV × Store) :=
 codeF G PP (pol 62) CC lo c62_0 a62_0 [x0, x1, ud, ud, ud, ud, ud, ud, ud, ud, ud, ud, ud, ud, ud, ud, ud, ud] σ (finR PP Go.Proofs.Tryz.f62.results.toList)
theorem f62_L0_eq (G : GuardT) (hG : GuardOk G) (lo : Nat) (x0 x1 x5 : DV) (σ : Store) : f62_L0 G lo x0 x1 x5 σ =
 (len PP 22 x0 σ).bind fun x8 =>
 (binOp PP .lss 3 x5 x8).bind fun x9 =>
 condK x9
 (
 (indexAddr PP 22 x0 x5).bind fun x14 =>
 (load PP 3 x14 σ).bind fun x15 =>
 (binOp PP .eql 3 x15 x1).bind fun x17 =>
 condK x17
 (
 some ((DV.p (PV.bool true)), σ)
 )
 (
 (binOp PP .add 3 x5 (DV.p (PV.int IntKind.i64 (1)))).bind fun x11 =>
 f62_L0 G lo x0 x1 x11 σ
 )
 )
 (
 some ((DV.p (PV.bool false)), σ)
 ) := (loopF_eq G hG).trans (by kernel_rfl)
theorem F62_eq (G : GuardT) (lo : Nat) (x0 x1 : DV) (σ : Store) : F62 G lo x0 x1 σ =
 f62_L0 G lo x0 x1 (DV.p (PV.int IntKind.i64 (0))) σ := by kernel_rfl
theorem F62_call {lo : Nat} {x0 x1 : DV} {σ : Store} {r : DV × Store} (h : F62 guardT lo x0 x1 σ = some r) : CC lo 62 [x0, x1] σ = some r :=
 callL_run Go.Proofs.Tryz.func62 (by decide +kernel) rfl (by decide +kernel) h
noncomputable def c98_0 : Code := bodyOf Go.Proofs.Tryz.f98
noncomputable def a98_0 : Ann := (pol 98).ann
noncomputable def a98_7 : Ann := right (left (right (right a98_0)))
noncomputable def a98_8 : Ann := left a98_7
noncomputable def c98_9 : Code := fstC (fstC (sndC (fstC (sndC (sndC c98_0)))))
noncomputable def c98_27 : Code := sndC (sndC (sndC c98_0))
noncomputable def a98_27 : Ann := right (right (right a98_0))
noncomputable def f98_L0 (G : GuardT) (lo : Nat) (x3 x6 x7 x8 : DV) (σ : Store) : Option (DV × Store) :=
 codeF G PP (pol 98) CC lo (.loop c98_9) a98_8 [ud, ud, ud, x3, ud, ud, x6, x7, x8, ud, ud, ud, ud, ud, ud, ud, ud, ud] σ
 (blockC 0 a98_7 (seqC G PP (pol 98) CC lo c98_27 a98_27 (finR PP Go.Proofs.Tryz.f98.results.toList)))
noncomputable def F98 (G : GuardT) (lo : Nat) (x0 : DV) (σ : Store) : Option (DV × Store) :=
 codeF G PP (pol 98) CC lo c98_0 a98_0 [x0, ud, ud, ud, ud, ud, ud, ud, ud, ud, ud, ud, ud, ud, ud, ud, ud, ud] σ (finR PP Go.Proofs.Tryz.f98.results.toList)
theorem f98_L0_eq (G : GuardT) (hG : GuardOk G) (lo : Nat) (x3 x6 x7 x8 : DV) (σ : Store) : f98_L0 G lo x3 x6 x7 x8 σ =
 (binOp PP .lss 3 x8 x7).bind fun x9 =>
 condK x9
 (
 (indexAddr PP 22 x6 x8).bind fun x10 =>
 (load PP 3 x10 σ).bind fun x11 =>
 (binOp PP .neq 3 x11 x3).bind fun x14 =>
 condK x14
 (
 some (x11, σ)
 )
 (
 (binOp PP .add 3 x8 (DV.p (PV.int IntKind.i64 (1)))).bind fun x16 =>
 f98_L0 G lo x3 x6 x7 x16 σ
 )
 )
 (
 some (x3, σ)
 ) := (loopF_eq G hG).trans (by kernel_rfl)
theorem F98_eq (G : GuardT) (lo : Nat) (x0 : DV) (σ : Store) : F98 G lo x0 σ =
 (len PP 22 x0 σ).bind fun x7 =>
 f98_L0 G lo (DV.p (PV.int IntKind.i64 (0))) x0 x7 (DV.p (PV.int IntKind.i64 (0))) σ := by kernel_rfl
theorem F98_call {lo : Nat} {x0 : DV} {σ : Store} {r : DV × Store} (h : F98 guardT lo x0 σ = some r) : CC lo 98 [x0] σ = some r :=
 callL_run Go.Proofs.Tryz.func98 (by decide +kernel) rfl (by decide +kernel) h
noncomputable def c119_0 : Code := bodyOf Go.Proofs.Tryz.f119
noncomputable def a119_0 : Ann := (pol 119).ann
noncomputable def F119 (G : GuardT) (lo : Nat) (x0 x1 : DV) (σ : Store) : Option (DV × Store) :=
 codeF G PP (pol 119) CC lo c119_0 a119_0 [x0, x1, ud, ud, ud, ud, ud, ud, ud, ud, ud, ud, ud, ud, ud, ud, ud, ud, ud, ud, ud, ud] σ (finR PP Go.Proofs.Tryz.f119.results.toList)
theorem F119_eq (G : GuardT) (lo : Nat) (x0 x1 : DV) (σ : Store) : F119 G lo x0 x1 σ =
 (boxV x0).bind fun z2 =>
 (boxV x1).bind fun z3 =>
 (fieldAddr PP 69 (DV.ptr (List.length σ) 0) 0).bind fun x5 =>
 (load PP 3 x5 ((σ ++ [Row.mix z2]) ++ [Row.mix z3])).bind fun x6 =>
 (fieldAddr PP 69 (DV.ptr (List.length (σ ++ [Row.mix z2])) 0) 0).bind fun x7 =>
 (load PP 3 x7 ((σ ++ [Row.mix z2]) ++ [Row.mix z3])).bind fun x8 =>
 (pureFn CC (DV.fn 99 []) [x6, x8] ((σ ++ [Row.mix z2]) ++ [Row.mix z3])).bind fun x9 =>
 (fieldAddr PP 69 (DV.ptr (List.length σ) 0) 1).bind fun x10 =>
 (load PP 3 x10 ((σ ++ [Row.mix z2]) ++ [Row.mix z3])).bind fun x11 =>
 (fieldAddr PP 69 (DV.ptr (List.length (σ ++ [Row.mix z2])) 0) 1).bind fun x12 =>
 (load PP 3 x12 ((σ ++ [Row.mix z2]) ++ [Row.mix z3])).bind fun x13 =>
 (pureFn CC (DV.fn 99 []) [x11, x13] ((σ ++ [Row.mix z2]) ++ [Row.mix z3])).bind fun x14 =>
 (fieldAddr PP 69 (DV.ptr (List.length σ) 0) 2).bind fun x15 =>
 (load PP 3 x15 ((σ ++ [Row.mix z2]) ++ [Row.mix z3])).bind fun x16 =>
 (fieldAddr PP 69 (DV.ptr (List.length (σ ++ [Row.mix z2])) 0) 2).bind fun x17 =>
 (load PP 3 x17 ((σ ++ [Row.mix z2]) ++ [Row.mix z3])).bind fun x18 =>
 (pureFn CC (DV.fn 99 []) [x16, x18] ((σ ++ [Row.mix z2]) ++ [Row.mix z3])).bind fun x19 =>
 (buildSlice PP none 22 3 [(0, x9), (1, x14), (2, x19)] ((σ ++ [Row.mix z2]) ++ [Row.mix z3])).bind fun r20_1 =>
 (pureFn CC (DV.fn 98 []) [r20_1.1] r20_1.2).bind fun x21 =>
 some (x21, r20_1.2) := by kernel_rfl
theorem F119_call {lo : Nat} {x0 x1 : DV} {σ : Store} {r : DV × Store} (h : F119 guardT lo x0 x1 σ = some r) : CC lo 119 [x0, x1] σ = some r :=
 callL_run Go.Proofs.Tryz.func119 (by decide +kernel) rfl (by decide +kernel) h
noncomputable def c92_0 : Code := bodyOf Go.Proofs.Tryz.f92
noncomputable def a92_0 : Ann := (pol 92).ann
noncomputable def F92 (G : GuardT) (lo : Nat) (x0 : DV) (σ : Store) : Option (DV × Store) :=
 codeF G PP (pol 92) CC lo c92_0 a92_0 [x0, ud, ud, ud, ud, ud, ud, ud, ud, ud] σ (finR PP Go.Proofs.Tryz.f92.results.toList)
theorem F92_eq (G : GuardT) (lo : Nat) (x0 : DV) (σ : Store) : F92 G lo x0 σ =
 (boxV x0).bind fun z1 =>
 (fieldAddr PP 69 (DV.ptr (List.length σ) 0) 0).bind fun x3 =>
 (load PP 3 x3 (σ ++ [Row.mix z1])).bind fun x4 =>
 (fieldAddr PP 69 (DV.ptr (List.length σ) 0) 1).bind fun x5 =>
 (load PP 3 x5 (σ ++ [Row.mix z1])).bind fun x6 =>
 (fieldAddr PP 69 (DV.ptr (List.length σ) 0) 2).bind fun x7 =>
 (load PP 3 x7 (σ ++ [Row.mix z1])).bind fun x8 =>
 (buildSlice PP none 22 3 [(0, x4), (1, x6), (2, x8)] (σ ++ [Row.mix z1])).bind fun r9_1 =>
 some (r9_1.1, r9_1.2) := by kernel_rfl
theorem F92_call {lo : Nat} {x0 : DV} {σ : Store} {r : DV × Store} (h : F92 guardT lo x0 σ = some r) : CC lo 92 [x0] σ = some r :=
 callL_run Go.Proofs.Tryz.func92 (by decide +kernel) rfl (by decide +kernel) h
noncomputable def c69_0 : Code := bodyOf Go.Proofs.Tryz.f69
noncomputable def a69_0 : Ann := (pol 69).ann
noncomputable def a69_5 : Ann := right (left (right a69_0))
noncomputable def a69_6 : Ann := left a69_5
noncomputable def c69_7 : Code := fstC (fstC (sndC (fstC (sndC c69_0))))
noncomputable def c69_23 : Code := sndC (sndC c69_0)
noncomputable def a69_23 : Ann := right (right a69_0)
noncomputable def f69_L0 (G : GuardT) (lo : Nat) (x0 x1 x5 : DV) (σ : Store) : Option (DV × Store) :=
 codeF G PP (pol 69) CC lo (.loop c69_7) a69_6 [x0, x1, ud, ud, ud, x5, ud, ud, ud, ud, ud, ud, ud, ud, ud, ud, ud, ud, ud, ud, ud, ud, ud, ud, ud, ud, ud, ud, ud, ud, ud, ud, ud, ud, ud, ud, ud, ud, ud, ud, ud, ud, ud, ud, ud, ud, ud, ud, ud, ud, ud, ud] σ
 (blockC 0 a69_5 (seqC G PP (pol 69) CC lo c69_23 a69_23 (finR PP Go.Proofs.Tryz.f69.results.toList)))
noncomputable def F69 (G : GuardT) (lo : Nat) (x0 x1 : DV) (σ : Store) : Option (DV × Store) :=
 codeF G PP (pol 69) CC lo c69_0 a69_0 [x0, x1, ud, ud, ud, ud, ud, ud, ud, ud, ud, ud, ud, ud, ud, ud, ud, ud, ud, ud, ud, ud, ud, ud, ud, ud, ud, ud, ud, ud, ud, ud, ud, ud, ud, ud, ud, ud, ud, ud, ud, ud, ud, ud, ud, ud, ud, ud, ud, ud, ud, ud] σ (finR PP Go.Proofs.Tryz.f69.results.toList)
theorem f69_L0_eq (G : GuardT) (hG : GuardOk G) (lo : Nat) (x0 x1 x5 : DV) (σ : Store) : f69_L0 G lo x0 x1 x5 σ =
 (len PP 22 x0 σ).bind fun x8 =>
 (binOp PP .lss 3 x5 x8).bind fun x9 =>
 G _ x9 true (some (x5, σ)) σ fun x11 σ1 =>
 G _ x9 true (some (x1, σ1)) σ1 fun x12 σ2 =>
 G _ x9 true ((len PP 22 x12 σ2).bind fun v => some (v, σ2)) σ2 fun x13 σ3 =>
 G _ x9 true ((binOp PP .lss 3 x11 x13).bind fun v => some (v, σ3)) σ3 fun x14 σ4 =>
 (pickV x9 x14 (DV.p (PV.bool false))).bind fun x15 =>
 condK x15
 (
 (indexAddr PP 22 x0 x5).bind fun x20 =>
 (load PP 3 x20 σ4).bind fun x21 =>
 (indexAddr PP 22 x1 x5).bind fun x24 =>
 (load PP 3 x24 σ4).bind fun x25 =>
 (binOp PP .neq 3 x21 x25).bind fun x26 =>
 condK x26
 (
 (indexAddr PP 22 x0 x5).bind fun x29 =>
 (load PP 3 x29 σ4).bind fun x30 =>
 (indexAddr PP 22 x1 x5).bind fun x33 =>
 (load PP 3 x33 σ4).bind fun x34 =>
 (binOp PP .lss 3 x30 x34).bind fun x35 =>
 (pureFn CC (DV.fn 36 []) [x35] σ4).bind fun x36 =>
 (binOp PP .mul 3 (DV.p (PV.int IntKind.i64 (2))) x36).bind fun x37 =>
 (binOp PP .sub 3 (DV.p (PV.int IntKind.i64 (1))) x37).bind fun x38 =>
 some (x38, σ4)
 )
 (
 (binOp PP .add 3 x5 (DV.p (PV.int IntKind.i64 (1)))).bind fun x17 =>
 f69_L0 G lo x0 x1 x17 σ4
 )
 )
 (
 (len PP 22 x0 σ4).bind fun x40 =>
 (len PP 22 x1 σ4).bind fun x42 =>
 (binOp PP .gtr 3 x40 x42).bind fun x43 =>
 (pureFn CC (DV.fn 36 []) [x43] σ4).bind fun x44 =>
 (len PP 22 x0 σ4).bind fun x46 =>
 (len PP 22 x1 σ4).bind fun x48 =>
 (binOp PP .lss 3 x46 x48).bind fun x49 =>
 (pureFn CC (DV.fn 36 []) [x49] σ4).bind fun x50 =>
 (binOp PP .sub 3 x44 x50).bind fun x51 =>
 some (x51, σ4)
 ) := (loopF_eq G hG).trans (by kernel_rfl)
theorem F69_eq (G : GuardT) (lo : Nat) (x0 x1 : DV) (σ : Store) : F69 G lo x0 x1 σ =
 f69_L0 G lo x0 x1 (DV.p (PV.int IntKind.i64 (0))) σ := by kernel_rfl
theorem F69_call {lo : Nat} {x0 x1 : DV} {σ : Store} {r : DV × Store} (h : F69 guardT lo x0 x1 σ = some r) : CC lo 69 [x0, x1] σ = some r :=
 callL_run Go.Proofs.Tryz.func69 (by decide +kernel) rfl (by decide +kernel) h
noncomputable def c53_0 : Code := bodyOf Go.Proofs.Tryz.f53
noncomputable def a53_0 : Ann := (pol 53).ann
noncomputable def a53_5 : Ann := right (left (right a53_0))
noncomputable def a53_6 : Ann := left a53_5
noncomputable def c53_7 : Code := fstC (fstC (sndC (fstC (sndC c53_0))))
noncomputable def c53_25 : Code := sndC (sndC c53_0)
noncomputable def a53_25 : Ann := right (right a53_0)
noncomputable def f53_L0 (G : GuardT) (lo : Nat) (x5 x6 x7 : DV) (σ : Store) : Option (DV × Store) :=
 codeF G PP (pol 53) CC lo (.loop c53_7) a53_6 [ud, ud, ud, ud, ud, x5, x6, x7, ud, ud, ud, ud, ud, ud, ud] σ
 (blockC 0 a53_5 (seqC G PP (pol 53) CC lo c53_25 a53_25 (finR PP Go.Proofs.Tryz.f53.results.toList)))
noncomputable def F53 (G : GuardT) (lo : Nat) (x0 : DV) (σ : Store) : Option (DV × Store) :=
 codeF G PP (pol 53) CC lo c53_0 a53_0 [x0, ud, ud, ud, ud, ud, ud, ud, ud, ud, ud, ud, ud, ud, ud] σ (finR PP Go.Proofs.Tryz.f53.results.toList)
theorem f53_L0_eq (G : GuardT) (hG : GuardOk G) (lo : Nat) (x5 x6 x7 : DV) (σ : Store) : f53_L0 G lo x5 x6 x7 σ =
 (binOp PP .lss 3 x7 x6).bind fun x8 =>
 condK x8
 (
 (indexAddr PP 143 x5 x7).bind fun x9 =>
 (load PP 34 x9 σ).bind fun x10 =>
 (binOp PP .neq 34 x10 (DV.p (PV.int IntKind.i64 (0)))).bind fun x12 =>
 condK x12
 (
 some (x10, σ)
 )
 (
 (binOp PP .add 3 x7 (DV.p (PV.int IntKind.i64 (1)))).bind fun x14 =>
 f53_L0 G lo x5 x6 x14 σ
 )
 )
 (
 some ((DV.p (PV.int IntKind.i64 (0))), σ)
 ) := (loopF_eq G hG).trans (by kernel_rfl)
theorem F53_eq (G : GuardT) (lo : Nat) (x0 : DV) (σ : Store) : F53 G lo x0 σ =
 (len PP 143 x0 σ).bind fun x6 =>
 f53_L0 G lo x0 x6 (DV.p (PV.int IntKind.i64 (0))) σ := by kernel_rfl
theorem F53_call {lo : Nat} {x0 : DV} {σ : Store} {r : DV × Store} (h : F53 guardT lo x0 σ = some r) : CC lo 53 [x0] σ = some r :=
 callL_run Go.Proofs.Tryz.func53 (by decide +kernel) rfl (by decide +kernel) h
noncomputable def c87_0 : Code := bodyOf Go.Proofs.Tryz.f87
noncomputable def a87_0 : Ann := (pol 87).ann
noncomputable def F87 (G : GuardT) (lo : Nat) (x0 x1 : DV) (σ : Store) : Option (DV × Store) :=
 codeF G PP (pol 87) CC lo c87_0 a87_0 [x0, x1, ud, ud, ud, ud, ud, ud, ud, ud] σ (finR PP Go.Proofs.Tryz.f87.results.toList)
theorem F87_eq (G : GuardT) (lo : Nat) (x0 x1 : DV) (σ : Store) : F87 G lo x0 x1 σ =
 (fieldAddr PP 25 x1 0).bind fun x5 =>
 (load PP 3 x5 σ).bind fun x6 =>
 (binOp PP .sub 3 x6 (DV.p (PV.int IntKind.i64 (1)))).bind fun x7 =>
 (pureFn CC (DV.fn 88 []) [x0, (DV.p (PV.int IntKind.i64 (0))), x7] σ).bind fun x8 =>
 (unOp .not x8).bind fun x9 =>
 some (x9, σ) := by kernel_rfl
theorem F87_call {lo : Nat} {x0 x1 : DV} {σ : Store} {r : DV × Store} (h : F87 guardT lo x0 x1 σ = some r) : CC lo 87 [x0, x1] σ = some r :=
 callL_run Go.Proofs.Tryz.func87 (by decide +kernel) rfl (by decide +kernel) h
noncomputable def c91_0 : Code := bodyOf Go.Proofs.Tryz.f91
noncomputable def a91_0 : Ann := (pol 91).ann
noncomputable def F91 (G : GuardT) (lo : Nat) (x0 x1 x2 : DV) (σ : Store) : Option (DV × Store) :=
 codeF G PP (pol 91) CC lo c91_0 a91_0 [x0, x1, x2, ud, ud, ud, ud, ud, ud, ud, ud, ud, ud, ud, ud] σ (finR PP Go.Proofs.Tryz.f91.results.toList)
theorem F91_eq (G : GuardT) (lo : Nat) (x0 x1 x2 : DV) (σ : Store) : F91 G lo x0 x1 x2 σ =
 (boxV x0).bind fun z3 =>
 (fieldAddr PP 69 (DV.ptr (List.length σ) 0) 0).bind fun x5 =>
 (load PP 3 x5 (σ ++ [Row.mix z3])).bind fun x6 =>
 (load PP 3 x1 (σ ++ [Row.mix z3])).bind fun x7 =>
 (binOp PP .eql 3 x6 x7).bind fun x8 =>
 G _ x8 true ((fieldAddr PP 69 (DV.ptr (List.length σ) 0) 1).bind fun v => some (v, (σ ++ [Row.mix z3]))) (σ ++ [Row.mix z3]) fun x10 σ1 =>
 G _ x8 true ((load PP 3 x10 σ1).bind fun v => some (v, σ1)) σ1 fun x11 σ2 =>
 G _ x8 true ((load PP 3 x2 σ2).bind fun v => some (v, σ2)) σ2 fun x12 σ3 =>
 G _ x8 true ((binOp PP .eql 3 x11 x12).bind fun v => some (v, σ3)) σ3 fun x13 σ4 =>
 (pickV x8 x13 (DV.p (PV.bool false))).bind fun x14 =>
 some (x14, σ4) := by kernel_rfl
theorem F91_call {lo : Nat} {x0 x1 x2 : DV} {σ : Store} {r : DV × Store} (h : F91 guardT lo x0 x1 x2 σ = some r) : CC lo 91 [x0, x1, x2] σ = some r :=
 callL_run Go.Proofs.Tryz.func91 (by decide +kernel) rfl (by decide +kernel) h
noncomputable def c34_0 : Code := bodyOf Go.Proofs.Tryz.f34
noncomputable def a34_0 : Ann := (pol 34).ann
noncomputable def a34_13 : Ann := right (left (right (right a34_0)))
noncomputable def a34_14 : Ann := left a34_13
noncomputable def c34_15 : Code := fstC (fstC (sndC (fstC (sndC (sndC c34_0)))))
noncomputable def c34_31 : Code := sndC (sndC (sndC c34_0))
noncomputable def a34_31 : Ann := right (right (right a34_0))
noncomputable def f34_L0 (G : GuardT) (lo : Nat) (x0 x1 x5 : DV) (σ : Store) : Option (DV × Store) :=
 codeF G PP (pol 34) CC lo (.loop c34_15) a34_14 [x0, x1, ud, ud, ud, x5, ud, ud, ud, ud, ud, ud, ud, ud, ud, ud, ud, ud, ud, ud, ud, ud, ud, ud, ud, ud] σ
 (blockC 0 a34_13 (seqC G PP (pol 34) CC lo c34_31 a34_31 (finR PP Go.Proofs.Tryz.f34.results.toList)))
noncomputable def F34 (G : GuardT) (lo : Nat) (x0 x1 : DV) (σ : Store) : Option (DV × Store) :=
 codeF G PP (pol 34) CC lo c34_0 a34_0 [x0, x1, ud, ud, ud, ud, ud, ud, ud, ud, ud, ud, ud, ud, ud, ud, ud, ud, ud, ud, ud, ud, ud, ud, ud, ud] σ (finR PP Go.Proofs.Tryz.f34.results.toList)
theorem f34_L0_eq (G : GuardT) (hG : GuardOk G) (lo : Nat) (x0 x1 x5 : DV) (σ : Store) : f34_L0 G lo x0 x1 x5 σ =
 (len PP 22 x0 σ).bind fun x13 =>
 (binOp PP .lss 3 x5 x13).bind fun x14 =>
 condK x14
 (
 (indexAddr PP 22 x0 x5).bind fun x19 =>
 (load PP 3 x19 σ).bind fun x20 =>
 (indexAddr PP 22 x1 x5).bind fun x23 =>
 (load PP 3 x23 σ).bind fun x24 =>
 (binOp PP .neq 3 x20 x24).bind fun x25 =>
 condK x25
 (
 some ((DV.p (PV.bool false)), σ)
 )
 (
 (binOp PP .add 3 x5 (DV.p (PV.int IntKind.i64 (1)))).bind fun x16 =>
 f34_L0 G lo x0 x1 x16 σ
 )
 )
 (
 some ((DV.p (PV.bool true)), σ)
 ) := (loopF_eq G hG).trans (by kernel_rfl)
theorem F34_eq (G : GuardT) (lo : Nat) (x0 x1 : DV) (σ : Store) : F34 G lo x0 x1 σ =
 (len PP 22 x0 σ).bind fun x7 =>
 (len PP 22 x1 σ).bind fun x9 =>
 (binOp PP .neq 3 x7 x9).bind fun x10 =>
 condK x10
 (
 some ((DV.p (PV.bool false)), σ)
 )
 (
 f34_L0 G lo x0 x1 (DV.p (PV.int IntKind.i64 (0))) σ
 ) := by kernel_rfl
theorem F34_call {lo : Nat} {x0 x1 : DV} {σ : Store} {r : DV × Store} (h : F34 guardT lo x0 x1 σ = some r) : CC lo 34 [x0, x1] σ = some r :=
 callL_run Go.Proofs.Tryz.func34 (by decide +kernel) rfl (by decide +kernel) h
noncomputable def c16_0 : Code := bodyOf Go.Proofs.Tryz.f16
noncomputable def a16_0 : Ann := (pol 16).ann
noncomputable def F16 (G : GuardT) (lo : Nat) (x0 : DV) (σ : Store) : Option (DV × Store) :=
 codeF G PP (pol 16) CC lo c16_0 a16_0 [x0, ud, ud, ud, ud, ud] σ (finR PP Go.Proofs.Tryz.f16.results.toList)
theorem F16_eq (G : GuardT) (lo : Nat) (x0 : DV) (σ : Store) : F16 G lo x0 σ =
 (buildSlice PP none 22 0 [] σ).bind fun r3_1 =>
 (append PP lo false 22 22 r3_1.1 x0 r3_1.2).bind fun r5_2 =>
 some (r5_2.1, r5_2.2) := by kernel_rfl
theorem F16_call {lo : Nat} {x0 : DV} {σ : Store} {r : DV × Store} (h : F16 guardT lo x0 σ = some r) : CC lo 16 [x0] σ = some r :=
 callL_run Go.Proofs.Tryz.func16 (by decide +kernel) rfl (by decide +kernel) h
end Go.D
end
/- Equations of functions 90, 100, 118, 96, 56, 13, printed by gen.py. -/
section
set_option linter.unusedVariables false
set_option maxRecDepth 10000
namespace Go.D
open _root_.Go.D.Code (fstC sndC)
open _root_.Go.D.Ann (left right)
noncomputable def c90_0 : Code := bodyOf Go.Proofs.Tryz.f90
noncomputable def a90_0 : Ann := (pol 90).ann
noncomputable def a90_5 : Ann := right (left (right a90_0))
noncomputable def a90_6 : Ann := left a90_5
noncomputable def c90_7 : Code := fstC (fstC (sndC (fstC (sndC c90_0))))
noncomputable def c90_25 : Code := sndC (sndC c90_0)
noncomputable def a90_25 : Ann := right (right a90_0)
noncomputable def f90_L0 (G : GuardT) (lo : Nat) (x0 x1 x7 x8 : DV) (σ : Store) : Option (DV × Store) :=
 codeF G PP (pol 90) CC lo (.loop c90_7) a90_6 [x0, x1, ud, ud, ud, ud, ud, x7, x8, ud, ud, ud, ud, ud, ud, ud, ud, ud, ud] σ
 (blockC 0 a90_5 (seqC G PP (pol 90) CC lo c90_25 a90_25 (finR PP Go.Proofs.Tryz.f90.results.toList)))
noncomputable def F90 (G : GuardT) (lo : Nat) (x0 x1 : DV) (σ : Store) : Option (DV × Store) :=
 codeF G PP (pol 90) CC lo c90_0 a90_0 [x0, x1, ud, ud, ud, ud, ud, ud, ud, ud, ud, ud, ud, ud, ud, ud, ud, ud, ud] σ (finR PP Go.Proofs.Tryz.f90.results.toList)
theorem f90_L0_eq (G : GuardT) (hG : GuardOk G) (lo : Nat) (x0 x1 x7 x8 : DV) (σ : Store) : f90_L0 G lo x0 x1 x7 x8 σ =
 (binOp PP .lss 3 x8 x7).bind fun x9 =>
 condK x9
 (
 (indexAddr PP 23 x0 x8).bind fun x14 =>
 (load PP 69 x14 σ).bind fun x15 =>
 (pureFn CC x1 [x15] σ).bind fun x16 =>
 condK x16
 (
 some (x8, σ)
 )
 (
 (binOp PP .add 3 x8 (DV.p (PV.int IntKind.i64 (1)))).bind fun x18 =>
 f90_L0 G lo x0 x1 x7 x18 σ
 )
 )
 (
 some ((DV.p (PV.int IntKind.i64 (-1))), σ)
 ) := (loopF_eq G hG).trans (by kernel_rfl)
theorem F90_eq (G : GuardT) (lo : Nat) (x0 x1 : DV) (σ : Store) : F90 G lo x0 x1 σ =
 (len PP 23 x0 σ).bind fun x7 =>
 f90_L0 G lo x0 x1 x7 (DV.p (PV.int IntKind.i64 (0))) σ := by kernel_rfl
theorem F90_call {lo : Nat} {x0 x1 : DV} {σ : Store} {r : DV × Store} (h : F90 guardT lo x0 x1 σ = some r) : CC lo 90 [x0, x1] σ = some r :=
 callL_run Go.Proofs.Tryz.func90 (by decide +kernel) rfl (by decide +kernel) h
noncomputable def c100_0 : Code := bodyOf Go.Proofs.Tryz.f100
noncomputable def a100_0 : Ann := (pol 100).ann
noncomputable def F100 (G : GuardT) (lo : Nat) (x0 x1 : DV) (σ : Store) : Option (DV × Store) :=
 codeF G PP (pol 100) CC lo c100_0 a100_0 [x0, x1, ud, ud, ud, ud, ud, ud, ud] σ (finR PP Go.Proofs.Tryz.f100.results.toList)
theorem F100_eq (G : GuardT) (lo : Nat) (x0 x1 : DV) (σ : Store) : F100 G lo x0 x1 σ =
 (pureFn CC (DV.fn 90 []) [x0, x1] σ).bind fun x7 =>
 (binOp PP .geq 3 x7 (DV.p (PV.int IntKind.i64 (0)))).bind fun x8 =>
 some (x8, σ) := by kernel_rfl
theorem F100_call {lo : Nat} {x0 x1 : DV} {σ : Store} {r : DV × Store} (h : F100 guardT lo x0 x1 σ = some r) : CC lo 100 [x0, x1] σ = some r :=
 callL_run Go.Proofs.Tryz.func100 (by decide +kernel) rfl (by decide +kernel) h
noncomputable def c118_0 : Code := bodyOf Go.Proofs.Tryz.f118
noncomputable def a118_0 : Ann := (pol 118).ann
noncomputable def F118 (G : GuardT) (lo : Nat) (x0 x1 : DV) (σ : Store) : Option (DV × Store) :=
 codeF G PP (pol 118) CC lo c118_0 a118_0 [x0, x1, ud, ud, ud, ud, ud, ud, ud] σ (finR PP Go.Proofs.Tryz.f118.results.toList)
theorem F118_eq (G : GuardT) (lo : Nat) (x0 x1 : DV) (σ : Store) : F118 G lo x0 x1 σ =
 (fieldAddr PP 25 x1 0).bind fun x5 =>
 (load PP 3 x5 σ).bind fun x6 =>
 (binOp PP .sub 3 x6 (DV.p (PV.int IntKind.i64 (1)))).bind fun x7 =>
 (pureFn CC (DV.fn 88 []) [x0, (DV.p (PV.int IntKind.i64 (0))), x7] σ).bind fun x8 =>
 some (x8, σ) := by kernel_rfl
theorem F118_call {lo : Nat} {x0 x1 : DV} {σ : Store} {r : DV × Store} (h : F118 guardT lo x0 x1 σ = some r) : CC lo 118 [x0, x1] σ = some r :=
 callL_run Go.Proofs.Tryz.func118 (by decide +kernel) rfl (by decide +kernel) h
noncomputable def c96_0 : Code := bodyOf Go.Proofs.Tryz.f96
noncomputable def a96_0 : Ann := (pol 96).ann
noncomputable def a96_9 : Ann := right (left (right (right (right a96_0))))
noncomputable def a96_10 : Ann := left a96_9
noncomputable def c96_11 : Code := fstC (fstC (sndC (fstC (sndC (sndC (sndC c96_0))))))
noncomputable def c96_23 : Code := sndC (sndC (sndC (sndC c96_0)))
noncomputable def a96_23 : Ann := right (right (right (right a96_0)))
noncomputable def a96_26 : Ann := right (left a96_23)
noncomputable def a96_27 : Ann := left a96_26
noncomputable def c96_28 : Code := fstC (fstC (sndC (fstC c96_23)))
noncomputable def c96_40 : Code := sndC c96_23
noncomputable def a96_40 : Ann := right a96_23
noncomputable def f96_L0 (G : GuardT) (lo : Nat) (x1 x3 x4 x20 x21 x22 : DV) (σ : Store) : Option (DV × Store) :=
 codeF G PP (pol 96) CC lo (.loop c96_11) a96_10 [ud, x1, ud, x3, x4, ud, ud, ud, ud, ud, ud, ud, ud, ud, ud, ud, ud, ud, ud, ud, x20, x21, x22, ud, ud, ud, ud, ud, ud, ud, ud, ud, ud, ud, ud, ud, ud, ud, ud, ud, ud, ud, ud, ud, ud, ud, ud, ud, ud, ud, ud, ud, ud, ud, ud, ud, ud, ud, ud, ud, ud, ud, ud, ud, ud, ud, ud, ud, ud, ud, ud, ud, ud, ud, ud, ud, ud, ud, ud, ud, ud, ud, ud, ud, ud, ud, ud, ud, ud, ud, ud] σ
 (blockC 0 a96_9 (seqC G PP (pol 96) CC lo c96_23 a96_23 (finR PP Go.Proofs.Tryz.f96.results.toList)))
noncomputable def f96_L1 (G : GuardT) (lo : Nat) (x1 x3 x4 x49 x50 x51 : DV) (σ : Store) : Option (DV × Store) :=
 codeF G PP (pol 96) CC lo (.loop c96_28) a96_27 [ud, x1, ud, x3, x4, ud, ud, ud, ud, ud, ud, ud, ud, ud, ud, ud, ud, ud, ud, ud, ud, ud, ud, ud, ud, ud, ud, ud, ud, ud, ud, ud, ud, ud, ud, ud, ud, ud, ud, ud, ud, ud, ud, ud, ud, ud, ud, ud, ud, x49, x50, x51, ud, ud, ud, ud, ud, ud, ud, ud, ud, ud, ud, ud, ud, ud, ud, ud, ud, ud, ud, ud, ud, ud, ud, ud, ud, ud, ud, ud, ud, ud, ud, ud, ud, ud, ud, ud, ud, ud, ud] σ
 (blockC 2 a96_26 (seqC G PP (pol 96) CC lo c96_40 a96_40 (finR PP Go.Proofs.Tryz.f96.results.toList)))
noncomputable def F96 (G : GuardT) (lo : Nat) (x0 : DV) (σ : Store) : Option (DV × Store) :=
 codeF G PP (pol 96) CC lo c96_0 a96_0 [x0, ud, ud, ud, ud, ud, ud, ud, ud, ud, ud, ud, ud, ud, ud, ud, ud, ud, ud, ud, ud, ud, ud, ud, ud, ud, ud, ud, ud, ud, ud, ud, ud, ud, ud, ud, ud, ud, ud, ud, ud, ud, ud, ud, ud, ud, ud, ud, ud, ud, ud, ud, ud, ud, ud, ud, ud, ud, ud, ud, ud, ud, ud, ud, ud, ud, ud, ud, ud, ud, ud, ud, ud, ud, ud, ud, ud, ud, ud, ud, ud, ud, ud, ud, ud, ud, ud, ud, ud, ud, ud] σ (finR PP Go.Proofs.Tryz.f96.results.toList)
theorem f96_L0_eq (G : GuardT) (hG : GuardOk G) (lo : Nat) (x1 x3 x4 x20 x21 x22 : DV) (σ : Store) : f96_L0 G lo x1 x3 x4 x20 x21 x22 σ =
 (binOp PP .lss 3 x22 x21).bind fun x23 =>
 condK x23
 (
 (indexAddr PP 22 x20 x22).bind fun x25 =>
 (load PP 3 x25 σ).bind fun x26 =>
 G _ x4 true (some (x3, σ)) σ fun x29 σ5 =>
 G _ x4 true (some (x26, σ5)) σ5 fun x30 σ6 =>
 G _ x4 true ((pureFn CC x29 [x30] σ6).bind fun v => some (v, σ6)) σ6 fun x31 σ7 =>
 (pickV x4 x31 (DV.p (PV.bool false))).bind fun x32 =>
 G _ x32 true (some (x22, σ7)) σ7 fun x34 σ8 =>
 G _ x32 true ((binOp PP .eql 3 x34 (DV.p (PV.int IntKind.i64 (0)))).bind fun v => some (v, σ8)) σ8 fun x35 σ9 =>
 G _ x32 true (some (x35, σ9)) σ9 fun x36 σ10 =>
 G _ x36 false ((fieldAddr PP 25 x1 1).bind fun v => some (v, σ10)) σ10 fun x37 σ11 =>
 G _ x36 false ((load PP 22 x37 σ11).bind fun v => some (v, σ11)) σ11 fun x38 σ12 =>
 G _ x36 false (some (x22, σ12)) σ12 fun x39 σ13 =>
 G _ x36 false ((binOp PP .sub 3 x39 (DV.p (PV.int IntKind.i64 (1)))).bind fun v => some (v, σ13)) σ13 fun x40 σ14 =>
 G _ x36 false ((indexAddr PP 22 x38 x40).bind fun v => some (v, σ14)) σ14 fun x41 σ15 =>
 G _ x36 false ((load PP 3 x41 σ15).bind fun v => some (v, σ15)) σ15 fun x42 σ16 =>
 G _ x36 false (some (x26, σ16)) σ16 fun x43 σ17 =>
 G _ x36 false ((binOp PP .lss 3 x42 x43).bind fun v => some (v, σ17)) σ17 fun x44 σ18 =>
 G _ x32 true ((pickV x36 (DV.p (PV.bool true)) x44).bind fun v => some (v, σ18)) σ18 fun x45 σ19 =>
 (pickV x32 x45 (DV.p (PV.bool false))).bind fun x46 =>
 (binOp PP .add 3 x22 (DV.p (PV.int IntKind.i64 (1)))).bind fun x47 =>
 f96_L0 G lo x1 x3 x46 x20 x21 x47 σ19
 )
 (
 (fieldAddr PP 25 x1 2).bind fun x48 =>
 (load PP 23 x48 σ).bind fun x49 =>
 (len PP 23 x49 σ).bind fun x50 =>
 f96_L1 G lo x1 x3 x4 x49 x50 (DV.p (PV.int IntKind.i64 (0))) σ
 ) := (loopF_eq G hG).trans (by kernel_rfl)
theorem f96_L1_eq (G : GuardT) (hG : GuardOk G) (lo : Nat) (x1 x3 x4 x49 x50 x51 : DV) (σ : Store) : f96_L1 G lo x1 x3 x4 x49 x50 x51 σ =
 (binOp PP .lss 3 x51 x50).bind fun x52 =>
 condK x52
 (
 (indexAddr PP 23 x49 x51).bind fun x54 =>
 (load PP 69 x54 σ).bind fun x55 =>
 (zeroOf PP 69).bind fun z8 =>
 (store PP lo 69 (DV.ptr (List.length σ) 0) x55 (σ ++ [Row.mix z8])).bind fun σ20 =>
 G _ x4 true (some (x3, σ20)) σ20 fun x58 σ21 =>
 G _ x4 true ((fieldAddr PP 69 (DV.ptr (List.length σ) 0) 0).bind fun v => some (v, σ21)) σ21 fun x59 σ22 =>
 G _ x4 true ((load PP 3 x59 σ22).bind fun v => some (v, σ22)) σ22 fun x60 σ23 =>
 G _ x4 true ((pureFn CC x58 [x60] σ23).bind fun v => some (v, σ23)) σ23 fun x61 σ24 =>
 (pickV x4 x61 (DV.p (PV.bool false))).bind fun x62 =>
 G _ x62 true (some (x3, σ24)) σ24 fun x64 σ25 =>
 G _ x62 true ((fieldAddr PP 69 (DV.ptr (List.length σ) 0) 1).bind fun v => some (v, σ25)) σ25 fun x65 σ26 =>
 G _ x62 true ((load PP 3 x65 σ26).bind fun v => some (v, σ26)) σ26 fun x66 σ27 =>
 G _ x62 true ((pureFn CC x64 [x66] σ27).bind fun v => some (v, σ27)) σ27 fun x67 σ28 =>
 (pickV x62 x67 (DV.p (PV.bool false))).bind fun x68 =>
 G _ x68 true ((fieldAddr PP 69 (DV.ptr (List.length σ) 0) 2).bind fun v => some (v, σ28)) σ28 fun x70 σ29 =>
 G _ x68 true ((load PP 3 x70 σ29).bind fun v => some (v, σ29)) σ29 fun x71 σ30 =>
 G _ x68 true ((pureFn CC (DV.fn 88 []) [x71, (DV.p (PV.int IntKind.i64 (0))), (DV.p (PV.int IntKind.i64 (11)))] σ30).bind fun v => some (v, σ30)) σ30 fun x72 σ31 =>
 (pickV x68 x72 (DV.p (PV.bool false))).bind fun x73 =>
 G _ x73 true (some (x51, σ31)) σ31 fun x75 σ32 =>
 G _ x73 true ((binOp PP .eql 3 x75 (DV.p (PV.int IntKind.i64 (0)))).bind fun v => some (v, σ32)) σ32 fun x76 σ33 =>
 G _ x73 true (some (x76, σ33)) σ33 fun x77 σ34 =>
 G _ x77 false ((fieldAddr PP 25 x1 2).bind fun v => some (v, σ34)) σ34 fun x78 σ35 =>
 G _ x77 false ((load PP 23 x78 σ35).bind fun v => some (v, σ35)) σ35 fun x79 σ36 =>
 G _ x77 false (some (x51, σ36)) σ36 fun x80 σ37 =>
 G _ x77 false ((binOp PP .sub 3 x80 (DV.p (PV.int IntKind.i64 (1)))).bind fun v => some (v, σ37)) σ37 fun x81 σ38 =>
 G _ x77 false ((indexAddr PP 23 x79 x81).bind fun v => some (v, σ38)) σ38 fun x82 σ39 =>
 G _ x77 false ((load PP 69 x82 σ39).bind fun v => some (v, σ39)) σ39 fun x83 σ40 =>
 G _ x77 false ((load PP 69 (DV.ptr (List.length σ) 0) σ40).bind fun v => some (v, σ40)) σ40 fun x84 σ41 =>
 G _ x77 false ((pureFn CC (DV.fn 119 []) [x83, x84] σ41).bind fun v => some (v, σ41)) σ41 fun x85 σ42 =>
 G _ x77 false ((binOp PP .lss 3 x85 (DV.p (PV.int IntKind.i64 (0)))).bind fun v => some (v, σ42)) σ42 fun x86 σ43 =>
 G _ x73 true ((pickV x77 (DV.p (PV.bool true)) x86).bind fun v => some (v, σ43)) σ43 fun x87 σ44 =>
 (pickV x73 x87 (DV.p (PV.bool false))).bind fun x88 =>
 (binOp PP .add 3 x51 (DV.p (PV.int IntKind.i64 (1)))).bind fun x89 =>
 f96_L1 G lo x1 x3 x88 x49 x50 x89 σ44
 )
 (
 some (x4, σ)
 ) := (loopF_eq G hG).trans (by kernel_rfl)
theorem F96_eq (G : GuardT) (lo : Nat) (x0 : DV) (σ : Store) : F96 G lo x0 σ =
 (boxV x0).bind fun z1 =>
 (fieldAddr PP 25 (DV.ptr (List.length σ) 0) 0).bind fun x10 =>
 (load PP 3 x10 (σ ++ [Row.mix z1])).bind fun x11 =>
 (pureFn CC (DV.fn 88 []) [x11, (DV.p (PV.int IntKind.i64 (0))), (DV.p (PV.int IntKind.i64 (400)))] (σ ++ [Row.mix z1])).bind fun x12 =>
 G _ x12 true ((fieldAddr PP 25 (DV.ptr (List.length σ) 0) 2).bind fun v => some (v, (σ ++ [Row.mix z1]))) (σ ++ [Row.mix z1]) fun x14 σ1 =>
 G _ x12 true ((load PP 23 x14 σ1).bind fun v => some (v, σ1)) σ1 fun x15 σ2 =>
 G _ x12 true ((len PP 23 x15 σ2).bind fun v => some (v, σ2)) σ2 fun x16 σ3 =>
 G _ x12 true ((binOp PP .leq 3 x16 (DV.p (PV.int IntKind.i64 (2000)))).bind fun v => some (v, σ3)) σ3 fun x17 σ4 =>
 (pickV x12 x17 (DV.p (PV.bool false))).bind fun x18 =>
 (fieldAddr PP 25 (DV.ptr (List.length σ) 0) 1).bind fun x19 =>
 (load PP 22 x19 σ4).bind fun x20 =>
 (len PP 22 x20 σ4).bind fun x21 =>
 f96_L0 G lo (DV.ptr (List.length σ) 0) (DV.fn 118 [(DV.ptr (List.length σ) 0)]) x18 x20 x21 (DV.p (PV.int IntKind.i64 (0))) σ4 := by kernel_rfl
theorem F96_call {lo : Nat} {x0 : DV} {σ : Store} {r : DV × Store} (h : F96 guardT lo x0 σ = some r) : CC lo 96 [x0] σ = some r :=
 callL_run Go.Proofs.Tryz.func96 (by decide +kernel) rfl (by decide +kernel) h
noncomputable def c56_0 : Code := bodyOf Go.Proofs.Tryz.f56
noncomputable def a56_0 : Ann := (pol 56).ann
noncomputable def a56_13 : Ann := right (left (right (right a56_0)))
noncomputable def a56_14 : Ann := left a56_13
noncomputable def c56_15 : Code := fstC (fstC (sndC (fstC (sndC (sndC c56_0)))))
noncomputable def c56_31 : Code := sndC (sndC (sndC c56_0))
noncomputable def a56_31 : Ann := right (right (right a56_0))
noncomputable def a56_34 : Ann := right (left a56_31)
noncomputable def a56_35 : Ann := left a56_34
noncomputable def c56_36 : Code := fstC (fstC (sndC (fstC c56_31)))
noncomputable def c56_54 : Code := sndC c56_31
noncomputable def a56_54 : Ann := right a56_31
noncomputable def f56_L0 (G : GuardT) (lo : Nat) (x1 x3 : DV) (σ : Store) : Option (DV × Store) :=
 codeF G PP (pol 56) CC lo (.loop c56_15) a56_14 [ud, x1, ud, x3, ud, ud, ud, ud, ud, ud, ud, ud, ud, ud, ud, ud, ud, ud, ud, ud, ud, ud, ud, ud, ud, ud, ud, ud, ud, ud, ud, ud, ud, ud, ud, ud, ud, ud, ud, ud, ud, ud, ud, ud, ud, ud, ud, ud, ud, ud, ud, ud, ud, ud, ud, ud, ud, ud, ud, ud, ud, ud, ud, ud, ud, ud, ud, ud, ud, ud, ud, ud, ud, ud, ud, ud, ud, ud, ud, ud, ud, ud, ud, ud, ud, ud, ud, ud, ud, ud, ud, ud, ud, ud, ud, ud, ud, ud, ud, ud, ud, ud, ud, ud, ud, ud, ud, ud, ud, ud] σ
 (blockC 0 a56_13 (seqC G PP (pol 56) CC lo c56_31 a56_31 (finR PP Go.Proofs.Tryz.f56.results.toList)))
noncomputable def f56_L1 (G : GuardT) (lo : Nat) (x1 x4 : DV) (σ : Store) : Option (DV × Store) :=
 codeF G PP (pol 56) CC lo (.loop c56_36) a56_35 [ud, x1, ud, ud, x4, ud, ud, ud, ud, ud, ud, ud, ud, ud, ud, ud, ud, ud, ud, ud, ud, ud, ud, ud, ud, ud, ud, ud, ud, ud, ud, ud, ud, ud, ud, ud, ud, ud, ud, ud, ud, ud, ud, ud, ud, ud, ud, ud, ud, ud, ud, ud, ud, ud, ud, ud, ud, ud, ud, ud, ud, ud, ud, ud, ud, ud, ud, ud, ud, ud, ud, ud, ud, ud, ud, ud, ud, ud, ud, ud, ud, ud, ud, ud, ud, ud, ud, ud, ud, ud, ud, ud, ud, ud, ud, ud, ud, ud, ud, ud, ud, ud, ud, ud, ud, ud, ud, ud, ud, ud] σ
 (blockC 2 a56_34 (seqC G PP (pol 56) CC lo c56_54 a56_54 (finR PP Go.Proofs.Tryz.f56.results.toList)))
noncomputable def F56 (G : GuardT) (lo : Nat) (x0 : DV) (σ : Store) : Option (DV × Store) :=
 codeF G PP (pol 56) CC lo c56_0 a56_0 [x0, ud, ud, ud, ud, ud, ud, ud, ud, ud, ud, ud, ud, ud, ud, ud, ud, ud, ud, ud, ud, ud, ud, ud, ud, ud, ud, ud, ud, ud, ud, ud, ud, ud, ud, ud, ud, ud, ud, ud, ud, ud, ud, ud, ud, ud, ud, ud, ud, ud, ud, ud, ud, ud, ud, ud, ud, ud, ud, ud, ud, ud, ud, ud, ud, ud, ud, ud, ud, ud, ud, ud, ud, ud, ud, ud, ud, ud, ud, ud, ud, ud, ud, ud, ud, ud, ud, ud, ud, ud, ud, ud, ud, ud, ud, ud, ud, ud, ud, ud, ud, ud, ud, ud, ud, ud, ud, ud, ud, ud] σ (finR PP Go.Proofs.Tryz.f56.results.toList)
theorem f56_L0_eq (G : GuardT) (hG : GuardOk G) (lo : Nat) (x1 x3 : DV) (σ : Store) : f56_L0 G lo x1 x3 σ =
 (fieldAddr PP 25 x1 1).bind fun x25 =>
 (load PP 22 x25 σ).bind fun x26 =>
 (len PP 22 x26 σ).bind fun x27 =>
 (binOp PP .lss 3 x3 x27).bind fun x28 =>
 condK x28
 (
 (fieldAddr PP 25 x1 1).bind fun x31 =>
 (load PP 22 x31 σ).bind fun x32 =>
 (indexAddr PP 22 x32 x3).bind fun x34 =>
 (load PP 3 x34 σ).bind fun x35 =>
 (fieldAddr PP 25 x1 0).bind fun x36 =>
 (load PP 3 x36 σ).bind fun x37 =>
 (binOp PP .sub 3 x37 (DV.p (PV.int IntKind.i64 (1)))).bind fun x38 =>
 (pureFn CC (DV.fn 61 []) [x35, (DV.p (PV.int IntKind.i64 (0))), x38] σ).bind fun x39 =>
 (unOp .not x39).bind fun x40 =>
 G _ x40 false (some (x3, σ)) σ fun x42 σ11 =>
 G _ x40 false ((binOp PP .gtr 3 x42 (DV.p (PV.int IntKind.i64 (0)))).bind fun v => some (v, σ11)) σ11 fun x43 σ12 =>
 G _ x40 false (some (x43, σ12)) σ12 fun x44 σ13 =>
 G _ x44 true ((fieldAddr PP 25 x1 1).bind fun v => some (v, σ13)) σ13 fun x45 σ14 =>
 G _ x44 true ((load PP 22 x45 σ14).bind fun v => some (v, σ14)) σ14 fun x46 σ15 =>
 G _ x44 true (some (x3, σ15)) σ15 fun x47 σ16 =>
 G _ x44 true ((indexAddr PP 22 x46 x47).bind fun v => some (v, σ16)) σ16 fun x48 σ17 =>
 G _ x44 true ((load PP 3 x48 σ17).bind fun v => some (v, σ17)) σ17 fun x49 σ18 =>
 G _ x44 true ((fieldAddr PP 25 x1 1).bind fun v => some (v, σ18)) σ18 fun x50 σ19 =>
 G _ x44 true ((load PP 22 x50 σ19).bind fun v => some (v, σ19)) σ19 fun x51 σ20 =>
 G _ x44 true (some (x3, σ20)) σ20 fun x52 σ21 =>
 G _ x44 true ((binOp PP .sub 3 x52 (DV.p (PV.int IntKind.i64 (1)))).bind fun v => some (v, σ21)) σ21 fun x53 σ22 =>
 G _ x44 true ((indexAddr PP 22 x51 x53).bind fun v => some (v, σ22)) σ22 fun x54 σ23 =>
 G _ x44 true ((load PP 3 x54 σ23).bind fun v => some (v, σ23)) σ23 fun x55 σ24 =>
 G _ x44 true ((binOp PP .leq 3 x49 x55).bind fun v => some (v, σ24)) σ24 fun x56 σ25 =>
 G _ x40 false ((pickV x44 x56 (DV.p (PV.bool false))).bind fun v => some (v, σ25)) σ25 fun x57 σ26 =>
 (pickV x40 (DV.p (PV.bool true)) x57).bind fun x58 =>
 condK x58
 (
 some ((DV.p (PV.bool false)), σ26)
 )
 (
 (binOp PP .add 3 x3 (DV.p (PV.int IntKind.i64 (1)))).bind fun x30 =>
 f56_L0 G lo x1 x30 σ26
 )
 )
 (
 f56_L1 G lo x1 (DV.p (PV.int IntKind.i64 (0))) σ
 ) := (loopF_eq G hG).trans (by kernel_rfl)
theorem f56_L1_eq (G : GuardT) (hG : GuardOk G) (lo : Nat) (x1 x4 : DV) (σ : Store) : f56_L1 G lo x1 x4 σ =
 (fieldAddr PP 25 x1 2).bind fun x60 =>
 (load PP 23 x60 σ).bind fun x61 =>
 (len PP 23 x61 σ).bind fun x62 =>
 (binOp PP .lss 3 x4 x62).bind fun x63 =>
 condK x63
 (
 (fieldAddr PP 25 x1 2).bind fun x66 =>
 (load PP 23 x66 σ).bind fun x67 =>
 (indexAddr PP 23 x67 x4).bind fun x69 =>
 (load PP 69 x69 σ).bind fun x70 =>
 (zeroOf PP 69).bind fun z5 =>
 (store PP lo 69 (DV.ptr (List.length σ) 0) x70 (σ ++ [Row.mix z5])).bind fun σ27 =>
 (fieldAddr PP 69 (DV.ptr (List.length σ) 0) 0).bind fun x71 =>
 (load PP 3 x71 σ27).bind fun x72 =>
 (fieldAddr PP 25 x1 0).bind fun x73 =>
 (load PP 3 x73 σ27).bind fun x74 =>
 (binOp PP .sub 3 x74 (DV.p (PV.int IntKind.i64 (1)))).bind fun x75 =>
 (pureFn CC (DV.fn 61 []) [x72, (DV.p (PV.int IntKind.i64 (0))), x75] σ27).bind fun x76 =>
 (unOp .not x76).bind fun x77 =>
 G _ x77 false ((fieldAddr PP 69 (DV.ptr (List.length σ) 0) 1).bind fun v => some (v, σ27)) σ27 fun x79 σ28 =>
 G _ x77 false ((load PP 3 x79 σ28).bind fun v => some (v, σ28)) σ28 fun x80 σ29 =>
 G _ x77 false ((fieldAddr PP 25 x1 0).bind fun v => some (v, σ29)) σ29 fun x81 σ30 =>
 G _ x77 false ((load PP 3 x81 σ30).bind fun v => some (v, σ30)) σ30 fun x82 σ31 =>
 G _ x77 false ((binOp PP .sub 3 x82 (DV.p (PV.int IntKind.i64 (1)))).bind fun v => some (v, σ31)) σ31 fun x83 σ32 =>
 G _ x77 false ((pureFn CC (DV.fn 61 []) [x80, (DV.p (PV.int IntKind.i64 (0))), x83] σ32).bind fun v => some (v, σ32)) σ32 fun x84 σ33 =>
 G _ x77 false ((unOp .not x84).bind fun v => some (v, σ33)) σ33 fun x85 σ34 =>
 (pickV x77 (DV.p (PV.bool true)) x85).bind fun x86 =>
 G _ x86 false ((fieldAddr PP 69 (DV.ptr (List.length σ) 0) 2).bind fun v => some (v, σ34)) σ34 fun x88 σ35 =>
 G _ x86 false ((load PP 3 x88 σ35).bind fun v => some (v, σ35)) σ35 fun x89 σ36 =>
 G _ x86 false ((pureFn CC (DV.fn 61 []) [x89, (DV.p (PV.int IntKind.i64 (0))), (DV.p (PV.int IntKind.i64 (11)))] σ36).bind fun v => some (v, σ36)) σ36 fun x90 σ37 =>
 G _ x86 false ((unOp .not x90).bind fun v => some (v, σ37)) σ37 fun x91 σ38 =>
 (pickV x86 (DV.p (PV.bool true)) x91).bind fun x92 =>
 G _ x92 false (some (x4, σ38)) σ38 fun x94 σ39 =>
 G _ x92 false ((binOp PP .gtr 3 x94 (DV.p (PV.int IntKind.i64 (0)))).bind fun v => some (v, σ39)) σ39 fun x95 σ40 =>
 G _ x92 false (some (x95, σ40)) σ40 fun x96 σ41 =>
 G _ x96 true ((fieldAddr PP 25 x1 2).bind fun v => some (v, σ41)) σ41 fun x97 σ42 =>
 G _ x96 true ((load PP 23 x97 σ42).bind fun v => some (v, σ42)) σ42 fun x98 σ43 =>
 G _ x96 true (some (x4, σ43)) σ43 fun x99 σ44 =>
 G _ x96 true ((binOp PP .sub 3 x99 (DV.p (PV.int IntKind.i64 (1)))).bind fun v => some (v, σ44)) σ44 fun x100 σ45 =>
 G _ x96 true ((indexAddr PP 23 x98 x100).bind fun v => some (v, σ45)) σ45 fun x101 σ46 =>
 G _ x96 true ((load PP 69 x101 σ46).bind fun v => some (v, σ46)) σ46 fun x102 σ47 =>
 G _ x96 true ((pureFn CC (DV.fn 92 []) [x102] σ47).bind fun v => some (v, σ47)) σ47 fun x103 σ48 =>
 G _ x96 true ((load PP 69 (DV.ptr (List.length σ) 0) σ48).bind fun v => some (v, σ48)) σ48 fun x104 σ49 =>
 G _ x96 true ((pureFn CC (DV.fn 92 []) [x104] σ49).bind fun v => some (v, σ49)) σ49 fun x105 σ50 =>
 G _ x96 true ((pureFn CC (DV.fn 69 []) [x103, x105] σ50).bind fun v => some (v, σ50)) σ50 fun x106 σ51 =>
 G _ x96 true ((binOp PP .geq 3 x106 (DV.p (PV.int IntKind.i64 (0)))).bind fun v => some (v, σ51)) σ51 fun x107 σ52 =>
 G _ x92 false ((pickV x96 x107 (DV.p (PV.bool false))).bind fun v => some (v, σ52)) σ52 fun x108 σ53 =>
 (pickV x92 (DV.p (PV.bool true)) x108).bind fun x109 =>
 condK x109
 (
 some ((DV.p (PV.bool false)), σ53)
 )
 (
 (binOp PP .add 3 x4 (DV.p (PV.int IntKind.i64 (1)))).bind fun x65 =>
 f56_L1 G lo x1 x65 σ53
 )
 )
 (
 some ((DV.p (PV.bool true)), σ)
 ) := (loopF_eq G hG).trans (by kernel_rfl)
theorem F56_eq (G : GuardT) (lo : Nat) (x0 : DV) (σ : Store) : F56 G lo x0 σ =
 (boxV x0).bind fun z1 =>
 (fieldAddr PP 25 (DV.ptr (List.length σ) 0) 0).bind fun x6 =>
 (load PP 3 x6 (σ ++ [Row.mix z1])).bind fun x7 =>
 (pureFn CC (DV.fn 61 []) [x7, (DV.p (PV.int IntKind.i64 (0))), (DV.p (PV.int IntKind.i64 (400)))] (σ ++ [Row.mix z1])).bind fun x8 =>
 (unOp .not x8).bind fun x9 =>
 G _ x9 false ((fieldAddr PP 25 (DV.ptr (List.length σ) 0) 1).bind fun v => some (v, (σ ++ [Row.mix z1]))) (σ ++ [Row.mix z1]) fun x11 σ1 =>
 G _ x9 false ((load PP 22 x11 σ1).bind fun v => some (v, σ1)) σ1 fun x12 σ2 =>
 G _ x9 false ((len PP 22 x12 σ2).bind fun v => some (v, σ2)) σ2 fun x13 σ3 =>
 G _ x9 false ((fieldAddr PP 25 (DV.ptr (List.length σ) 0) 0).bind fun v => some (v, σ3)) σ3 fun x14 σ4 =>
 G _ x9 false ((load PP 3 x14 σ4).bind fun v => some (v, σ4)) σ4 fun x15 σ5 =>
 G _ x9 false ((binOp PP .gtr 3 x13 x15).bind fun v => some (v, σ5)) σ5 fun x16 σ6 =>
 (pickV x9 (DV.p (PV.bool true)) x16).bind fun x17 =>
 G _ x17 false ((fieldAddr PP 25 (DV.ptr (List.length σ) 0) 2).bind fun v => some (v, σ6)) σ6 fun x19 σ7 =>
 G _ x17 false ((load PP 23 x19 σ7).bind fun v => some (v, σ7)) σ7 fun x20 σ8 =>
 G _ x17 false ((len PP 23 x20 σ8).bind fun v => some (v, σ8)) σ8 fun x21 σ9 =>
 G _ x17 false ((binOp PP .gtr 3 x21 (DV.p (PV.int IntKind.i64 (2000)))).bind fun v => some (v, σ9)) σ9 fun x22 σ10 =>
 (pickV x17 (DV.p (PV.bool true)) x22).bind fun x23 =>
 condK x23
 (
 some ((DV.p (PV.bool false)), σ10)
 )
 (
 f56_L0 G lo (DV.ptr (List.length σ) 0) (DV.p (PV.int IntKind.i64 (0))) σ10
 ) := by kernel_rfl
theorem F56_call {lo : Nat} {x0 : DV} {σ : Store} {r : DV × Store} (h : F56 guardT lo x0 σ = some r) : CC lo 56 [x0] σ = some r :=
 callL_run Go.Proofs.Tryz.func56 (by decide +kernel) rfl (by decide +kernel) h
noncomputable def c13_0 : Code := bodyOf Go.Proofs.Tryz.f13
noncomputable def a13_0 : Ann := (pol 13).ann
noncomputable def F13 (G : GuardT) (lo : Nat) (x0 : DV) (σ : Store) : Option (DV × Store) :=
 codeF G PP (pol 13) CC lo c13_0 a13_0 [x0, ud, ud, ud, ud, ud, ud, ud, ud, ud, ud, ud, ud] σ (finR PP Go.Proofs.Tryz.f13.results.toList)
theorem F13_eq (G : GuardT) (lo : Nat) (x0 : DV) (σ : Store) : F13 G lo x0 σ =
 (boxV x0).bind fun z1 =>
 (zeroOf PP 25).bind fun z2 =>
 (fieldAddr PP 25 (DV.ptr (List.length σ) 0) 1).bind fun x3 =>
 (load PP 22 x3 ((σ ++ [Row.mix z1]) ++ [Row.mix z2])).bind fun x4 =>
 (pureFn CC (DV.fn 16 []) [x4] ((σ ++ [Row.mix z1]) ++ [Row.mix z2])).bind fun x5 =>
 (buildSlice PP none 23 0 [] ((σ ++ [Row.mix z1]) ++ [Row.mix z2])).bind fun r6_1 =>
 (fieldAddr PP 25 (DV.ptr (List.length σ) 0) 2).bind fun x7 =>
 (load PP 23 x7 r6_1.2).bind fun x8 =>
 (append PP lo false 23 23 r6_1.1 x8 r6_1.2).bind fun r9_2 =>
 (fieldAddr PP 25 (DV.ptr (List.length σ) 0) 1).bind fun x10 =>
 (store PP lo 22 x10 x5 r9_2.2).bind fun σ3 =>
 (fieldAddr PP 25 (DV.ptr (List.length σ) 0) 2).bind fun x11 =>
 (store PP lo 23 x11 r9_2.1 σ3).bind fun σ4 =>
 (load PP 25 (DV.ptr (List.length σ) 0) σ4).bind fun x12 =>
 (store PP lo 25 (DV.ptr (List.length (σ ++ [Row.mix z1])) 0) x12 σ4).bind fun σ5 =>
 (cellV PP 25 (DV.ptr (List.length (σ ++ [Row.mix z1])) 0) σ5).bind fun v0 =>
 some (v0, σ5) := by kernel_rfl
theorem F13_call {lo : Nat} {x0 : DV} {σ : Store} {r : DV × Store} (h : F13 guardT lo x0 σ = some r) : CC lo 13 [x0] σ = some r :=
 callL_run Go.Proofs.Tryz.func13 (by decide +kernel) rfl (by decide +kernel) h
end Go.D
end
